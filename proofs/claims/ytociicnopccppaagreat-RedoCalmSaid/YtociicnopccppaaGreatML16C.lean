/-
 The laws of restarts: place,commits.
-/
import Derived.Test.YtociicnopccppaaGreatML16B
import Derived.Test.YtociicnopccppaaGreatMMnR
import Derived.Deep.CutBlock
import Derived.Test.YtociicnopccppaaGreatRows
import Derived.Test.YtociicnopccppaaGreatChecked
set_option maxRecDepth 100000
set_option maxHeartbeats 8000000
set_option linter.all false
namespace Go.Proofs.YtociicnopccppaaGreat
open Go.RowKit Go.Maps ArgsQ
theorem Jhj {x:Int}(h0:0<=x) (h:x<4294967296):IntKind.u32.wrap x=x:=by
 have:IntKind.u32.wrap x=x%4294967296:=by simp[IntKind.wrap,IntKind.bits,IntKind.signed]
 rw[this];omega
theorem Jb1 {x:Int}(h0:0<=x) (h:x<256):IntKind.u8.wrap x=x:=by
 have:IntKind.u8.wrap x=x%256:=by simp[IntKind.wrap,IntKind.bits,IntKind.signed]
 rw[this];omega
theorem Ji6 {α:Type}{enc:α->List Value}{t e:TypeId}{k d:Nat}{r:TypeInfo}{z:Value}(ht:Tryz.prog.underlying t=some (.slice e)) (hi:Tryz.prog.info? e=some r) (E:r.zero=some z) (F:r.size=k) (G:r.bytes=d) (J:z.cells.size=k) (L:0<k)
 {w:World} {τ:qa1} {g g1:Tag} {n1:Nat} {p:Option Addr} {c:Nat} {l:List α} (B:NS e k enc n1 w τ g1 (.slice p l.length c) l) (M:∀x∈l,∀u∈enc x,u.oneCell'=true) (O:l.length<=1000000) (R:d<=1000)
 {ops:Array Oper} {rest:List Oper} {o:Oper} {a:Act} {Q:Exit->Act->World->Prop} (U:o.guard=none) (s y:Operand)
 (Y:o.op = .call {callee:=.builtin .append,args:=#[s,y],argTypes:=#[t,t]}) (hs:a.eval s = .slice none 0 0) (hy:a.eval y = .slice p l.length c)
 (h:∀D w' τ',NS e k enc w.heap.size w' τ' g D l->Step w τ w' τ' nil->wpList Tryz.prog ops Q rest (a.put o.dst D) w'):wpList Tryz.prog ops Q (o::rest) a w:=by
 obtain⟨hl,C⟩:=B.buf
 have hc:(p=none/\l.length=0/\c=0)\/∃b ys,p=some ⟨b,0,none⟩/\Own w τ b g1 e (l.flatMap enc++ys):=by
  rcases C with ⟨hv,h0⟩|⟨b,cap,ys,hv,Z,-⟩
  ·simp only[Value.slice.injEq] at hv
   exact .inl ⟨hv.1,h0,hv.2.2⟩
  ·simp only[Value.slice.injEq] at hv
   exact .inr ⟨b,ys,hv.1,Z⟩
 clear C
 refine Qe0 w τ g U s y t Y e r z k d ht hi E F G J L (.slice none 0 0) 0 [] hs (Buf.nil _ _ _ _ _) p l.length c (l.flatMap enc) hy hl (fun hp=>?_) (fun ad had j u n=>?_) (fun u n=>?_) (by unfold maxLen;omega) ?_ ?_
 ·rcases hc with ⟨_,h0⟩|⟨b,ys,e1,-⟩
  ·exact h0
  ·rw[hp] at e1;cases e1
 ·rcases hc with ⟨e1,h0⟩|⟨b,ys,e1,Z⟩
  ·rw[e1] at had;cases had
  ·rw[e1] at had
   cases had
   have:=Z.at j (v:=u) (by rw[Y5 (Z4 n).1];exact n)
   rw[Qyv,Nat.zero_add]
   exact this
 ·obtain⟨x,hx,n⟩:=List.mem_flatMap.1 n
  exact M x hx u n
 ·rw[Nat.zero_add]
  have:l.length*d<=1000000*1000:=Nat.mul_le_mul O R
  omega
 ·intro D w' τ' C he hm a0
  rw[Nat.zero_add,List.nil_append] at C
  exact h D w' τ' ⟨C,fun k hk=>(a0 k hk).elim (fun q=>by simp[Value.ownBlock] at q) (fun q=>q)⟩ ⟨hm.mono (fun k _ q=>by simp[Value.ownBlock] at q),he⟩
def OpV (kd nn pg:Nat) (sl:Int) (p:Option Addr) (m c k at_:Nat):Array Value:=(oR kd nn pg sl p m c k at_)
theorem Qia (w:World) (τ:qa1) (l:List Int) (hB:IsB l) (hl:l.length<=1000):Bytes (w.alloc (.cells ⟨u8s l⟩ 5)) (τ.put w.heap.size qa2) qa2 (.slice (some ⟨w.heap.size,0,none⟩) l.length l.length) l :=
 ⟨hB,some ⟨w.heap.size,0,none⟩,l.length,rfl,Z0 _,by unfold maxLen;omega,fun _=>⟨w.heap.size,0,rfl,qa1.qd9 _ _ _,fun i hi=>by
  have:=(Own.new w τ qa2 5 (u8s l)).cell (0+i)
  rw[Nat.zero_add] at this
  rw[Nat.zero_add,this,Qfw l i hi]⟩⟩
theorem Qyd (w:World) (τ:qa1) {k:Nat}(hk:k<256):Bytes (w.alloc (.cells #[.int .u8 k,.int .u8 1,.int .u8 2,.int .u8 3] 5)) (τ.put w.heap.size qa2) qa2 (.slice (some ⟨w.heap.size,0,none⟩) 4 4) [(k:Int),1,2,3] :=
 Qia w τ [(k:Int),1,2,3] (by intro x a;simp at a;rcases a with rfl|rfl|rfl|rfl <;> omega) sM
def qha (n k:Nat):Nat:=(3*n+k%3)%12
theorem Jlh {w:World}{τ:qa1}{bm bp N:Nat}(j:∀W,Step w τ W τ nil->Calls Tryz.prog 13 #[.pointer (some ⟨bm,0,none⟩)] W fun e w'=>e = .returned (.pointer (some ⟨bp,0,none⟩))/\W=w') (l:∀W,Step w τ W τ nil->Calls Tryz.prog 20 #[.pointer (some ⟨bp,0,none⟩)] W fun e w'=>e = .returned (.int .i64 N)/\W=w') (hN:1<=N/\N<=512) (n:Nat) (hn:n<=1000) {kd nn pg:Nat} {sl:Int} {p:Option Addr} {m c k at_:Nat} (hpg4:pg<4294967296) (hk:k<256) :
 Calls Tryz.prog 38 #[.pointer (some ⟨bm,0,none⟩),.int .u32 n,.agg (OpV kd nn pg sl p m c k at_)] w fun e w'=>e = .returned (.tuple #[.int .u32 ((pg%N:Nat):Int),.int .i64 (qha n k:Int)])/\Step w τ w' τ nil:=by
 unfold OpV
 have g:=(zS w τ).alloc' (.cells (oR kd nn pg sl p m c k at_) 80)
 have a:=Own.born w τ (τ w.heap.size) 80 (oR kd nn pg sl p m c k at_)
 obtain⟨b,x⟩:=gN w.heap.size
 obtain⟨o,r⟩:=gN (w.alloc (.cells (oR kd nn pg sl p m c k at_) 80))
 rw[r] at g a
 rw[x] at a
 have c2:∀q,(o.drewN q).cell? ⟨b,2,none⟩=some (.int .u32 pg):=fun q=>(a.step ((zS o _).qcp q) id).at 2 rfl
 have c5:∀q,(o.drewN q).cell? ⟨b,5,none⟩=some (.int .u8 k):=fun q=>(a.step ((zS o _).qcp q) id).at 5 rfl
 have d:=fun q=>g.trans ((zS o τ).qcp q)
 have h1:=fun q=>(j _ (d q)).mono (fun _ _ h=>(⟨h.1,h.2.symm⟩:_/\_))
 have h2:=fun q=>(l _ (d q)).mono (fun _ _ h=>(⟨h.1,h.2.symm⟩:_/\_))
 have r0:IntKind.u32.wrap (N:Int)=N:=Jhj oM oM
 have r1:IntKind.u32.wrap (3*(n:Int))=3*(n:Int):=Jhj oM oM
 have r2:IntKind.u32.wrap (k:Int)=k:=Jhj oM oM
 have r3:IntKind.u32.wrap ((k:Int)%3)=(k:Int)%3:=Jhj oM oM
 have r4:IntKind.u32.wrap (3*(n:Int)+k%3)=3*(n:Int)+k%3:=Jhj oM oM
 have r5:IntKind.u32.wrap ((3*(n:Int)+k%3)%12)=(3*(n:Int)+k%3)%12:=Jhj oM oM
 obtain⟨H1,y,s⟩:=qan h1 h2 d
 clear h1 h2 d j l a g
 go_enter Tryz.func38,Tryz.ntmps38
 go_wp2_with fail
 go_quiet (first|(go_at_call 13;exact Calls.quiet_of_same (H1 _))|(go_at_call 20;exact Calls.quiet_of_same (y _)))
 go_wp2_with fail
 go_returns
 refine⟨?_,s nq⟩
 unfold qha
 rw[Int.natCast_emod,Int.natCast_emod,X1,Int.natCast_mul,Int.natCast_emod]
 rfl
end Go.Proofs.YtociicnopccppaaGreat
namespace Go.Proofs.YtociicnopccppaaGreat
open Go.RowKit Go.Maps ArgsQ
def qdq (g:Tag):Prop:=g.1=350\/g=qf7 0
def qf5:Tag:=(350,0)
def tAl:Tag:=(320,0)
def tMi:Tag:=(350,2)
def tWho:Tag:=(350,3)
theorem Jjy {g:Tag}(h:qdq g):¬qbe g/\¬Qai g/\g≠qa2:=by
 rcases h with h|rfl
 ·refine⟨fun q=>?_,fun q=>?_,fun q=>?_⟩
  ·have:=Ji7 q;omega
  ·unfold Qai at q;omega
  ·subst q;simp[qa2] at h
 ·exact⟨(Qfy 0).1,(Qfy 0).2.1,(Qfy 0).2.2.1⟩
theorem Jjt {g:Tag}(h:qdq g):¬qbj g:=by
 have hn:=Jjy h
 rcases h with h|rfl
 ·rintro((q|q|q)|q)
  ·exact hn.1 q
  ·exact hn.2.1 q
  ·have:=congrArg Prod.fst q
   rw[h] at this
   exact absurd this dC
  ·unfold qa4 at q;omega
 ·exact(Qfy 0).2.2.2
theorem TW.far {w w':World}{τ τ':qa1}{bm bl bp bf bd N:Nat}{bo:Nat->Nat}{X:List qa9}{next:Nat}{H:qaq}{L:qac}{D:Dev}{F:List Fr}{s:Ck.Clk.St}{cur:Nat->List Int}(h:TW w τ bm bl bp bf bd N bo X next H L D F s cur) (m:Step w τ w' τ' qdq):TW w' τ' bm bl bp bf bd N bo X next H L D F s cur :=
 ⟨h.pool.step m (fun g a=>⟨fun k=>(Jjy a).1 (.inl k),fun k=>(Jjy a).1 (.inr (.inl k)),fun k=>(Jjy a).1 (.inr (.inr k)),(Jjy a).2.2⟩),h.mgr.step m (fun g a c=>(Jjy c).2.1 a),h.good,h.clock,h.hn,h.hbl⟩
theorem qdj.far {w w':World}{τ τ':qa1}{I:Ids}{i:Nat}{X:List qa9}{next:Nat}(h:qdj I i w τ X next) (m:Step w τ w' τ' qdq):qdj I i w' τ' X next:=by
 obtain⟨bo,R,V,st,P,h1,h2⟩:=h.is
 obtain⟨H,L,D,F,s,cur,a,c⟩:=h1.tz.is
 exact⟨⟨bo,R,V,st,P,h1.qif ⟨⟨H,L,D,F,s,cur,a.far m,c⟩⟩,h2⟩,h.lo,h.hi⟩
theorem qdj.pages {w:World}{τ:qa1}{I:Ids}{i:Nat}{X:List qa9}{next:Nat}(h:qdj I i w τ X next):Calls Tryz.prog 20 #[.pointer (some ⟨I.bp,0,none⟩)] w fun e w'=>e = .returned (.int .i64 I.N)/\w=w':=by
 obtain⟨bo,R,V,st,P,h1,h2⟩:=h.is
 obtain⟨H,L,D,F,s,cur,h1,-⟩:=h1.tz.is
 have:=Qk2 h1.pool.pool
 rw[h1.hn] at this
 exact this
theorem qdj.N {w:World}{τ:qa1}{I:Ids}{i:Nat}{X:List qa9}{next:Nat}(h:qdj I i w τ X next):1<=I.N/\I.N<=6:=by
 obtain⟨bo,R,V,st,P,h1,h2⟩:=h.is
 exact h1.N
theorem qdj.place {w:World}{τ:qa1}{I:Ids}{i:Nat}{X:List qa9}{next:Nat}(h:qdj I i w τ X next) (n:Nat) (hn:n<=1000) {kd nn pg:Nat}{sl:Int}{p:Option Addr}{m c k at_:Nat}(a:pg<4294967296) (d:k<256) :
 Calls Tryz.prog 38 #[.pointer (some ⟨I.bm,0,none⟩),.int .u32 n,.agg (OpV kd nn pg sl p m c k at_)] w fun e w'=>e = .returned (.tuple #[.int .u32 ((pg%I.N:Nat):Int),.int .i64 (qha n k:Int)])/\Step w τ w' τ Go.Proofs.YtociicnopccppaaGreat.nil :=
 Jlh (fun W q=>by obtain⟨bo,g⟩:=(h.nil q).mgr;exact Qhg g) (fun W q=>(h.nil q).pages) ⟨h.N.1,by have:=h.N.2;omega⟩ n hn a d
theorem Jjq {α:Type}(f:Nat->α) (n i:Nat) (v:α):((List.range n).map f).set i v=(List.range n).map (fun j=>if j=i then v else f j):=by
 refine List.ext_getElem? fun j=>?_
 rw[List.getElem?_set]
 by_cases c:i=j
 ·subst c
  by_cases hl:i<n
  ·simp[hl]
  ·simp[hl]
 ·have a:¬j=i:=fun e=>c e.symm
  by_cases hl:j<n
  ·simp[hl,c,a]
  ·simp[hl,c]
theorem Ji5 {α:Type}(f:Nat->α) {n i:Nat}(h:i<n):((List.range n).map f)[i]?=some (f i):=by simp[h]
def opEnc (x:OpT):List Value:=(OpV x.kd x.nn x.pg x.sl x.p x.m x.c x.k x.at_).toList
structure OpOk (x:OpT):Prop where
 kd:x.kd<256
 pg:x.pg<4294967296
 k:x.k<256
def qeb (i:Nat) (w:World) (τ:qa1) (v:Value):Prop:=∃l,NS 80 7 opEnc 0 w τ tMi v l/\(∀x∈l,OpOk x)/\l.length<=i
def qhl (N:Nat) (w:World) (τ:qa1) (v:Value):Prop:=∃l,NS 58 1 (fun u=>[u]) 0 w τ tAl v l/\l.length=12*N/\∀u∈l,u.oneCell'=true
structure qdu (N i:Nat) (w:World) (τ:qa1) (b:Nat) (run:Nat->Bool):Prop where
 is:∃cv:Nat->Value,Own w τ b qf5 63 ((List.range 9).map cv)/\qhl N w τ (cv 0)/\∀c,c<4->qeb i w τ (cv (1+c))/\cv (5+c) = .bool (run c)
theorem qeb.step {i:Nat}{w w':World}{τ τ':qa1}{S:Tag->Prop}{v:Value}(h:qeb i w τ v) (m:Step w τ w' τ' S) (a:¬S tMi):qeb i w' τ' v:=by
 obtain⟨l,h1,h2⟩:=h
 exact⟨l,h1.step m a,h2⟩
theorem qeb.none (i:Nat) (w:World) (τ:qa1):qeb i w τ (.slice none 0 0):=⟨[],NS.nil _ _ _ _ _ _ _,fun x a=>(by cases a),Z9 _⟩
theorem qhl.step {N:Nat}{w w':World}{τ τ':qa1}{S:Tag->Prop}{v:Value}(h:qhl N w τ v) (m:Step w τ w' τ' S) (a:¬S tAl):qhl N w' τ' v:=by
 obtain⟨l,h1,h2⟩:=h
 exact⟨l,h1.step m a,h2⟩
section
variable {N i : Nat} {w w' : World} {τ τ' : qa1} {b : Nat} {run : Nat -> Bool}
theorem qdu.step {S:Tag->Prop}(h:qdu N i w τ b run) (m:Step w τ w' τ' S) (a:∀g,qdq g->¬S g):qdu N i w' τ' b run:=by
 obtain⟨j,h1,h2,d⟩:=h.is
 exact⟨j,h1.step m (a _ (.inl rfl)),h2.step m (a _ (.inr rfl)),fun c e=>⟨(d c e).1.step m (a _ (.inl rfl)),(d c e).2⟩⟩
theorem qdu.more (h:qdu N i w τ b run):qdu N (i+1) w τ b run:=by
 obtain⟨e,h1,h2,a⟩:=h.is
 refine⟨e,h1,h2,fun c d=>⟨?_,(a c d).2⟩⟩
 obtain⟨l,g,j,q3⟩:=(a c d).1
 exact⟨l,g,j,oM⟩
structure PlnM (N i:Nat) (w:World) (τ:qa1) (b:Nat) (run:Nat->Bool):Prop where
 is:∃cv:Nat->Value,Own w τ b qf5 63 ((List.range 9).map cv)/\∀c,c<4->qeb i w τ (cv (1+c))/\cv (5+c) = .bool (run c)
theorem qdu.m (h:qdu N i w τ b run):PlnM N i w τ b run:=by
 obtain⟨a,h1,h2,c⟩:=h.is
 exact⟨a,h1,c⟩
theorem PlnM.step {S:Tag->Prop}(h:PlnM N i w τ b run) (m:Step w τ w' τ' S) (h0:¬S qf5) (h1:¬S tMi):PlnM N i w' τ' b run:=by
 obtain⟨e,g,a⟩:=h.is
 exact⟨e,g.step m h0,fun c d=>⟨(a c d).1.step m h1,(a c d).2⟩⟩
theorem PlnM.setAll (h:PlnM N i w τ b run) {v:Value}(hv:qhl N w τ v):qdu N i (w.setCell ⟨b,0,none⟩ v) τ b run/\Step w τ (w.setCell ⟨b,0,none⟩ v) τ qdq:=by
 obtain⟨l,h1,d⟩:=h.is
 have a:=(Step.refl w τ (fun g=>g=qf5)).set (b:=b) (o:=0) h1.tag rfl v
 refine⟨⟨fun j=>if j=0 then v else l j,by rw[<-Jjq];exact h1.set 0 v,?_,fun c k=>?_⟩,a.mono (fun g e=>by subst e;exact .inl rfl)⟩
 ·dsimp only
  rw[if_pos rfl]
  exact hv.step a (by simp[tAl,qf5])
 ·dsimp only
  rw[if_neg oM,if_neg oM]
  exact⟨(d c k).1.step a (by simp[tMi,qf5]),(d c k).2⟩
theorem qdu.qis (h:qdu N i w τ b run) {v:Value}{c:Nat}(hc:c<4) (hv:qeb i w τ v):qdu N i (w.setCell ⟨b,1+c,none⟩ v) τ b run/\Step w τ (w.setCell ⟨b,1+c,none⟩ v) τ qdq:=by
 obtain⟨l,h1,h2,k⟩:=h.is
 have a:=(Step.refl w τ (fun g=>g=qf5)).set (b:=b) (o:=1+c) h1.tag rfl v
 refine⟨⟨fun j=>if j=1+c then v else l j,by rw[<-Jjq];exact h1.set _ v,?_,fun d hd=>?_⟩,a.mono (fun g e=>by subst e;exact .inl rfl)⟩
 ·dsimp only
  rw[if_neg oM]
  exact h2.step a (by simp[tAl,qf5])
 ·dsimp only
  rw[if_neg (show ¬5+d=1+c by omega)]
  refine⟨?_,(k d hd).2⟩
  by_cases e:d=c
  ·subst e
   rw[if_pos rfl]
   exact hv.step a (by simp[tMi,qf5])
  ·rw[if_neg oM]
   exact(k d hd).1.step a (by simp[tMi,qf5])
theorem qdu.qir (h:qdu N i w τ b run) {c:Nat}(hc:c<4) (r:Bool):qdu N i (w.setCell ⟨b,5+c,none⟩ (.bool r)) τ b (fun j=>if j=c then r else run j)/\Step w τ (w.setCell ⟨b,5+c,none⟩ (.bool r)) τ qdq:=by
 obtain⟨l,h1,h2,k⟩:=h.is
 have a:=(Step.refl w τ (fun g=>g=qf5)).set (b:=b) (o:=5+c) h1.tag rfl (.bool r)
 refine⟨⟨fun j=>if j=5+c then .bool r else l j,by rw[<-Jjq];exact h1.set _ _,?_,fun d hd=>?_⟩,a.mono (fun g e=>by subst e;exact .inl rfl)⟩
 ·dsimp only
  rw[if_neg oM]
  exact h2.step a (by simp[tAl,qf5])
 ·dsimp only
  rw[if_neg (show ¬1+d=5+c by omega)]
  refine⟨(k d hd).1.step a (by simp[tMi,qf5]),?_⟩
  by_cases e:d=c
  ·subst e
   rw[if_pos rfl,if_pos rfl]
  ·rw[if_neg oM,if_neg e]
   exact(k d hd).2
end
end Go.Proofs.YtociicnopccppaaGreat
namespace Go.Proofs.YtociicnopccppaaGreat
open Go.RowKit Go.Maps ArgsQ
theorem NS.row {α:Type}{e:TypeId}{k:Nat}{enc:α->List Value}{n0:Nat}{w:World}{τ:qa1}{g:Tag}{v:Value}{l:List α}(h:NS e k enc n0 w τ g v l) (h0:0<l.length):∃b ys c,v = .slice (some ⟨b,0,none⟩) l.length c/\Own w τ b g e (l.flatMap enc++ys)/\c*k<=(l.flatMap enc).length+ys.length/\l.length<=c/\c<=maxLen:=by
 rcases h.buf.2 with ⟨-,e0⟩|⟨b,c,ys,e1,h1,h2⟩
 ·omega
 ·exact⟨b,ys,c,e1,h1,h2⟩
theorem Ji9 {α:Type}(l:List α):l.flatMap (fun u=>[u])=l:=by
 induction l with
 | nil=>rfl
 | cons x l ih=>rw[List.flatMap_cons,ih];rfl
theorem Jl7 {N n0:Nat}{w:World}{τ:qa1}{b n c a:Nat}{la:List Value}(j:NS 58 1 (fun u=>[u]) n0 w τ tAl (.slice (some ⟨b,0,none⟩) n c) la) (k:la.length=12*N) (h1:∀u∈la,u.oneCell'=true) (hi:a<la.length) (v:Value) (hv:v.oneCell'=true) :
 qhl N (w.setCell ⟨b,a,none⟩ v) τ (.slice (some ⟨b,0,none⟩) n c)/\Step w τ (w.setCell ⟨b,a,none⟩ v) τ (fun g=>g=tAl):=by
 obtain⟨b',ys,c',d,e,h2⟩:=j.row oM
 simp only[Value.slice.injEq,Option.some.injEq,Addr.mk.injEq,and_true] at d
 obtain⟨rfl,rfl,rfl⟩:=d
 refine⟨⟨la.set a v,⟨⟨by rw[Ji9];omega,.inr ⟨b,c,ys,by rw[Y1],?_,by rw[Ji9,Y1];rw[Ji9] at h2;exact h2.1,by rw[Y1];exact h2.2.1,h2.2.2⟩⟩,fun _ _=>Z9 _⟩,by rw[Y1];exact k,fun u l=>?_⟩,(Step.refl w τ (fun g=>g=tAl)).set e.tag rfl v⟩
 ·have:=e.set a v
  rw[Ji9] at this ⊢
  rwa [List.set_append_left _ _ hi] at this
 ·rcases List.mem_or_eq_of_mem_set l with h|h
  ·exact h1 u h
  ·rw[h];exact hv
def ComD (N i:Nat) (w:World) (τ:qa1) (b:Nat) (run:Nat->Bool) (n:Nat) (e:Ending) (w':World):Prop :=
 ∃τ',e = .returned (.tuple #[])/\qdu N i w' τ' b (fun j=>if j=n%4 then false else run j)/\Step w τ w' τ' qdq
theorem Jkm {w:World}{τ:qa1}{I:Ids}{i0 i b:Nat}{X:List qa9}{next:Nat}{run:Nat->Bool}(h:qdj I i0 w τ X next) (hp:qdu I.N i w τ b run) (hi:i<=60) (n:Nat) (hn:n<=1000) :
 Calls Tryz.prog 35 #[.pointer (some ⟨b,0,none⟩),.pointer (some ⟨I.bm,0,none⟩),.int .u32 n] w (ComD I.N i w τ b run n):=by
 obtain⟨c,hc⟩:=gN (n%4)
 have a2:c<4:=oM
 have ai:(n:Int)%4=(c:Int):=oM
 have hcw:IntKind.u32.wrap (c:Int)=c:=Jhj oM oM
 have aw:=hp
 obtain⟨cv,h1,h2,h3⟩:=hp.is
 obtain⟨l,C,ax,cc⟩:=(h3 c a2).1
 obtain⟨ll,az⟩:=gN l.length
 have b4:=h1.at (1+c) (Ji5 cv (show 1+c<9 by omega))
 obtain⟨pm,cm,hv⟩:=C.val
 rw[hv] at C b4
 rw[az] at C b4 cc
 obtain⟨i0,b5,b6,b7,b8⟩:=info_parts Tryz.infoU8s
 obtain⟨cd,ce,cf,Hv,cg,Hc,ch,ci,cj,ck⟩:=qhe h C ax hv aw hc b5 b6 b7 b8
 clear h C ax hv aw h1 h2 h3 hc b5 b6 b7 b8 hp
 go_enter Tryz.func35,Tryz.ntmps35
 go_wp2_with fail
 have cn:=Z2 ai
 clear ai
 go_loopw [7] (fun v wr=>∃(j:Nat) (a:qa1),j<=ll/\v = .int .i64 j/\qdu I.N i wr a b run/\Step w τ wr a (fun g=>g=qf5\/g=tAl)) (fun v _=>ll-(intOf v).toNat)
 case atStart=>exact⟨0,τ,Z9 _,rfl,cg,Step.refl _ _ _⟩
 case round =>
  obtain⟨j,a,hj,rfl,q,r⟩:=hrel
  by_cases hlt:j<ll
  ·have hltI:(j:Int)<ll:=oM
   have b9:=ce.step r (by simp[tMi,qf5,tAl])
   have ba:j<l.length:=oM
   obtain⟨p',c',e1,-,-,bb⟩:=b9.at (k:=7) (fun _ _=>rfl) oM
   obtain⟨bl,bc,-,d⟩:=bb j l[j] (Z3 ba)
   simp only[Value.slice.injEq] at e1
   rw[<-e1.1] at bc
   subst bc
   have cp:=cf l[j] (List.getElem_mem ba)
   generalize l[j]=o at *
   clear az
   obtain⟨kd,nn,pg,sl,p,m,c,k,at_⟩:=o
   obtain⟨k1,k2,k3⟩:=cp
   dsimp only at k1 k2 k3
   have f0:=d 0 oM _ rfl
   have f1:=d 1 oM _ rfl
   have f2:=d 2 oM _ rfl
   have f3:=d 3 oM _ rfl
   have f4:=d 4 oM _ rfl
   have f5:=d 5 oM _ rfl
   have f6:=d 6 oM _ rfl
   dsimp only at f0 f1 f2 f3 f4 f5 f6
   rw[Nat.add_zero] at f0
   clear d bb e1
   have aj:=cd.far (r.mono (T:=qdq) (fun g h=>h.elim (fun e=>by subst e;exact .inl rfl) (fun e=>by subst e;exact .inr rfl)))
   have a3:=aj.place n hn (kd:=kd) (nn:=nn) (sl:=sl) (p:=p) (m:=m) (c:=c) (at_:=at_) k2 k3
   have hN:=aj.N
   unfold OpV at a3
   obtain⟨ak,D⟩:=gN (pg%I.N)
   have hpg1:ak<I.N:=by rw[<-D];exact Nat.mod_lt _ oM
   obtain⟨al,E⟩:=gN (qha n k)
   have hsl2:al<12:=by rw[<-E];exact Nat.mod_lt _ oM
   rw[D,E] at a3
   obtain⟨cr,bd,am⟩:=qan a3 q r
   clear a3 q r aj b9 D E
   go_wp2_with fail
   refine cr.mono ?_
   rintro e W1 ⟨rfl,F⟩
   have g0:W1.cell? ⟨bl,j*7,none⟩=some (.int .u8 kd):=Qcq F f0 id
   have g5:W1.cell? ⟨bl,j*7+5,none⟩=some (.int .u8 k):=Qcq F f5 id
   have an:=bd.step F zN
   have a8:=am.trans (F.mono (T:=fun g=>g=qf5\/g=tAl) (fun _ h=>h.elim))
   obtain⟨G,q1,⟨la,q2,q3,q4⟩,q5⟩:=an.is
   have a0:=q1.at 0 (Ji5 G (show 0<9 by omega))
   obtain⟨pa,ca,be⟩:=q2.val
   rw[be] at q2 a0
   obtain⟨nl,a4⟩:=gN la.length
   rw[a4] at a0
   have hrem:IntKind.u8.wrap ((kd:Int)%5)=(kd:Int)%5:=Jb1 oM oM
   have bg:la.length<=1000000:=by rw[q3];omega
   obtain⟨ix,cs⟩:=gN (12*ak+al)
   have hixI:(12:Int)*ak+(al:Int)=ix:=oM
   have J:ix<nl:=by have:=a4;omega
   have hixN:(ix:Int)<nl:=oM
   obtain⟨ct,bh,L,aa,M,ab,s,cw⟩:=qen an a8 q1 q2 q3 q4 a4 bg
   clear F an a8 q1 q2 q3 q4 q5 be a4 bg f0 f1 f2 f3 f4 f5 f6 cs
   refine Or.elim (Decidable.em (0<kd%5)) ?c1 ?c2
   case' c1 =>
    intro cx
    have bi:(0:Int)<kd%5:=oM
    go_upto_region 9 with fail
    have O:=(zS W1 a).alloc' (.cells #[.int .u8 k,.int .u8 1,.int .u8 2,.int .u8 3,.int .u8 1] 5)
    obtain⟨bv,R⟩:=gN (Value.slice (some ⟨W1.heap.size,0,none⟩) 5 5)
    have U:bv.oneCell'=true:=by rw[<-R];rfl
    obtain⟨W0,x⟩:=gN (W1.alloc (.cells #[.int .u8 k,.int .u8 1,.int .u8 2,.int .u8 3,.int .u8 1] 5))
    rw[x] at O
    rw[x]
    clear x
   case' c2 =>
    intro cx
    have bi:¬(0:Int)<kd%5:=oM
    go_upto_region 9 with fail
    obtain⟨W0,x,O⟩:∃W0,W1=W0/\Step W1 a W0 a nil:=⟨_,rfl,Step.refl W1 a nil⟩
    rw[x]
    clear x
    obtain⟨bv,R⟩:=gN (Value.slice none 0 0)
    have U:bv.oneCell'=true:=by rw[<-R];rfl
   all_goals (
    have a0':W0.cell? ⟨b,0,none⟩=some (.slice pa nl ca):=Qcq O a0 id
    obtain⟨y,bk,ac⟩:=qan O R U
    clear O R U
    go_upto_region 10 with (at_builtin;go_loud (refine Ji6 (g:=tAl) Tryz.underlying31 ch ci cj ck rfl dC (aa.step y id) (fun u hu v hv=>by rw[Y8 hv];exact ab u hu) cw dC rfl _ _ rfl rfl (by rw[s.out];rfl) ?_;intro v2 W2 z aq bn;obtain⟨b2,ys2,c2,e2,bo,ar⟩:=aq.row (by have:=s.out;have:=M.out;omega);rw[s.out] at e2 ar;subst e2;obtain⟨cy,Y,bp,Hc2⟩:=qb9 aq bn bo ar;clear aq bn bo ar))
    have ad:=((ct.m.step y id id).step Y id id)
    have bq:z b=qf5/\Own W2 z b qf5 63 ((List.range 9).map G):=⟨((L.step y id).step Y id).tag,(L.step y id).step Y id⟩
    have ae:=bh.trans ((y.trans Y).mono (T:=fun g=>g=qf5\/g=tAl) (fun _ h=>h.elim))
    have z0:W2.cell? ⟨b,0,none⟩=some (.slice pa nl ca):=Qcq (y.trans Y) a0 id
    obtain⟨xz,br⟩:∃u,la[ix]?=some u:=⟨_,Z3 (by rw[s.out];exact J)⟩
    have z1:W2.cell? ⟨b2,ix,none⟩=some xz:=bp.at ix (by rw[Ji9,Y5 (by rw[s.out];exact J)];exact br)
    have z2:=bp.fz ix
    obtain⟨bs,bw,a5⟩:=qan ad ae bq
    clear br ad ae bq
    go_upto_region 11 with fail
    obtain⟨W3,a6⟩:=gN (W2.setCell ⟨b2,ix,none⟩ bv)
    obtain⟨Z,B⟩:=Jl7 (N:=I.N) cy M ab (by rw[s.out];exact J) bv ac
    rw[a6] at Z B
    rw[<-bk.out] at a6
    rw[a6]
    have af:=bs.step B (by simp[tAl,qf5]) (by simp[tAl,tMi])
    have y0:W3.cell? ⟨b,0,none⟩=some (.slice pa nl ca):=Qcq B z0 (by rw[a5.1];simp[tAl,qf5])
    have y1:W3.frozen? ⟨b,0,none⟩=false:=(a5.2.step B (by simp[tAl,qf5])).fz 0
    have ag:=bw.trans (B.mono (T:=fun g=>g=qf5\/g=tAl) (fun _ e=>.inr e))
    obtain⟨bz,cz⟩:=af.setAll Z
    clear a6 bk ac z1
    obtain⟨ah,c3⟩:=qaj ag bz
    clear Z B af ag bz cz bv xz
    go_wp2_with fail)
   ·go_roundw
    case rel=>exact⟨j+1,z,oM,congrArg (Value.int .i64) (Int.natCast_succ j).symm,c3,ah.set (show z b=qf5 from a5.1) (.inl rfl) _⟩
    case measure=>simp[intOf];omega
   ·go_roundw
    case rel=>exact⟨j+1,z,oM,congrArg (Value.int .i64) (Int.natCast_succ j).symm,c3,ah.set (show z b=qf5 from a5.1) (.inl rfl) _⟩
    case measure=>simp[intOf];omega
  ·obtain rfl:j=ll:=oM
   have hlt0:¬(j:Int)<j:=oM
   obtain⟨G,q1,q2,q3⟩:=q.is
   have b0:=q1.at (1+c) (Ji5 G (show 1+c<9 by omega))
   have ai:=cn.out
   have b1:=q1.fz (1+c)
   have b3:=(q1.set (1+c) (.slice none 0 0)).fz (5+c)
   have b2:=q1.at (5+c) (Ji5 G (show 5+c<9 by omega))
   rw[(q3 c a2).2] at b2
   obtain⟨c4,c5⟩:=q.qis a2 (qeb.none i wr a)
   obtain⟨c6,c7⟩:=c4.qir a2 false
   obtain⟨bd,am,d0,d1,d2,L,aa,M⟩:=qen q r c5 c6 c7 q1 q2 q3
   clear q r c4 c5 c6 c7 q1 q2 q3
   go_wp2_with fail
   go_end0
   exact⟨a,rfl,by rw[Hc.out];exact d1,(am.mono (T:=qdq) (fun g h=>h.elim (fun e=>by subst e;exact .inl rfl) (fun e=>by subst e;exact .inr rfl))).trans (d0.trans d2)⟩
end Go.Proofs.YtociicnopccppaaGreat
namespace Go.Proofs.YtociicnopccppaaGreat
open Go.RowKit Go.Maps ArgsQ
theorem Jkh {w:World}{τ:qa1}{bm bl bp:Nat}{bo:Nat->Nat}{X:List qa9}{next:Nat}(h:qbr w τ bm bl bp bo X next):Calls Tryz.prog 32 #[.pointer (some ⟨bm,0,none⟩)] w fun e w'=>e = .returned (.int .u32 next)/\w=w':=by
 obtain⟨ba,a,-⟩:=h.is
 have c3:=a.at 3 rfl
 clear a h
 go_enter Tryz.func32,Tryz.ntmps32
 go_wp2
 go_ret
 exact⟨rfl,rfl⟩
def Jma (w:World) (e:Ending) (w':World):Prop:=(∃b,e = .returned (.bool b))/\w=w'
section
variable {w w' : World} {τ τ' : qa1} {I : Ids} {i b : Nat} {X X' : List qa9} {next next' : Nat} {rn : Nat -> Bool}
theorem qdj.halted (h:qdj I i w τ X next):Calls Tryz.prog 40 #[.pointer (some ⟨I.bd,0,none⟩)] w (Jma w):=by
 obtain⟨bo,R,V,st,P,h1,h2⟩:=h.is
 obtain⟨H,L,D,F,s,cur,h1,-⟩:=h1.tz.is
 refine zC (Qtn h1.pool.dev) ?_
 exact⟨⟨_,rfl⟩,rfl⟩
theorem qdj.nextOf (h:qdj I i w τ X next):Calls Tryz.prog 32 #[.pointer (some ⟨I.bm,0,none⟩)] w fun e w'=>e = .returned (.int .u32 next)/\w=w':=by
 obtain⟨bo,a⟩:=h.mgr
 exact Jkh a
theorem qdj.pool (h:qdj I i w τ X next):Calls Tryz.prog 13 #[.pointer (some ⟨I.bm,0,none⟩)] w fun e w'=>e = .returned (.pointer (some ⟨I.bp,0,none⟩))/\w=w':=by
 obtain⟨bo,a⟩:=h.mgr
 exact Qhg a
theorem Jlj {α:Type}{f:α->Nat}{l:List α}(h:(l.map f).Nodup) {x y:α}(d:x∈l) (a:y∈l) (e:f x=f y):x=y:=by
 induction l with
 | nil=>cases d
 | cons z l ih =>
   rw[X0,List.nodup_cons] at h
   rcases List.mem_cons.1 d with rfl|c
   ·rcases List.mem_cons.1 a with rfl|a
    ·rfl
    ·exact absurd (List.mem_map.2 ⟨y,a,e.symm⟩) h.1
   ·rcases List.mem_cons.1 a with rfl|a
    ·exact absurd (List.mem_map.2 ⟨x,c,e⟩:f y∈l.map f) h.1
    ·exact ih h.2 c a
theorem qdj.cls (h:qdj I i w τ X next) {k j:Nat}(a:k∈qa9.ids X) (c:j∈qa9.ids X) (e:k%4=j%4):k=j:=by
 obtain⟨bo,R,V,st,P,h1,h2⟩:=h.is
 obtain⟨x,d,rfl⟩:=List.mem_map.1 a
 obtain⟨y,g,rfl⟩:=List.mem_map.1 c
 rw[Jlj (f:=fun x:qa9=>x.txn%4) h1.cls d g e]
theorem qdj.four (h:qdj I i w τ X next):X.length<=4:=by
 obtain⟨bo,R,V,st,P,h1,h2⟩:=h.is
 exact h1.four
theorem qdj.low (h:qdj I i w τ X next) {k:Nat}(a:k∈qa9.ids X):k<next:=by
 obtain⟨bo,c⟩:=h.mgr
 obtain⟨x,d,rfl⟩:=List.mem_map.1 a
 exact c.low x d
structure qg8 (I:Ids) (i b:Nat) (w:World) (τ:qa1) (X:List qa9) (next:Nat) (rn:Nat->Bool):Prop where
 run:qdj I i w τ X next
 pln:qdu I.N i w τ b rn
 on:∀k∈qa9.ids X,rn (k%4)=true
theorem qg8.nil (h:qg8 I i b w τ X next rn) (m:Step w τ w' τ' Go.Proofs.YtociicnopccppaaGreat.nil):qg8 I i b w' τ' X next rn:=⟨h.run.nil m,h.pln.step m zN,h.on⟩
theorem qg8.more (h:qg8 I i b w τ X next rn):qg8 I (i+1) b w τ X next rn:=⟨h.run.more,h.pln.more,h.on⟩
theorem qg8.same (h:qg8 I i b w τ X next rn) (a:qdj I (i+1) w' τ' X' next') (e:qa9.ids X'=qa9.ids X) (m:Step w τ w' τ' qbj):qg8 I (i+1) b w' τ' X' next' rn :=
 ⟨a,h.pln.more.step m (fun _ h=>Jjt h),fun k c=>h.on k (by rw[<-e];exact c)⟩
theorem qg8.begun (h:qg8 I i b w τ X next rn) (g:qdj I (i+1) w' τ' X' (next+1)) (e:qa9.ids X'=qa9.ids X++[next]) (m:Step w τ w' τ' qbj) :
 qg8 I (i+1) b (w'.setCell ⟨b,5+next%4,none⟩ (.bool true)) τ' X' (next+1) (fun j=>if j=next%4 then true else rn j)/\Step w' τ' (w'.setCell ⟨b,5+next%4,none⟩ (.bool true)) τ' qdq:=by
 obtain⟨h1,h2⟩:=(h.pln.more.step m (fun _ h=>Jjt h)).qir (c:=next%4) oM true
 refine⟨⟨g.far h2,h1,fun k a=>?_⟩,h2⟩
 rw[e] at a
 split
 ·rfl
 ·next d =>
  rcases List.mem_append.1 a with a|a
  ·exact h.on k a
  ·exact absurd (by rw[Y8 a]) d
theorem qg8.qjg (h:qg8 I i b w τ X next rn) {c:Nat}(a:c<4) {v:Value}(hv:qeb i w τ v):qg8 I i b (w.setCell ⟨b,1+c,none⟩ v) τ X next rn/\Step w τ (w.setCell ⟨b,1+c,none⟩ v) τ qdq:=by
 obtain⟨h1,h2⟩:=h.pln.qis a hv
 exact⟨⟨h.run.far h2,h1,h.on⟩,h2⟩
theorem qg8.drop (h:qg8 I i b w τ X next rn) {k:Nat}(g:k∈qa9.ids X):∀j∈qa9.ids (qcx X k),(if j%4=k%4 then false else rn (j%4))=true:=fun j d=>by
 rw[Qpu] at d
 obtain⟨a,c⟩:=List.mem_filter.1 d
 rw[if_neg]
 ·exact h.on j a
 ·intro e
  have:=h.run.cls a g e
  simp[this] at c
theorem qg8.gone (h:qg8 I i b w τ X next rn) {k:Nat}(a:k∈qa9.ids X) (d:qdj I (i+1) w' τ' (qcx X k) next) (m:Step w τ w' τ' qbj) :
 qg8 I (i+1) b (w'.setCell ⟨b,5+k%4,none⟩ (.bool false)) τ' (qcx X k) next (fun j=>if j=k%4 then false else rn j)/\Step w' τ' (w'.setCell ⟨b,5+k%4,none⟩ (.bool false)) τ' qdq:=by
 obtain⟨h1,h2⟩:=(h.pln.more.step m (fun _ h=>Jjt h)).qir (c:=k%4) oM false
 exact⟨⟨d.far h2,h1,h.drop a⟩,h2⟩
theorem qdu.cells {N:Nat}(h:qdu N i w τ b rn) {c:Nat}(a:c<4):w.cell? ⟨b,5+c,none⟩=some (.bool (rn c))/\w.frozen? ⟨b,5+c,none⟩=false/\(∃v,w.cell? ⟨b,1+c,none⟩=some v/\qeb i w τ v)/\w.frozen? ⟨b,1+c,none⟩=false:=by
 obtain⟨d,h1,h2,e⟩:=h.is
 refine⟨?_,h1.fz _,⟨_,h1.at (1+c) (Ji5 d oM),(e c a).1⟩,h1.fz _⟩
 rw[h1.at (5+c) (Ji5 d oM),(e c a).2]
theorem Tryz.infoOp:(Tryz.prog.info? 80).map (fun i=>(i.zero,i.size,i.bytes))=some (some (.agg #[.int .u8 0,.int .u32 0,.int .u32 0,.int .i64 0,.slice none 0 0,.int .u8 0,.int .u64 0]),7,64):=kR
end
end Go.Proofs.YtociicnopccppaaGreat
namespace Go.Proofs.YtociicnopccppaaGreat
open Go.RowKit Go.Maps ArgsQ
theorem Jj1 {g:Tag}(h:qdq g):qb5 g:=by
 rcases h with h|h
 ·show g.1≠90;omega
 ·subst h;show (320:Nat)≠90;omega
theorem Jkt {x:OpT}{u:Value}(h:u∈opEnc x):u.oneCell'=true:=by
 have h:u∈[Value.int .u8 x.kd,.int .u32 x.nn,.int .u32 x.pg,.int .i64 x.sl,.slice x.p x.m x.c,.int .u8 x.k,.int .u64 x.at_]:=h
 simp only[List.mem_cons,List.not_mem_nil,or_false] at h
 rcases h with rfl|rfl|rfl|rfl|rfl|rfl|rfl <;> rfl
theorem ty_tn:¬qbj tTn:=by
 rintro((h|h|h)|h)
 ·exact qiu h
 ·simp[Qai,tTn] at h
 ·simp[tTn] at h
 ·rcases h with h|h|h <;> simp[tTn] at h
def RunE (I:Ids) (i b:Nat) (w:World) (τ:qa1):Prop:=∃X next rn,qg8 I i b w τ X next rn
def RunD (w:World) (τ:qa1) (I:Ids) (e:Ending) (w':World):Prop :=
 ∃v τ' i X next,e = .returned v/\i<=60/\qdj I i w' τ' X next/\Step w τ w' τ' qb5
theorem Jmd {n0 N:Nat}{w:World}{τ:qa1}{v:Value}{V:qbd}(h:NV n0 w τ (qf7 0) v (Qbw V N)):qhl N w τ v:=by
 obtain⟨d,a,g⟩:=h.row
 have hl:=a.1
 rw[Nat.mul_one] at hl
 refine⟨d,⟨by rw[Ji9,hl];exact a,fun _ _=>Z9 _⟩,by rw[hl,Qc3],fun u j=>?_⟩
 obtain⟨k,l,rfl⟩:=List.mem_iff_getElem.1 j
 obtain⟨u',h1,h2⟩:=g k _ (Z3 oM)
 rw[Z3 l,Option.some.injEq] at h1
 obtain⟨p,c,e,-⟩:=h2.any
 rw[h1,e]
 rfl
def plnC (v:Value):Array Value:=#[v,.slice none 0 0,.slice none 0 0,.slice none 0 0,.slice none 0 0,.bool false,.bool false,.bool false,.bool false]
theorem Jl6 {N:Nat}{w:World}{τ:qa1}{v:Value}(h:qhl N w τ v):qdu N 0 (w.alloc (.cells (plnC v) 63)) (τ.put w.heap.size qf5) w.heap.size (fun _=>false)/\Step w τ (w.alloc (.cells (plnC v) 63)) (τ.put w.heap.size qf5) nil:=by
 have a:=(zS w τ).alloc (.cells (plnC v) 63) qf5
 refine⟨⟨fun j=>if j=0 then v else if j<5 then .slice none 0 0 else .bool false,Own.born w τ qf5 63 (plnC v),h.step a id,fun c hc=>?_⟩,a⟩
 dsimp only
 rw[if_neg oM,if_pos oM,if_neg oM,if_neg oM]
 exact⟨qeb.none _ _ _,rfl⟩
theorem Jl4 {w:World}{τ:qa1}{I:Ids}(hz:TZ w τ I (fun _=>0) [] 1 [] (fun _ _=>[]) 0) (hN:1<=I.N/\I.N<=6) (hS:30<=I.S/\I.S<=200) {B:Nat}(hB:qfo B) (h4:4<=B) {la:Option Addr}{n1 c1:Nat}(hn1:n1<=50) (bn:∀W T,Step w τ W T qb5->OpsT W la n1) :
 Calls Tryz.prog 10 #[.pointer (some ⟨I.bm,0,none⟩),.pointer (some ⟨I.bd,0,none⟩),.slice la n1 c1] w (RunD w τ I):=by
 have e4:=Jja (Jmb (I:=I) (bo:=fun _=>0) (X:=[]) (next:=1) (R:=[]) (V:=fun _ _=>[]) (st:=0) oM) ⟨Z9 _,hz⟩ oM (fun _ _ _=>Z9 _) 0
 obtain⟨ge,e9⟩:=qaj e4 bn
 clear e4 bn hz
 go_enter Tryz.func10,Tryz.ntmps10
 go_wp2_with fail
 refine ge.mono ?_
 rintro e w1 ⟨v,τ1,rfl,cs,⟨-,a4⟩,eb⟩
 obtain⟨pa,ca,rfl⟩:=cs.val
 have a2:Step w τ w1 τ1 qb5:=eb.mono (fun _ h=>Qdw h)
 have bp:qdj I 0 w1 τ1 [] 1 :=
  ⟨⟨_,[],_,_,fun _=>[],⟨a4,fun x hx=>absurd hx sM,fun x hx=>absurd hx sM,sM,fun k hk=>absurd hk id,fun r hr=>absurd hr sM,by show 0+0<=_;omega,oM,hS⟩,oM⟩,oM,oM⟩
 have a9:=Jmd cs
 obtain⟨gg,bq⟩:=gN ((Qbw (fun _ _=>[]) I.N).length)
 rw[bq] at a9 ⊢
 obtain⟨ag,ah⟩:=Jl6 a9
 unfold plnC at ag ah
 go_upto_region 2 with fail
 obtain⟨b,hb⟩:=gN w1.heap.size
 generalize τ1.put w1.heap.size qf5=ed at *
 obtain⟨w2,ct⟩:=gN (w1.alloc (.cells #[.slice pa gg ca,.slice none 0 0,.slice none 0 0,.slice none 0 0,.slice none 0 0,.bool false,.bool false,.bool false,.bool false] 63))
 rw[hb] at ag
 rw[ct] at ag ah
 rw[ct,hb]
 have hJ:qg8 I 0 b w2 ed [] 1 (fun _=>false):=⟨bp.nil ah,ag,fun k hk=>by cases hk⟩
 have bs:=a2.trans ah.nz
 clear hb ct ag ah a2 bp a4 cs bq a9 eb
 obtain⟨HJ,bv⟩:=qaj hJ bs
 clear hJ bs
 go_wp2_with fail
 go_loopw [9] (fun v wr=>∃(i:Nat) (d:qa1),i<=n1/\v = .int .i64 i/\RunE I i b wr d/\Step w τ wr d qb5) (fun v _=>n1-(intOf v).toNat)
 case atStart=>exact⟨0,ed,Z9 _,rfl,⟨_,_,_,HJ⟩,bv⟩
 case round =>
  clear HJ bv
  obtain⟨i,d,hi,rfl,⟨X,next,rn,hj⟩,ai⟩:=hrel
  by_cases gh:i<n1
  ·obtain⟨bl,ol,op,ee,gi⟩:=e9 _ _ ai i gh
   obtain⟨q0,q1,q2,p0,p1,p2,p3,p4,p5,p6,q3⟩:=gi
   have hltI:(i:Int)<n1:=oM
   obtain⟨kd,nn,pg,sl,p,m,c,k,at_⟩:=op
   dsimp only at q0 q1 q2 q3 p0 p1 p2 p3 p4 p5 p6
   obtain⟨Hj,be⟩:=qaj hj ai
   clear hj ai
   rw[ee]
   clear ee
   go_upto_region 6 with fail
   have bf:=(zS wr d).alloc (.cells (oR kd nn pg sl p m c k at_) 80) tTn
   have bg:=Own.born wr d tTn 80 (oR kd nn pg sl p m c k at_)
   generalize d.put wr.heap.size tTn=τs at *
   have aj:=Hj.nil bf
   have a2:=be.trans bf.nz
   obtain⟨bc,cx⟩:=gN wr.heap.size
   obtain⟨W2,cy⟩:=gN (wr.alloc (.cells (oR kd nn pg sl p m c k at_) 80))
   rw[cy] at bf bg aj a2
   rw[cx] at bg
   rw[cy,cx]
   obtain⟨bo,ef⟩:=aj.run.mgr
   have eg:=aj.run.four
   have eh:=Jg6 ef hB (Y3 eg h4)
   obtain⟨ei,ej,c3,ek⟩:=qb9 bg aj a2 eh
   clear bg aj a2 eh p0 p1 p2 p3 p4 p5 p6 bf Hj be cy cx ef wr d
   go_wp2_with fail
   refine ek.mono ?_
   rintro e W3 ⟨va,ts,L,rfl,d7,ak,a⟩
   have al:=ej.nil a
   have c5:=c3.trans a.nz
   have O:=ei.step a id
   have gj:ts.length=X.length:=by rw[d7.length_eq];unfold qa9.ids;rw[Y0]
   have d8:∀k∈ts,k∈qa9.ids X:=fun k hk=>d7.mem_iff.1 hk
   have am:∀j k,ts[j]?=some k->∃q:qdb,(ts.map (fun k=>(oneOf X k).act))[j]?=some q/\q.txn=k:=fun j k em=>by
    refine⟨(oneOf X k).act,by rw[List.getElem?_map,em];rfl,?_⟩
    exact(Jhi (d8 k (List.mem_of_getElem? em))).2
   obtain⟨rows,aa⟩:=gN (ts.map (fun k=>(oneOf X k).act))
   obtain⟨nA,d9⟩:=gN ts.length
   have ad:rows.length=nA:=by rw[<-aa,Y0,d9]
   rw[aa] at ak am
   obtain⟨pA,cA,rfl⟩:=ak.val
   rw[ad]
   rw[ad] at ak
   have hnA4:nA<=4:=oM
   obtain⟨i0,an,ao,a4,ap⟩:=info_parts Tryz.infoU32
   obtain⟨en,c9,cb,eo,cc,gk,aq,ar,av,aw,ax⟩:=qg6 al c5 O ak am d8 an ao a4 ap d9
   clear al c5 O ak am d8 an ao a4 ap d9 a d7 aa ad gj ej c3 ei ek eg
   go_wp2_with fail
   go_loopw [11,13] (fun o v wr=>∃(r:Nat) (d:qa1),r<=nA/\v = .int .i64 r/\NS 39 1 Jg2 W3.heap.size wr d tWho o (ts.take r)/\Step W3 L wr d nil) (fun _ v _=>nA-(intOf v).toNat)
   case atStart=>exact⟨0,L,Z9 _,rfl,NS.nil _ _ _ _ _ _ _,Step.refl _ _ _⟩
   case round =>
    obtain⟨r,d,hr,rfl,hw,hs⟩:=hrel
    obtain⟨po,co,rfl⟩:=hw.val
    have bh:(ts.take r).length=r:=by rw[List.length_take,ax.out];omega
    rw[bh] at hw ⊢
    by_cases ep:r<nA
    ·obtain⟨kk,ae⟩:∃kk,ts[r]?=some kk:=⟨_,Z3 (by rw[ax.out];exact ep)⟩
     obtain⟨q,hq,er⟩:=cc r kk ae
     obtain⟨p',c',hv,et,ev⟩:=(eo.step hs id).txn
     have ad:rows.length=nA:=by
      simp only[Value.slice.injEq] at hv
      exact hv.2.1.symm
     rw[ad] at hv et
     cases hv
     obtain⟨bA,rfl,e0,-,-,-⟩:=ev r q hq
     rw[er] at e0
     have hrtI:(r:Int)<nA:=oM
     have ay:ts.take (r+1)=ts.take r++[kk]:=by rw[List.take_add_one,ae];rfl
     have ey:(ts.take r).length<=1000000:=by rw[bh];omega
     obtain⟨Hw,Hs,gm,gn⟩:=qb9 hw hs ay ey
     clear hw hs ay ey bh ae ev hq er ad et
     go_wp2_with (at_builtin;refine Jb4 Tryz.underlying50 aq ar av aw rfl dC Hs Hw kk rfl (by simp[Jg2,Value.oneCell']) gn dC (kb:=wr.heap.size) rfl rfl _ _ rfl rfl rfl rfl ?_;intro v' w' τ' hb he ez;obtain⟨Hb,He,Hmo⟩:=qan hb he ez;clear hb he ez)
     go_round
     case rel=>exact⟨r+1,τ',oM,sM,by rw[gm.out];exact Hb,He⟩
     case measure=>simp[intOf];omega
    ·obtain rfl:r=nA:=oM
     have ay:ts.take r=ts:=by rw[ax.symm];exact List.take_length
     rw[ay] at hw
     have db:=en.nil hs
     have cf:=c9.trans hs.nz
     have E:=cb.step hs id
     clear en c9 cb eo cc aq ar av aw ay ep hr bh hs
     obtain⟨W4,gp⟩:=gN wr
     obtain⟨τ4,f0⟩:=gN d
     subst gp f0
     obtain⟨pw,cw,dc,-,-,az⟩:=hw.at (fun x _=>rfl) dC
     rw[ax.out] at dc
     simp only[Value.slice.injEq] at dc
     obtain⟨rfl,-,rfl⟩:=dc
     obtain⟨cv,h1,⟨lz,h2,h3,-⟩,-⟩:=db.pln.is
     have a0:=h1.at 0 (Ji5 cv (show 0<9 by omega))
     obtain⟨pz,cz,b0⟩:=h2.val
     rw[b0] at a0
     obtain⟨nz,b1⟩:=gN lz.length
     rw[b1] at a0
     have d0:=E.at 0 rfl
     have d1:=E.at 1 rfl
     have d2:=E.at 2 rfl
     have d3:=E.at 3 rfl
     have d4:=E.at 4 rfl
     have d5:=E.at 5 rfl
     have d6:=E.at 6 rfl
     obtain⟨K,hK⟩:∃K:Nat,(kd:Int)%16=(K:Int):=⟨kd%16,oM⟩
     have r1:IntKind.u8.wrap (kd%16:Int)=(K:Int):=by rw[Jb1 oM oM,hK]
     obtain⟨z,f2,f3,Hw,gt⟩:=qbq db cf E hw az
     clear db cf E hw az b1 h1 h2 h3 b0
     have df:RunE I (i+1) b wr d:=⟨_,_,_,z.more⟩
     have b2:i<=60:=oM
     go_upto_block 4 with fail
     go_cut [] from 60 to 191 (fun wx=>∃Y,RunE I (i+1) b wx Y/\Step wr d wx Y qb5)
     case first =>
      have b3:0<r->∃(y kk bw:Nat),(nn:Int)%r=(y:Int)/\y<r/\kk∈qa9.ids X/\po=some ⟨bw,0,none⟩/\wr.cell? ⟨bw,y,none⟩=some (.int .u32 kk)/\kk<=61:=fun h0=>by
       have hy:nn%r<r:=Nat.mod_lt _ h0
       have ae:ts[nn%r]?=some (ts[nn%r]'(by rw[ax.out];exact hy)):=Z3 _
       obtain⟨bw,e1,-,e2⟩:=gt _ _ ae
       have e3:=e2 0 oM _ rfl
       rw[Nat.mul_one,Nat.add_zero] at e3
       have Z:=gk _ (List.mem_of_getElem? ae)
       have h5:=z.run.low Z
       have h6:=z.run.hi
       exact⟨nn%r,_,bw,oM,hy,Z,e1,e3,oM⟩
      by_cases k6:K=6
      ·subst k6
       obtain⟨c,a5⟩:=gN (next%4)
       have a1:c<4:=oM
       have f6:(next:Int)%4=(c:Int):=oM
       have az:IntKind.u32.wrap (c:Int)=c:=Jhj oM oM
       have bi:=fun q=>(zS wr d).qcp q
       have f7:=fun q=>((z.nil (bi q)).run.nextOf).mono (fun _ _ h=>(⟨h.1,h.2.symm⟩:_/\_))
       obtain⟨fr,di⟩:=gN (rn c)
       have f5:∀q,(wr.drewN q).cell? ⟨b,5+c,none⟩=some (.bool fr):=fun q=>by
        rw[<-di]
        exact((z.nil (bi q)).pln.cells a1).1
       obtain⟨f9,b4,gv,b5⟩:=qb9 f7 a5 di bi
       clear f7 a5 di bi
       cases fr with
       | true =>
         go_upto_region 25 with (go_quiet (first|(go_at_call 32;exact Calls.quiet_of_same (f9 _))))
         go_wp2_with fail
         go_meet
         case rel=>exact⟨d,⟨_,_,_,(z.nil (b5 _)).more⟩,(b5 _).nz⟩
       | false =>
         go_upto_region 25 with (go_quiet (first|(go_at_call 32;exact Calls.quiet_of_same (f9 _))))
         have M:=z.nil (b5 nq)
         have fa:=Jlv M.run b2 (fun j hj e=>by
          have h1:=z.on j hj
          rw[e,b4.out,gv.out] at h1
          cases h1)
         have hnx0:=M.run.lo
         obtain⟨gw,af⟩:=qaj fa M
         clear fa M
         go_wp2_with fail
         refine gw.mono ?_
         rintro e w3 ⟨L,a,⟨v,fb,rfl,C⟩|⟨rfl,X3,gx,C⟩⟩
         ·have fc:((v:Int)==0)=false:=by simp;omega
          have l:=af.same C rfl a
          have D:=((b5 nq).nz (T:=qb5)).trans (a.mono (T:=qb5) (fun _ h=>Qdw h))
          obtain⟨F,U⟩:=qaj l D
          clear l D C a
          go_wp2_with fail
          go_meet
          case rel=>exact⟨L,⟨_,_,_,F⟩,U⟩
         ·obtain⟨f5,gy,-,-⟩:=(af.pln.step a (fun _ h=>Jjt h)).cells a1
          obtain⟨l,s⟩:=af.begun C gx a
          rw[b4.out] at l s
          obtain⟨-,-,⟨vm,f1,-⟩,fe⟩:=l.pln.cells a1
          obtain⟨ab,b6⟩:=l.qjg a1 (qeb.none _ _ _)
          have D:=((b5 nq).nz (T:=qb5)).trans ((a.mono (T:=qb5) (fun _ h=>Qdw h)).trans ((s.trans b6).mono (T:=qb5) (fun _ h=>Jj1 h)))
          obtain⟨b7,U⟩:=qaj ab D
          clear ab D C a s l b6
          go_wp2_with fail
          go_meet
          case rel=>exact⟨L,⟨_,_,_,b7⟩,U⟩
      have e6:((K:Int)==6)=false:=by simp;omega
      by_cases k7:K=7
      ·subst k7
       by_cases h0:0<r
       ·obtain⟨y,kk,bw,hy,ff,Z,rfl,ew,ch⟩:=b3 h0
        have ci:(y:Int)<r:=oM
        have hc:=Jld z.run b2 Z
        have Hc:=Z2 hc
        clear hc
        go_wp2_with fail
        refine Hc.mono ?_
        rintro e w3 ⟨rfl,L,C,a⟩
        have fg:=Jkm C (z.pln.more.step a (fun _ h=>Jjt h)) oM kk oM
        obtain⟨gz,dj,bj⟩:=qan fg C a
        clear fg C a
        go_wp2_with fail
        refine gz.mono ?_
        rintro e w5 ⟨Y,rfl,fh,s⟩
        have l:qg8 I (i+1) b w5 Y _ _ _:=⟨dj.far s,fh,z.drop Z⟩
        have D:=(bj.mono (T:=qb5) (fun _ h=>Qdw h)).trans (s.mono (T:=qb5) (fun _ h=>Jj1 h))
        obtain⟨F,U⟩:=qaj l D
        clear l D fh s
        go_wp2_with fail
        go_meet
        case rel=>exact⟨Y,⟨_,_,_,F⟩,U⟩
       ·go_wp2_with fail
        go_meet
        case rel=>exact⟨d,df,Step.refl _ _ _⟩
      have e7:((K:Int)==7)=false:=by simp;omega
      by_cases k8:K=8
      ·subst k8
       by_cases h0:0<r
       ·obtain⟨y,kk,bw,hy,ff,Z,rfl,ew,ch⟩:=b3 h0
        have ci:(y:Int)<r:=oM
        have hc:=Jks z.run oM Z
        obtain⟨c,a5⟩:=gN (kk%4)
        have a1:c<4:=oM
        have f6:(kk:Int)%4=(c:Int):=oM
        have az:IntKind.u32.wrap (c:Int)=c:=Jhj oM oM
        obtain⟨Hc,b4⟩:=qaj hc a5
        clear hc a5
        go_wp2_with fail
        refine Hc.mono ?_
        rintro e w3 ⟨rfl,L,C,a⟩
        obtain⟨l,s⟩:=z.gone Z C a
        obtain⟨f5,gy,-,-⟩:=(z.pln.step a (fun _ h=>Jjt h)).cells a1
        rw[b4.out] at l s
        have D:=(a.mono (T:=qb5) (fun _ h=>Qdw h)).trans (s.mono (T:=qb5) (fun _ h=>Jj1 h))
        obtain⟨F,U⟩:=qaj l D
        clear l D C a s
        go_wp2_with fail
        go_meet
        case rel=>exact⟨L,⟨_,_,_,F⟩,U⟩
       ·go_wp2_with fail
        go_meet
        case rel=>exact⟨d,df,Step.refl _ _ _⟩
      have e8:((K:Int)==8)=false:=by simp;omega
      by_cases h8:K=13
      ·subst h8
       have hc:=Jlu z.run hB h4 b2
       have Hc:=Z2 hc
       clear hc
       go_wp2_with fail
       refine Hc.mono ?_
       rintro e w3 ⟨⟨va,rfl⟩,L,C,a⟩
       obtain⟨dj,bj⟩:=qaj C a
       clear C a
       go_wp2_with fail
       go_meet
       case rel=>exact⟨L,⟨_,_,_,z.same dj rfl bj⟩,bj.mono (fun _ h=>Qdw h)⟩
      have e13:((K:Int)==13)=false:=by simp;omega
      by_cases h9:K=14
      ·subst h9
       have dk:Step wr d wr.drew d nil:=(zS wr d).drew
       have M:=z.nil dk
       have fi:=M.run.pool
       have hc:=Jlt M.run b2 (n:=pg) q1
       have ha:wr.drew.cell? ⟨bc,2,none⟩=some (.int .u32 pg):=d2
       obtain⟨hd,Hc,hf,af⟩:=qb9 fi hc dk M
       clear fi hc dk M
       go_upto_region 42 with fail
       refine Qaf (S:=fun W:World=>W.cell? ⟨bc,2,none⟩=some (.int .u32 pg)) kR ?_
       clear d0 d1 d2 d3 d4 d5 d6 a0
       refine tk0 [0,2,3] ?_
       iterate 3
        refine tkv (v:=?_) ?_ ?_
        rotate_left
        ·intro w hg;(try dsimp only at hg);go_simp
         all_goals with_reducible rfl
        try simp only[Act.put,lz1,lz2,lz3]
       refine tk9 ?_
       try simp only[lz4,lz5,lz6,lz1,lz2,lz3]
       refine Qst (i:=1) dK rfl (fun K hK=>?_)
       go_simp
       go_at_call 13
       refine hd.mono ?_
       rintro e w3 ⟨rfl,rfl⟩
       refine hK.out _ _ (fun _=>ha) ?_
       clear hK K
       try simp only[lz4,lz5,lz6,lz1,lz2,lz3]
       refine Qst (i:=4) dK rfl (fun K hK=>?_)
       go_simp
       go_at_call 37
       refine Hc.mono ?_
       rintro e w3 ⟨⟨va,rfl⟩,L,C,a⟩
       refine hK.out _ _ (fun h=>absurd h dK) ?_
       clear hK K
       refine Qad kR ?_ _
       have fj:=(hf.nz (T:=qb5)).trans (a.mono (fun _ h=>Qdw h))
       have l:=af.same C rfl a
       obtain⟨F,hl⟩:=qaj l fj
       clear l fj a
       go_wp2_with fail
       go_meet
       case rel=>exact⟨L,⟨_,_,_,F⟩,hl⟩
      have e14:((K:Int)==14)=false:=by simp;omega
      by_cases h0:0<r
      ·obtain⟨y,kk,bw,hy,ff,Z,rfl,ew,ch⟩:=b3 h0
       have ci:(y:Int)<r:=oM
       have hc:=z.run.place kk oM (kd:=kd) (nn:=nn) (sl:=sl) (p:=p) (m:=m) (c:=c) (at_:=at_) q1 q2
       unfold OpV at hc
       obtain⟨fk,b8⟩:=gN (pg%I.N)
       have fm:fk<I.N:=by rw[<-b8];exact Nat.mod_lt _ oM
       obtain⟨fn,b9⟩:=gN (qha kk k)
       have fo:fn<12:=by rw[<-b9];exact Nat.mod_lt _ oM
       rw[b8,b9] at hc
       have Hc:=Z2 hc
       clear hc b8 b9
       go_wp2_with fail
       refine Hc.mono ?_
       rintro e w3 ⟨rfl,a⟩
       have O:=f3.step a id
       have al:=z.nil a
       have ac:=(zS w3 d).alloc (.cells #[.int .u8 k,.int .u8 1,.int .u8 2,.int .u8 3] 5) qa2
       have cj:=O.step ac id
       have l:=al.nil ac
       have dl:=Jle l.run b2 Z (n:=fk) (sl:=fn) fm fo (decide ((0:Int)<kd%5)) (m:=[(k:Int),1,2,3]) (cd:=4) (Qyd w3 d q2) (Z0 4) (by show 0<4;omega)
       simp only[Y4,List.length_nil,Nat.reduceAdd] at dl
       have e0:=O.at 0 rfl
       have e5:=O.at 5 rfl
       have hrem:IntKind.u8.wrap ((kd:Int)%5)=(kd:Int)%5:=Jb1 oM oM
       have a6:=a.trans ac
       clear d0 d1 d2 d3 d4 d5 d6 a0 O al ac a
       obtain⟨F,ck,fp,a7⟩:=qb9 l cj dl a6
       clear l cj dl a6
       go_wp2_with fail
       refine fp.mono ?_
       rintro e w5 ⟨⟨v,rfl⟩,Y,X5,hm,fq,s⟩
       have ab:=F.same fq hm s
       have D:=(a7.nz (T:=qb5)).trans (s.mono (T:=qb5) (fun _ h=>Qdw h))
       have G:=ck.step s ty_tn
       have fs:=F.pln.step s (fun _ h=>Jjt h)
       clear fq s e0 e5 F ck fp a7 Hc
       by_cases fb:v=0
       ·subst fb
        rw[show ((0:Nat):Int)=0 from rfl]
        obtain⟨c4,a5⟩:=gN (kk%4)
        have a1:c4<4:=oM
        have f6:(kk:Int)%4=(c4:Int):=oM
        have az:IntKind.u32.wrap (c4:Int)=c4:=Jhj oM oM
        obtain⟨-,-,⟨vm,f1,lm,dm,ft,fv⟩,fe⟩:=fs.cells a1
        obtain⟨pm,cm,rfl⟩:=dm.val
        obtain⟨nm,dn⟩:=gN lm.length
        have cn:lm.length<=1000000:=oM
        rw[dn] at f1
        obtain⟨i0,an,ao,a4,ap⟩:=info_parts Tryz.infoOp
        have d0:=G.at 0 rfl
        have d1:=G.at 1 rfl
        have d2:=G.at 2 rfl
        have d3:=G.at 3 rfl
        have d4:=G.at 4 rfl
        have d5:=G.at 5 rfl
        have d6:=G.at 6 rfl
        clear fs
        obtain⟨b7,U,fw,hn,ho,dp,cp,aq,ar,av,aw,b4⟩:=qds ab D G dm ft dn cn an ao a4 ap a5
        have hp:=Z2 fv
        clear ab D G dm ft dn cn an ao a4 ap a5 fv
        go_upto_region 21 with (at_builtin;refine Ji6 (g:=tMi) Tryz.underlying22 aq ar av aw rfl dC hn (fun x hx u hu=>Jkt hu) cp dC rfl _ _ rfl rfl (by rw[dp.out];rfl) ?_;intro v7 w7 τ7 dq b6;obtain⟨p7,c7,e7⟩:=dq.val;rw[dp.out] at e7;subst e7;obtain⟨fx,fy⟩:=qaj dq b6;clear dq b6)
        have J:=fw.step fy id
        have d0:=J.at 0 rfl
        have d1:=J.at 1 rfl
        have d2:=J.at 2 rfl
        have d3:=J.at 3 rfl
        have d4:=J.at 4 rfl
        have d5:=J.at 5 rfl
        have d6:=J.at 6 rfl
        clear J
        go_upto_region 22 with (at_builtin;refine Jb4 Tryz.underlying22 aq ar av aw rfl dC fy (by rw[<-dp.out] at *;exact fx) ⟨kd,nn,pg,sl,p,m,c,k,at_⟩ rfl (fun u hu=>Jkt hu) cp dC (kb:=w7.heap.size) rfl rfl _ _ rfl rfl rfl rfl ?_;intro v8 w8 i1 bk g0 g1;obtain⟨p8,c8,e8⟩:=bk.val;subst e8;generalize ba:List.length (lm++[(⟨kd,nn,pg,sl,p,m,c,k,at_⟩:OpT)])=ln8 at bk ⊢;obtain⟨g2,g3,Hm8⟩:=qan bk g0 g1;clear bk g0 g1)
        have dr:=b7.nil g3
        obtain⟨-,-,⟨vm8,f8,-⟩,f8z⟩:=dr.pln.cells a1
        have g4:=g2.weak
        have g5:ln8<=i+1:=by
         rw[<-ba,Z6,List.length_singleton]
         have:=hp.out
         omega
        have cq:∀x∈lm++[(⟨kd,nn,pg,sl,p,m,c,k,at_⟩:OpT)],OpOk x:=fun x hx=>by
         rcases List.mem_append.1 hx with h|h
         ·exact ho x h
         ·rw[Y8 h]
          exact⟨q0,q1,q2⟩
        obtain⟨g6,g7⟩:=dr.qjg a1 ⟨_,g4,cq,by rw[ba];exact g5⟩
        have cr:=U.trans ((g3.nz (T:=qb5)).trans (g7.mono (T:=qb5) (fun _ h=>Jj1 h)))
        obtain⟨i2,g8⟩:=qaj g6 cr
        clear g6 cr ba f1 fe d0 d1 d2 d3 d4 d5 d6 dr g4 g7 g5 cq g2 fx
        go_wp2_with fail
        go_meet
        case rel=>exact⟨i1,⟨_,_,_,i2⟩,g8⟩
       ·have fc:((v:Int)==0)=false:=by simp;omega
        obtain⟨b7,U⟩:=qaj ab D
        clear ab D
        go_wp2_with fail
        go_meet
        case rel=>exact⟨Y,⟨_,_,_,b7⟩,U⟩
      ·go_wp2_with fail
       go_meet
       case rel=>exact⟨d,df,Step.refl _ _ _⟩
     case rest =>
      obtain⟨Y,⟨X5,next5,rn5,l⟩,s⟩:=hcut
      have a6:=f2.trans s
      have hh:=l.run.halted
      obtain⟨F,a7,Hh⟩:=qan l a6 hh
      clear l a6 hh s d0 d1 d2 d3 d4 d5 d6
      go_wp2_with fail
      refine Hh.mono ?_
      rintro e w6 ⟨⟨hb,rfl⟩,rfl⟩
      cases hb with
      | true =>
        go_wp2_with fail
        go_ret2
        exact⟨_,Y,i+1,_,_,rfl,oM,F.run,a7⟩
      | false =>
        go_wp2_with fail
        go_round
        case rel=>exact⟨i+1,Y,oM,sM,⟨_,_,_,F⟩,a7⟩
        case measure=>simp[intOf];omega
  ·obtain rfl:i=n1:=oM
   obtain⟨cv,h1,⟨lz,h2,h3,-⟩,-⟩:=hj.pln.is
   have a0:=h1.at 0 (Ji5 cv (show 0<9 by omega))
   obtain⟨pz,cz,b0⟩:=h2.val
   rw[b0] at a0
   obtain⟨nz,b1⟩:=gN lz.length
   rw[b1] at a0
   have M:=hj.nil ((zS wr d).drew)
   obtain⟨Hj,be,af⟩:=qan hj ai M
   clear hj ai M h1 h2 h3 b0 b1
   go_wp2_with fail
   go_quiet (fail)
   go_wp2_with fail
   go_ret2
   exact⟨_,d,i,_,_,rfl,oM,(Hj.nil ((zS wr d).qcp _)).run,be.trans (((zS wr d).qcp _).nz)⟩
end Go.Proofs.YtociicnopccppaaGreat
namespace Go.Proofs.YtociicnopccppaaGreat
open Go.RowKit Go.Maps ArgsQ
theorem Qw3 {w c d:World}{τ1:qa1}(e:Mod w c no) (g:Step c boxed d τ1 qb5):Step w boxed d τ1 qb5 :=
 ⟨(e.mono (fun _ _ h=>h.elim)).seq g.mod (fun _ _ h=>h),fun k a=>g.ext k (Nat.lt_of_lt_of_le a e.size)⟩
theorem ArgsQ.qje.stay {w w':World}{τ':qa1}(m:Step w boxed w' τ' qb5) {b o:Nat}{x:OpT}(h:qje w b o x):qje w' b o x :=
 ⟨h.kd,h.pg,h.k,Qcq m h.c0 Qhl,Qcq m h.c1 Qhl,Qcq m h.c2 Qhl,Qcq m h.c3 Qhl,Qcq m h.c4 Qhl,Qcq m h.c5 Qhl,Qcq m h.c6 Qhl,h.nn⟩
def LawD (w:World) (e:Ending) (w':World):Prop:=e = .returned (.bool true)/\Below w.heap.size w w'
theorem qbr.nobody {w:World}{τ:qa1}{bm bl bp:Nat}{bo:Nat->Nat}{next:Nat}(h:qbr w τ bm bl bp bo [] next):qbr w τ bm bl bp (fun _=>0) [] next:=by
 obtain⟨d,g,c⟩:=h.is
 have e:fOf bo []=fOf (fun _=>0) []:=by
  funext k
  unfold fOf qa9.ids
  simp
 rw[e] at c
 exact⟨⟨d,g,c⟩,fun x a=>absurd a sM,h.nodup,fun x a=>absurd a sM,h.nx,h.many⟩
theorem Jlp {L:qac}(d:L.qfh) (hl:L.lasts<=L.stream.length) {k:Nat}{f:Bool}(e:L.AtR 18446744073709551615 k f) (g:L.base+L.stream.length<=18446744073709551615) (h0:L.starts=[]->L.stream=[]):(flL L (k+if f=true then 1 else 0)).lasts=(flL L (k+if f=true then 1 else 0)).stream.length:=by
 obtain⟨rfl,rfl⟩:=e.behind oM g
 rw[if_neg sM,Nat.add_zero]
 have h1:=Qz0 d hl L.starts.length
 have h2:=Qlm L L.starts.length
 obtain⟨_,c,_,_,_⟩:=Qjz L L.starts.length
 by_cases h:L.starts.length=0
 ·have a:=h0 (List.eq_nil_of_length_eq_zero h)
  rw[c,a] at h1 ⊢
  simp only[List.length_nil] at h1 ⊢
  omega
 ·have a:=h2.2 h
  unfold qac.qal qac.qd8 at a
  rw[if_neg oM] at a
  rw[c] at h1 ⊢
  omega
theorem qi5.of {w:World}{τ:qa1}{I:Ids}{bo:Nat->Nat}{X:List qa9}{next:Nat}{R:List qak}{H:qaq}{L:qac}{D:Dev}{F:List Fr}{s:Ck.Clk.St}{cur:Nat->List Int}(h1:TW w τ I.bm I.bl I.bp I.bf I.bd I.N bo X next H L D F s cur) (h2:qca I.N cur L R) (h3:L.strips=I.S) (g:L.lasts=L.stream.length) (h:∀(i:Nat) (f:Fr),F[i]?=some f->f.first=0) (hst:H.st<=1000000) (j:1<=I.N/\I.N<=6) (hS:30<=I.S/\I.S<=200) (hd:∀k,¬alive qgg R k) (l:∀r∈R,r.txn<900):qi5 I.N cur D L R:=by
 have c:=h1.good
 have a:∀n,n<I.N->(qap D n 4=blank/\cur n=qaf n)\/∃s,s<2 ^ 64/\qap D n 4=qao (cur n) s/\Sound (cur n)/\0<qaa (cur n):=fun n hn=>by
  obtain⟨Q,d,o⟩:=c.home n hn
  rw[o (fun i f p _=>h i f p)] at d
  rcases d with d|⟨s,q1,q2,q3,q4,-⟩
  ·exact .inl d
  ·exact .inr ⟨s,oM,q2,q3,q4⟩
 refine⟨c.qgv,h2,g,h1.pool.log.ok,c.rise,c.cap,oM,by have:=c.f0;have:=Jjh L;omega,c.calm,c.f1,j,a,fun n hn=>?_,hd,l⟩
 rcases a n hn with ⟨e,-⟩|⟨s,q1,q2,q3,-⟩
 ·rw[e];exact Qj2
 ·rw[q2];exact(Qs6 q3.tidy.len _ q1).1
theorem qi5.crash {N:Nat}{cur:Nat->List Int}{D:Dev}{L:qac}{R:List qak}(h:qi5 N cur D L R) (f:List Fate):qi5 N cur (D.crash f) L R:=by
 obtain⟨h1,h2,a,c⟩:=Jkz h.calm f
 have hl:∀n,qap (D.crash f) n 4=qap D n 4:=fun n=>Qm0 fun i _=>h2 1 _
 exact⟨h.on.file1 (h2 0) a,h.is,h.last,h.ok,h.rise,h.cap,h.small,by rw[a];exact h.f0,h1,by rw[c];exact h.f1,h.sz,fun n hn=>by rw[hl];exact h.home n hn,fun n hn=>by rw[hl];exact h.whole n hn,h.dead,h.txn⟩
structure qj1 (I:Ids) (i:Nat) (ts:List Nat) (next r:Nat) (w:World) (τ:qa1):Prop where
 is:∃X,qdj I (i+r) w τ X next/\(qa9.ids X).Perm (ts.drop r)
theorem qj1.step {I:Ids}{i:Nat}{ts:List Nat}{next r:Nat}{w:World}{τ:qa1}(h:qj1 I i ts next r w τ) (hi:i+r<=70) (hn:ts.Nodup) {k:Nat}(l:ts[r]?=some k) :
 Calls Tryz.prog 12 #[.pointer (some ⟨I.bm,0,none⟩),.int .u32 k] w fun e w'=>e = .returned (.int .u16 0)/\∃τ',qj1 I i ts next (r+1) w' τ'/\Step w τ w' τ' qbj:=by
 obtain⟨X,h1,h2⟩:=h.is
 obtain⟨n,rfl⟩:=Z4 l
 have hd:ts.drop r=ts[r]::ts.drop (r+1):=List.drop_eq_getElem_cons n
 have c:ts[r]∈qa9.ids X:=h2.mem_iff.2 (by rw[hd];exact List.mem_cons_self)
 refine(Jks h1 hi c).mono ?_
 rintro e w' ⟨rfl,τ',o,p⟩
 refine⟨rfl,τ',⟨⟨_,o,?_⟩⟩,p⟩
 rw[Qpu]
 have d:=h2.filter (fun j=>decide (j≠ts[r]))
 have a:=hn.sublist (List.drop_sublist r ts)
 rw[hd] at d a
 have e:(ts[r]::ts.drop (r+1)).filter (fun j=>decide (j≠ts[r]))=ts.drop (r+1):=by
  rw[List.filter_cons_of_neg sM]
  refine List.filter_eq_self.2 fun j g=>decide_eq_true fun e=>?_
  rw[e] at g
  exact(List.nodup_cons.1 a).1 g
 rw[e] at d
 exact d
theorem Jjo {g:Tag}(h:qdn g):¬qb3 g/\¬Qai g/\g≠qa2/\g≠qf7 0:=by
 rcases h with rfl|⟨f,rfl⟩
 ·refine⟨fun q=>?_,by simp[Qai,qd0],by simp[qd0,qa2],by simp[qd0,qf7]⟩
  rcases q with q|q|q|q|⟨i,q⟩ <;> simp[qd0,qcd,tFr,qbi,qdk,tPg] at q
 ·refine⟨fun q=>?_,by simp[Qai,qco],by simp[qco,qa2],by simp[qco,qf7]⟩
  rcases q with q|q|q|q|⟨i,q⟩ <;> simp[qco,qcd,tFr,qbi,qdk,tPg] at q
theorem Jl1 {g:Tag}(h:qek g):g≠qa2/\g≠qf7 0:=by
 refine⟨fun e=>?_,fun e=>?_⟩ <;> subst e
 ·rcases h with (h|h|h)|(h|h)|(h|h)
  ·rcases h with h|h|h <;> simp[qa2,qb1,qa5,qa6] at h
  ·simp[qa4,qa2] at h
  ·simp[qah,qa2] at h
  ·exact Qhd h
  ·simp[qa2,tRm] at h
  ·simp[qeq,qa2] at h
  ·simp[tCp,qa2] at h
 ·rcases h with (h|h|h)|(h|h)|(h|h)
  ·rcases h with h|h|h <;> simp[qf7,qb1,qa5,qa6] at h
  ·simp[qa4,qf7] at h
  ·simp[qah,qf7] at h
  ·exact(Qfy 0).1 h
  ·simp[qf7,tRm] at h
  ·simp[qeq,qf7] at h
  ·simp[tCp,qf7] at h
theorem Jlq {g:Tag}(h:qdn g):qb5 g:=by
 rcases h with rfl|⟨f,rfl⟩ <;> show _≠90 <;> simp[qd0,qco]
theorem Jl5 {g:Tag}(h:qek g):qb5 g:=by
 have k:g.1≠90:=by
  rcases h with (h|h|h)|(h|h)|(h|h)
  ·rcases h with rfl|rfl|rfl <;> simp[qb1,qa5,qa6]
  ·unfold qa4 at h;omega
  ·unfold qah at h;omega
  ·exact Qdw (.inl (.inl h))
  ·subst h;simp[tRm]
  ·unfold qeq at h;omega
  ·subst h;simp[tCp]
 exact k
theorem Jlx (w:World) (sp pg fr:Nat) (fn:sp<256) (fo:pg<256) (fp:fr<256) (la:Option Addr) (n1 c1:Nat) (fq:n1<=maxLen) (o1:OpsT w la n1) (fa:Option Addr) (fl:List Fate) (nf fc:Nat) (cz:fl.length=nf) (O:nf<=maxLen) (d0:qf4 w boxed fa fl) :
 Calls Tryz.prog 3 #[.int .u8 sp,.int .u8 pg,.int .u8 fr,.slice la n1 c1,.slice fa nf fc] w (LawD w):=by
 have hB:qfo 12:=Jmh oM
 have d1:=Jki w hB oM oM
 have d2:=Jfn w (la:=la) (c1:=c1) o1 fq (lf:=fa) (cf:=fc) O
 have ef:IntKind.u8.wrap ((fr:Int)%4)=(fr:Int)%4:=by
  have:IntKind.u8.wrap ((fr:Int)%4)=((fr:Int)%4)%256:=by simp[IntKind.wrap,IntKind.bits,IntKind.signed]
  rw[this];omega
 obtain⟨k,hk⟩:=gN (3+fr%4)
 have hkI:(3:Int)+fr%4=(k:Int):=oM
 have fw:3<=k/\k<=6:=oM
 obtain⟨d4,fx,d5,fy,d6,g0⟩:=qcq d1 d2 o1 cz O d0
 clear d1 d2 o1 cz O d0 hk
 go_enter Tryz.func3,Tryz.ntmps3
 go_wp2_with fail
 refine fx.mono ?_
 rintro e w' ⟨b,rfl,rfl,hb⟩
 cases b with
 | true =>
   go_wp2_with fail
   refine d4.mono ?_
   rintro e w' ⟨rfl,τ',hs⟩
   have U:=(Qiv hs).below
   have c6:=Z2 U
   clear U hs
   go_wp2_with fail
   go_ret
   exact⟨rfl,c6⟩
 | false =>
   obtain⟨d7,hf60⟩:=hb rfl
   go_wp2_with fail
   refine d4.mono ?_
   rintro e w0 ⟨rfl,τ0,d8⟩
   have d9:=Qiv d8
   have da:=Jke w0 sp pg fr fn fo fp
   obtain⟨g6,g7⟩:=qaj d9 da
   clear d9 da d8 hb
   go_wp2_with fail
   refine g7.mono ?_
   rintro e w1 ⟨I,τ1,rfl,hN,hS,db,dc⟩
   have Y:=Qw3 g6 dc
   have az:=Jl4 db oM oM hB oM (c1:=c1) d7 (fun W T hs i hi=>by
    obtain⟨bl,ol,op,e1,e2⟩:=d5 i hi
    exact⟨bl,ol,op,e1,e2.stay (Y.trans hs)⟩)
   obtain⟨dd,de⟩:=qaj Y az
   clear hN hS Y az dc db
   go_wp2_with fail
   refine de.mono ?_
   rintro e w2 ⟨v,τ2,i,X,next,rfl,hi,x,df⟩
   obtain⟨bo,c8⟩:=x.mgr
   have c9:=x.four
   have b0:=dd.trans df
   have dh:=Jg6 c8 hB (Y3 c9 oM)
   have di:=c8.nodup
   obtain⟨dj,b1,dk,dl,dm⟩:=qbq x b0 dh di c9
   clear x b0 dh di c9 df c8
   go_wp2_with fail
   refine dk.mono ?_
   rintro e w3 ⟨va,ts,dn,rfl,Z,am,cb⟩
   have b2:=b1.trans cb.nz
   have b3:=dj.nil cb
   have an:ts.length=X.length:=by rw[Z.length_eq];unfold qa9.ids;rw[Y0]
   have dp:ts.Nodup:=Z.nodup_iff.2 dl
   have dq:∀k∈ts,k∈qa9.ids X:=fun k hk=>Z.mem_iff.1 hk
   have a0:∀j k,ts[j]?=some k->∃q:qdb,(ts.map (fun k=>(oneOf X k).act))[j]?=some q/\q.txn=k:=fun j k dr=>by
    refine⟨(oneOf X k).act,by rw[List.getElem?_map,dr];rfl,?_⟩
    exact(Jhi (dq k (List.mem_of_getElem? dr))).2
   obtain⟨rows,y⟩:=gN (ts.map (fun k=>(oneOf X k).act))
   have ao:rows.length=X.length:=by rw[<-y,Y0,an]
   rw[y] at am a0
   obtain⟨nA,ds⟩:=gN X.length
   have hnA4:nA<=4:=by have:=dm.out;omega
   rw[ds] at an ao
   have a:qj1 I i ts next 0 w3 dn:=⟨⟨X,b3,by rw[List.drop_zero];exact Z.symm⟩⟩
   obtain⟨pa,ca,rfl⟩:=am.val
   rw[ao]
   have c:=am.weak
   rw[ao] at c
   obtain⟨a1,B,b4,b5,dt,cd⟩:=qcq a c b2 a0 dp an
   clear a c b2 a0 dp an am b3 cb Z dq y ds dj dk b1 dm dl
   go_wp2_with fail
   go_loopw [14] (fun v wr=>∃(r:Nat) (ap:qa1),r<=nA/\v = .int .i64 r/\qj1 I i ts next r wr ap/\NS 42 4 Qct 0 wr ap qfx (.slice pa nA ca) rows/\Step w boxed wr ap qb5) (fun v _=>nA-(intOf v).toNat)
   case atStart=>exact⟨0,dn,Z9 _,rfl,a1,B,b4⟩
   case round =>
    clear a1 B b4
    obtain⟨r,ap,hr,rfl,a,c,aq⟩:=hrel
    by_cases g8:r<nA
    ·have dv:(r:Int)<nA:=oM
     obtain⟨kk,ce⟩:∃k,ts[r]?=some k:=⟨_,Z3 (by rw[cd.out];exact g8)⟩
     obtain⟨q,hq,dw⟩:=b5 r kk ce
     have dx:=a.step oM dt ce
     obtain⟨p',c',hv,dy,dz⟩:=c.txn
     rw[ao] at hv dy
     cases hv
     obtain⟨b,rfl,e0,-,-,-⟩:=dz r q hq
     rw[dw] at e0
     obtain⟨g9,B,ar⟩:=qan dx c aq
     clear dx c aq hq dw ce dz dy a
     go_wp2_with fail
     refine g9.mono ?_
     rintro e w4 ⟨rfl,ga,e3,cg⟩
     have a2:=B.step cg (fun h=>by have:=h.fst;simp[qfx] at this)
     have b6:=ar.trans (cg.mono (T:=qb5) (fun _ h=>Qdw h))
     obtain⟨gb,ch,e4⟩:=qan e3 a2 b6
     clear e3 a2 b6 cg
     go_wp2_with fail
     go_round
     case rel=>exact⟨r+1,ga,oM,sM,gb,ch,e4⟩
     case measure=>simp[intOf];omega
    ·obtain rfl:r=nA:=oM
     have dv:¬(r:Int)<r:=oM
     obtain⟨X2,x,ci⟩:=a.is
     rw[List.drop_eq_nil_of_le (by rw[cd.out];exact Z0 _)] at ci
     have gd:X2=[]:=by
      have:=ci.length_eq
      unfold qa9.ids at this
      rw[Y0] at this
      exact List.eq_nil_of_length_eq_zero this
     subst gd
     obtain⟨bo2,R,V,st,P,M,hst'⟩:=x.is
     have hnx:=x.hi
     have e5:=M.N
     have e6:=M.S
     have a3:∀k,¬alive qgg R k:=fun k hk=>by cases M.alive k hk
     have e7:∀r∈R,r.txn<900:=fun r hr=>by have:=M.txn r hr;omega
     obtain⟨H,L,D,F,s,cur,g1,g2,g3,g4,g5⟩:=M.tz.is
     have e8:=Qhg g1.mgr
     have e9:=Jkd g1 oM oM
     obtain⟨b7,ea,eb,a4,ec,ed,ar,cj,gf,ck,gg⟩:=qg6 g2 g3 g4 g5 e8 e9 aq a3 e7 e5 e6
     clear g1 g2 g3 g4 g5 e8 e9 aq a3 e7 e5 e6 a c x ci M b5 dt cd
     go_wp2_with fail
     refine zC ec ?_
     go_wp2_with fail
     refine ed.mono ?_
     rintro e w5 ⟨rfl,τ5,H5,L5,D5,F5,q1,q2,q3,q4,q5⟩
     have b9:=ar.trans (q5.mono (T:=qb5) (fun _ h=>Qdw (.inl (.inl h))))
     have ee:=Jb6 q1.mgr
     have cm:=Jcl q1 18446744073709551615 oM
     rw[show ((18446744073709551615:Nat):Int)=18446744073709551615 from rfl] at cm
     have d:=b7.same q2
     have ba:=q1.good.rise
     have bb:=q1.good.lasts
     have eg:=q1.pool.log.ok.stream
     have eh:L5.starts=[]->L5.stream=[]:=fun e=>by
      rw[d.starts] at e
      have e2:=congrArg List.length e
      rw[Qbc] at e2
      rw[d.stream,List.eq_nil_of_length_eq_zero e2]
      rfl
     have ei:L5.base+L5.stream.length<=18446744073709551615:=by rw[d.base];omega
     have a5:H5.st<=1000000:=by have:=eb.out;omega
     obtain⟨bc,ej,ek,a6,em,be,en,eo,gj,gk,cn⟩:=qg6 b9 ee cm d q2 q4 ba bb eh ei a5
     clear b9 ee cm d q2 q3 q4 ba bb eh ei a5 q1 q5 eg ec ed b7 ar
     go_wp2_with fail
     refine zC ej ?_
     go_wp2_with fail
     refine ek.mono ?_
     rintro e w6 ⟨rfl,gl,kf,ff,ep,er,l⟩
     have C:=Jlp en eo ep gk gj
     have a7:=a6.same (qas.flush L5 (kf+if ff=true then 1 else 0))
     have a8:(flL L5 (kf+if ff=true then 1 else 0)).strips=I.S:=by rw[(Qjz _ _).2.2.2.1,em.strips,ea.out]
     generalize flL L5 (kf+if ff=true then 1 else 0)=L6 at *
     generalize flD L5 D5 (kf+if ff=true then 1 else 0)=D6 at *
     have z:=qi5.of l a7 a8 C be cn ck gg cj gf
     have a9:ClnW I H5 L6 D6 V cur next w6 gl:=⟨⟨F5,s,l.pool,⟨l.good.f1,z.home,fun i f b P h1 h2=>⟨(l.good.frame i f b P h1 h2).1,(l.good.frame i f b P h1 h2).2.1⟩,l.good.none,be⟩,l.clock⟩,l.mgr.nobody,l.hn,fun n hn=>⟨(l.good.page n hn).1.tidy.lies.fit,(a4 n hn).2⟩⟩
     have bf:=bc.trans (er.mono (T:=qb5) (fun _ h=>Qdw (.inl (.inl (.inr h)))))
     have co:∀i,i<I.N->∀q,(V i q).length<=4:=fun i hi q=>by
      rw[<-(a4 i hi).2 q]
      exact((a4 i hi).1 q).1
     have et:=Jja (Jla (I:=I) (H:=H5) (L:=L6) (D:=D6) (V:=V) (cur:=cur) (next:=next)) a9 (by have:=ck.out;omega) co 0
     have aa:=a9.page
     obtain⟨cp,bg,ev,gm,cq⟩:=qbq z bf et co aa
     clear z bf et co aa ep er l C a7 a8 a9 ej ek bc a6
     go_wp2_with fail
     refine ev.mono ?_
     rintro e w7 ⟨v7,τ7,rfl,av,ab,ew⟩
     have ac:=bg.trans (ew.mono (T:=qb5) (fun _ h=>Qdw h))
     obtain⟨p7,c7,rfl⟩:=av.val
     obtain⟨l7,aw⟩:=gN ((Qbw V I.N).length)
     rw[aw] at av
     rw[aw]
     obtain⟨F7,s7,cr,ey,gn⟩:=id ab.is
     have ez:=Jec cr.dev fy d6 (cap:=fc) (qf4.step ac g0 Qhl)
     obtain⟨bh,f0,ad,f2,f3,f4⟩:=qcq ac av ab cr ez aw
     clear ac av ab cr ez aw ew ey gn ev bg
     go_wp2_with fail
     refine f3.mono ?_
     rintro e w8 ⟨rfl,τ8,f5,ae⟩
     have bi:=bh.trans (ae.mono (T:=qb5) (fun _ h=>Jlq h))
     have bj:=f0.step ae (fun h=>(Jjo h).2.2.2 rfl) (fun h=>(Jjo h).2.2.1 rfl)
     have bk:=ad.mgr.step ae (fun g hg h=>(Jjo h).2.1 hg)
     have bn:=f2.pool.step ae (fun g hg h=>(Jjo h).1 hg)
     have bp:=Qhg bk
     have af:=Qk2 bn
     rw[ad.n] at af
     have f6:=Jj7 (cp.crash fl) f5 hB oM oM fw.1 oM
     obtain⟨bq,br,bs,bv,f7⟩:=qbq bi bj bp af f6
     clear bi bj bp af f6 ae bk bn f5 f2 ad bh f0 f3
     go_wp2_with fail
     refine zC bs ?_
     go_wp2_with fail
     refine zC bv ?_
     go_wp2_with fail
     refine f7.mono ?_
     rintro e w9 ⟨f8,gq,gr,gs,f9,H9,L9,D9,ag,pw,nw,cw,rfl,ah,ax,cs⟩
     have E:=bq.trans (cs.mono (T:=qb5) (fun _ h=>Jl5 h))
     have G:=br.step cs (fun h=>(Jl1 h).2 rfl) (fun h=>(Jl1 h).1 rfl)
     have o:=(zS w9 f9).alloc' (.cells #[.slice pw nw cw,.slice none 0 0,.int .i64 0,.int .i64 0] 52)
     obtain⟨W9,ct⟩:=gN (w9.alloc (.cells #[.slice pw nw cw,.slice none 0 0,.int .i64 0,.int .i64 0] 52))
     rw[ct] at o
     replace ah:=ah.step o zE
     replace ax:=ax.step o zN
     replace E:=E.trans o.nz
     replace G:=G.step o id id
     obtain⟨J,hJ⟩:∃J:Ids,J=⟨f8,gq,gr,gs,I.bd,I.N,I.S⟩:=⟨_,rfl⟩
     have bw:ClnW J H9 L9 D9 V cur ag W9 f9:=by
      subst hJ
      exact⟨ah.is,ax,ah.n,cq⟩
     have ay:J.N=I.N:=by rw[hJ]
     have fb:J.bm=f8:=by rw[hJ]
     have ai:=Jja (Jla (I:=J) (H:=H9) (L:=L9) (D:=D9) (V:=V) (cur:=cur) (next:=ag)) bw (by rw[ay];have:=ck.out;omega) (by rw[ay];exact gm) 1
     rw[fb] at ai
     obtain⟨bz,c3,c4,gt,gv⟩:=qbq E G ai ay ct
     clear E G ai ay ct cs ah ax bw o hJ fb bq br bs bv f7
     go_wp2_with fail
     rw[gv.out]
     refine c4.mono ?_
     rintro e fe ⟨v10,c5,rfl,p,-,aj⟩
     have ak:=bz.trans (aj.mono (T:=qb5) (fun _ h=>Qdw h))
     have al:=c3.step aj (Qov 0) Qkg
     rw[gt.out] at p
     obtain⟨p10,c10,rfl⟩:=p.val
     have cv:=Jb0 p al
     rw[f4.out] at cv
     rw[f4.out]
     obtain⟨cx,gw⟩:=qaj ak cv
     clear ak cv aj p al c4 bz c3
     go_wp2_with fail
     refine gw.mono ?_
     rintro e wg ⟨rfl,q9,rfl⟩
     have fg:Step fe c5 (fe.drewN q9) c5 nil:=(Step.refl _ _ _).qcp q9
     have U:=(Qiv (cx.trans fg.nz)).below
     have c6:=Z2 U
     clear U fg
     go_wp2_with fail
     go_ret
     exact⟨rfl,c6⟩
end Go.Proofs.YtociicnopccppaaGreat
namespace Go.Proofs.YtociicnopccppaaGreat.lawCalm
open Go.ChangeShapes Go.WideShapes Go.ChangeAt Go.RowKit Go.Deep ArgsQ
theorem own:ownKnob Tryz.prog.godebug=none:=kR
theorem Qq9:laidOutB Tryz.prog=true:=kR
section
variable {H : Type} {P : Program} {enc : TypeId × Value -> H} {w : World} {base : Nat} {spare : Nat -> Bool} {held : Bool}
theorem Jc6 {t:TypeId}{ts:List TypeId}{v:Value}{a:List Value}{d:DataW H}{c:List (DataW H)}{p q:List MemPlace}(h:DataW.Trod enc P w base spare held t v d p) (e:DataW.TrodAll enc P w base spare held ts a c q):DataW.TrodAll enc P w base spare held (t::ts) (v::a) (d::c) (p++q):=⟨p,q,h,e,rfl⟩
end
theorem Jas (os:Os) (started:os.Started) (H:Type) (enc:TypeId×Value->H) :
 ReturnsInHanded {} Tryz.checked os 3 .any (Rows.redoCalmSpec.pre6 enc Tryz.prog Tryz.f3 Rows.redoCalmRow.domain false) (Rows.redoCalmSpec.post enc Tryz.prog Tryz.f3 false true false false):=by
 refine returnsInHanded_of_change (C:=Tryz.checked) own started kR Tryz.func3
  (ChangeSpec.witness6 (enc:=enc) (C:=Tryz.checked) false ⟨#[],#[.int .u8 0,.int .u8 0,.int .u8 0,.slice none 0 0,.slice none 0 0],[]⟩ 8 kR kR kR kR) ?_
 intro W base args ds gs before c hW hcnd _
 have a:∀(j:Nat) t v,Tryz.f3.params[j]?=some t->args[j]?=some v->Value.okWide Tryz.prog W .any base t v:=c
 have g:=hW
 obtain⟨p,q,l,hV,rfl,hfz,hnd⟩:=hW
 have Y:DataW.TrodAll enc Tryz.prog W 0 (fun _=>true) true Tryz.f3.params.toList args.toList ds p:=l
 rw[Tryz.params3] at Y a
 obtain⟨v0,v1,v2,v3,v4,d0,d1,d2,d3,d4,p0,p1,p2,Z,p4,rfl,rfl,rfl,h0,h1,h2,h3,h4⟩:=Jb7 Y
 obtain⟨rfl,rfl⟩:=trodVars_none hV
 obtain⟨n0,rfl,rfl,rfl,n⟩:=open_int Tryz.underlying5 (a 0 5 v0 rfl rfl) h0
 obtain⟨n1,rfl,rfl,rfl,o⟩:=open_int Tryz.underlying5 (a 1 5 v1 rfl rfl) h1
 obtain⟨n2,rfl,rfl,rfl,r⟩:=open_int Tryz.underlying5 (a 2 5 v2 rfl rfl) h2
 obtain⟨b3,s,y,rfl,h,k⟩:=Qk6 (a 3 22 v3 rfl rfl) h3
 obtain⟨a4,z,B,rfl⟩:=okWide_slice Tryz.underlying23 (a 4 23 v4 rfl rfl)
 obtain⟨q4,c4,l4,G,J,L⟩:=Jdc (v:=.slice a4 z B) h4.choose_spec
 cases G
 clear l c
 simp only[List.append_nil,List.nil_append,Y9] at g
 have D:∀x∈Z,x.block<W.heap.size:=fun x d=>g.lt x (by simp[d])
 have E:∀x∈p4,x.block<W.heap.size:=fun x d=>g.lt x (by simp[d])
 have M:=Qiu n
 have O:=Qiu o
 have R:=Qiu r
 obtain⟨n0,rfl⟩:=Int.eq_ofNat_of_zero_le M.1
 obtain⟨n1,rfl⟩:=Int.eq_ofNat_of_zero_le O.1
 obtain⟨n2,rfl⟩:=Int.eq_ofNat_of_zero_le R.1
 refine(Jlx W n0 n1 n2 oM oM oM b3 s y h k _ l4 l4.length _ rfl J L).mono fun e W' ⟨he,U⟩=>?_
 subst he
 exact⟨_,rfl,Qnp (pa:=(Z++p4)) (pv:=[]) g (fun _ _ _=>trodAll_mk1 (shut_bool Tryz.underlying4 _))
  (fun sp F=>Jc6 (p:=[]) (shut_int Tryz.underlying5 n) (Jc6 (p:=[]) (shut_int Tryz.underlying5 o) (Jc6 (p:=[]) (shut_int Tryz.underlying5 r) (Jc6 (WideElems.Trod_stays Qq9 kR (of_decide_eq_true kR) h3 (fun x d=>U.same (D x d)) (fun x d=>F x (by simp[d]))) (trodAll_mk1 (WideElems.Trod_stays Qq9 kR (of_decide_eq_true kR) h4 (fun x d=>U.same (E x d)) (fun x d=>F x (by simp[d]))))))))
  (fun _ _=>rfl) sM U (ok_one kR rfl (okWide_bool_mk Tryz.underlying4 _))⟩
theorem named:Tryz.pinned.checked.prog.funcNamed Rows.redoCalmRow.func=some 3 := kR
theorem facts:joinedFacts Tryz.pinned.checked.prog 3 Tryz.f3 Rows.redoCalmSpec Rows.redoCalmRow=true:=kR
theorem inst:Tryz.f3.isInstance Tryz.pinned.checked.prog Rows.redoCalmRow.origin Rows.redoCalmRow.targs:=of_decide_eq_true kR
theorem wrap:Tryz.f3.isWrapper Tryz.pinned.checked.prog Rows.redoCalmRow.wrapper Rows.redoCalmRow.mainSum:=by
 unfold Func.isWrapper;first|(rw[if_pos dK];kernel_rfl)|(rw[if_neg dK];exact⟨rfl,rfl⟩)
theorem holds:Rows.RedoCalmSaid :=
 OpenClaim.holds_of_wide 3 Tryz.f3 rfl rfl rfl rfl rfl rfl rfl ⟨rfl,rfl,rfl,rfl,rfl⟩ rfl rfl rfl rfl rfl named Tryz.func3 facts inst wrap
  (fun os started H enc _=>Jas os started H enc)
#print axioms holds
end Go.Proofs.YtociicnopccppaaGreat.lawCalm