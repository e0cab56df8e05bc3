/-
 Slices of a call's own that grow: bytes,and rows of sectors;what append makes of them.
-/
import Derived.Test.YtemacanaihaldaaGreatMDiskE
set_option linter.all false
namespace Go.Proofs.YtemacanaihaldaaGreat
variable {D:Dev}{b f n0:Nat}{g:Tag}{v v0 v1:Value}{w w' w0:World}{τ τ' τ0:Tags}
open Go.RowKit
theorem Bytes.any {l:List Int}(h:Bytes w τ g v l):∃p c,v = .slice p l.length c/\l.length<=c/\c<=maxLen:=by
 obtain⟨p,c,d,h1,h2,_⟩:=h.is
 exact⟨p,c,d,h1,h2⟩
theorem Bytes.pos {l:List Int}(h:Bytes w τ g v l) (h0:0<l.length):∃b o c,v = .slice (some ⟨b,o,none⟩) l.length c/\l.length<=c/\c<=maxLen/\τ b=g/\b<w.heap.size/\∀i,i<l.length->w.cell? ⟨b,o+i,none⟩=some (.int .u8 (l.getD i 0)):=by
 obtain⟨p,c,e,h1,h2,j⟩:=h.is
 obtain⟨b,o,rfl,k,d⟩:=j h0
 exact⟨b,o,c,e,h1,h2,k,cell_lt (d 0 h0),d⟩
theorem Bytes.empty (w:World) (τ:Tags) (g:Tag):Bytes w τ g (.slice none 0 0) []:=⟨fun x d=>by simp at d,none,0,rfl,Z0 _,Z9 _,fun d=>by simp at d⟩
structure NB (n0:Nat) (w:World) (τ:Tags) (g:Tag) (v:Value) (l:List Int):Prop where
 buf:Buf w τ g 5 1 v l.length (u8s l)
 isB:IsB l
 low:∀k,v.ownBlock=some k->n0<=k
theorem NB.nil (n0:Nat) (w:World) (τ:Tags) (g:Tag):NB n0 w τ g (.slice none 0 0) []:=⟨Buf.nil _ _ _ _ _,fun x d=>by simp at d,fun k hk=>by simp[Value.ownBlock] at hk⟩
theorem NB.bytes {l:List Int}(h:NB n0 w τ g v l):Bytes w τ g v l:=h.buf.bytes h.isB
theorem NB.step {S:Tag->Prop} {l:List Int}(h:NB n0 w τ g v l) (m:Step w τ w' τ' S) (d:¬S g):NB n0 w' τ' g v l:=⟨h.buf.step m d,h.isB,h.low⟩
theorem NB.drew {l:List Int}(h:NB n0 w τ g v l):NB n0 w.drew τ g v l:=h.step (Step.refl w τ Go.Proofs.YtemacanaihaldaaGreat.nil).drew (fun h=>h)
theorem NB.val {l:List Int}(h:NB n0 w τ g v l):∃p c,v = .slice p l.length c:=by
 obtain⟨p,c,d,_⟩:=h.bytes.any
 exact⟨p,c,d⟩
theorem IsB.append {l m:List Int}(h:IsB l) (k:IsB m):IsB (l++m):=fun x d=>(List.mem_append.1 d).elim (h x) (k x)
theorem Qig (l m:List Int):u8s (l++m)=u8s l++u8s m:=by simp[u8s]
theorem Qhu {S:Tag->Prop}(e:Step w0 τ0 w τ S) {g g2:Tag}{v G:Value}{l m:List Int}(d:NB w0.heap.size w τ g v l) (j:Bytes w τ g2 G m) (hsz:l.length+m.length<=100000000000) (I:TypeId) :
 ∃q w' τ',(Builtin.append_ #[37,37] I #[v,G]).run Tryz.prog w = .ok q w'/\NB w0.heap.size w' τ' g q (l++m)/\Step w0 τ0 w' τ' S/\Step w τ w' τ' (fun t=>t=g):=by
 obtain⟨i0,hi,s,y,z⟩:=info_parts Tryz.infoU8
 obtain⟨p,c,rfl,h1,h2⟩:=j.any
 have i:=j.news.2
 by_cases J:p=none
 ·subst J
  obtain⟨p',c',L,h3,h4,O⟩:=j.is
  simp only[Value.slice.injEq] at L
  obtain⟨rfl,_,rfl⟩:=L
  cases m with
  | nil =>
    refine⟨v,w,τ,?_,by simpa using d,e,Step.refl _ _ _⟩
    rcases d.buf.2 with ⟨rfl,_⟩|⟨b,cap,ys,rfl,ho,_,B,_⟩
    ·simp[Builtin.append_,run_underlying Tryz.underlying37,sizeOf,typeInfo,hi,Builtin.lenOf,Builtin.firstCells]
    ·simp[Builtin.append_,run_underlying Tryz.underlying37,sizeOf,typeInfo,hi,Builtin.lenOf,Builtin.firstCells,B,storeCells]
  | cons x r=>obtain⟨b,o,R,_⟩:=O (by simp);cases R
 obtain⟨q,w',τ',U,C,M,N,E⟩:=Qap (P:=Tryz.prog) w τ g 37 I 5 i0 (.int .u8 0) 1 1 Tryz.underlying37 hi s y z rfl (by decide) v l.length (u8s l) d.buf
  p m.length c (u8s m) (by rw[Qac,Nat.mul_one]) (fun h=>absurd h J) (fun a X=>i a X) (Qkd m) (by unfold maxLen;omega) (by omega)
 refine⟨q,w',τ',U,⟨by rw[Z6,Qig];exact C,d.isB.append j.isB,fun k hk=>?_⟩,⟨e.mod.seq N (fun k hk F=>absurd (d.low k F) (by omega)),e.ext.trans M e.size⟩,⟨N.mono (fun k hk F=>(d.buf.own k F).1),M⟩⟩
 rcases E k hk with h|h
 ·exact d.low k h
 ·have:=e.size;omega
theorem Qal {S:Tag->Prop}(i:Step w0 τ0 w τ S) {g g2:Tag}{v p:Value}{l m:List Int}(d:NB w0.heap.size w τ g v l) (q:Bytes w τ g2 p m) (j:l.length+m.length<=100000000000)
 {ops:Array Oper} {rest:List Oper} {o:Oper} {a:Act} {Q:Exit->Act->World->Prop} (k:o.guard=none) (s x:Operand)
 (r:o.op = .call {callee:=.builtin .append,args:=#[s,x],argTypes:=#[37,37]}) (y:a.eval s=v) (z:a.eval x=p)
 (h:∀e w' τ',NB w0.heap.size w' τ' g e (l++m)->Step w0 τ0 w' τ' S->Step w τ w' τ' (fun t=>t=g)->wpList Tryz.prog ops Q rest (a.put o.dst e) w'):wpList Tryz.prog ops Q (o::rest) a w:=by
 refine wpList_plain k fun K B=>?_
 obtain⟨e,w',τ',C,h2,E,F⟩:=Qhu i d q j o.type
 unfold Oper.wp execOp
 simp only[r,resolve,invoke,builtin,Sem.run_bind,Sem.run_pure,Result.andThen_ok,List.map_toArray,X1,List.map_nil,y,z,C]
 exact B _ _ (h e w' τ' h2 E F)
theorem Ql7 {S:Tag->Prop}(i:Step w0 τ0 w τ S) {g g2:Tag}{v p:Value}{l m:List Int}(d:NB w0.heap.size w τ g v l) (q:Bytes w τ g2 p m) (j:l.length+m.length<=100000000000)
 {ops:Array Oper} {o:Oper} {a:Act} {K:Act->World->Prop} {Q:Exit->Act->World->Prop} {E:Prop} (k:o.guard=none) (s x:Operand)
 (r:o.op = .call {callee:=.builtin .append,args:=#[s,x],argTypes:=#[37,37]}) (y:a.eval s=v) (z:a.eval x=p)
 (h:∀e w' τ',NB w0.heap.size w' τ' g e (l++m)->Step w0 τ0 w' τ' S->Step w τ w' τ' (fun t=>t=g)->K (a.put o.dst e) w'):if Region.wanted o (yielded ops a.tmps)=true then Oper.wp Tryz.prog o a w K Q else E:=by
 have B:Region.wanted o (yielded ops a.tmps)=true:=by simp[Region.wanted,k]
 rw[if_pos B]
 obtain⟨e,w',τ',C,h2,F,G⟩:=Qhu i d q j o.type
 unfold Oper.wp execOp
 simp only[r,resolve,invoke,builtin,Sem.run_bind,Sem.run_pure,Result.andThen_ok,List.map_toArray,X1,List.map_nil,y,z,C]
 exact h e w' τ' h2 F G
structure NR (n0:Nat) (w:World) (τ:Tags) (g:Tag) (v:Value) (ls:List (List Int)):Prop where
 row:Waits w τ g v ls
 low:∀k,v.ownBlock=some k->n0<=k
theorem NR.nil (n0:Nat) (w:World) (τ:Tags) (g:Tag):NR n0 w τ g (.slice none 0 0) []:=⟨.inl ⟨rfl,rfl⟩,fun k hk=>by simp[Value.ownBlock] at hk⟩
theorem NR.step {S:Tag->Prop} {ls:List (List Int)}(h:NR n0 w τ g v ls) (m:Step w τ w' τ' S) (d:¬S g) (hd:¬S tData):NR n0 w' τ' g v ls:=⟨h.row.step m d hd,h.low⟩
theorem NR.val {ls:List (List Int)}(h:NR n0 w τ g v ls):∃p c,v = .slice p ls.length c:=h.row.len
theorem Qdn {S:Tag->Prop}(l:Step w0 τ0 w τ S) {g:Tag}(U:g≠tData) {v u:Value}{ls:List (List Int)}{x:List Int}(d:NR w0.heap.size w τ g v ls) (X:Bytes w τ tData u x) (q:x.length=128) (hsz:ls.length<=1000000000) {k:Nat}
 (hk:w.heap[k]?=some (.cells #[u] 37 (0,0))) (Y:TypeId) :
 ∃r w' τ',(Builtin.append_ #[52,52] Y #[v,.slice (some ⟨k,0,none⟩) 1 1]).run Tryz.prog w = .ok r w'/\NR w0.heap.size w' τ' g r (ls++[x])/\Step w0 τ0 w' τ' S/\Step w τ w' τ' (fun t=>t=g)/\Mod w w' (fun k=>v.ownBlock=some k):=by
 obtain⟨i0,hi,z,B,C⟩:=info_parts Tryz.infoU8s
 obtain⟨s,i,E⟩:=d.row.buf
 obtain⟨p,c,rfl,_⟩:=X.any
 obtain⟨r,w',τ',hr,F,Z,G,I⟩:=Qap (P:=Tryz.prog) w τ g 52 Y 37 i0 (.slice none 0 0) 1 24 Tryz.underlying52 hi z B C rfl (by decide) v ls.length s i
  (some ⟨k,0,none⟩) 1 1 [.slice p x.length c] rfl (fun h=>by cases h) (by
    intro ad had;cases had;exact World.news_of_block (cs:=#[.slice p x.length c]) (t := 37) (fr:=(0,0)) hk) (by simp[Value.oneCell']) (by unfold maxLen;omega) (by omega)
 have m:Step w τ w' τ' (fun t=>t=g):=⟨G.mono (fun k hk J=>(i.own k J).1),Z⟩
 have hxl:s.length=ls.length:=by have:=i.1;omega
 refine⟨r,w',τ',hr,⟨?_,fun k hk=>?_⟩,⟨l.mod.seq G (fun k hk J=>absurd (d.low k J) (by omega)),l.ext.trans Z l.size⟩,m,G⟩
 ·have L:Buf w' τ' g 37 1 r (ls++[x]).length (s++[.slice p x.length c]):=by rw[Z6];exact F
  refine L.waits (fun j y o=>?_)
  by_cases M:j<ls.length
  ·rw[Y5 M] at o
   obtain⟨a,u,hu,N⟩:=E j y o
   exact⟨a,u,by rw[Y5 (by omega)];exact hu,N.step m (fun e=>U e.symm)⟩
  ·rw[Y6 (by omega)] at o
   have O:j-ls.length=0:=by
    have:=(Z4 o).1
    simp at this;omega
   rw[O] at o
   have R:x=y:=by simpa using o
   subst R
   refine⟨q,_,by rw[Y6 (by omega),show j-s.length=0 by omega];rfl,X.step m (fun e=>U e.symm)⟩
 ·rcases I k hk with h|h
  ·exact d.low k h
  ·have:=l.size;omega
theorem Qjk {S:Tag->Prop}(j:Step w0 τ0 w τ S) {g:Tag}(p:g≠tData) {v u:Value}{ls:List (List Int)}{x:List Int}(d:NR w0.heap.size w τ g v ls) (q:Bytes w τ tData u x) (e:x.length=128) (l:ls.length<=1000000000) {k:Nat}
 (hk:w.heap[k]?=some (.cells #[u] 37 (0,0)))
 {ops:Array Oper} {rest:List Oper} {o:Oper} {a:Act} {Q:Exit->Act->World->Prop} (m:o.guard=none) (s y:Operand)
 (r:o.op = .call {callee:=.builtin .append,args:=#[s,y],argTypes:=#[52,52]}) (z:a.eval s=v) (B:a.eval y = .slice (some ⟨k,0,none⟩) 1 1)
 (h:∀i w' τ',NR w0.heap.size w' τ' g i (ls++[x])->Step w0 τ0 w' τ' S->Step w τ w' τ' (fun t=>t=g)->wpList Tryz.prog ops Q rest (a.put o.dst i) w'):wpList Tryz.prog ops Q (o::rest) a w:=by
 refine wpList_plain m fun K C=>?_
 obtain⟨i,w',τ',E,h2,F,G,-⟩:=Qdn j p d q e l hk o.type
 unfold Oper.wp execOp
 simp only[r,resolve,invoke,builtin,Sem.run_bind,Sem.run_pure,Result.andThen_ok,List.map_toArray,X1,List.map_nil,z,B,E]
 exact C _ _ (h i w' τ' h2 F G)
theorem Ql6 {S:Tag->Prop}(j:Step w0 τ0 w τ S) {g:Tag}(p:g≠tData) {v u:Value}{ls:List (List Int)}{x:List Int}(d:NR w0.heap.size w τ g v ls) (q:Bytes w τ tData u x) (e:x.length=128) (l:ls.length<=1000000000) {k:Nat}
 (hk:w.heap[k]?=some (.cells #[u] 37 (0,0)))
 {ops:Array Oper} {o:Oper} {a:Act} {K:Act->World->Prop} {Q:Exit->Act->World->Prop} {E:Prop} (m:o.guard=none) (s y:Operand)
 (r:o.op = .call {callee:=.builtin .append,args:=#[s,y],argTypes:=#[52,52]}) (z:a.eval s=v) (B:a.eval y = .slice (some ⟨k,0,none⟩) 1 1)
 (h:∀i w' τ',NR w0.heap.size w' τ' g i (ls++[x])->Step w0 τ0 w' τ' S->Step w τ w' τ' (fun t=>t=g)->K (a.put o.dst i) w'):if Region.wanted o (yielded ops a.tmps)=true then Oper.wp Tryz.prog o a w K Q else E:=by
 have C:Region.wanted o (yielded ops a.tmps)=true:=by simp[Region.wanted,m]
 rw[if_pos C]
 obtain⟨i,w',τ',F,h2,G,I,-⟩:=Qdn j p d q e l hk o.type
 unfold Oper.wp execOp
 simp only[r,resolve,invoke,builtin,Sem.run_bind,Sem.run_pure,Result.andThen_ok,List.map_toArray,X1,List.map_nil,z,B,F]
 exact h i w' τ' h2 G I
theorem NR.alloc {ls:List (List Int)}(h:NR n0 w τ g v ls) (o:Obj):NR n0 (w.alloc o) τ g v ls:=h.step ((Step.refl w τ Go.Proofs.YtemacanaihaldaaGreat.nil).alloc' o) (fun h=>h) (fun h=>h)
theorem Bytes.alloc {l:List Int}(h:Bytes w τ g v l) (o:Obj):Bytes (w.alloc o) τ g v l:=h.step ((Step.refl w τ Go.Proofs.YtemacanaihaldaaGreat.nil).alloc' o) (fun h=>h)
theorem NB.alloc {l:List Int}(h:NB n0 w τ g v l) (o:Obj):NB n0 (w.alloc o) τ g v l:=h.step ((Step.refl w τ Go.Proofs.YtemacanaihaldaaGreat.nil).alloc' o) (fun h=>h)
theorem Qbz {S:Tag->Prop}(j:Step w0 τ0 w τ S) {g:Tag}(p:g≠tData) {v u:Value}{ls:List (List Int)}{x:List Int}(d:NR w0.heap.size w τ g v ls) (q:Bytes w τ tData u x) (e:x.length=128) (k:ls.length<=1000000000) {kb:Nat}(l:kb=w.heap.size)
 {ops:Array Oper} {rest:List Oper} {o:Oper} {a:Act} {Q:Exit->Act->World->Prop} (m:o.guard=none) (s y:Operand)
 (r:o.op = .call {callee:=.builtin .append,args:=#[s,y],argTypes:=#[52,52]}) (z:a.eval s=v) (B:a.eval y = .slice (some ⟨kb,0,none⟩) 1 1)
 (h:∀i w' τ',NR w0.heap.size w' τ' g i (ls++[x])->Step w0 τ0 w' τ' S->Step w τ w' τ' (fun t=>t=g)->wpList Tryz.prog ops Q rest (a.put o.dst i) w'):wpList Tryz.prog ops Q (o::rest) a (w.alloc (.cells #[u] 37)):=by
 subst l
 refine Qjk (j.alloc' (.cells #[u] 37)) p (d.alloc _) (q.alloc _) e k (heap_alloc_new w _) m s y r z B (fun i w' τ' h1 h2 C=>h i w' τ' h1 h2 ?_)
 exact((Step.refl w τ _).alloc' _).trans C
theorem Qkk {S:Tag->Prop}(j:Step w0 τ0 w τ S) {g:Tag}(p:g≠tData) {v u:Value}{ls:List (List Int)}{x:List Int}(d:NR w0.heap.size w τ g v ls) (q:Bytes w τ tData u x) (e:x.length=128) (k:ls.length<=1000000000) {kb:Nat}(l:kb=w.heap.size)
 {ops:Array Oper} {o:Oper} {a:Act} {K:Act->World->Prop} {Q:Exit->Act->World->Prop} {E:Prop} (m:o.guard=none) (s y:Operand)
 (r:o.op = .call {callee:=.builtin .append,args:=#[s,y],argTypes:=#[52,52]}) (z:a.eval s=v) (B:a.eval y = .slice (some ⟨kb,0,none⟩) 1 1)
 (h:∀i w' τ',NR w0.heap.size w' τ' g i (ls++[x])->Step w0 τ0 w' τ' S->Step w τ w' τ' (fun t=>t=g)->K (a.put o.dst i) w'):if Region.wanted o (yielded ops a.tmps)=true then Oper.wp Tryz.prog o a (w.alloc (.cells #[u] 37)) K Q else E:=by
 subst l
 refine Ql6 (j.alloc' (.cells #[u] 37)) p (d.alloc _) (q.alloc _) e k (heap_alloc_new w _) m s y r z B (fun i w' τ' h1 h2 C=>h i w' τ' h1 h2 ?_)
 exact((Step.refl w τ _).alloc' _).trans C
def Qcu (ls:List (List Int)):Nat->List Int
 | 0=>[]
 | i+1=>Qcu ls i++(((ls.getD i []).drop 8).take (120-8))
def okTo (ls:List (List Int)) (s:Nat):Nat->Bool
 | 0=>true
 | i+1=>okTo ls s i && (lowMark (ls.getD i [])==s && highMark (ls.getD i [])==s)
def sealStamp (ls:List (List Int)):Nat:=lowMark (ls.getD 0 [])
def Qb3 (ls:List (List Int)):Bool:=okTo ls (sealStamp ls) 4
def Qjt (ls:List (List Int)):List Int:=Qcu ls 4
def OpenD (w:World) (τ:Tags) (g:Tag) (ls:List (List Int)) (e:Ending) (w':World):Prop :=
 ∃τ',Step w τ w' τ' nil/\((Qb3 ls=true/\∃u,e = .returned (.tuple #[u,.int .u64 (sealStamp ls:Int),.bool true])/\Bytes w' τ' g u (Qjt ls)) \/
   (Qb3 ls=false/\e = .returned (.tuple #[.slice none 0 0,.int .u64 0,.bool false])))
theorem Qh0 (ls:List (List Int)) (s i:Nat):okTo ls s (i+1)=(okTo ls s i && (lowMark (ls.getD i [])==s && highMark (ls.getD i [])==s)):=rfl
theorem Qq1 {ls:List (List Int)} {s i:Nat}(h:okTo ls s i=false):∀n,i<=n->okTo ls s n=false:=by
 intro n hn
 induction n with
 | zero =>
    obtain rfl:i=0:=by omega
    exact h
 | succ n ih =>
   by_cases e:i=n+1
   ·subst e;exact h
   ·rw[Qh0,ih (by omega),Bool.false_and]
theorem Qib {ls:List (List Int)}(h:∀(k:Nat) (x:List Int),ls[k]?=some x->x.length=128) (i:Nat) (hi:i<=ls.length):(Qcu ls i).length=112*i:=by
 induction i with
 | zero=>rfl
 | succ i ih =>
   have d:ls[i]?=some (ls.getD i []):=by rw[Z5,Z3 (by omega)];rfl
   have:=h i _ d
   show (Qcu ls i++_).length=_
   rw[Z6,ih (by omega),List.length_take,List.length_drop,this]
   omega
theorem Qnz {ls:List (List Int)}(h:Waits w τ g v ls) (g':Tag) (h4:ls.length=4) :
 Calls Tryz.prog 127 #[v] w (OpenD w τ g' ls):=by
 obtain⟨p,c,rfl,hm,hr⟩:=h.read
 have Hr:=Z2 hr
 rw[h4]
 obtain⟨x0,X⟩:∃x,ls[0]?=some x:=⟨_,Z3 (by omega)⟩
 obtain⟨d,b,u0,rfl,aa,G⟩:=hr 0 x0 X
 have lb:=cell_lt aa
 obtain⟨pu,cu,rfl,-,-⟩:=G.any
 rw[d] at G aa
 have I:=Qlc G
 have l:lowMark x0=sealStamp ls:=by unfold sealStamp;rw[Z5,X];rfl
 have O:∀(k:Nat) (x:List Int),ls[k]?=some x->x.length=128:=fun k x hx=>(hr k x hx).1
 rw[l] at I
 generalize highMark x0=hm2 at I
 generalize hs:sealStamp ls=s at *
 obtain⟨aj,H4,ab,Hs⟩:=hid4 I h4 O hs
 clear I h4 O hs hr G X hm h d l
 go_enter Tryz.func127,Tryz.ntmps127
 go_wp2_with fail
 refine aj.out.mono ?_
 rintro e w' ⟨rfl,rfl⟩
 go_wp2_with fail
 go_loopw [8,27] (fun m v wr=>∃(i:Nat) (E:Tags),i<=4/\v = .int .i64 (i:Int)/\NB w.heap.size wr E g' m (Qcu ls i)/\Step w τ wr E nil/\Hid (okTo ls s i=true)) (fun _ v _=>4-(intOf v).toNat)
 case atStart=>exact⟨0,τ,Z9 _,rfl,NB.nil _ _ _ _,(Step.refl _ _ _).drew,Z2 rfl⟩
 case round =>
  obtain⟨i,E,hi,rfl,j,l,HO⟩:=hrel
  by_cases al:i<4
  ·obtain⟨x,hx⟩:∃x,ls[i]?=some x:=⟨_,Z3 (by rw[H4.out];exact al)⟩
   obtain⟨d,b',u,am,hc,hb⟩:=Hr.out i x hx
   cases am
   have c1:=(l.no.cell b i lb (fun h=>h)).trans hc
   have F:=hb.step l (fun h=>h)
   obtain⟨bb,oo,cu,rfl,ao,h2c,-⟩:=F.pos (by omega)
   rw[d] at F c1
   have J:=Qlc F
   have L:ls.getD i []=x:=by rw[Z5,hx];rfl
   have y:okTo ls s (i+1)=(lowMark x==s && highMark x==s):=by
    rw[Qh0,HO.out,L,Bool.true_and]
   have Y:Qcu ls (i+1)=Qcu ls i++((x.drop 8).take (120-8)):=by
    show Qcu ls i++(((ls.getD i []).drop 8).take (120-8))=_
    rw[L]
   have Z:=F.drew.sub 8 120 (cu-8) (by omega) (by omega) (by omega) (by omega)
   have z:((x.drop 8).take (120-8)).length=112:=by rw[List.length_take,List.length_drop];omega
   have M:=Qib ab.out i (by rw[H4.out];omega)
   have e1:112<=cu:=by omega
   have e2:120<=cu:=by omega
   have e3:(120:Int)<=(cu:Int):=by omega
   have e4:¬cu=8:=by omega
   generalize hp:(x.drop 8).take (120-8)=part at *
   generalize lowMark x=m1 at *
   generalize highMark x=m2 at *
   have a1:(Qcu ls i).length+part.length<=100000000000:=by omega
   have o:=j.drew
   have B:=l.drew
   obtain⟨pm,cm,rfl⟩:=j.val
   rw[d] at ao
   by_cases q:m1=s/\m2=s
   ·obtain⟨rfl,aq⟩:=q
    subst aq
    have r:okTo ls m2 (i+1)=true:=by rw[y];simp
    rw[M] at j o
    have N:=Z2 J
    have a6:=Z2 o
    have C:=Z2 B
    obtain⟨ar,ac,av,aw,ax,Hlen2,Hp⟩:=hid7 Z r Y a1 M z hp
    clear J o B Z r Y a1 M z hp j l F hb hc hx d y L
    rw[ax.out]
    go_wp2_with fail
    refine N.out.mono ?_
    rintro e w' ⟨rfl,rfl⟩
    go_wp2_with (at_builtin;refine Qal C.out a6.out ar.out aw.out rfl _ _ rfl rfl rfl ?_;intro v' w' τ' hb he ad;obtain⟨Hb,He,Hmo⟩:=hid3 hb he ad;clear hb he ad)
    go_round
    case rel=>exact⟨i+1,τ',by omega,by simp,by rw[av.out];exact Hb.out,He.out,Z2 ac.out⟩
    case measure=>simp[intOf];omega
   ·have r:okTo ls s (i+1)=false:=by
     rw[y]
     by_cases h1:m1=s
     ·have h2:¬m2=s:=fun h=>q ⟨h1,h⟩
      simp[h2]
     ·simp[h1]
    have ae:=Qq1 r 4 (by omega)
    have R:Qb3 ls=false:=by unfold Qb3;rw[Hs.out];exact ae
    have N:=Z2 J
    have C:=Z2 B
    have U:=Z2 R
    clear J B R j o l F hb hc hx d y L r Y a1 M z Z ae hp
    by_cases h1:m1=s
    ·have h2:¬m2=s:=fun h=>q ⟨h1,h⟩
     subst h1
     have b1:((m2:Int) != (m1:Int))=true:=by rw[bne_iff_ne];omega
     clear q h2
     go_wp2_with fail
     refine N.out.mono ?_
     rintro e w' ⟨rfl,rfl⟩
     go_wp2_with fail
     go_returns
     exact⟨E,C.out,.inr ⟨U.out,rfl⟩⟩
    ·have b1:((m1:Int) != (s:Int))=true:=by rw[bne_iff_ne];omega
     clear q h1
     go_wp2_with fail
     refine N.out.mono ?_
     rintro e w' ⟨rfl,rfl⟩
     go_wp2_with fail
     go_returns
     exact⟨E,C.out,.inr ⟨U.out,rfl⟩⟩
  ·have ay:i=4:=by omega
   subst ay
   have y:Qb3 ls=true:=by unfold Qb3;rw[Hs.out];exact HO.out
   obtain⟨af,az,b0⟩:=hid3 j l y
   clear j l y
   go_wp2_with fail
   go_returns
   exact⟨E,az.out,.inl ⟨b0.out,_,by rw[Hs.out];rfl,af.out.bytes⟩⟩
def tRDev:Tag:=(40,0)
def tRRow (f:Nat):Tag:=(41,f)
def Qaz (f i:Nat):Tag:=(42,2*i+f)
def RDevTag (g:Tag):Prop:=g.1=40\/g.1=41\/g.1=42
structure RSecIn (w:World) (τ:Tags) (f i:Nat) (xs:List Value) (s:Sec):Prop where
 last:s.last.length=128/\∃v,xs[i*2]?=some v/\Bytes w τ tData v s.last
 waits:∃v,xs[i*2+1]?=some v/\Waits w τ (Qaz f i) v s.waits
def RFile (w:World) (τ:Tags) (f:Nat) (v:Value) (l:List Sec):Prop :=
 l.length<=4096/\∃xs,Buf w τ (tRRow f) 293 2 v l.length xs/\∀(i:Nat) (s:Sec),l[i]?=some s->RSecIn w τ f i xs s
structure RDevAs (w:World) (τ:Tags) (b:Nat) (D:Dev) (v0 v1:Value):Prop where
 is:∃(st:Bool) (n:Int),Own w τ b tRDev 291 [v0,v1,.bool st,.int .i64 n,.bool D.halted]/\RFile w τ 0 v0 D.f0/\RFile w τ 1 v1 D.f1 /\
  ((st=false/\D.left=none)\/∃m:Nat,st=true/\n=(m:Int)/\D.left=some m/\m<=maxLen)
def RDevAt (w:World) (τ:Tags) (b:Nat) (D:Dev):Prop:=∃v0 v1,RDevAs w τ b D v0 v1
theorem RDevAs.at(h:RDevAs w τ b D v0 v1):RDevAt w τ b D:=⟨v0,v1,h⟩
theorem RSecIn.step {S:Tag->Prop} {i:Nat} {d:List Value} {s:Sec}(h:RSecIn w τ f i d s) (m:Step w τ w' τ' S) (e:¬S (Qaz f i)) (hd:¬S tData):RSecIn w' τ' f i d s:=by
 obtain⟨⟨a,v,j,k⟩,⟨u,hu,l⟩⟩:=h
 exact⟨⟨a,v,j,k.step m hd⟩,⟨u,hu,l.step m e hd⟩⟩
theorem RFile.step {S:Tag->Prop} {l:List Sec}(h:RFile w τ f v l) (m:Step w τ w' τ' S) (d:¬S (tRRow f)) (e:∀i,¬S (Qaz f i)) (hd:¬S tData):RFile w' τ' f v l:=by
 obtain⟨h1,j,k,o⟩:=h
 exact⟨h1,j,k.step m d,fun i s hi=>(o i s hi).step m (e i) hd⟩
theorem RDevAs.step {S:Tag->Prop}(h:RDevAs w τ b D v0 v1) (m:Step w τ w' τ' S) (j:∀g,S g->¬RDevTag g/\g≠tData):RDevAs w' τ' b D v0 v1:=by
 obtain⟨st,n,k,h0,h1,hl⟩:=h.is
 have d:∀g,RDevTag g->¬S g:=fun g l e=>(j g e).1 l
 have hd:¬S tData:=fun e=>(j _ e).2 rfl
 exact⟨st,n,k.step m (d _ (.inl rfl)),h0.step m (d _ (.inr (.inl rfl))) (fun i=>d _ (.inr (.inr rfl))) hd,h1.step m (d _ (.inr (.inl rfl))) (fun i=>d _ (.inr (.inr rfl))) hd,hl⟩
theorem RDevAt.step {S:Tag->Prop}(h:RDevAt w τ b D) (m:Step w τ w' τ' S) (d:∀g,S g->¬RDevTag g/\g≠tData):RDevAt w' τ' b D:=by
 obtain⟨v0,v1,h⟩:=h
 exact⟨v0,v1,h.step m d⟩
theorem RDevAs.file(h:RDevAs w τ b D v0 v1) (f:Nat) (hf:f<2) :
 w.cell? ⟨b,f,none⟩=some (fileV v0 v1 f)/\RFile w τ f (fileV v0 v1 f) (D.file f):=by
 obtain⟨st,n,d,h0,h1,hl⟩:=h.is
 rcases (by omega:f=0\/f=1) with rfl|rfl
 ·exact⟨d.at 0 rfl,h0⟩
 ·exact⟨d.at 1 rfl,h1⟩
theorem RFile.len {l:List Sec}(h:RFile w τ f v l):∃p c,v = .slice p l.length c:=by
 obtain⟨_,xs,d,_⟩:=h
 exact d.len
theorem RFile.lenp {l:List Sec}(h:RFile w τ f v l) (h0:0<l.length):∃bf c d ys,v = .slice (some ⟨bf,0,none⟩) l.length c/\l.length<=c/\Own w τ bf (tRRow f) 293 (d++ys)/\d.length=l.length*2/\∀(i:Nat) (s:Sec),l[i]?=some s->RSecIn w τ f i d s:=by
 obtain⟨_,d,⟨h1,⟨_,h2⟩|⟨bf,c,ys,e,j,h3,k,h5⟩⟩,m⟩:=h
 ·omega
 ·exact⟨bf,c,d,ys,e,k,j,h1,m⟩
theorem Qo9(h:RDevAs w τ b D v0 v1) :
 Calls Tryz.prog 284 #[.pointer (some ⟨b,0,none⟩)] w fun e w'=>e = .returned (.bool (!D.go.1))/\RDevAs w' τ b D.go.2 v0 v1/\Step w τ w' τ (fun t=>t=tRDev):=by
 obtain⟨st,n,d,h0,h1,hl⟩:=h.is
 have c2:=d.at 2 (v:=.bool st) rfl
 have c3:=d.at 3 (v:=.int .i64 n) rfl
 have c4:=d.at 4 (v:=.bool D.halted) rfl
 have f3:=d.fz 3
 have f4:=d.fz 4
 rcases hl with ⟨rfl,hn⟩|⟨m,rfl,rfl,hn,p⟩
 ·have k:D.go=(true,D):=by simp[Dev.go,hn]
  rw[k]
  have l:=Z2 h
  clear h k d h0 h1 hn
  go_enter Tryz.func284,Tryz.ntmps284
  go_wp2
  go_ret
  exact⟨rfl,l.out,Step.refl _ _ _⟩
 ·cases m with
  | zero =>
    have k:D.go=(false,{D with halted:=true}):=by simp[Dev.go,hn]
    rw[k]
    have j:Step w τ (w.setCell ⟨b,4,none⟩ (.bool true)) τ (fun t=>t=tRDev):=(Step.refl w τ (fun t=>t=tRDev)).set d.tag rfl _
    have hd:RDevAs (w.setCell ⟨b,4,none⟩ (.bool true)) τ b {D with halted:=true} v0 v1 :=
     ⟨true,0,d.set 4 _,h0.step j (by simp[tRRow,tRDev]) (by simp[Qaz,tRDev]) (by decide),h1.step j (by simp[tRRow,tRDev]) (by simp[Qaz,tRDev]) (by decide),.inr ⟨0,rfl,rfl,hn,p⟩⟩
    obtain⟨o,i⟩:=hid2 hd j
    clear hd j k d h0 h1 hn h
    go_enter Tryz.func284,Tryz.ntmps284
    go_wp2
    go_ret
    exact⟨rfl,o.out,i.out⟩
  | succ m =>
    have k:D.go=(true,{D with left:=some m}):=by simp[Dev.go,hn]
    rw[k]
    have j:Step w τ (w.setCell ⟨b,3,none⟩ (.int .i64 (m:Int))) τ (fun t=>t=tRDev):=(Step.refl w τ (fun t=>t=tRDev)).set d.tag rfl _
    have hd:RDevAs (w.setCell ⟨b,3,none⟩ (.int .i64 (m:Int))) τ b {D with left:=some m} v0 v1 :=
     ⟨true,m,d.set 3 _,h0.step j (by simp[tRRow,tRDev]) (by simp[Qaz,tRDev]) (by decide),h1.step j (by simp[tRRow,tRDev]) (by simp[Qaz,tRDev]) (by decide),.inr ⟨m,rfl,rfl,rfl,by omega⟩⟩
    have hmx:m+1<=9223372036854775807:=by have:=p;unfold maxLen at this;omega
    obtain⟨o,i⟩:=hid2 hd j
    clear hd j k d h0 h1 hn h
    go_enter Tryz.func284,Tryz.ntmps284
    go_wp2
    go_ret
    exact⟨rfl,o.out,i.out⟩
theorem Qr7 {l:List Int}(h:Bytes w τ g v l) (o:Tag) (d:l.length<=100000000) :
 Calls Tryz.prog 283 #[v] w fun e w'=>∃u τ',e = .returned u/\Bytes w' τ' o u l/\Step w τ w' τ' nil:=by
 obtain⟨p,c,rfl,hc1,hc2⟩:=h.any
 obtain⟨k,i⟩:=hid2 h d
 clear h d
 go_enter Tryz.func283,Tryz.ntmps283
 go_wp2_with (at_builtin;refine Qal (Step.refl w τ nil) (NB.nil _ w τ o) k.out (by have:=i.out;simp;omega) rfl _ _ rfl rfl rfl ?_;intro v' w' τ' q j hs2;obtain⟨r,m⟩:=hid2 q j;clear q j)
 go_ret
 exact⟨_,τ',rfl,by have:=r.out.bytes;simpa using this,m.out⟩
theorem Qks(h:RDevAs w τ b D v0 v1) (f:Nat) (j:f<2) (k:Nat) (hk:k<(D.file f).length) :
 Calls Tryz.prog 282 #[.pointer (some ⟨b,0,none⟩),.int .u8 (f:Int),.int .i64 (k:Int)] w fun e w'=>e = .returned (.bool false)/\w=w':=by
 obtain⟨l,d⟩:=h.file f j
 obtain⟨p,c,i⟩:=d.len
 rw[i] at l
 have a1:decide ((1:Int)<(f:Int))=false:=by simp;omega
 generalize (D.file f).length=n at *
 have a2:decide ((n:Int)<=(k:Int))=false:=by simp;omega
 clear h d i
 go_enter Tryz.func282,Tryz.ntmps282
 go_wp2_with fail
 go_ret
 refine⟨?_,rfl⟩
 show Ending.returned (.bool (decide ((k:Int)<0) || decide (n<=k)))=_
 rw[decide_eq_false (show ¬(k:Int)<0 by omega),decide_eq_false (show ¬n<=k by omega)];rfl
theorem Jam(h:RDevAs w τ b D v0 v1) (f:Nat) (j:f<2) :
 Calls Tryz.prog 175 #[.pointer (some ⟨b,0,none⟩),.int .u8 (f:Int)] w fun e w'=>e = .returned (.int .i64 ((D.file f).length:Int))/\w=w':=by
 obtain⟨k,d⟩:=h.file f j
 obtain⟨p,c,i⟩:=d.len
 rw[i] at k
 have a1:decide ((1:Int)<(f:Int))=false:=by simp;omega
 generalize (D.file f).length=n at *
 clear h d i
 go_enter Tryz.func175,Tryz.ntmps175
 go_wp2_with fail
 go_ret
 exact⟨rfl,rfl⟩
theorem Qxb(h:RDevAs w τ b D v0 v1) :
 Calls Tryz.prog 291 #[.pointer (some ⟨b,0,none⟩)] w fun e w'=>e = .returned (.bool D.halted)/\w=w':=by
 obtain⟨st,n,d,-,-,-⟩:=h.is
 have c4:=d.at 4 (v:=.bool D.halted) rfl
 clear h d
 go_enter Tryz.func291,Tryz.ntmps291
 go_wp2_with fail
 go_ret
 exact⟨rfl,rfl⟩
theorem Tryz.infoRSector:(Tryz.prog.info? 293).map (fun i=>(i.zero,i.size,i.bytes))=some (some (.agg #[.slice none 0 0,.slice none 0 0]),2,48):=by kernel_rfl
theorem RSecIn.set {i j:Nat} {e:List Value} {s:Sec}(h:RSecIn w τ f i e s) (k:j≠i*2) (d:j≠i*2+1) (v:Value):RSecIn w τ f i (e.set j v) s:=by
 obtain⟨⟨a,v,l,m⟩,⟨u,hu,o⟩⟩:=h
 exact⟨⟨a,v,by rw[List.getElem?_set_ne k];exact l,m⟩,⟨u,by rw[List.getElem?_set_ne d];exact hu,o⟩⟩
theorem Qo5 {t:TypeId} {d:List Value}(h:Own w τ b g t d) {o:Nat}{v:Value}(j:d[o]?=some v):w.setCell ⟨b,o,none⟩ v=w:=by
 have k:d.set o v=d:=by
  obtain⟨l,rfl⟩:=Z4 j
  exact List.set_getElem_self l
 have hh:(w.setCell ⟨b,o,none⟩ v).heap=w.heap:=by
  apply Array.ext_getElem?
  intro i
  by_cases e:i=b
  ·subst e
   rw[(h.set o v).row,h.row,k]
  ·exact Below.heap_setCell _ _ _ _ e
 cases w
 simp only[World.setCell] at hh ⊢
 rw[hh]
theorem RDevAs.lay {x:World} {d:Tags}(h:RDevAs w τ b D v0 v1) (f:Nat) (hf:f<2) {k bf n c:Nat}(hk:k<(D.file f).length) (F:fileV v0 v1 f = .slice (some ⟨bf,0,none⟩) n c)
 {S:Tag->Prop} (m:Step w τ x d S) (O:∀g,S g->g=Qaz f k) {v u:Value} {s':Sec} (hb:Bytes x d tData v s'.last) (hl:s'.last.length=128) (hw:Waits x d (Qaz f k) u s'.waits) :
 RDevAs ((x.setCell ⟨bf,k*2,none⟩ v).setCell ⟨bf,k*2+1,none⟩ u) d b (D.put f ((D.file f).set k s')) v0 v1/\Step x d ((x.setCell ⟨bf,k*2,none⟩ v).setCell ⟨bf,k*2+1,none⟩ u) d (fun g=>g=tRRow f):=by
 obtain⟨cf,j⟩:=h.file f hf
 obtain⟨bf',c',R,ys,z,G,ho,U,I⟩:=j.lenp (by omega)
 rw[F] at z
 simp only[Value.slice.injEq,Option.some.injEq,Addr.mk.injEq] at z
 obtain⟨⟨rfl,-,-⟩,rfl,rfl⟩:=z
 have o:∀g:Tag,(∀i,g≠Qaz f i)->¬S g:=fun g hg B=>hg k (O g B)
 have J:¬S (tRRow f):=o _ (fun i=>by simp[tRRow,Qaz])
 have p:¬S tData:=o _ (fun i=>by simp[tData,Qaz])
 have C:=ho.step m J
 have E:Step x d ((x.setCell ⟨bf,k*2,none⟩ v).setCell ⟨bf,k*2+1,none⟩ u) d (fun g=>g=tRRow f):=((Step.refl x d (fun g=>g=tRRow f)).set C.tag rfl v).set (C.set (k*2) v).tag rfl u
 have L:=(C.set (k*2) v).set (k*2+1) u
 have hlx:k*2+1<R.length:=by omega
 have M:((R++ys).set (k*2) v).set (k*2+1) u=(R.set (k*2) v).set (k*2+1) u++ys:=by
  rw[List.set_append_left _ _ (by omega),List.set_append_left _ _ (by rw[Y1];omega)]
 rw[M] at L
 have q:RFile ((x.setCell ⟨bf,k*2,none⟩ v).setCell ⟨bf,k*2+1,none⟩ u) d f (.slice (some ⟨bf,0,none⟩) (D.file f).length c) ((D.file f).set k s'):=by
  refine⟨by rw[Y1];exact j.1,(R.set (k*2) v).set (k*2+1) u,⟨by simp only[Y1];exact U,.inr ⟨bf,c,ys,by rw[Y1],L,?_,by rw[Y1];exact G,?_⟩⟩,fun i s hi=>?_⟩
  ·obtain⟨_,X,⟨h1,⟨h2,_⟩|⟨Y,Z,a1,l,N,h3,h4,h5⟩⟩,_⟩:=j
   ·rw[F] at h2;cases h2
   ·rw[F] at l
    simp only[Value.slice.injEq,Option.some.injEq,Addr.mk.injEq] at l
    obtain⟨⟨rfl,-,-⟩,-,rfl⟩:=l
    have e:=ho.row.symm.trans N.row
    simp only[Option.some.injEq,Obj.cells.injEq,Array.mk.injEq] at e
    have:=congrArg List.length e.1
    simp only[Z6,Y1] at this ⊢
    omega
  ·obtain⟨_,X,⟨h1,⟨h2,_⟩|⟨Y,Z,a1,l,N,h3,h4,h5⟩⟩,_⟩:=j
   ·rw[F] at h2;cases h2
   ·rw[F] at l
    simp only[Value.slice.injEq,Option.some.injEq,Addr.mk.injEq] at l
    obtain⟨-,-,rfl⟩:=l
    exact h5
  ·by_cases e:k=i
   ·subst e
    rw[List.getElem?_set_self hk] at hi
    cases hi
    refine⟨⟨hl,v,?_,hb.step E (by simp[tData,tRRow])⟩,⟨u,?_,hw.step E (by simp[Qaz,tRRow]) (by simp[tData,tRRow])⟩⟩
    ·rw[List.getElem?_set_ne (by omega),List.getElem?_set_self (by omega)]
    ·rw[List.getElem?_set_self (by rw[Y1];omega)]
   ·rw[List.getElem?_set_ne e] at hi
    exact((((I i s hi).step m (fun B=>by have:=O _ B;simp[Qaz] at this;omega) p).step E (by simp[Qaz,tRRow]) (by simp[tData,tRRow])).set (by omega) (by omega) v).set (by omega) (by omega) u
 obtain⟨st,n,a6,h0,h1,r⟩:=h.is
 have y:=(a6.step m (o _ (fun i=>by simp[tRDev,Qaz]))).step E (by simp[tRDev,tRRow])
 refine⟨?_,E⟩
 rw[<-F] at q
 rcases (by omega:f=0\/f=1) with rfl|rfl
 ·refine⟨st,n,y,q,?_,r⟩
  exact(h1.step m (o _ (fun i=>by simp[tRRow,Qaz])) (fun i B=>by have:=O _ B;simp[Qaz] at this;omega) p).step E (by simp[tRRow]) (fun i=>by simp[Qaz,tRRow]) (by simp[tData,tRRow])
 ·refine⟨st,n,y,?_,q,r⟩
  exact(h0.step m (o _ (fun i=>by simp[tRRow,Qaz])) (fun i B=>by have:=O _ B;simp[Qaz] at this;omega) p).step E (by simp[tRRow]) (fun i=>by simp[Qaz,tRRow]) (by simp[tData,tRRow])
theorem RDevAs.wait {e:World} {d:Tags}(h:RDevAs w τ b D v0 v1) (f:Nat) (C:f<2) {k bf n c:Nat}{s:Sec}(hk:(D.file f)[k]?=some s) (E:fileV v0 v1 f = .slice (some ⟨bf,0,none⟩) n c)
 {S:Tag->Prop} (m:Step w τ e d S) (r:∀g,S g->g=Qaz f k) {u:Value} {x:List (List Int)} (F:Waits e d (Qaz f k) u x) :
 RDevAs (e.setCell ⟨bf,k*2+1,none⟩ u) d b (D.put f ((D.file f).set k ⟨s.last,x⟩)) v0 v1/\Step e d (e.setCell ⟨bf,k*2+1,none⟩ u) d (fun g=>g=tRRow f):=by
 have y:=(Z4 hk).1
 obtain⟨cf,i⟩:=h.file f C
 obtain⟨bf',c',xs,ys,j,hcap,G,hxl,o⟩:=i.lenp (by omega)
 rw[E] at j
 simp only[Value.slice.injEq,Option.some.injEq,Addr.mk.injEq] at j
 obtain⟨⟨rfl,-,-⟩,rfl,rfl⟩:=j
 obtain⟨⟨a,v,z,I⟩,-⟩:=o k s hk
 have p:¬S (tRRow f):=fun B=>by have:=r _ B;simp[tRRow,Qaz] at this
 have q:¬S tData:=fun B=>by have:=r _ B;simp[tData,Qaz] at this
 have l:e.setCell ⟨bf,k*2,none⟩ v=e:=by
  exact Qo5 (G.step m p) (by rw[Y5 (by omega)];exact z)
 have:=h.lay f C y E m r (s':=⟨s.last,x⟩) (I.step m q) a F
 rw[l] at this
 exact this
theorem Qmc {u:Value} {l:List Sec} {x:List Int}(j:RFile w τ f v l) (M:Bytes w τ tData u x) (m:x.length=128) (hsz:l.length<4096) {k:Nat}
 (hk:w.heap[k]?=some (.cells #[u,.slice none 0 0] 293 (0,0))) (N:TypeId) :
 ∃r w' τ',(Builtin.append_ #[288,288] N #[v,.slice (some ⟨k,0,none⟩) 1 1]).run Tryz.prog w = .ok r w'/\RFile w' τ' f r (l++[⟨x,[]⟩])/\Step w τ w' τ' (fun t=>t=tRRow f):=by
 obtain⟨i0,hi,y,z,B⟩:=info_parts Tryz.infoRSector
 obtain⟨hl,C,d,E⟩:=j
 obtain⟨p,c,rfl,_⟩:=M.any
 obtain⟨r,w',τ',O,F,R,U,hnw⟩:=Qap (P:=Tryz.prog) w τ (tRRow f) 288 N 293 i0 (.agg #[.slice none 0 0,.slice none 0 0]) 2 48 Tryz.underlying288 hi y z B rfl (by decide) v l.length C d
  (some ⟨k,0,none⟩) 1 1 [.slice p x.length c,.slice none 0 0] rfl (fun h=>by cases h) (by
    intro ad had;cases had;exact World.news_of_block (cs:=#[.slice p x.length c,.slice none 0 0]) (t := 293) (fr:=(0,0)) hk) (by simp[Value.oneCell']) (by unfold maxLen;omega) (by omega)
 have e:Step w τ w' τ' (fun t=>t=tRRow f):=⟨U.mono (fun k hk X=>(d.own k X).1),R⟩
 have o:C.length=l.length*2:=d.1
 refine⟨r,w',τ',O,⟨by simp;omega,C++[.slice p x.length c,.slice none 0 0],by rw[Z6];exact F,fun i s hi=>?_⟩,e⟩
 by_cases G:i<l.length
 ·rw[Y5 G] at hi
  obtain⟨⟨a,v,Y,I⟩,⟨q,Z,J⟩⟩:=(E i s hi).step e (by simp[Qaz,tRRow]) (by simp[tData,tRRow])
  exact⟨⟨a,v,by rw[Y5 (by omega)];exact Y,I⟩,⟨q,by rw[Y5 (by omega)];exact Z,J⟩⟩
 ·have L:i=l.length:=by
   have:=(Z4 hi).1
   simp at this;omega
  subst L
  rw[Y6 (Z0 _),Nat.sub_self] at hi
  cases hi
  refine⟨⟨m,_,?_,M.step e (by simp[tData,tRRow])⟩,⟨_,?_,.inl ⟨rfl,rfl⟩⟩⟩
  ·rw[Y6 (by omega),o,Nat.sub_self];rfl
  ·rw[Y6 (by omega),o,show l.length*2+1-l.length*2=1 by omega];rfl
theorem RDevAs.grow {k:World} {d:Tags}(h:RDevAs w τ b D v0 v1) (f:Nat) (hf:f<2) {S:Tag->Prop}(m:Step w τ k d S) (r:∀g,S g->g=tRRow f) {u:Value}{l:List Sec}(hl:RFile k d f u l) :
 RDevAs (k.setCell ⟨b,f,none⟩ u) d b (D.put f l) (if f=0 then u else v0) (if f=0 then v1 else u)/\Step k d (k.setCell ⟨b,f,none⟩ u) d (fun g=>g=tRDev):=by
 obtain⟨st,n,s,h0,h1,j⟩:=h.is
 have e:∀g:Tag,g≠tRRow f->¬S g:=fun g x y=>x (r g y)
 have o:=s.step m (e _ (by simp[tRDev,tRRow]))
 have q:Step k d (k.setCell ⟨b,f,none⟩ u) d (fun g=>g=tRDev):=(Step.refl k d (fun g=>g=tRDev)).set o.tag rfl u
 refine⟨?_,q⟩
 have p:=hl.step q (by simp[tRRow,tRDev]) (fun i=>by simp[Qaz,tRDev]) (by simp[tData,tRDev])
 rcases (by omega:f=0\/f=1) with rfl|rfl
 ·refine⟨st,n,o.set 0 u,p,?_,j⟩
  exact(h1.step m (e _ (by simp[tRRow])) (fun i=>e _ (by simp[Qaz,tRRow])) (e _ (by simp[tData,tRRow]))).step q (by simp[tRRow,tRDev]) (fun i=>by simp[Qaz,tRDev]) (by simp[tData,tRDev])
 ·refine⟨st,n,o.set 1 u,?_,p,j⟩
  exact(h0.step m (e _ (by simp[tRRow])) (fun i=>e _ (by simp[Qaz,tRRow])) (e _ (by simp[tData,tRRow]))).step q (by simp[tRRow,tRDev]) (fun i=>by simp[Qaz,tRDev]) (by simp[tData,tRDev])
