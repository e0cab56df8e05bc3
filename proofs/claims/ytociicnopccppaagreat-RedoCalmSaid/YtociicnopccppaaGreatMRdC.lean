/-
 Records: rows of structs that grow;the reader takes the tables.
-/
import Derived.Test.YtociicnopccppaaGreatMRdA
import Derived.Test.YtociicnopccppaaGreatMPoolT
set_option maxRecDepth 100000
set_option maxHeartbeats 40000000
set_option linter.all false
namespace Go.Proofs.YtociicnopccppaaGreat
open Go.RowKit
structure NS {α:Type} (e:TypeId) (k:Nat) (enc:α->List Value) (n0:Nat) (w:World) (τ:qa1) (g:Tag) (v:Value) (l:List α):Prop where
 buf:Buf w τ g e k v l.length (l.flatMap enc)
 low:∀k,v.ownBlock=some k->n0<=k
theorem NS.nil {α:Type}(e:TypeId) (k:Nat) (enc:α->List Value) (n0:Nat) (w:World) (τ:qa1) (g:Tag):NS e k enc n0 w τ g (.slice none 0 0) []:=⟨Buf.nil _ _ _ _ _,fun k a=>by simp[Value.ownBlock] at a⟩
theorem NS.step {α:Type}{e:TypeId}{k:Nat}{enc:α->List Value}{n0:Nat}{w b:World}{τ a:qa1}{S:Tag->Prop}{g:Tag}{v:Value}{l:List α}(h:NS e k enc n0 w τ g v l) (m:Step w τ b a S) (c:¬S g):NS e k enc n0 b a g v l:=⟨h.buf.step m c,h.low⟩
theorem NS.val {α:Type}{e:TypeId}{k:Nat}{enc:α->List Value}{n0:Nat}{w:World}{τ:qa1}{g:Tag}{v:Value}{l:List α}(h:NS e k enc n0 w τ g v l):∃p c,v = .slice p l.length c:=Buf.len h.buf
theorem Qg3 {α:Type}{enc:α->List Value}{t e:TypeId}{k d:Nat}{p:TypeInfo}{z:Value}(ht:Tryz.prog.underlying t=some (.slice e)) (hi:Tryz.prog.info? e=some p) (D:p.zero=some z) (F:p.size=k) (G:p.bytes=d) (I:z.cells.size=k) (J:0<k)
 {B w:World} {q τ:qa1} {S:Tag->Prop} (L:Step B q w τ S) {g:Tag} {v:Value} {l:List α} (r:NS e k enc B.heap.size w τ g v l) (x:α) (M:(enc x).length=k) (O:∀u∈enc x,u.oneCell'=true) (hsz:l.length<=1000000) (R:d<=1000) {kb:Nat} (U:kb=w.heap.size)
 {ops:Array Oper} {o:Oper} {a:Act} {K:Act->World->Prop} {Q:Exit->Act->World->Prop} {E:Prop} (X:o.guard=none) (s y:Operand)
 (Y:o.op = .call {callee:=.builtin .append,args:=#[s,y],argTypes:=#[t,t]}) (hs:a.eval s=v) (hy:a.eval y = .slice (some ⟨kb,0,none⟩) 1 1)
 (h:∀C n c,NS e k enc B.heap.size n c g C (l++[x])->Step B q n c S->Step w τ n c (fun t=>t=g)->K (a.put o.dst C) n):if Region.wanted o (yielded ops a.tmps)=true then Oper.wp Tryz.prog o a (w.alloc (.cells (enc x).toArray e)) K Q else E:=by
 subst U
 have hw:Region.wanted o (yielded ops a.tmps)=true:=by simp[Region.wanted,X]
 rw[if_pos hw]
 have b:=L.alloc' (.cells (enc x).toArray e)
 have i:=r.step ((Step.refl w τ Go.Proofs.YtociicnopccppaaGreat.nil).alloc' (.cells (enc x).toArray e)) id
 obtain⟨C,n,c,hr,Z,he,hm,a0⟩:=Qap (P:=Tryz.prog) (w.alloc (.cells (enc x).toArray e)) τ g t o.type e p z k d ht hi D F G I J v l.length (l.flatMap enc) i.buf
  (some ⟨w.heap.size,0,none⟩) 1 1 (enc x) (by rw[M,Nat.one_mul]) (fun h=>by cases h) (by
    intro ad had j u hu
    cases had
    exact World.news_of_block (cs:=(enc x).toArray) (t:=e) (fr:=(0,0)) (heap_alloc_new w _) j u (by simpa using hu)) O (by unfold maxLen;omega) (by
     have:(l.length+1)*d<=1000001*1000:=Nat.mul_le_mul oM R
     omega)
 unfold Oper.wp execOp
 simp only[Y,resolve,invoke,builtin,Sem.run_bind,Sem.run_pure,Result.andThen_ok,List.map_toArray,X0,List.map_nil,hs,hy,hr]
 refine h C n c ⟨?_,fun k hk=>?_⟩ ⟨b.mod.seq hm (fun k hk hS=>absurd (i.low k hS) oM),b.ext.trans he b.size⟩ (((Step.refl w τ _).alloc' _).trans ⟨hm.mono (fun k hk hS=>(i.buf.own k hS).1),he⟩)
 ·rw[Z6,List.flatMap_append,show [x].flatMap enc=enc x by simp];exact Z
 ·rcases a0 k hk with h|h
  ·exact i.low k h
  ·have:=b.size;omega
theorem Tryz.infoActive:(Tryz.prog.info? 42).map (fun i=>(i.zero,i.size,i.bytes))=some (some (.agg #[.int .u32 0,.int .u64 0,.int .u64 0,.int .u8 0]),4,32):=kR
structure qdb where
 txn:Nat
 last:Nat
 undo:Nat
 state:Nat
def Qct (x:qdb):List Value:=[.int .u32 x.txn,.int .u64 x.last,.int .u64 x.undo,.int .u8 x.state]
def Qgn (x:Nat×Nat):List Value:=[.int .u32 x.1,.int .u64 x.2]
def qgu (l:List Int):Option (qdb×List Int):=(qem 4 l).bind fun a=>(qem 8 a.2).bind fun b=>(qem 8 b.2).bind fun c=>(qem 1 c.2).bind fun d=>some (⟨a.1,b.1,c.1,d.1⟩,d.2)
def qf0 (l:List Int):Option ((Nat×Nat)×List Int):=(qem 4 l).bind fun a=>(qem 8 a.2).bind fun b=>some ((a.1,b.1),b.2)
def qeo {α:Type}(p:List Int->Option (α×List Int)):Nat->List Int->Option (List α×List Int)
 | 0,l=>some ([],l)
 | n+1,l=>(qeo p n l).bind fun x=>(p x.2).bind fun y=>some (x.1++[y.1],y.2)
theorem Qds {α:Type}{p:List Int->Option (α×List Int)}{i:Nat}{l:List Int}(h:qeo p i l=none):∀n,i<=n->qeo p n l=none:=by
 intro n hn
 induction n with
 | zero =>
    obtain rfl:i=0:=oM
    exact h
 | succ n ih =>
   by_cases e:i=n+1
   ·subst e;exact h
   ·show (qeo p n l).bind _=none
    rw[ih oM];rfl
def Qdk (l:List Int):Option ((List qdb×List (Nat×Nat))×List Int) :=
 (qem 1 l).bind fun n=>(qeo qgu n.1 n.2).bind fun t=>(qem 1 t.2).bind fun m=>(qeo qf0 m.1 m.2).bind fun d=>some ((t.1,d.1),d.2)
theorem Qhs {α:Type}{l:List α}{i:Nat}{x:α}(h:l[i]?=some x):l.set i x=l:=by
 apply List.ext_getElem?
 intro j
 by_cases e:i=j
 ·subst e
  rw[List.getElem?_set_self (Z4 h).1,h]
 ·rw[List.getElem?_set_ne e]
theorem Qrv (n:Nat) (h:n<256):IntKind.u8.wrap (n:Int)=n:=by
 have:IntKind.u8.wrap (n:Int)=n%256:=by simp[IntKind.wrap,IntKind.bits,IntKind.signed]
 rw[this];omega
def qdz:Tag:=(200,0)
def tTx:Tag:=(199,0)
def tPx:Tag:=(199,1)
def Qbn (g:Tag):Prop:=g=tRd\/g=qdz\/g=tTx\/g=tPx
theorem Qdm {g:Tag}(h:qb8 g):Qbn g:=.inl h
theorem Qql {w:World}{τ:qa1}{br bx:Nat}{g:Tag}{l:List Int}{cs:List Value}(h:qhn w τ br g l) (hg:g≠tRd) (ca:¬Qbn g) (hx:Own w τ bx qdz 73 cs) (er:cs.length=12) (ds:cs[10]?=some (.slice none 0 0)) (h11:cs[11]?=some (.slice none 0 0)) :
 Calls Tryz.prog 178 #[.pointer (some ⟨br,0,none⟩),.pointer (some ⟨bx,0,none⟩)] w fun e w'=>∃bb vt vp,Step w τ w' bb Qbn/\Own w' bb bx qdz 73 ((cs.set 10 vt).set 11 vp) /\
  ((Qdk l=none/\e=Qav)\/∃t d l',Qdk l=some ((t,d),l')/\e = .returned (.tuple #[])/\NS 42 4 Qct w.heap.size w' bb tTx vt t/\NS 84 2 Qgn w.heap.size w' bb tPx vp d/\qhn w' bb br g l'):=by
 have dt:=Qar h hg 1 oM oM
 have hB:=h.isB
 obtain⟨dv,HB,Hx⟩:=qan dt hB hx
 clear dt hB hx h
 go_enter Tryz.func178,Tryz.ntmps178
 go_wp2_with fail
 refine dv.mono ?_
 rintro e w1 ⟨τ1,bc,⟨hr,rfl⟩|⟨n,l1,v,d3,rfl,rfl,ci⟩⟩
 ·have bd:=Hx.step bc (by unfold qb8;decide)
  have hs:=bc.mono (T:=Qbn) (fun _ h=>Qdm h)
  obtain⟨cc,Hs⟩:=qaj bd hs
  clear bd hs
  unfold Qav
  go_wp2_with fail
  refine⟨rfl,τ1,.slice none 0 0,.slice none 0 0,Hs,?_,.inl ⟨by unfold Qdk;rw[hr];rfl,rfl⟩⟩
  have:=cc.out
  rw[Qhs ds,Qhs h11];exact this
 have bd:=Hx.step bc (by unfold qb8;decide)
 have cj:=bc.mono (T:=Qbn) (fun _ h=>Qdm h)
 have d8:=Qcb d3 HB
 rw[show (2:Nat) ^ (8*1)=256 from by decide] at d8
 obtain⟨cc,ck,aa,cm⟩:=qb9 bd cj d3 ci
 clear bd cj d3 ci bc dv
 go_wp2_with fail
 go_loopw [6] (fun v wr=>∃(i:Nat) (q:qa1) (t:List qdb) (l':List Int) (vt:Value),i<=n/\v = .int .u64 i/\qeo qgu i l1=some (t,l')/\t.length=i/\Own wr q bx qdz 73 (cs.set 10 vt)/\NS 42 4 Qct w.heap.size wr q tTx vt t/\qhn wr q br g l'/\Step w τ wr q Qbn) (fun v _=>n-(intOf v).toNat)
 case atStart=>exact⟨0,τ1,[],l1,.slice none 0 0,Z9 _,rfl,rfl,rfl,by rw[Qhs ds];exact cc,NS.nil _ _ _ _ _ _ _,cm,ck⟩
 case round =>
  clear cc ck cm
  obtain⟨i,q,t,l2,vt,hi,rfl,I,a5,F,c,j,x⟩:=hrel
  by_cases dw:i<n
  ·have et:(i:Int)<n:=oM
   obtain⟨r,ct,rfl⟩:=c.val
   rw[a5] at F c
   have db:=F.at 10 (v:=.slice r i ct) (List.getElem?_set_self oM)
   have Y:=(zS wr q).drew
   have J:=F.step Y id
   have ab:=c.step Y id
   have p:=x.drew
   have y:=Qar (j.step Y id id) hg 4 oM oM
   have ac:=j.isB
   have L:qgu l2=none->qeo qgu (i+1) l1=none:=fun hr=>by
    show (qeo qgu i l1).bind _=none
    rw[I]
    show (qgu l2).bind _=none
    rw[hr];rfl
   obtain⟨ad,be,G,a6,av,ae,b7,s⟩:=qen J ab p y ac I a5 L
   clear J ab p y ac I a5 L F c x j Y
   go_wp2_with fail
   refine Qaf (S:=fun w':World=>w'.cell? ⟨bx,10,none⟩=some (.slice r i ct)) kR ?_
   have dc:wr.drew.cell? ⟨bx,10,none⟩=some (.slice r i ct):=db
   refine tk0 [0,1,2,3,4,5,8,10,12] ?_
   iterate 9
    refine tkv (v:=?_) ?_ ?_
    rotate_left
    ·intro w a7;(try dsimp only at a7);go_simp
     all_goals with_reducible rfl
    try simp only[Act.put,lz1,lz2,lz3]
   refine tk9 ?_
   clear dc
   refine Qst (i:=6) dK rfl (fun K a=>?_)
   go_simp
   go_at_call 176
   refine a6.mono ?_
   rintro e w4 ⟨dd,z,⟨hr,rfl⟩|⟨a1,l4,v,aw,rfl,rfl,bg⟩⟩
   ·have M:=ad.step z (by unfold qb8;decide)
    have B:=G.trans (z.mono (T:=Qbn) (fun _ h=>Qdm h))
    have hp:qgu l2=none:=by unfold qgu;rw[hr];rfl
    have O:=Qds (s hp) n oM
    unfold Qav
    refine And.intro rfl ?_
    refine⟨dd,.slice r i ct,.slice none 0 0,B,?_,.inl ⟨by unfold Qdk;rw[aa.out];simp only[Z8];rw[O];rfl,rfl⟩⟩
    rw[List.set_comm _ _ dC,Qhs h11];exact M
   have M:=ad.step z (by unfold qb8;decide)
   have af:=be.step z (by unfold qb8;decide)
   have B:=G.trans (z.mono (T:=Qbn) (fun _ h=>Qdm h))
   have d4:=M.at 10 (v:=.slice r i ct) (by rw[show (cs.set 10 (.slice r i ct))[10]?=_ from rfl];exact List.getElem?_set_self oM)
   have ag:=Qcb aw av
   rw[show (2:Nat) ^ (8*4)=4294967296 from by decide] at ag
   have ew:IntKind.u32.wrap (a1:Int)=a1:=Qb1 a1 ag
   have C:=Qar bg hg 8 oM oM
   obtain⟨bi,bj,ah,ax,a8⟩:=qbq M af B aw C
   clear M af B aw C z
   refine a.out _ _ (fun _=>d4) ?_
   clear a K
   refine tk (i:=7) (v:=?_) rfl (Or.inl ⟨by rfl,?_⟩) (by assumption) ?_
   rotate_left
   ·intro w a7;(try dsimp only at a7);go_simp
    all_goals with_reducible rfl
   try simp only[Act.put,lz1,lz2,lz3]
   refine Qst (i:=9) dK rfl (fun K a=>?_)
   go_simp
   go_at_call 176
   refine a8.mono ?_
   rintro e w5 ⟨df,D,⟨hr,rfl⟩|⟨a2,l5,v,bk,rfl,rfl,az⟩⟩
   ·have R:=bi.step D (by unfold qb8;decide)
    have E:=ah.trans (D.mono (T:=Qbn) (fun _ h=>Qdm h))
    have hp:qgu l2=none:=by unfold qgu;rw[ax.out];simp only[Z8];rw[hr];rfl
    have O:=Qds (s hp) n oM
    unfold Qav
    refine And.intro rfl ?_
    refine⟨df,.slice r i ct,.slice none 0 0,E,?_,.inl ⟨by unfold Qdk;rw[aa.out];simp only[Z8];rw[O];rfl,rfl⟩⟩
    rw[List.set_comm _ _ dC,Qhs h11];exact R
   have R:=bi.step D (by unfold qb8;decide)
   have ai:=bj.step D (by unfold qb8;decide)
   have E:=ah.trans (D.mono (T:=Qbn) (fun _ h=>Qdm h))
   have d5:=R.at 10 (v:=.slice r i ct) (by rw[show (cs.set 10 (.slice r i ct))[10]?=_ from rfl];exact List.getElem?_set_self oM)
   have b0:=Qar az hg 8 oM oM
   obtain⟨bl,bm,b1,bn,cd⟩:=qbq R ai E bk b0
   clear R ai E bk b0 D
   refine a.out _ _ (fun _=>d5) ?_
   clear a K
   refine Qst (i:=11) dK rfl (fun K a=>?_)
   go_simp
   go_at_call 176
   refine cd.mono ?_
   rintro e w6 ⟨ey,b8,⟨hr,rfl⟩|⟨a3,l6,v,dy,rfl,rfl,cn⟩⟩
   ·have bo:=bl.step b8 (by unfold qb8;decide)
    have b2:=b1.trans (b8.mono (T:=Qbn) (fun _ h=>Qdm h))
    have hp:qgu l2=none:=by unfold qgu;rw[ax.out];simp only[Z8];rw[bn.out];simp only[Z8];rw[hr];rfl
    have O:=Qds (s hp) n oM
    unfold Qav
    refine And.intro rfl ?_
    refine⟨ey,.slice r i ct,.slice none 0 0,b2,?_,.inl ⟨by unfold Qdk;rw[aa.out];simp only[Z8];rw[O];rfl,rfl⟩⟩
    rw[List.set_comm _ _ dC,Qhs h11];exact bo
   have bo:=bl.step b8 (by unfold qb8;decide)
   have co:=bm.step b8 (by unfold qb8;decide)
   have b2:=b1.trans (b8.mono (T:=Qbn) (fun _ h=>Qdm h))
   have d6:=bo.at 10 (v:=.slice r i ct) (by rw[show (cs.set 10 (.slice r i ct))[10]?=_ from rfl];exact List.getElem?_set_self oM)
   have dz:=cn.isB
   have b3:=Qar cn hg 1 oM oM
   obtain⟨e0,e1,cp,e2,ez,ce⟩:=qcq bo co b2 dy dz b3
   clear bo co b2 dy dz b3 b8
   refine a.out _ _ (fun _=>d6) ?_
   clear a K
   refine Qst (i:=13) dK rfl (fun K a=>?_)
   go_simp
   go_at_call 176
   refine ce.mono ?_
   rintro e w7 ⟨f0,b9,⟨hr,rfl⟩|⟨a4,l7,v,dh,rfl,rfl,cq⟩⟩
   ·have bp:=e0.step b9 (by unfold qb8;decide)
    have b4:=cp.trans (b9.mono (T:=Qbn) (fun _ h=>Qdm h))
    have hp:qgu l2=none:=by unfold qgu;rw[ax.out];simp only[Z8];rw[bn.out];simp only[Z8];rw[e2.out];simp only[Z8];rw[hr];rfl
    have O:=Qds (s hp) n oM
    unfold Qav
    refine And.intro rfl ?_
    refine⟨f0,.slice r i ct,.slice none 0 0,b4,?_,.inl ⟨by unfold Qdk;rw[aa.out];simp only[Z8];rw[O];rfl,rfl⟩⟩
    rw[List.set_comm _ _ dC,Qhs h11];exact bp
   have bp:=e0.step b9 (by unfold qb8;decide)
   have cr:=e1.step b9 (by unfold qb8;decide)
   have b4:=cp.trans (b9.mono (T:=Qbn) (fun _ h=>Qdm h))
   have d7:=bp.at 10 (v:=.slice r i ct) (by rw[show (cs.set 10 (.slice r i ct))[10]?=_ from rfl];exact List.getElem?_set_self oM)
   have cv:=Qcb dh ez
   rw[show (2:Nat) ^ (8*1)=256 from by decide] at cv
   have hw7:IntKind.u8.wrap (a4:Int)=a4:=Qrv a4 cv
   obtain⟨e3,e4,e5,f2,e6⟩:=qbq bp cr b4 dh cq
   clear bp cr b4 dh cq b9
   refine a.out _ _ (fun _=>d7) ?_
   clear a K
   refine tk (i:=14) (v:=?_) rfl (Or.inl ⟨by rfl,?_⟩) (by assumption) ?_
   rotate_left
   ·intro w a7;(try dsimp only at a7);go_simp
    all_goals with_reducible rfl
   try simp only[Act.put,lz1,lz2,lz3]
   refine Qst (i:=15) dK rfl (fun K a=>?_)
   go_simp
   refine a.out _ _ (fun _=>d7) ?_
   clear a K
   refine Qst (i:=16) dK rfl (fun K a=>?_)
   go_simp
   refine a.out _ _ (fun _=>(e3.alloc _).at 10 (by rw[show (cs.set 10 (.slice r i ct))[10]?=_ from rfl];exact List.getElem?_set_self oM)) ?_
   clear a K
   refine Qst (i:=17) dK rfl (fun K a=>?_)
   obtain⟨i0,di,dj,dk,dl⟩:=info_parts Tryz.infoActive
   refine Qg3 (enc:=Qct) Tryz.underlying34 di dj dk dl rfl dC e5 e4 ⟨a1,a2,a3,a4⟩ rfl (by intro u hu;simp[Qct] at hu;rcases hu with rfl|rfl|rfl|rfl <;> rfl) (by rw[b7.out];omega) dC rfl rfl _ _ rfl rfl rfl ?_
   intro v9 w9 bq k aj ak
   have U:=e3.step ak dC
   have al:=e6.step ak dC (fun h=>ca (.inr (.inr (.inl h))))
   obtain⟨tn,a9⟩:=gN (t++[(⟨a1,a2,a3,a4⟩:qdb)])
   have X:tn.length=i+1:=by rw[<-a9,Z6,b7.out];rfl
   rw[a9] at k
   obtain⟨p9,c9,rfl⟩:=k.val
   rw[X] at k ⊢
   have d9:=U.at 10 (v:=.slice r i ct) (by rw[show (cs.set 10 (.slice r i ct))[10]?=_ from rfl];exact List.getElem?_set_self oM)
   have z9:=U.fz 10
   have Z:=(Step.refl w9 bq (fun t=>t=qdz)).set (b:=bx) (o:=10) U.tag rfl (.slice p9 (i+1) c9)
   have ay:=U.set 10 (.slice p9 (i+1) c9)
   rw[List.set_set] at ay
   have am:=k.step Z dC
   have an:=al.step Z dC (fun h=>ca (.inr (.inl h)))
   have ao:=aj.trans (Z.mono (T:=Qbn) (fun _ h=>.inr (.inl h)))
   obtain⟨dm,bs,bv,bw,bz,dn⟩:=qcq ay am an ao X a9
   clear ay am an ao X a9 U k al aj ak Z
   refine a.out _ _ (fun _=>d9) ?_
   clear a K
   refine Qst (i:=18) dK rfl (fun K a=>?_)
   go_simp
   refine a.out _ _ (fun _=>d9) ?_
   clear a K
   refine Qst (i:=19) dK rfl (fun K a=>?_)
   go_simp
   refine a.out _ _ (fun _=>d9) ?_
   clear a K
   refine Qst (i:=20) dK rfl (fun K a=>?_)
   go_simp
   refine a.out _ _ (fun h=>absurd h dK) ?_
   clear a K d9 z9
   refine Qad kR ?_ _
   go_wp2_with fail
   go_round
   case rel =>
    refine⟨i+1,bq,tn,l7,_,oM,sM,?_,bz,dm,bs,bv,bw⟩
    rw[<-dn.out]
    show (qeo qgu i l1).bind _=_
    rw[ae.out]
    show (qgu l2).bind _=_
    unfold qgu
    rw[ax.out];simp only[Z8];rw[bn.out];simp only[Z8];rw[e2.out];simp only[Z8];rw[f2.out];rfl
   case measure=>simp[intOf];omega
  ·obtain rfl:i=n:=oM
   have ea:=Qar j hg 1 oM oM
   have ac:=j.isB
   obtain⟨ae,b7,c3,b5,ap,eb,av⟩:=qdr I a5 F c x ea ac
   clear I a5 F c x ea ac j
   go_wp2_with fail
   refine eb.mono ?_
   rintro e w3 ⟨ec,ba,⟨hr,rfl⟩|⟨m,l3,v,dp,rfl,rfl,cw⟩⟩
   ·have J:=c3.step ba (by unfold qb8;decide)
    have p:=ap.trans (ba.mono (T:=Qbn) (fun _ h=>Qdm h))
    unfold Qav
    refine And.intro rfl ?_
    refine⟨ec,vt,.slice none 0 0,p,?_,.inl ⟨by unfold Qdk;rw[aa.out];simp only[Z8];rw[ae.out];simp only[Z8];rw[hr];rfl,rfl⟩⟩
    rw[Qhs (show (cs.set 10 vt)[11]?=_ by rw[List.getElem?_set_ne dC];exact h11)];exact J
   have J:=c3.step ba (by unfold qb8;decide)
   have p:=ap.trans (ba.mono (T:=Qbn) (fun _ h=>Qdm h))
   have aq:=b5.step ba (by unfold qb8;decide)
   have dq:=Qcb dp av
   rw[show (2:Nat) ^ (8*1)=256 from by decide] at dq
   have c4:(cs.set 10 vt)[11]?=some (.slice none 0 0):=by rw[List.getElem?_set_ne dC];exact h11
   have ee:(cs.set 10 vt).length=12:=by rw[Y1];exact er
   have c5:=ae
   obtain⟨c6,c7⟩:=gN (cs.set 10 vt)
   rw[c7] at J c4 ee
   obtain⟨ef,ad,G,dr,cx,c8,eg⟩:=qdr aq J p dp cw c7 c4
   clear J p dp cw c7 c4 ba c3 b5 ap eb aq hi dw
   rename List qdb=>tt
   go_wp2_with fail
   go_loopw [31] (fun v wr=>∃(i:Nat) (q:qa1) (t:List (Nat×Nat)) (l':List Int) (vp:Value),i<=m/\v = .int .u64 i/\qeo qf0 i l3=some (t,l')/\t.length=i/\Own wr q bx qdz 73 (c6.set 11 vp)/\NS 42 4 Qct w.heap.size wr q tTx vt tt/\NS 84 2 Qgn w.heap.size wr q tPx vp t/\qhn wr q br g l'/\Step w τ wr q Qbn) (fun v _=>m-(intOf v).toNat)
   case atStart=>exact⟨0,ec,[],l3,.slice none 0 0,Z9 _,rfl,rfl,rfl,by rw[Qhs eg.out];exact ad,ef,NS.nil _ _ _ _ _ _ _,cx,G⟩
   case round =>
    clear ad G cx ef
    obtain⟨i,q,t,l4,vp,hi,rfl,I,a5,F,b6,c,j,x⟩:=hrel
    by_cases dw:i<m
    ·have et:(i:Int)<m:=oM
     obtain⟨r,ct,rfl⟩:=c.val
     rw[a5] at F c
     have db:=F.at 11 (v:=.slice r i ct) (List.getElem?_set_self oM)
     have Y:=(zS wr q).drew
     have J:=F.step Y id
     have ab:=c.step Y id
     have aq:=b6.step Y id
     have p:=x.drew
     have y:=Qar (j.step Y id id) hg 4 oM oM
     have ac:=j.isB
     have L:qf0 l4=none->qeo qf0 (i+1) l3=none:=fun hr=>by
      show (qeo qf0 i l3).bind _=none
      rw[I]
      show (qf0 l4).bind _=none
      rw[hr];rfl
     have HB2':=av
     clear av
     obtain⟨ad,be,eh,G,a6,av,ae,b7,s⟩:=qgw J ab aq p y ac I a5 L
     clear J ab aq p y ac I a5 L F c b6 x j Y
     go_wp2_with fail
     refine Qaf (S:=fun w':World=>w'.cell? ⟨bx,11,none⟩=some (.slice r i ct)) kR ?_
     have dc:wr.drew.cell? ⟨bx,11,none⟩=some (.slice r i ct):=db
     refine tk0 [0,1,2,3,4,5,8] ?_
     iterate 7
      refine tkv (v:=?_) ?_ ?_
      rotate_left
      ·intro w a7;(try dsimp only at a7);go_simp
       all_goals with_reducible rfl
      try simp only[Act.put,lz1,lz2,lz3]
     refine tk9 ?_
     clear dc
     refine Qst (i:=6) dK rfl (fun K a=>?_)
     go_simp
     go_at_call 176
     refine a6.mono ?_
     rintro e w4 ⟨dd,z,⟨hr,rfl⟩|⟨a1,l6,v,aw,rfl,rfl,bg⟩⟩
     ·have M:=ad.step z (by unfold qb8;decide)
      have B:=G.trans (z.mono (T:=Qbn) (fun _ h=>Qdm h))
      have hp:qf0 l4=none:=by unfold qf0;rw[hr];rfl
      have O:=Qds (s hp) m oM
      unfold Qav
      refine And.intro rfl ?_
      refine⟨dd,vt,.slice r i ct,B,?_,.inl ⟨by unfold Qdk;rw[aa.out];simp only[Z8];rw[c5.out];simp only[Z8];rw[dr.out];simp only[Z8];rw[O];rfl,rfl⟩⟩
      rw[c8.out];exact M
     have M:=ad.step z (by unfold qb8;decide)
     have af:=be.step z (by unfold qb8;decide)
     have B:=G.trans (z.mono (T:=Qbn) (fun _ h=>Qdm h))
     have d4:=M.at 11 (v:=.slice r i ct) (by rw[show (c6.set 11 (.slice r i ct))[11]?=_ from rfl];exact List.getElem?_set_self oM)
     have ag:=Qcb aw av
     rw[show (2:Nat) ^ (8*4)=4294967296 from by decide] at ag
     have ew:IntKind.u32.wrap (a1:Int)=a1:=Qb1 a1 ag
     have C:=Qar bg hg 8 oM oM
     have cy:=eh.step z (by unfold qb8;decide)
     obtain⟨bi,bj,ah,ax,a8,ei⟩:=qcq M af B aw C cy
     clear M af B aw C cy z
     refine a.out _ _ (fun _=>d4) ?_
     clear a K
     refine tk (i:=7) (v:=?_) rfl (Or.inl ⟨by rfl,?_⟩) (by assumption) ?_
     rotate_left
     ·intro w a7;(try dsimp only at a7);go_simp
      all_goals with_reducible rfl
     try simp only[Act.put,lz1,lz2,lz3]
     refine Qst (i:=9) dK rfl (fun K a=>?_)
     go_simp
     go_at_call 176
     refine a8.mono ?_
     rintro e w5 ⟨df,D,⟨hr,rfl⟩|⟨a2,l5,v,bk,rfl,rfl,az⟩⟩
     ·have R:=bi.step D (by unfold qb8;decide)
      have E:=ah.trans (D.mono (T:=Qbn) (fun _ h=>Qdm h))
      have hp:qf0 l4=none:=by unfold qf0;rw[ax.out];simp only[Z8];rw[hr];rfl
      have O:=Qds (s hp) m oM
      unfold Qav
      refine And.intro rfl ?_
      refine⟨df,vt,.slice r i ct,E,?_,.inl ⟨by unfold Qdk;rw[aa.out];simp only[Z8];rw[c5.out];simp only[Z8];rw[dr.out];simp only[Z8];rw[O];rfl,rfl⟩⟩
      rw[c8.out];exact R
     have R:=bi.step D (by unfold qb8;decide)
     have ai:=bj.step D (by unfold qb8;decide)
     have E:=ah.trans (D.mono (T:=Qbn) (fun _ h=>Qdm h))
     have d5:=R.at 11 (v:=.slice r i ct) (by rw[show (c6.set 11 (.slice r i ct))[11]?=_ from rfl];exact List.getElem?_set_self oM)
     have cz:=ei.step D (by unfold qb8;decide)
     obtain⟨bl,bm,b1,bn,ej,ek⟩:=qcq R ai E bk az cz
     clear R ai E bk az cz D
     refine a.out _ _ (fun _=>d5) ?_
     clear a K
     refine Qst (i:=10) dK rfl (fun K a=>?_)
     go_simp
     refine a.out _ _ (fun _=>d5) ?_
     clear a K
     refine Qst (i:=11) dK rfl (fun K a=>?_)
     go_simp
     refine a.out _ _ (fun _=>(bl.alloc _).at 11 (by rw[show (c6.set 11 (.slice r i ct))[11]?=_ from rfl];exact List.getElem?_set_self oM)) ?_
     clear a K
     refine Qst (i:=12) dK rfl (fun K a=>?_)
     obtain⟨i0,di,dj,dk,dl⟩:=info_parts Tryz.infoDirty
     refine Qg3 (enc:=Qgn) Tryz.underlying71 di dj dk dl rfl dC b1 bm (a1,a2) rfl (by intro u hu;simp[Qgn] at hu;rcases hu with rfl|rfl <;> rfl) (by rw[b7.out];omega) dC rfl rfl _ _ rfl rfl rfl ?_
     intro v9 w9 bq k aj ak
     have U:=bl.step ak dC
     have d0:=ek.step ak dC
     have al:=ej.step ak dC (fun h=>ca (.inr (.inr (.inr h))))
     obtain⟨tn,a9⟩:=gN (t++[(a1,a2)])
     have X:tn.length=i+1:=by rw[<-a9,Z6,b7.out];rfl
     rw[a9] at k
     obtain⟨p9,c9,rfl⟩:=k.val
     rw[X] at k ⊢
     have d9:=U.at 11 (v:=.slice r i ct) (by rw[show (c6.set 11 (.slice r i ct))[11]?=_ from rfl];exact List.getElem?_set_self oM)
     have z9:=U.fz 11
     have Z:=(Step.refl w9 bq (fun t=>t=qdz)).set (b:=bx) (o:=11) U.tag rfl (.slice p9 (i+1) c9)
     have ay:=U.set 11 (.slice p9 (i+1) c9)
     rw[List.set_set] at ay
     have am:=k.step Z dC
     have d1:=d0.step Z dC
     have an:=al.step Z dC (fun h=>ca (.inr (.inl h)))
     have ao:=aj.trans (Z.mono (T:=Qbn) (fun _ h=>.inr (.inl h)))
     obtain⟨dm,bs,bv,bw,bz,dn,em⟩:=qdr ay am an ao X a9 d1
     clear ay am an ao X a9 d1 U k al aj ak Z d0
     refine a.out _ _ (fun _=>d9) ?_
     clear a K
     refine Qst (i:=13) dK rfl (fun K a=>?_)
     go_simp
     refine a.out _ _ (fun _=>d9) ?_
     clear a K
     refine Qst (i:=14) dK rfl (fun K a=>?_)
     go_simp
     refine a.out _ _ (fun _=>d9) ?_
     clear a K
     refine Qst (i:=15) dK rfl (fun K a=>?_)
     go_simp
     refine a.out _ _ (fun h=>absurd h dK) ?_
     clear a K d9 z9
     refine Qad kR ?_ _
     go_wp2_with fail
     go_round
     case rel =>
      refine⟨i+1,bq,tn,l5,_,oM,sM,?_,bz,dm,em,bs,bv,bw⟩
      rw[<-dn.out]
      show (qeo qf0 i l3).bind _=_
      rw[ae.out]
      show (qf0 l4).bind _=_
      unfold qf0
      rw[ax.out];simp only[Z8];rw[bn.out];rfl
     case measure=>simp[intOf];omega
    ·obtain rfl:i=m:=oM
     obtain⟨ae,c3,en,b5,eo,ap⟩:=qcq I F b6 c j x
     clear I F b6 c j x
     go_wp2_with fail
     go_end0
     refine⟨q,vt,vp,ap,by rw[c8.out];exact c3,.inr ⟨tt,t,l4,?_,rfl,en,b5,eo⟩⟩
     unfold Qdk
     rw[aa.out];simp only[Z8];rw[c5.out];simp only[Z8];rw[dr.out];simp only[Z8];rw[ae.out];rfl
end Go.Proofs.YtociicnopccppaaGreat
namespace Go.Proofs.YtociicnopccppaaGreat
open Go.RowKit Go.Maps
def qab (k:Nat):Tag:=(300,k)
def qd3 (k:Nat):Tag:=(301,k)
def qe4:Tag:=(302,0)
def qc8:Tag:=(303,0)
def Qa0 (x:Nat×Nat):List Value:=[.int .u64 x.1,.int .u64 x.2]
structure qa9 where
 txn:Nat
 last:Nat
 undo:Nat
 state:Nat
 start:Nat
 ch:List (Nat×Nat)
def qa9.cells (x:qa9) (v:Value):List Value:=[.int .u32 x.txn,.int .u64 x.last,.int .u64 x.undo,.int .u8 x.state,.int .u64 x.start,v]
def qa9.need (x:qa9):Nat:=54+(x.ch.map Prod.snd).sum
structure qel (w:World) (τ:qa1) (b:Nat) (x:qa9):Prop where
 is:∃v,Own w τ b (qab x.txn) 108 (x.cells v)/\NS 214 2 Qa0 0 w τ (qd3 x.txn) v x.ch
 len:x.ch.length<=1000
 size:∀y∈x.ch,y.2<=1000
theorem qel.step {w c:World}{τ a:qa1}{S:Tag->Prop}{b:Nat}{x:qa9}(h:qel w τ b x) (m:Step w τ c a S) (h1:¬S (qab x.txn)) (h2:¬S (qd3 x.txn)):qel c a b x:=by
 obtain⟨v,d,hn⟩:=h.is
 exact⟨⟨v,d.step m h1,hn.step m h2⟩,h.len,h.size⟩
theorem NS.done {n0:Nat}{w:World}{τ:qa1}{g:Tag}{v:Value}{l:List (Nat×Nat)}(h:NS 214 2 Qa0 n0 w τ g v l):∃p c,v = .slice p l.length c/\l.length<=maxLen/\∀(i:Nat) (x:Nat×Nat),l[i]?=some x->∃b,p=some ⟨b,0,none⟩/\w.cell? ⟨b,i*2,none⟩=some (.int .u64 x.1)/\w.cell? ⟨b,i*2+1,none⟩=some (.int .u64 x.2):=by
 obtain⟨h1,⟨rfl,h2⟩|⟨b,cap,ys,rfl,e,h3,h4,h5⟩⟩:=h.buf
 ·refine⟨none,0,by rw[h2],by rw[h2];exact Z9 _,fun i x a=>?_⟩
  have:=(Z4 a).1
  omega
 ·refine⟨_,cap,rfl,oM,fun i x a=>?_⟩
  have key:∀(l:List (Nat×Nat)) (i:Nat) (x:Nat×Nat) (j:Nat),l[i]?=some x->j<2->(l.flatMap Qa0)[i*2+j]?=(Qa0 x)[j]?:=by
   intro l
   induction l with
   | nil=>intro i x j a;simp at a
   | cons y l ih =>
     intro i x j a d
     rw[List.flatMap_cons]
     have hl:(Qa0 y).length=2:=rfl
     cases i with
     | zero =>
       have:y=x:=by simpa using a
       subst this
       rw[Y5 (by rw[hl];omega),Nat.zero_mul,Nat.zero_add]
     | succ i =>
       rw[Y6 (by rw[hl];omega),hl,show (i+1)*2+j-2=i*2+j by omega]
       exact ih i x j (by simpa using a) d
  have hi:=(Z4 a).1
  have k:∀j,j<2->(l.flatMap Qa0++ys)[i*2+j]?=(Qa0 x)[j]?:=fun j d=>by
   rw[Y5 (by rw[h1];omega)]
   exact key l i x j a d
  exact⟨b,rfl,e.at (i*2) (k 0 oM),e.at (i*2+1) (k 1 oM)⟩
def Qg2 (l:List (Nat×Nat)) (i:Nat):Nat:=((l.take i).map Prod.snd).sum
theorem Qqf {l:List (Nat×Nat)}{i:Nat}{x:Nat×Nat}(h:l[i]?=some x):Qg2 l (i+1)=Qg2 l i+x.2:=by
 unfold Qg2
 rw[List.take_add_one,h,List.map_append,List.sum_append]
 simp
theorem Qoy {l:List (Nat×Nat)}(h:∀y∈l,y.2<=1000) (i:Nat):Qg2 l i<=l.length*1000:=by
 have key:∀m:List (Nat×Nat),(∀y∈m,y.2<=1000)->(m.map Prod.snd).sum<=m.length*1000:=by
  intro m
  induction m with
  | nil=>intro _;simp
  | cons a m ih =>
    intro c
    have h1:=ih (fun y b=>c y (Y2 _ b))
    have h2:=c a sM
    simp only[X0,List.sum_cons,Y4];omega
 have h1:=key (l.take i) (fun y b=>h y (List.mem_of_mem_take b))
 have h2:(l.take i).length<=l.length:=by rw[List.length_take];omega
 exact Y3 h1 (Y7 _ h2)
theorem qel.qht {w:World}{τ:qa1}{b:Nat}{x:qa9}(h:qel w τ b x):x.need<=1000054:=by
 have h1:Qg2 x.ch x.ch.length<=x.ch.length*1000:=Qoy h.size x.ch.length
 have h2:=h.len
 unfold Qg2 at h1
 rw[List.take_length] at h1
 unfold qa9.need
 generalize (x.ch.map Prod.snd).sum=s at *
 omega
theorem Qxj {w:World}{τ:qa1}{b:Nat}{x:qa9}(h:qel w τ b x):Calls Tryz.prog 141 #[.pointer (some ⟨b,0,none⟩)] w fun e X=>e = .returned (.int .u64 x.need)/\Step w τ X τ nil:=by
 obtain⟨v,D,hn⟩:=h.is
 have k:=Qoy h.size
 have hll:=h.len
 have g:x.need=54+Qg2 x.ch x.ch.length:=by unfold qa9.need Qg2;rw[List.take_length]
 obtain⟨p,c,rfl,hmx,l⟩:=hn.done
 have c5:=D.at 5 rfl
 generalize o:x.ch.length=n at *
 obtain⟨Hn,E,q,F,Ho,G⟩:=qcq hn k g l D o
 clear hn k g l D o h
 go_enter Tryz.func141,Tryz.ntmps141
 go_wp2_with fail
 go_loopw [3,11] (fun a v wr=>∃i:Nat,i<=n/\v = .int .i64 i/\a = .int .u64 (54+(Qg2 x.ch i:Int))/\Step w τ wr τ nil) (fun _ v _=>n-(intOf v).toNat)
 case atStart=>exact⟨0,Z9 _,rfl,rfl,Step.refl _ _ _⟩
 case round =>
  obtain⟨i,hi,rfl,rfl,d⟩:=hrel
  by_cases I:i<n
  ·obtain⟨y,R⟩:∃y,x.ch[i]?=some y:=⟨_,Z3 (by rw[G.out];exact I)⟩
   obtain⟨C,rfl,J,U⟩:=F i y R
   have r:=Qqf R
   have s:=E (i+1)
   obtain⟨q0,q1⟩:wr.cell? ⟨C,i*2,none⟩=some (.int .u64 y.1)/\wr.cell? ⟨C,i*2+1,none⟩=some (.int .u64 y.2):=by
    have hbl:=qb0 J
    exact⟨by rw[d.no.cell C _ hbl (by simp[no])];exact J,by rw[d.no.cell C _ hbl (by simp[no])];exact U⟩
   clear J U c5
   generalize hs0:Qg2 x.ch i=L at *
   generalize hy2:y.2=y2 at *
   generalize hy1:y.1=y1 at *
   have hadd:IntKind.u64.wrap (54+(L:Int)+y2)=54+(L:Int)+y2:=by
    have:=Qer (a:=54+L) (b:=y2) oM
    simp only[X1] at this
    exact this
   have j:=d.alloc' (.cells #[.int .u64 y1,.int .u64 y2] 214)
   obtain⟨z,M,B⟩:=qan d r j
   clear d r s j
   go_wp2_with fail
   go_round
   case rel=>exact⟨i+1,oM,sM,by rw[M.out,X1,Int.add_assoc],B⟩
   case measure=>simp[intOf];omega
  ·have O:i=n:=oM
   subst O
   have z:=Z2 d
   clear d
   go_wp2_with fail
   go_returns
   exact⟨by rw[q.out,X1];rfl,z⟩
def qa9.ids (X:List qa9):List Nat:=X.map qa9.txn
def fOf (bo:Nat->Nat) (X:List qa9):Nat->Option Nat:=fun k=>if k∈qa9.ids X then some (bo k) else none
structure qbr (w:World) (τ:qa1) (bm bl bp:Nat) (bo:Nat->Nat) (X:List qa9) (next:Nat):Prop where
 is:∃ba,Own w τ bm qe4 105 [.pointer (some ⟨bl,0,none⟩),.pointer (some ⟨bp,0,none⟩),.map (some ba),.int .u32 next]/\qg9 w τ ba qc8 1000 (fOf bo X)
 ones:∀x∈X,qel w τ (bo x.txn) x
 nodup:(qa9.ids X).Nodup
 low:∀x∈X,x.txn<next
 nx:next<=900
 many:X.length<=64
def Qai (g:Tag):Prop:=300<=g.1/\g.1<=303
theorem qbr.step {w c:World}{τ a:qa1}{S:Tag->Prop}{bm bl bp:Nat}{bo:Nat->Nat}{X:List qa9}{next:Nat}(h:qbr w τ bm bl bp bo X next) (m:Step w τ c a S) (b:∀g,Qai g->¬S g):qbr c a bm bl bp bo X next:=by
 obtain⟨d,e,i⟩:=h.is
 exact⟨⟨d,e.step m (b _ (by simp[Qai,qe4])),i.step m (b _ (by simp[Qai,qc8]))⟩,fun x j=>(h.ones x j).step m (b _ (by simp[Qai,qab])) (b _ (by simp[Qai,qd3])),h.nodup,h.low,h.nx,h.many⟩
theorem qbr.nil {w b:World}{τ a:qa1}{bm bl bp:Nat}{bo:Nat->Nat}{X:List qa9}{next:Nat}(h:qbr w τ bm bl bp bo X next) (m:Step w τ b a Go.Proofs.YtociicnopccppaaGreat.nil):qbr b a bm bl bp bo X next:=h.step m zN
def qci (X:List qa9):Nat:=(X.map qa9.need).sum
theorem Qri {bo:Nat->Nat}{X:List qa9}(k:Nat):k∈qa9.ids X↔(fOf bo X k).isSome=true:=by
 unfold fOf
 by_cases h:k∈qa9.ids X
 ·rw[if_pos h];simp[h]
 ·rw[if_neg h];simp[h]
theorem Qxz {bo:Nat->Nat}{X:List qa9}{k v:Nat}(h:fOf bo X k=some v):∃x∈X,x.txn=k/\v=bo k:=by
 unfold fOf at h
 by_cases a:k∈qa9.ids X
 ·rw[if_pos a] at h
  obtain⟨x,b,e⟩:=List.mem_map.1 a
  exact⟨x,b,e,by simpa using h.symm⟩
 ·rw[if_neg a] at h;cases h
theorem Quw (f:Nat->Nat) {k:Nat}:∀{l:List Nat},k∈l->f k+((l.erase k).map f).sum=(l.map f).sum:=by
 intro l
 induction l with
 | nil=>intro h;cases h
 | cons a l ih =>
   intro h
   by_cases e:a=k
   ·subst e;rw[List.erase_cons_head];rfl
   ·rw[List.erase_cons_tail (by simpa using e)]
    have h2:k∈l:=by
     rcases List.mem_cons.1 h with h|h
     ·exact absurd h.symm e
     ·exact h
    have:=ih h2
    simp only[X0,List.sum_cons];omega
def Qh1 (X:List qa9) (k:Nat):Nat:=((X.find? (fun x=>x.txn==k)).map qa9.need).getD 0
theorem Qrg {X:List qa9}(hn:(qa9.ids X).Nodup) {x:qa9}(b:x∈X):X.find? (fun y=>y.txn==x.txn)=some x:=by
 induction X with
 | nil=>cases b
 | cons a X ih =>
   obtain⟨h1,h2⟩:=List.nodup_cons.1 (show (a.txn::qa9.ids X).Nodup from hn)
   rcases List.mem_cons.1 b with rfl|b
   ·simp[List.find?_cons]
   ·have c:a.txn≠x.txn:=fun e=>h1 (by rw[e];exact List.mem_map.2 ⟨x,b,rfl⟩)
    rw[List.find?_cons,show (a.txn==x.txn)=false by simpa using c]
    exact ih h2 b
theorem Qgk {X:List qa9}(hn:(qa9.ids X).Nodup) {x:qa9}(a:x∈X):Qh1 X x.txn=x.need:=by unfold Qh1;rw[Qrg hn a];rfl
theorem Qqn {X:List qa9}(hn:(qa9.ids X).Nodup):qci X=((qa9.ids X).map (Qh1 X)).sum:=by
 unfold qci qa9.ids
 rw[List.map_map]
 congr 1
 refine List.map_congr_left fun x a=>?_
 exact(Qgk hn a).symm
theorem Qki (f:Nat->Nat) (B:Nat):∀(l:List Nat),(∀k∈l,f k<=B)->(l.map f).sum<=l.length*B:=by
 intro l
 induction l with
 | nil=>intro _;simp
 | cons a l ih =>
   intro h
   have h1:=ih (fun k b=>h k (Y2 _ b))
   have h2:=h a sM
   simp only[X0,List.sum_cons,Y4,Nat.succ_mul];omega
theorem Qde {w:World}{τ:qa1}{bm bl bp:Nat}{bo:Nat->Nat}{X:List qa9}{next:Nat}(h:qbr w τ bm bl bp bo X next):Calls Tryz.prog 86 #[.pointer (some ⟨bm,0,none⟩)] w fun e w'=>e = .returned (.int .u64 (qci X:Int))/\∃a8,Step w τ w' a8 nil:=by
 obtain⟨ba,ho,hp⟩:=h.is
 have n:=h.nodup
 have U:=Qqn n
 have Y:∀k∈qa9.ids X,Qh1 X k<=1000054:=fun k I=>by
  obtain⟨x,Z,rfl⟩:=List.mem_map.1 I
  rw[Qgk n Z];exact(h.ones x Z).qht
 have a0:=Qki (Qh1 X) 1000054 _ Y
 have a9:=h.many
 have y:(qa9.ids X).length=X.length:=Y0 ..
 have c2:=ho.at 2 rfl
 obtain⟨w1,cnt,z,i,J⟩:=hp.range oM n (fun k=>Qri k)
 have hit:(τ.put w.heap.size tIt) w.heap.size=tIt:=qa1.qd9 _ _ _
 have h1:=h.nil J
 generalize hR:qci X=R at *
 generalize hl:qa9.ids X=l at *
 generalize τ.put w.heap.size tIt=τ1 at *
 have hRle:R<=70000000:=by
  rw[y] at a0
  have:X.length*1000054<=64*1000054:=Y7 _ a9
  omega
 obtain⟨aa,ab,H1,ac,ad,ae,Hl,HR⟩:=qen i J h1 U n hit hl hR
 clear i J h1 U n Y a0 hit hl ho hp hR y h
 go_enter Tryz.func86,Tryz.ntmps86
 go_wp2_with fail
 go_loopw [3] (fun a wr=>∃(m:List Nat) (d:qa1) (c s:Nat),PRange wr d ba w.heap.size qc8 1000 (fOf bo X) m c/\d w.heap.size=tIt/\a = .int .u64 s/\s+(m.map (Qh1 X)).sum=R/\(∀k∈m,k∈l)/\qbr wr d bm bl bp bo X next/\Step w τ wr d nil) (fun _ wr=>wr.rangeLeft ba w.heap.size)
 case atStart=>exact⟨l,τ1,cnt,0,aa,ae,rfl,by rw[Nat.zero_add];exact ac.symm,fun k I=>I,H1,ab⟩
 case round =>
  obtain⟨m,d,c,s,i,hit,rfl,a1,af,hm,o⟩:=hrel
  have hlf:=i.left
  rcases i.next oM hit 0 with ⟨rfl,p⟩|⟨k,v,w2,c2',I,ah,p,B,hlt,L,ai⟩
  ·have aj:s=R:=by simpa using a1
   subst aj
   have ak:=Z2 o
   clear o i hm z
   go_wp2_with fail
   go_returns
   exact⟨rfl,d,ak⟩
  ·obtain⟨x,Z,rfl,rfl⟩:=Qxz ah
   have C:Step wr d w2 d (fun t=>t=tIt):=Step.mk' L (Ext.refl _ _) (fun j _ e=>by rw[e];exact hit)
   have M:=hm.step C (fun g hg e=>by subst e;simp[Qai,tIt] at hg)
   have D:=Qxj (M.ones x Z)
   have E:Step w τ w2 d nil:=⟨o.mod.seq L (fun j hj e=>by subst e;exact absurd hj (Nat.lt_irrefl _)),o.ext⟩
   have O:=Quw (Qh1 X) I
   rw[Qgk (by rw[Hl.out];exact ad) Z] at O
   generalize al:x.need=nx at *
   have hadd:IntKind.u64.wrap ((s:Int)+nx)=(s:Int)+nx:=by
    have:=Qer (a:=s) (b:=nx) oM
    rw[X1] at this
    exact this
   obtain⟨a2,a3,am,an⟩:=qb9 D E M O
   clear D E M O al i hm z o L C
   go_wp2_with fail
   refine a2.mono ?_
   rintro e w3 ⟨rfl,r⟩
   obtain⟨q,F⟩:=B.step hit r id id
   have a4:=am.nil r
   have G:=a3.trans r
   have hlf3:=q.left
   obtain⟨a5,a6,ao,a7⟩:=qb9 q F a4 G
   clear q F a4 G r p ai B
   go_wp2_with fail
   go_round
   case rel=>exact⟨m.erase x.txn,d,c2',s+nx,a5,a6,by rw[X1],by have:=an.out;omega,fun k I=>af k (List.mem_of_mem_erase I),ao,a7⟩
   case measure=>omega
theorem Qln {bo:Nat->Nat}{X:List qa9}{x:qa9}(a:x∈X):fOf bo X x.txn=some (bo x.txn):=by
 unfold fOf;rw[if_pos (show x.txn∈qa9.ids X from List.mem_map.2 ⟨x,a,rfl⟩)]
theorem Qvz {bo:Nat->Nat}{X:List qa9}{k:Nat}(h:∀x∈X,x.txn≠k):fOf bo X k=none:=by
 unfold fOf
 rw[if_neg (fun a=>by
  obtain⟨x,b,e⟩:=List.mem_map.1 a
  exact h x b e)]
theorem Qju {w:World}{τ:qa1}{bm bl bp:Nat}{bo:Nat->Nat}{X:List qa9}{next:Nat}(h:qbr w τ bm bl bp bo X next) {x:qa9}(i:x∈X) (n:x.state=1) (k:Nat) (d:x.txn=k) (g:k<4294967296):Calls Tryz.prog 43 #[.pointer (some ⟨bm,0,none⟩),.int .u32 k] w fun e o=>e = .returned (.tuple #[.pointer (some ⟨bo k,0,none⟩),.int .u16 0])/\w=o:=by
 obtain⟨ba,j,l⟩:=h.is
 have c2:=j.at 2 rfl
 have a:=l.look k g
 rw[<-d,Qln i,d] at a
 obtain⟨v,c,-⟩:=(h.ones x i).is
 have c3:=c.at 3 rfl
 rw[n,d] at c3
 change _=Result.ok (Value.pointer (some ⟨bo k,0,none⟩)) w at a
 generalize bo k=b at *
 clear h j l c
 go_enter Tryz.func43,Tryz.ntmps43
 go_wp2_with fail
 go_ret2
 exact⟨rfl,rfl⟩
theorem Qhg {w:World}{τ:qa1}{bm bl bp:Nat}{bo:Nat->Nat}{X:List qa9}{next:Nat}(h:qbr w τ bm bl bp bo X next):Calls Tryz.prog 13 #[.pointer (some ⟨bm,0,none⟩)] w fun e a=>e = .returned (.pointer (some ⟨bp,0,none⟩))/\w=a:=by
 obtain⟨ba,b,-⟩:=h.is
 have c1:=b.at 1 rfl
 go_enter Tryz.func13,Tryz.ntmps13
 go_wp2_with fail
 go_ret
 exact⟨rfl,rfl⟩
theorem Jb6 {w:World}{τ:qa1}{bm bl bp:Nat}{bo:Nat->Nat}{X:List qa9}{next:Nat}(h:qbr w τ bm bl bp bo X next):Calls Tryz.prog 15 #[.pointer (some ⟨bm,0,none⟩)] w fun e a=>e = .returned (.pointer (some ⟨bl,0,none⟩))/\w=a:=by
 obtain⟨ba,b,-⟩:=h.is
 have c0:=b.at 0 rfl
 go_enter Tryz.func15,Tryz.ntmps15
 go_wp2_with fail
 go_ret
 exact⟨rfl,rfl⟩
end Go.Proofs.YtociicnopccppaaGreat
namespace Go.Proofs.YtociicnopccppaaGreat
open Go.RowKit
def tIs:Tag:=(200,1)
theorem Qwc {w:World}{τ:qa1}{bx d:Nat}{o p q r s x y z u8 B h i:Value}{C:Bool}(a:Own w τ bx qdz 73 [o,p,q,r,s,x,y,z,u8,B,h,i]) (hi:Own w τ d tIs 4 [.bool C]) (u:TypeId) (pv:Value) (b:List PanicEntry) :
 CallsD Tryz.prog 174 #[.pointer (some ⟨bx,0,none⟩),.pointer (some ⟨d,0,none⟩)] (.panicking ({v:=.iface u pv,recovered:=false}::b)) w fun e D E =>
  e = .returned (.tuple #[])/\D = .panicking ({v:=.iface u pv,recovered:=true}::b)/\E=(((((((((((((w).setCell ⟨bx,0,none⟩ (.int .u8 0)).setCell ⟨bx,1,none⟩ (.int .u32 0)).setCell ⟨bx,2,none⟩ (.int .u64 0)).setCell ⟨bx,3,none⟩ (.int .u64 0)).setCell ⟨bx,4,none⟩ (.int .u32 0)).setCell ⟨bx,5,none⟩ (.int .u16 0)).setCell ⟨bx,6,none⟩ (.bool false)).setCell ⟨bx,7,none⟩ (.bool false)).setCell ⟨bx,8,none⟩ (.slice none 0 0)).setCell ⟨bx,9,none⟩ (.slice none 0 0)).setCell ⟨bx,10,none⟩ (.slice none 0 0)).setCell ⟨bx,11,none⟩ (.slice none 0 0)).setCell ⟨d,0,none⟩ (.bool false):=by
 have c0:=a.at 0 rfl
 have f0:=a.fz 0
 have c1:=a.at 1 rfl
 have f1:=a.fz 1
 have c2:=a.at 2 rfl
 have F:=a.fz 2
 have c3:=a.at 3 rfl
 have G:=a.fz 3
 have c4:=a.at 4 rfl
 have I:=a.fz 4
 have c5:=a.at 5 rfl
 have J:=a.fz 5
 have c6:=a.at 6 rfl
 have f6:=a.fz 6
 have L:=a.at 7 rfl
 have M:=a.fz 7
 have O:=a.at 8 rfl
 have R:=a.fz 8
 have U:=a.at 9 rfl
 have X:=a.fz 9
 have j:=a.at 10 rfl
 have k:=a.fz 10
 have l:=a.at 11 rfl
 have n:=a.fz 11
 have Y:=hi.at 0 rfl
 have Z:=hi.fz 0
 have c:bx≠d:=a.ne hi dC
 have g:d≠bx:=fun e=>c e.symm
 refine callsD_of_wpS Tryz.func174 rfl fun c₀ cs hu=>?_
 apply wpS_seq
 apply wpS_region
 simp[wpOpsS,go_sem,recoverD,hu,Tryz.ntmps174,Exit.thenS]
 apply wpS_seq
 apply wpS_region
 simp[wpOpsS,go_sem,Exit.thenS]
 refine wpS_cond (t:=true) (by simp[Act.eval]) ?_
 simp only[if_true]
 apply wpS_region
 simp[wpOpsS,go_sem,c0,f0,c1,f1,c2,F,c3,G,c4,I,c5,J,c6,f6,L,M,O,R,U,X,j,k,l,n,Y,Z,c,g,bodyPostS,results,Tryz.results174]
theorem Qbs (w:World) (bx b:Nat) :
 CallsD Tryz.prog 174 #[.pointer (some ⟨bx,0,none⟩),.pointer (some ⟨b,0,none⟩)] .returning w fun e c d=>e = .returned (.tuple #[])/\c = .returning/\d=w:=by
 refine callsD_of_wpS Tryz.func174 rfl fun a cs g=>?_
 apply wpS_seq
 apply wpS_region
 simp[wpOpsS,go_sem,recoverD,g,Tryz.ntmps174,Exit.thenS]
 apply wpS_seq
 apply wpS_region
 simp[wpOpsS,go_sem,Exit.thenS]
 refine wpS_cond (t:=false) (by simp[Act.eval]) ?_
 simp only[Bool.false_eq_true,if_false]
 refine wpS_of_wp (wp_skip ?_)
 cases a
 simp_all[bodyPostS,results,Tryz.results174]
def qgb (k:Nat):Bool:=decide (k=2) || decide (k=3)
def qef (chg:Bool) (pg sl:Nat) (hd hs:Bool) (nb na:Nat):Bool := !(decide (64<nb) || decide (64<na) || (!hd && decide (0<nb)) || (!hs && decide (0<na))) && (chg || (decide (pg=0) && decide (sl=0) && !hd && !hs))
theorem Qhk (w:World) (τ:qa1) (k tx pv nx pg sl:Nat) (hd g:Bool) (pb pa h i:Option Addr) (nb cb j ca nt ct np cp:Nat):Calls Tryz.prog 144 #[.agg (rR k tx pv nx pg sl hd g (.slice pb nb cb) (.slice pa j ca) (.slice h nt ct) (.slice i np cp))] w fun e n=>e = .returned (.bool (qgb k))/\Step w τ n τ nil:=by
 have b:=(zS w τ).alloc' (.cells (rR k tx pv nx pg sl hd g (.slice pb nb cb) (.slice pa j ca) (.slice h nt ct) (.slice i np cp)) 73)
 have a:=Z2 b
 clear b
 by_cases h2:k=2
 ·subst h2
  go_enter Tryz.func144,Tryz.ntmps144
  go_wp2_with fail
  go_ret
  exact⟨rfl,a⟩
 by_cases l:k=3
 ·subst l
  go_enter Tryz.func144,Tryz.ntmps144
  go_wp2_with fail
  go_ret
  exact⟨rfl,a⟩
 have c:¬(k:Int)=2:=oM
 have d:¬(k:Int)=3:=oM
 go_enter Tryz.func144,Tryz.ntmps144
 go_wp2_with fail
 go_ret
 exact⟨by simp[qgb,h2,l];exact⟨c,d⟩,a⟩
theorem Qn3 (w:World) (τ:qa1) (k tx pv nx pg sl:Nat) (hd a:Bool) (pb pa o p:Option Addr) (nb cb b ca nt ct np cp:Nat):Calls Tryz.prog 183 #[.agg (rR k tx pv nx pg sl hd a (.slice pb nb cb) (.slice pa b ca) (.slice o nt ct) (.slice p np cp))] w fun e L=>e = .returned (.bool (qef (qgb k) pg sl hd a nb b))/\Step w τ L τ nil:=by
 have q:=fun (W:World) (τ:qa1)=>Qhk W τ k tx pv nx pg sl hd a pb pa o p nb cb b ca nt ct np cp
 have G:=((zS w τ).alloc (.cells (rR k tx pv nx pg sl hd a (.slice pb nb cb) (.slice pa b ca) (.slice o nt ct) (.slice p np cp)) 73) qbv).alloc (.cells #[.int .u32 pg,.int .u16 sl,.bool hd,.bool a,.slice pb nb cb,.slice pa b ca] 70) qbv
 have C:=Own.born (w.alloc (.cells (rR k tx pv nx pg sl hd a (.slice pb nb cb) (.slice pa b ca) (.slice o nt ct) (.slice p np cp)) 73)) (τ.put w.heap.size qbv) qbv 70 #[.int .u32 pg,.int .u16 sl,.bool hd,.bool a,.slice pb nb cb,.slice pa b ca]
 have j:∀W,Step ((w.alloc (.cells (rR k tx pv nx pg sl hd a (.slice pb nb cb) (.slice pa b ca) (.slice o nt ct) (.slice p np cp)) 73)).alloc (.cells #[.int .u32 pg,.int .u16 sl,.bool hd,.bool a,.slice pb nb cb,.slice pa b ca] 70)) ((τ.put w.heap.size qbv).put (w.alloc (.cells (rR k tx pv nx pg sl hd a (.slice pb nb cb) (.slice pa b ca) (.slice o nt ct) (.slice p np cp)) 73)).heap.size qbv) W ((τ.put w.heap.size qbv).put (w.alloc (.cells (rR k tx pv nx pg sl hd a (.slice pb nb cb) (.slice pa b ca) (.slice o nt ct) (.slice p np cp)) 73)).heap.size qbv) nil->Step w τ W τ nil:=fun W h=>⟨(G.trans h).mod,Ext.refl _ _⟩
 have l:=j _ (Step.refl _ _ _)
 simp only[World.size_alloc] at C j
 generalize (τ.put w.heap.size qbv).put (w.heap.size+1) qbv=τ1 at *
 obtain⟨r,s⟩:=gN (qgb k)
 rw[s] at q ⊢
 obtain⟨D,M,E,c,Hcb⟩:=qbq q C j l s
 clear q C j l s G
 by_cases h1:64<nb
 ·have O:(64:Int)<nb:=oM
  go_enter Tryz.func183,Tryz.ntmps183
  go_wp2_with fail
  go_ret
  exact⟨by simp[qef,h1],c⟩
 have O:¬(64:Int)<nb:=oM
 by_cases h2:64<b
 ·have R:(64:Int)<b:=oM
  go_enter Tryz.func183,Tryz.ntmps183
  go_wp2_with fail
  go_ret
  exact⟨by simp[qef,h2],c⟩
 have R:¬(64:Int)<b:=oM
 by_cases y:hd=false/\0<nb
 ·obtain⟨rfl,y⟩:=y
  go_enter Tryz.func183,Tryz.ntmps183
  go_wp2_with fail
  go_ret
  exact⟨by simp[qef,y],c⟩
 have F:hd=true\/(hd=false/\nb=0):=by
  cases hd with
  | true=>exact .inl rfl
  | false=>exact .inr ⟨rfl,Nat.eq_zero_of_not_pos (fun h=>y ⟨rfl,h⟩)⟩
 by_cases z:a=false/\0<b
 ·obtain⟨rfl,z⟩:=z
  rcases F with rfl|⟨rfl,rfl⟩
  all_goals (
   go_enter Tryz.func183,Tryz.ntmps183
   go_wp2_with fail
   go_ret
   exact⟨by simp[qef,z],c⟩)
 have I:a=true\/(a=false/\b=0):=by
  cases a with
  | true=>exact .inl rfl
  | false=>exact .inr ⟨rfl,Nat.eq_zero_of_not_pos (fun h=>z ⟨rfl,h⟩)⟩
 have g:qef r pg sl hd a nb b=(r || (decide (pg=0) && decide (sl=0) && !hd && !a)):=by
  unfold qef
  have U:(!hd && decide (0<nb))=false:=by rcases F with rfl|⟨rfl,rfl⟩ <;> simp
  have X:(!a && decide (0<b))=false:=by rcases I with rfl|⟨rfl,rfl⟩ <;> simp
  rw[U,X,decide_eq_false h1,decide_eq_false h2];simp
 rw[g]
 obtain⟨Hval,H3,H4⟩:=qan g y z
 clear g y z
 rcases F with rfl|⟨rfl,rfl⟩
 all_goals rcases I with rfl|⟨rfl,rfl⟩
 all_goals (
  go_enter Tryz.func183,Tryz.ntmps183
  go_wp2_with fail
  refine(D _ τ1).mono ?_
  rintro e w2 ⟨rfl,x⟩
  have i:=M.step x id
  have c0:=i.at 0 rfl
  have c1:=i.at 1 rfl
  have c2:=i.at 2 rfl
  have c3:=i.at 3 rfl
  have n:=E _ x
  have d:=Z2 n
  clear n i x
  cases r with
  | true =>
    go_wp2_with fail
    go_ret
    exact⟨sM,d⟩
  | false =>
    by_cases J:pg=0
    ·by_cases B:sl=0
     ·go_wp2_with fail
      go_ret
      exact⟨by simp[J,B],d⟩
     ·go_wp2_with fail
      go_ret
      exact⟨by simp[B],d⟩
    ·go_wp2_with fail
     go_ret
     exact⟨by simp[J],d⟩)
theorem NS.txn {n0:Nat}{w:World}{τ:qa1}{g:Tag}{v:Value}{l:List qdb}(h:NS 42 4 Qct n0 w τ g v l):∃p c,v = .slice p l.length c/\l.length<=maxLen/\∀(i:Nat) (x:qdb),l[i]?=some x->∃b,p=some ⟨b,0,none⟩/\w.cell? ⟨b,i*4,none⟩=some (.int .u32 x.txn)/\w.cell? ⟨b,i*4+1,none⟩=some (.int .u64 x.last)/\w.cell? ⟨b,i*4+2,none⟩=some (.int .u64 x.undo)/\w.cell? ⟨b,i*4+3,none⟩=some (.int .u8 x.state):=by
 obtain⟨h1,⟨rfl,h2⟩|⟨b,cap,ys,rfl,k,h3,h4,h5⟩⟩:=h.buf
 ·refine⟨none,0,by rw[h2],by rw[h2];exact Z9 _,fun i x a=>?_⟩
  have:=(Z4 a).1
  omega
 ·refine⟨_,cap,rfl,oM,fun i x a=>?_⟩
  have key:∀(l:List qdb) (i:Nat) (x:qdb) (j:Nat),l[i]?=some x->j<4->(l.flatMap Qct)[i*4+j]?=(Qct x)[j]?:=by
   intro l
   induction l with
   | nil=>intro i x j a;simp at a
   | cons y l ih =>
     intro i x j a d
     rw[List.flatMap_cons]
     have hl:(Qct y).length=4:=rfl
     cases i with
     | zero =>
       have:y=x:=by simpa using a
       subst this
       rw[Y5 (by rw[hl];omega),Nat.zero_mul,Nat.zero_add]
     | succ i =>
       rw[Y6 (by rw[hl];omega),hl,show (i+1)*4+j-4=i*4+j by omega]
       exact ih i x j (by simpa using a) d
  have at_:∀j v,j<4->(Qct x)[j]?=some v->w.cell? ⟨b,i*4+j,none⟩=some v:=fun j v d hv=>by
   have e:=key l i x j a d
   exact k.at _ (by rw[Y5 (by have:=Z4 (e.trans hv);exact this.1),e,hv])
  exact⟨b,rfl,at_ 0 _ oM rfl,at_ 1 _ oM rfl,at_ 2 _ oM rfl,at_ 3 _ oM rfl⟩
def Qj4 (s:Nat):Bool:=decide (s<1) || decide (3<s)
theorem Quf (w:World) (a b c s:Nat):Calls Tryz.prog 182 #[.agg #[.int .u32 a,.int .u64 b,.int .u64 c,.int .u8 s]] w fun e h=>e = .returned (.bool (Qj4 s))/\∀τ,Step w τ h τ nil:=by
 have g:=fun τ=>(zS w τ).alloc' (.cells #[.int .u32 a,.int .u64 b,.int .u64 c,.int .u8 s] 42)
 have d:=Z2 g
 clear g
 by_cases h1:s<1
 ·obtain rfl:s=0:=oM
  go_enter Tryz.func182,Tryz.ntmps182
  go_wp2_with fail
  go_ret
  exact⟨rfl,d⟩
 have i1:¬(s:Int)<1:=oM
 by_cases i:3<s
 ·have j:(3:Int)<s:=oM
  go_enter Tryz.func182,Tryz.ntmps182
  go_wp2_with fail
  go_ret
  exact⟨by simp[Qj4,i],d⟩
 have j:¬(3:Int)<s:=oM
 go_enter Tryz.func182,Tryz.ntmps182
 go_wp2_with fail
 go_ret
 exact⟨by simp[Qj4];omega,d⟩
def Qdu (l:List qdb):Bool:=l.any (fun x=>Qj4 x.state)
theorem Qoo {w:World}{τ:qa1}{g:Tag}{n0:Nat}{v:Value}{l:List qdb}(h:NS 42 4 Qct n0 w τ g v l) :
 Calls Tryz.prog 226 #[v,.func (.func 182) #[] #[]] w fun e R=>(∃r:Int,e = .returned (.int .i64 r)/\(decide (0<=r)=Qdu l))/\Step w τ R τ nil:=by
 obtain⟨p,c,rfl,i,-⟩:=h.txn
 obtain⟨len,hl⟩:=gN l.length
 rw[hl] at i
 have hbig:len<=9223372036854775807:=by unfold maxLen at i;omega
 rw[hl] at h ⊢
 obtain⟨G,O⟩:=qaj h hl
 clear h hl i
 go_enter Tryz.func226,Tryz.ntmps226
 go_wp2_with fail
 go_loopw [8] (fun v wr=>∃k:Nat,k<=len/\v = .int .i64 k/\Step w τ wr τ nil/\∀(j:Nat) (y:qdb),j<k->l[j]?=some y->Qj4 y.state=false) (fun v _=>len-(intOf v).toNat)
 case atStart=>exact⟨0,Z9 _,rfl,Step.refl _ _ _,fun j y I=>oM⟩
 case round =>
  obtain⟨k,hk,rfl,d,n⟩:=hrel
  by_cases J:k<len
  ·obtain⟨x,C⟩:∃x,l[k]?=some x:=⟨_,Z3 (by rw[O.out];exact J)⟩
   obtain⟨p',c',hv,-,D⟩:=(G.step d id).txn
   obtain⟨b,U,c0,c1,c2,c3⟩:=D k x C
   simp only[Value.slice.injEq] at hv
   obtain⟨rfl,-,rfl⟩:=hv
   subst U
   have hkI:(k:Int)<len:=oM
   have z:=Quf wr x.txn x.last x.undo x.state
   cases hh:Qj4 x.state with
   | true =>
     rw[hh] at z
     have a:Qdu l=true:=by
      unfold Qdu
      rw[List.any_eq_true]
      exact⟨x,List.mem_of_getElem? C,hh⟩
     obtain⟨X,Y,Z,xs⟩:=x
     simp only at c0 c1 c2 c3 z
     obtain⟨L,o,q⟩:=qan z d a
     clear z d a n hh C D
     go_wp2_with (go_at_call 182;refine L.mono ?_;rintro e w2 ⟨rfl,s⟩;have E:=Z2 s;clear s)
     go_returns
     exact⟨⟨(k:Int),rfl,by rw[q.out];simp⟩,o.trans (E τ)⟩
   | false =>
     rw[hh] at z
     have B:∀(j:Nat) (y:qdb),j<k+1->l[j]?=some y->Qj4 y.state=false:=fun j y I M=>by
      by_cases e:j=k
      ·subst e
       rw[C] at M
       cases M
       exact hh
      ·exact n j y oM M
     obtain⟨X,Y,Z,xs⟩:=x
     simp only at c0 c1 c2 c3 z
     obtain⟨L,o⟩:=qaj z d
     have F:=Z2 B
     clear z d B n hh C D
     go_wp2_with (go_at_call 182;refine L.mono ?_;rintro e w2 ⟨rfl,s⟩;have E:=Z2 s;clear s)
     go_round
     case rel=>exact⟨k+1,oM,sM,o.trans (E τ),F⟩
     case measure=>simp[intOf];omega
  ·obtain rfl:k=len:=oM
   have a:Qdu l=false:=by
    unfold Qdu
    rw[List.any_eq_false]
    intro x C
    obtain⟨j,I,rfl⟩:=List.mem_iff_getElem.1 C
    rw[n j l[j] (by have:=O.out;omega) (Z3 I)];simp
   obtain⟨o,q⟩:=qaj d a
   clear d a n
   go_wp2_with fail
   go_returns
   exact⟨⟨-1,rfl,by rw[q.out];decide⟩,o⟩
theorem Qpz {w:World}{τ:qa1}{g:Tag}{n0:Nat}{v:Value}{l:List qdb}(h:NS 42 4 Qct n0 w τ g v l) :
 Calls Tryz.prog 184 #[v,.func (.func 182) #[] #[]] w fun e d=>e = .returned (.bool (Qdu l))/\Step w τ d τ nil:=by
 have h1:=Qoo h
 obtain⟨p,c,rfl⟩:=h.val
 have H1:=Z2 h1
 clear h1 h
 go_enter Tryz.func184,Tryz.ntmps184
 go_wp2_with fail
 refine H1.mono ?_
 rintro e w1 ⟨⟨r,rfl,a⟩,b⟩
 obtain⟨i,j⟩:=qaj b a
 clear b a
 go_wp2_with fail
 go_returns
 exact⟨by rw[<-j.out];rfl,i⟩
def qep (k nt np:Nat) (mc wr:Bool):Bool := !(decide (k<1) || decide (8<k) || decide (64<nt) || decide (64<np)) && !(decide (k≠8) && decide (0<nt+np)) && (mc && !wr)
theorem Qn4 {w:World}{τ:qa1}{g:Tag}{n0:Nat}(k tx pv nx pg sl:Nat) (hd q:Bool) (pb pa D E:Option Addr) (nb cb r ca nt ct np cp:Nat) {lt:List qdb}(F:lt.length=nt) (G:NS 42 4 Qct n0 w τ g (.slice D nt ct) lt):Calls Tryz.prog 142 #[.agg (rR k tx pv nx pg sl hd q (.slice pb nb cb) (.slice pa r ca) (.slice D nt ct) (.slice E np cp))] w fun e w'=>e = .returned (.bool (qep k nt np (qef (qgb k) pg sl hd q nb r) (Qdu lt)))/\Step w τ w' τ nil:=by
 have s:=fun (W:World) (τ:qa1)=>Qn3 W τ k tx pv nx pg sl hd q pb pa D E nb cb r ca nt ct np cp
 have Y:=(zS w τ).alloc (.cells (rR k tx pv nx pg sl hd q (.slice pb nb cb) (.slice pa r ca) (.slice D nt ct) (.slice E np cp)) 73) qbv
 have Z:=Own.born w τ qbv 73 (rR k tx pv nx pg sl hd q (.slice pb nb cb) (.slice pa r ca) (.slice D nt ct) (.slice E np cp))
 have j:∀W,Step (w.alloc (.cells (rR k tx pv nx pg sl hd q (.slice pb nb cb) (.slice pa r ca) (.slice D nt ct) (.slice E np cp)) 73)) (τ.put w.heap.size qbv) W (τ.put w.heap.size qbv) nil->Step w τ W τ nil:=fun W h=>⟨(Y.trans h).mod,Ext.refl _ _⟩
 have l:=j _ (Step.refl _ _ _)
 have b:=G.step Y id
 obtain⟨bv,x⟩:=gN w.heap.size
 rw[x] at Z j b
 generalize τ.put bv qbv=τ1 at *
 obtain⟨mc,y⟩:=gN (qef (qgb k) pg sl hd q nb r)
 rw[y] at s ⊢
 obtain⟨a1,Ho,I,a,Hmc,J,a2,Hnt⟩:=qen s Z j l y b x F
 clear s Z j l y b x F Y G
 by_cases h1:k<1
 ·obtain rfl:k=0:=oM
  go_enter Tryz.func142,Tryz.ntmps142
  go_wp2_with fail
  go_ret
  exact⟨by simp[qep],a⟩
 have i1:¬(k:Int)<1:=oM
 by_cases h2:8<k
 ·have i2:(8:Int)<k:=oM
  go_enter Tryz.func142,Tryz.ntmps142
  go_wp2_with fail
  go_ret
  exact⟨by simp[qep,h2],a⟩
 have i2:¬(8:Int)<k:=oM
 by_cases h3:64<nt
 ·have i3:(64:Int)<nt:=oM
  go_enter Tryz.func142,Tryz.ntmps142
  go_wp2_with fail
  go_ret
  exact⟨by simp[qep,h3],a⟩
 have i3:¬(64:Int)<nt:=oM
 by_cases h4:64<np
 ·have i4:(64:Int)<np:=oM
  go_enter Tryz.func142,Tryz.ntmps142
  go_wp2_with fail
  go_ret
  exact⟨by simp[qep,h4],a⟩
 have i4:¬(64:Int)<np:=oM
 have hsum:IntKind.i64.wrap ((nt:Int)+np)=(nt:Int)+np:=Qd5 _ oM oM
 by_cases L:k≠8/\0<nt+np
 ·have i5:(0:Int)<nt+(np:Int):=oM
  have i6:¬(k:Int)=8:=oM
  go_enter Tryz.func142,Tryz.ntmps142
  go_wp2_with fail
  go_ret
  exact⟨by simp[qep,L.1,L.2],a⟩
 have c:qep k nt np mc (Qdu lt)=(mc && !Qdu lt):=by
  unfold qep
  rw[decide_eq_false h1,decide_eq_false h2,decide_eq_false h3,decide_eq_false h4]
  have:(decide (k≠8) && decide (0<nt+np))=false:=by
   cases hx:(decide (k≠8) && decide (0<nt+np)) with
   | false=>rfl
   | true =>
     rw[Bool.and_eq_true,decide_eq_true_eq,decide_eq_true_eq] at hx
     exact absurd hx L
  rw[this];simp
 rw[c]
 have j5:k=8\/(¬k=8/\nt=0/\np=0):=by
  by_cases h8:k=8
  ·exact .inl h8
  ·exact .inr ⟨h8,oM,oM⟩
 obtain⟨wr_,z⟩:=gN (Qdu lt)
 rw[z]
 obtain⟨Hval,a6,H5⟩:=qan c z L
 clear c z L h1 h2 h3 h4
 rcases j5 with rfl|⟨h8,rfl,rfl⟩
 all_goals (
  try have i8:¬(k:Int)=8:=oM
  go_enter Tryz.func142,Tryz.ntmps142
  go_wp2_with fail
  try rw[a2.out]
  refine(a1 _ τ1).mono ?_
  rintro e w2 ⟨rfl,d⟩
  have M:=Ho.step d id
  have c10:=M.at 10 rfl
  have n:=J.step d id
  have B:=Qpz n
  rw[a6.out] at B
  have o:=I _ d
  have p:∀X,Step w2 τ1 X τ1 nil->Step w τ X τ nil:=fun X h=>I _ (d.trans h)
  obtain⟨O,a7,R⟩:=qan o B p
  clear o B p M d n
  cases mc with
  | false =>
    go_wp2_with fail
    go_ret
    exact⟨sM,O⟩
  | true =>
    go_wp2_with fail
    refine a7.mono ?_
    rintro e X ⟨rfl,U⟩
    have i:=R _ U
    have C:=Z2 i
    clear i U
    go_wp2_with fail
    go_ret
    exact⟨sM,C⟩)
theorem Tryz.infoDone:(Tryz.prog.info? 214).map (fun i=>(i.zero,i.size,i.bytes))=some (some (.agg #[.int .u64 0,.int .u64 0]),2,16):=kR
theorem Qec {w:World}{τ:qa1}{g:Tag}{v:Value}{l:List (Nat×Nat)}(c:NS 214 2 Qa0 0 w τ g v l) (x:Nat×Nat) (hsz:l.length<=1000000) {kb:Nat} (j:kb=w.heap.size)
 {ops:Array Oper} {rest:List Oper} {o:Oper} {a:Act} {Q:Exit->Act->World->Prop} (n:o.guard=none) (s y:Operand)
 (p:o.op = .call {callee:=.builtin .append,args:=#[s,y],argTypes:=#[106,106]}) (D:a.eval s=v) (E:a.eval y = .slice (some ⟨kb,0,none⟩) 1 1)
 (h:∀i d b,NS 214 2 Qa0 0 d b g i (l++[x])->Step w τ d b (fun t=>t=g)->wpList Tryz.prog ops Q rest (a.put o.dst i) d):wpList Tryz.prog ops Q (o::rest) a (w.alloc (.cells #[.int .u64 x.1,.int .u64 x.2] 214)):=by
 subst j
 refine wpList_plain n fun K F=>?_
 obtain⟨G,hi,q,r,z⟩:=info_parts Tryz.infoDone
 have e:=c.step ((Step.refl w τ Go.Proofs.YtociicnopccppaaGreat.nil).alloc' (.cells #[.int .u64 x.1,.int .u64 x.2] 214)) id
 obtain⟨i,d,b,I,B,J,L,hnw⟩:=Qap (P:=Tryz.prog) (w.alloc (.cells #[.int .u64 x.1,.int .u64 x.2] 214)) τ g 106 o.type 214 G (.agg #[.int .u64 0,.int .u64 0]) 2 16 Tryz.underlying106 hi q r z rfl dC v l.length (l.flatMap Qa0) e.buf
  (some ⟨w.heap.size,0,none⟩) 1 1 (Qa0 x) rfl (fun h=>by cases h) (by
    intro ad had;cases had;exact World.news_of_block (cs:=#[.int .u64 x.1,.int .u64 x.2]) (t := 214) (fr:=(0,0)) (heap_alloc_new w _)) (by intro u C;simp[Qa0] at C;rcases C with rfl|rfl <;> rfl) (by unfold maxLen;omega) oM
 unfold Oper.wp execOp
 simp only[p,resolve,invoke,builtin,Sem.run_bind,Sem.run_pure,Result.andThen_ok,List.map_toArray,X0,List.map_nil,D,E,I]
 refine F _ _ (h i d b ⟨?_,fun _ _=>Z9 _⟩ (((Step.refl w τ _).alloc' _).trans ⟨L.mono (fun k hk M=>(e.buf.own k M).1),J⟩))
 rw[Z6,List.flatMap_append,show [x].flatMap Qa0=Qa0 x by simp];exact B
end Go.Proofs.YtociicnopccppaaGreat
namespace Go.Proofs.YtociicnopccppaaGreat
open Go.RowKit Go.Maps
theorem Qpy (w:World) (a b:Nat):Calls Tryz.prog 95 #[.int .u64 a,.int .u64 b] w fun e c=>e = .returned (.int .u64 ((if a<b then a else 0:Nat):Int))/\w=c:=by
 by_cases h:a<b
 ·rw[if_pos h]
  have hi:(a:Int)<b:=oM
  go_enter Tryz.func95,Tryz.ntmps95
  go_wp2_with fail
  go_ret
  exact⟨rfl,rfl⟩
 ·rw[if_neg h]
  have hi:¬(a:Int)<b:=oM
  go_enter Tryz.func95,Tryz.ntmps95
  go_wp2_with fail
  go_ret
  exact⟨rfl,rfl⟩
theorem Qwg (a b:Nat):((a:Int)==b)=decide (a=b):=by
 rw[Bool.eq_iff_iff,beq_iff_eq,decide_eq_true_eq];omega
def AskD (F:Nat) (bc:Nat) (p:Nat×Nat->Bool) (W:World):Prop:=∀(y:Nat×Nat),Calls Tryz.prog F #[.agg #[.int .u64 y.1,.int .u64 y.2],.pointer (some ⟨bc,0,none⟩)] W fun e w'=>e = .returned (.bool (p y))/\∀τ,Step W τ w' τ nil
def AskF (F:Nat):Prop:=F = 158
theorem Quk {w:World}{bc m:Nat}(c:w.cell? ⟨bc,0,none⟩=some (.int .u64 m)):AskD 158 bc (fun y=>decide (y.1=m)) w:=by
 intro y
 have hl:=qb0 c
 have a:∀τ,Step w τ (w.alloc (.cells #[.int .u64 y.1,.int .u64 y.2] 214)) τ nil:=fun τ=>(zS w τ).alloc' _
 have b:=Z2 a
 clear a
 go_enter Tryz.func158,Tryz.ntmps158
 go_wp2_with fail
 go_ret
 exact⟨by rw[<-Qwg];simp,b⟩
def Qrt (l:List (Nat×Nat)) (p:Nat×Nat->Bool) (r:Int):Prop:=(r = -1/\∀(k:Nat) y,l[k]?=some y->p y=false)\/∃(k:Nat) (y:Nat×Nat),r=(k:Int)/\l[k]?=some y/\p y=true/\∀(j:Nat) z,j<k->l[j]?=some z->p z=false
theorem Qlr {w:World}{τ:qa1}{g:Tag}{n0 F bc:Nat}{p:Nat×Nat->Bool}{v:Value}{l:List (Nat×Nat)}(h:NS 214 2 Qa0 n0 w τ g v l) (X:AskF F) (o:∀W,Step w τ W τ nil->AskD F bc p W) :
 Calls Tryz.prog 201 #[v,.func (.func F) #[] #[.pointer (some ⟨bc,0,none⟩)]] w fun e Y=>(∃r:Int,e = .returned (.int .i64 r)/\Qrt l p r)/\Step w τ Y τ nil:=by
 obtain⟨a,cap,rfl,M,D⟩:=h.done
 have hbig:l.length<=9223372036854775807:=by unfold maxLen at M;omega
 generalize E:l.length=len at *
 obtain⟨H_h,G,O,I⟩:=qb9 h o D E
 clear h o D E
 rcases X with rfl
 all_goals (
  go_enter Tryz.func201,Tryz.ntmps201
  go_wp2_with fail
  go_loopw [8] (fun v wr=>∃k:Nat,k<=len/\v = .int .i64 k/\Step w τ wr τ nil/\∀(j:Nat) y,j<k->l[j]?=some y->p y=false) (fun v _=>len-(intOf v).toNat)
  case atStart=>exact⟨0,Z9 _,rfl,Step.refl _ _ _,fun j y Z=>oM⟩
  case round =>
   obtain⟨k,hk,rfl,c,d⟩:=hrel
   by_cases R:k<len
   ·obtain⟨x,J⟩:∃x,l[k]?=some x:=⟨_,Z3 (by rw[I.out];exact R)⟩
    obtain⟨b,rfl,c0,c1⟩:=O k x J
    replace c0:=cell_kept c c0 id
    replace c1:=cell_kept c c1 id
    have hkI:(k:Int)<len:=oM
    have q:=G wr c x
    cases hh:p x with
    | true =>
      rw[hh] at q
      obtain⟨x1,x2⟩:=x
      simp only at c0 c1 q
      obtain⟨U,i,Hx,z,Hh⟩:=qbq q c J d hh
      clear q c J d hh
      go_wp2_with fail
      refine U.mono ?_
      rintro e w2 ⟨rfl,n⟩
      have B:=Z2 n
      clear n
      go_wp2_with fail
      go_returns
      exact⟨⟨_,rfl,.inr ⟨k,_,rfl,Hx,Hh,z⟩⟩,i.trans (B τ)⟩
    | false =>
      rw[hh] at q
      have s:∀(j:Nat) (y:Nat×Nat),j<k+1->l[j]?=some y->p y=false:=fun j y Z C=>by
       by_cases e:j=k
       ·subst e
        rw[J] at C
        cases C
        exact hh
       ·exact d j y oM C
      obtain⟨x1,x2⟩:=x
      simp only at c0 c1 q
      obtain⟨U,i⟩:=qaj q c
      have L:=Z2 s
      clear q c s d hh J
      go_wp2_with fail
      refine U.mono ?_
      rintro e w2 ⟨rfl,n⟩
      have B:=Z2 n
      clear n
      go_wp2_with fail
      go_round
      case rel=>exact⟨k+1,oM,sM,i.trans (B τ),L⟩
      case measure=>simp[intOf];omega
   ·obtain rfl:k=len:=oM
    obtain⟨i,z⟩:=qaj c d
    clear c d
    go_wp2_with fail
    go_returns
    exact⟨⟨_,rfl,.inl ⟨rfl,fun j y C=>z j y (by have:=(Z4 C).1;have:=I.out;omega) C⟩⟩,i⟩)
theorem Qmb {w:World}{τ:qa1}{b:Nat}{g:Tag}{T:TypeId}{cur:List Value}(j:Own w τ b g T cur) {off n c:Nat}(h0:0<n) (a:off+n*2<=cur.length) (k:TypeId) :
 (Builtin.clear_ #[106] k #[.slice (some ⟨b,off,none⟩) n c]).run Tryz.prog w = .ok (.tuple #[]) (w.setRow b (over cur off (List.replicate (n*2) (.int .u64 0))).toArray):=by
 have d:(Builtin.zeroCells (Value.agg #[.int .u64 0,.int .u64 0]).cells n).toList=List.replicate (n*2) (.int .u64 0):=by
  have l:(Value.agg #[.int .u64 0,.int .u64 0]).cells=#[.int .u64 0,.int .u64 0]:=rfl
  rw[l]
  simp[Builtin.zeroCells]
  apply List.ext_getElem
  ·simp
  ·intro i h1 h2
   have:i%2=0\/i%2=1:=oM
   rcases this with h|h <;> simp[h]
 have e:=run_storeCells_at Tryz.prog b off T (List.replicate (n*2) (.int .u64 0)) 0 cur.toArray w j.row (by simpa using a) (by intro v hv;rw[List.eq_of_mem_replicate hv];rfl)
 obtain⟨m,rfl⟩:∃m,n=m+1:=⟨n-1,oM⟩
 simp[Builtin.clear_,run_underlying Tryz.underlying106,Tryz.zeroValue214 w,d,e,over]
theorem Qjy (l:List (Nat×Nat)):(l.flatMap Qa0).length=l.length*2:=by
 induction l with
 | nil=>rfl
 | cons a l ih =>
   rw[List.flatMap_cons,Z6,ih,Y4]
   show 2+l.length*2=_
   omega
theorem Qxg (A B Z ys:List Value) (h:B.length=Z.length):over (A++B++ys) A.length Z=A++(Z++ys):=by
 unfold over
 rw[Y9 A B ys,List.take_left' rfl,<-Y9 A B ys,List.drop_left' (by rw[Z6,h]),Y9]
theorem Qvr {l1 b:List (Nat×Nat)}{p:Nat×Nat->Bool}{r:Int}(h:Qrt (l1++b) p r) (h1:∀y∈l1,p y=false) (h2:∀y∈b,p y=true):(b=[]/\r = -1)\/(0<b.length/\r=(l1.length:Int)):=by
 rcases h with ⟨rfl,d⟩|⟨k,y,rfl,e,j,c⟩
 ·left
  refine⟨?_,rfl⟩
  cases b with
  | nil=>rfl
  | cons a b =>
    have:=d l1.length a (by rw[Y6 (Z0 _),Nat.sub_self];rfl)
    rw[h2 a sM] at this;cases this
 ·right
  have hk:l1.length<=k:=by
   rcases Nat.lt_or_ge k l1.length with h|h
   ·rw[Y5 h] at e
    rw[h1 y (List.mem_of_getElem? e)] at j;cases j
   ·exact h
  have g:=(Z4 e).1
  rw[Z6] at g
  refine⟨oM,?_⟩
  rcases Nat.lt_or_ge l1.length k with h|h
  ·exfalso
   have i:0<b.length:=oM
   have:=c l1.length (b[0]) h (by rw[Y6 (Z0 _),Nat.sub_self,Z3 i])
   rw[h2 _ (List.getElem_mem _)] at this;cases this
  ·have:k=l1.length:=oM
   rw[this]
theorem Qlt {w:World}{τ:qa1}{g:Tag}{F bc:Nat}{p:Nat×Nat->Bool}{v:Value}{l1 d:List (Nat×Nat)}(h:NS 214 2 Qa0 0 w τ g v (l1++d)) (hF:AskF F) (o:∀W,Step w τ W τ nil->AskD F bc p W) (h1:∀y∈l1,p y=false) (h2:∀y∈d,p y=true) (hlen:(l1++d).length<=1000) :
 Calls Tryz.prog 157 #[v,.func (.func F) #[] #[.pointer (some ⟨bc,0,none⟩)]] w fun e w'=>∃v',e = .returned v'/\NS 214 2 Qa0 0 w' τ g v' l1/\Step w τ w' τ (fun t=>t=g):=by
 have hi:=Qlr h hF o
 have x:=fun r (D:Qrt (l1++d) p r)=>Qvr D h1 h2
 obtain⟨a,cap,rfl⟩:=h.val
 by_cases E:d=[]
 ·subst E
  rw[List.append_nil] at h hi ⊢
  generalize hnl:l1.length=n at *
  obtain⟨Hi,G,O⟩:=qan hi x h
  clear hi x h
  go_enter Tryz.func157,Tryz.ntmps157
  go_wp2_with fail
  refine Hi.mono ?_
  rintro e w1 ⟨⟨r,rfl,D⟩,R⟩
  have I:r = -1:=by
   rcases G.out r (by rw[List.append_nil];exact D) with ⟨_,h⟩|⟨h,_⟩
   ·exact h
   ·exact absurd h sM
  subst I
  have Hs:=Z2 R
  clear R D
  go_wp2_with fail
  go_ret
  exact⟨_,rfl,O.step Hs id,Hs.nz⟩
 ·have U:0<d.length:=by
   cases d with
   | nil=>exact absurd rfl E
   | cons a l=>simp
  obtain⟨hx,⟨hv,he⟩|⟨b,cap2,ys,hv,ho,X,ag,ah⟩⟩:=h.buf
  ·rw[Z6] at he;omega
  cases hv
  obtain⟨_,_,ai,hmx,Y⟩:=h.done
  cases ai
  have J:(l1++d).length=l1.length+d.length:=Z6
  have Z:∀(j:Nat) y,l1.length<=j->(l1++d)[j]?=some y->p y=true:=fun j y hj M=>by
   rw[Y6 hj] at M
   exact h2 y (List.mem_of_getElem? M)
  have z:=fun (W:World) (m:Step w τ W τ nil) (ty:TypeId)=>Qmb (ho.step m id) (off:=l1.length*2) (n:=d.length) (c:=cap-l1.length) U (by rw[Z6,Qjy,J];omega) ty
  have B:over ((l1++d).flatMap Qa0++ys) (l1.length*2) (List.replicate (d.length*2) (.int .u64 0))=l1.flatMap Qa0++(List.replicate (d.length*2) (.int .u64 0)++ys):=by
   have:=Qxg (l1.flatMap Qa0) (d.flatMap Qa0) (List.replicate (d.length*2) (.int .u64 0)) ys (by rw[Qjy,Z7])
   rw[Qjy] at this
   rw[List.flatMap_append];exact this
  have a0:=Qjy l1
  generalize a1:(l1++d).length=n at *
  generalize hk:l1.length=k at *
  generalize hm:d.length=m at *
  have hcap:n<=cap:=ag
  have n1:¬cap=k:=oM
  have n3:(k:Int)<=n:=oM
  have n4:(n:Int)<=cap:=oM
  have n5:k<=n:=oM
  have n6:k<=cap:=oM
  have n7:(k:Int)<=cap:=oM
  have n8:n-k=m:=oM
  have n9:((n:Int)-k)=(m:Int):=oM
  obtain⟨Hi,G,O,a2,Hx,Ho,aj,ak,a3,a4,a5,al⟩:=qds hi x h o hx ho Y Z z B a0 a1
  obtain⟨Hk,an,ao⟩:=qan hk X J
  clear hi x h o hx ho Y Z z B a0 a1 hk hm X J
  rcases hF with rfl
  all_goals (
   go_enter Tryz.func157,Tryz.ntmps157
   go_wp2_with fail
   refine Hi.mono ?_
   rintro e w1 ⟨⟨r,rfl,D⟩,R⟩
   have I:r=(k:Int):=by
    rcases G.out r D with ⟨h,_⟩|⟨_,h⟩
    ·exact absurd h E
    ·exact h
   subst I
   have Hs:=Z2 R
   clear R D
   go_wp2_with fail
   go_loopw [5,6] (fun u v wr=>∃j:Nat,k+1<=j/\j<=n/\u = .int .i64 k/\v = .int .i64 j/\Step w τ wr τ nil) (fun _ v _=>n-(intOf v).toNat)
   case atStart=>exact⟨k+1,Z0 _,oM,rfl,sM,Hs⟩
   case round =>
    obtain⟨j,hj1,hj2,rfl,rfl,i⟩:=hrel
    by_cases ap:j<n
    ·obtain⟨y,M⟩:∃y,(l1++d)[j]?=some y:=⟨_,Z3 (by rw[al.out];exact ap)⟩
     obtain⟨b',aq,d0,d1⟩:=aj j y M
     cases aq
     replace d0:=cell_kept i d0 id
     replace d1:=cell_kept i d1 id
     have a6:=ak j y oM M
     obtain⟨y1,y2⟩:=y
     simp only at d0 d1
     have s:=i.alloc' (.cells #[.int .u64 y1,.int .u64 y2] 214)
     have hc:=a2 _ s (y1,y2)
     rw[a6] at hc
     simp only at hc
     obtain⟨Hc,a7⟩:=qaj hc s
     clear hc i s a6 M
     go_wp2_with fail
     refine Hc.mono ?_
     rintro e w2 ⟨rfl,a8⟩
     have aw:=Z2 a8
     clear a8
     go_wp2_with fail
     go_round
     case rel =>
      refine⟨_,_,_,_,_,_,_,_,_,_,_,_,_,_,_,_,_,_,_,_,_,_,_,⟨j+1,?_,?_,?_,?_,a7.trans (aw τ)⟩,rfl⟩
      ·omega
      ·omega
      ·rfl
      ·simp
     case measure=>simp[intOf];omega
    ·obtain rfl:j=n:=oM
     have a9:=a3 wr i
     have L:=Ho.step i id
     rw[a4.out] at a9
     have C:=L.row' (l1.flatMap Qa0++(List.replicate (m*2) (Value.int .u64 0)++ys))
     have aa:=(i.mono (T:=fun t=>t=g) (fun _ h=>h.elim)).row L.tag (.inl rfl) (l1.flatMap Qa0++(List.replicate (m*2) (Value.int .u64 0)++ys)).toArray
     obtain⟨ab,ax⟩:=qaj C aa
     clear C aa i L
     go_wp2_with fail
     go_ret
     exact⟨_,rfl,⟨⟨by rw[a5.out,Hk.out],.inr ⟨b,cap,_,by rw[Hk.out];rfl,ab,by rw[Z6,a5.out];have h7:=an.out;have h8:=Hx.out;have h9:=ao.out;rw[h8] at h7;generalize hq:ys.length=q at *;rw[Z7];omega,by rw[Hk.out];omega,ah⟩⟩,fun q _=>Z9 _⟩,ax⟩)
end Go.Proofs.YtociicnopccppaaGreat
namespace Go.Proofs.YtociicnopccppaaGreat
open Go.RowKit Go.Maps Go.Shelf
attribute [local go_sem] Oper.semAt_some
