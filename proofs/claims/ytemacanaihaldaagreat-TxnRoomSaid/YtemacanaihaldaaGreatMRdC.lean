/-
 Records: rows of structs that grow;the reader takes the tables.
-/
import Derived.Test.YtemacanaihaldaaGreatMRdA
import Derived.Test.YtemacanaihaldaaGreatMPoolZ
set_option maxRecDepth 100000
set_option maxHeartbeats 40000000
set_option linter.all false
namespace Go.Proofs.YtemacanaihaldaaGreat
variable {g:Tag}{n0:Nat}{v:Value}{w:World}{τ:Tags}
open Go.RowKit
structure NS {α:Type} (e:TypeId) (k:Nat) (enc:α->List Value) (n0:Nat) (w:World) (τ:Tags) (g:Tag) (v:Value) (l:List α):Prop where
 buf:Buf w τ g e k v l.length (l.flatMap enc)
 low:∀k,v.ownBlock=some k->n0<=k
theorem NS.nil {α:Type}(e:TypeId) (k:Nat) (enc:α->List Value) (n0:Nat) (w:World) (τ:Tags) (g:Tag):NS e k enc n0 w τ g (.slice none 0 0) []:=⟨Buf.nil _ _ _ _ _,fun k hk=>by simp[Value.ownBlock] at hk⟩
theorem NS.step {α:Type} {e:TypeId} {k:Nat} {enc:α->List Value} {d:World} {b:Tags} {S:Tag->Prop} {l:List α}(h:NS e k enc n0 w τ g v l) (m:Step w τ d b S) (i:¬S g):NS e k enc n0 d b g v l:=⟨h.buf.step m i,h.low⟩
theorem NS.val {α:Type} {e:TypeId} {k:Nat} {enc:α->List Value} {l:List α}(h:NS e k enc n0 w τ g v l):∃p c,v = .slice p l.length c:=Buf.len h.buf
theorem Qg3 {α:Type} {enc:α->List Value} {t e:TypeId} {k i:Nat} {i0:TypeInfo} {z:Value}(ht:Tryz.prog.underlying t=some (.slice e)) (hi:Tryz.prog.info? e=some i0) (D:i0.zero=some z) (F:i0.size=k) (G:i0.bytes=i) (I:z.cells.size=k) (J:0<k)
 {B w:World} {q τ:Tags} {S:Tag->Prop} (L:Step B q w τ S) {g:Tag} {v:Value} {l:List α} (r:NS e k enc B.heap.size w τ g v l) (x:α) (M:(enc x).length=k) (N:∀u∈enc x,u.oneCell'=true) (hsz:l.length<=1000000) (O:i<=1000) {kb:Nat} (R:kb=w.heap.size)
 {ops:Array Oper} {o:Oper} {a:Act} {K:Act->World->Prop} {Q:Exit->Act->World->Prop} {E:Prop} (U:o.guard=none) (s y:Operand)
 (X:o.op = .call {callee:=.builtin .append,args:=#[s,y],argTypes:=#[t,t]}) (hs:a.eval s=v) (hy:a.eval y = .slice (some ⟨kb,0,none⟩) 1 1)
 (h:∀C p d,NS e k enc B.heap.size p d g C (l++[x])->Step B q p d S->Step w τ p d (fun t=>t=g)->K (a.put o.dst C) p):if Region.wanted o (yielded ops a.tmps)=true then Oper.wp Tryz.prog o a (w.alloc (.cells (enc x).toArray e)) K Q else E:=by
 subst R
 have hw:Region.wanted o (yielded ops a.tmps)=true:=by simp[Region.wanted,U]
 rw[if_pos hw]
 have b:=L.alloc' (.cells (enc x).toArray e)
 have m:=r.step ((Step.refl w τ Go.Proofs.YtemacanaihaldaaGreat.nil).alloc' (.cells (enc x).toArray e)) (fun h=>h)
 obtain⟨C,p,d,hr,Y,he,hm,Z⟩:=Qap (P:=Tryz.prog) (w.alloc (.cells (enc x).toArray e)) τ g t o.type e i0 z k i ht hi D F G I J v l.length (l.flatMap enc) m.buf
  (some ⟨w.heap.size,0,none⟩) 1 1 (enc x) (by rw[M,Nat.one_mul]) (fun h=>by cases h) (by
    intro ad had j u hu
    cases had
    exact World.news_of_block (cs:=(enc x).toArray) (t:=e) (fr:=(0,0)) (heap_alloc_new w _) j u (by simpa using hu)) N (by unfold maxLen;omega) (by
     have:(l.length+1)*i<=1000001*1000:=Nat.mul_le_mul (by omega) O
     omega)
 unfold Oper.wp execOp
 simp only[X,resolve,invoke,builtin,Sem.run_bind,Sem.run_pure,Result.andThen_ok,List.map_toArray,X1,List.map_nil,hs,hy,hr]
 refine h C p d ⟨?_,fun k hk=>?_⟩ ⟨b.mod.seq hm (fun k hk hS=>absurd (m.low k hS) (by omega)),b.ext.trans he b.size⟩ (((Step.refl w τ _).alloc' _).trans ⟨hm.mono (fun k hk hS=>(m.buf.own k hS).1),he⟩)
 ·rw[Z6,List.flatMap_append,show [x].flatMap enc=enc x by simp];exact Y
 ·rcases Z k hk with h|h
  ·exact m.low k h
  ·have:=b.size;omega
theorem Tryz.infoActive:(Tryz.prog.info? 75).map (fun i=>(i.zero,i.size,i.bytes))=some (some (.agg #[.int .u32 0,.int .u64 0,.int .u64 0,.int .u8 0]),4,32):=by kernel_rfl
structure TxnP where
 txn:Nat
 last:Nat
 undo:Nat
 state:Nat
def Qct (x:TxnP):List Value:=[.int .u32 (x.txn:Int),.int .u64 (x.last:Int),.int .u64 (x.undo:Int),.int .u8 (x.state:Int)]
def Qgn (x:Nat×Nat):List Value:=[.int .u32 (x.1:Int),.int .u64 (x.2:Int)]
def pTxn (l:List Int):Option (TxnP×List Int):=(pNum 4 l).bind fun a=>(pNum 8 a.2).bind fun b=>(pNum 8 b.2).bind fun c=>(pNum 1 c.2).bind fun d=>some (⟨a.1,b.1,c.1,d.1⟩,d.2)
def pDirt (l:List Int):Option ((Nat×Nat)×List Int):=(pNum 4 l).bind fun a=>(pNum 8 a.2).bind fun b=>some ((a.1,b.1),b.2)
def pMany {α:Type}(p:List Int->Option (α×List Int)):Nat->List Int->Option (List α×List Int)
 | 0,l=>some ([],l)
 | n+1,l=>(pMany p n l).bind fun x=>(p x.2).bind fun y=>some (x.1++[y.1],y.2)
theorem Qds {α:Type} {p:List Int->Option (α×List Int)} {i:Nat} {l:List Int}(h:pMany p i l=none):∀n,i<=n->pMany p n l=none:=by
 intro n hn
 induction n with
 | zero =>
    obtain rfl:i=0:=by omega
    exact h
 | succ n ih =>
   by_cases e:i=n+1
   ·subst e;exact h
   ·show (pMany p n l).bind _=none
    rw[ih (by omega)];rfl
def Qdk (l:List Int):Option ((List TxnP×List (Nat×Nat))×List Int) :=
 (pNum 1 l).bind fun n=>(pMany pTxn n.1 n.2).bind fun t=>(pNum 1 t.2).bind fun m=>(pMany pDirt m.1 m.2).bind fun d=>some ((t.1,d.1),d.2)
theorem Qhs {α:Type} {l:List α} {i:Nat} {x:α}(h:l[i]?=some x):l.set i x=l:=by
 apply List.ext_getElem?
 intro j
 by_cases e:i=j
 ·subst e
  rw[List.getElem?_set_self (Z4 h).1,h]
 ·rw[List.getElem?_set_ne e]
theorem Qrv (n:Nat) (h:n<256):IntKind.u8.wrap (n:Int)=(n:Int):=by
 have:IntKind.u8.wrap (n:Int)=(n:Int)%256:=by simp[IntKind.wrap,IntKind.bits,IntKind.signed]
 rw[this];omega
def tRec:Tag:=(200,0)
def tTx:Tag:=(199,0)
def tPx:Tag:=(199,1)
def Qbn (g:Tag):Prop:=g=tRd\/g=tRec\/g=tTx\/g=tPx
theorem Qdm(h:RdTag g):Qbn g:=.inl h
theorem Qql {br bx:Nat} {l:List Int} {cs:List Value}(h:RdAt w τ br g l) (hg:g≠tRd) (ci:¬Qbn g) (hx:Own w τ bx tRec 127 cs) (fi:cs.length=12) (e7:cs[10]?=some (.slice none 0 0)) (h11:cs[11]?=some (.slice none 0 0)) :
 Calls Tryz.prog 206 #[.pointer (some ⟨br,0,none⟩),.pointer (some ⟨bx,0,none⟩)] w fun e w'=>∃bi vt vp,Step w τ w' bi Qbn/\Own w' bi bx tRec 127 ((cs.set 10 vt).set 11 vp) /\
  ((Qdk l=none/\e=Qav)\/∃t d l',Qdk l=some ((t,d),l')/\e = .returned (.tuple #[])/\NS 75 4 Qct w.heap.size w' bi tTx vt t/\NS 195 2 Qgn w.heap.size w' bi tPx vp d/\RdAt w' bi br g l'):=by
 have e8:=Qar h hg 1 (by omega) (by omega)
 have hB:=h.isB
 obtain⟨e9,HB,Hx⟩:=hid3 e8 hB hx
 clear e8 hB hx h
 go_enter Tryz.func206,Tryz.ntmps206
 go_wp2_with fail
 refine e9.out.mono ?_
 rintro e w1 ⟨τ1,bj,⟨hr,rfl⟩|⟨n,l1,v,dl,rfl,rfl,cr⟩⟩
 ·have bk:=Hx.out.step bj (by unfold RdTag;decide)
  have hs:=bj.mono (T:=Qbn) (fun _ h=>Qdm h)
  obtain⟨ck,Hs⟩:=hid2 bk hs
  clear bk hs
  unfold Qav
  go_wp2_with fail
  refine⟨rfl,τ1,.slice none 0 0,.slice none 0 0,Hs.out,?_,.inl ⟨by unfold Qdk;rw[hr];rfl,rfl⟩⟩
  have:=ck.out
  rw[Qhs e7,Qhs h11];exact this
 have bk:=Hx.out.step bj (by unfold RdTag;decide)
 have cv:=bj.mono (T:=Qbn) (fun _ h=>Qdm h)
 have dm:=Qcb dl HB.out
 rw[show (2:Nat) ^ (8*1)=256 from by decide] at dm
 obtain⟨ck,cw,af,cx⟩:=hid4 bk cv dl cr
 clear bk cv dl cr bj e9
 go_wp2_with fail
 go_loopw [6] (fun v wr=>∃(i:Nat) (s:Tags) (t:List TxnP) (l':List Int) (vt:Value),i<=n/\v = .int .u64 (i:Int)/\pMany pTxn i l1=some (t,l')/\t.length=i/\Own wr s bx tRec 127 (cs.set 10 vt)/\NS 75 4 Qct w.heap.size wr s tTx vt t/\RdAt wr s br g l'/\Step w τ wr s Qbn) (fun v _=>n-(intOf v).toNat)
 case atStart=>exact⟨0,τ1,[],l1,.slice none 0 0,Z9 _,rfl,rfl,rfl,by rw[Qhs e7];exact ck.out,NS.nil _ _ _ _ _ _ _,cx.out,cw.out⟩
 case round =>
  clear ck cw cx
  obtain⟨i,s,t,l2,vt,hi,rfl,L,aa,I,k,p,z⟩:=hrel
  by_cases ea:i<n
  ·have fj:(i:Int)<(n:Int):=by omega
   obtain⟨x,ct,rfl⟩:=k.val
   rw[aa] at I k
   have dp:=I.at 10 (v:=.slice x i ct) (List.getElem?_set_self (by omega))
   have Z:=(Step.refl wr s nil).drew
   have M:=I.step Z (fun h=>h)
   have ag:=k.step Z (fun h=>h)
   have r:=z.drew
   have B:=Qar (p.step Z (fun h=>h) (fun h=>h)) hg 4 (by omega) (by omega)
   have ah:=p.isB
   have N:pTxn l2=none->pMany pTxn (i+1) l1=none:=fun hr=>by
    show (pMany pTxn i l1).bind _=none
    rw[L]
    show (pTxn l2).bind _=none
    rw[hr];rfl
   obtain⟨ai,bl,J,ab,b1,aj,b2,y⟩:=hid8 M ag r B ah L aa N
   clear M ag r B ah L aa N I k z p Z
   go_wp2_with fail
   refine Qaf (S:=fun w':World=>w'.cell? ⟨bx,10,none⟩=some (.slice x i ct)) (by kernel_rfl) ?_
   have dq:wr.drew.cell? ⟨bx,10,none⟩=some (.slice x i ct):=dp
   refine tk0 [0,1,2,3,4,5,8,10,12] ?_
   iterate 9
    refine tks (v:=?_) rfl (Or.inl ⟨by rfl,?_⟩) (by assumption) ?_
    rotate_left
    ·intro w ac;(try dsimp only at ac);go_simp
     all_goals with_reducible rfl
    try simp only[Act.put,lz1,lz2,lz3]
   refine tk9 ?_
   clear dq
   refine tk1 6 rfl fun K j=>?_
   go_simp
   go_at_call 204
   refine ab.out.mono ?_
   rintro e w4 ⟨dr,C,⟨hr,rfl⟩|⟨a1,l4,v,b3,rfl,rfl,ak⟩⟩
   ·have O:=ai.out.step C (by unfold RdTag;decide)
    have D:=J.out.trans (C.mono (T:=Qbn) (fun _ h=>Qdm h))
    have hp:pTxn l2=none:=by unfold pTxn;rw[hr];rfl
    have R:=Qds (y.out hp) n (by omega)
    unfold Qav
    refine And.intro rfl ?_
    refine⟨dr,.slice x i ct,.slice none 0 0,D,?_,.inl ⟨by unfold Qdk;rw[af.out];simp only[Z8];rw[R];rfl,rfl⟩⟩
    rw[List.set_comm _ _ (by decide),Qhs h11];exact O
   have O:=ai.out.step C (by unfold RdTag;decide)
   have al:=bl.out.step C (by unfold RdTag;decide)
   have D:=J.out.trans (C.mono (T:=Qbn) (fun _ h=>Qdm h))
   have d4:=O.at 10 (v:=.slice x i ct) (by rw[show (cs.set 10 (.slice x i ct))[10]?=_ from rfl];exact List.getElem?_set_self (by omega))
   have bo:=ak.isB
   have am:=Qcb b3 b1.out
   rw[show (2:Nat) ^ (8*4)=4294967296 from by decide] at am
   have fk:IntKind.u32.wrap (a1:Int)=(a1:Int):=Qb1 a1 am
   have E:=Qar ak hg 8 (by omega) (by omega)
   obtain⟨bp,bq,an,b4,dt,ad⟩:=hid6 O al D b3 bo E
   clear O al D b3 bo E C
   refine j.out _ _ (fun _=>d4) ?_
   clear j K
   refine tk (i:=7) (v:=?_) rfl (Or.inl ⟨by rfl,?_⟩) (by assumption) ?_
   rotate_left
   ·intro w ac;(try dsimp only at ac);go_simp
    all_goals with_reducible rfl
   try simp only[Act.put,lz1,lz2,lz3]
   refine tk1 9 rfl fun K j=>?_
   go_simp
   go_at_call 204
   refine ad.out.mono ?_
   rintro e w5 ⟨dv,F,⟨hr,rfl⟩|⟨a2,l5,v,b5,rfl,rfl,a7⟩⟩
   ·have U:=bp.out.step F (by unfold RdTag;decide)
    have G:=an.out.trans (F.mono (T:=Qbn) (fun _ h=>Qdm h))
    have hp:pTxn l2=none:=by unfold pTxn;rw[b4.out];simp only[Z8];rw[hr];rfl
    have R:=Qds (y.out hp) n (by omega)
    unfold Qav
    refine And.intro rfl ?_
    refine⟨dv,.slice x i ct,.slice none 0 0,G,?_,.inl ⟨by unfold Qdk;rw[af.out];simp only[Z8];rw[R];rfl,rfl⟩⟩
    rw[List.set_comm _ _ (by decide),Qhs h11];exact U
   have U:=bp.out.step F (by unfold RdTag;decide)
   have ao:=bq.out.step F (by unfold RdTag;decide)
   have G:=an.out.trans (F.mono (T:=Qbn) (fun _ h=>Qdm h))
   have d5:=U.at 10 (v:=.slice x i ct) (by rw[show (cs.set 10 (.slice x i ct))[10]?=_ from rfl];exact List.getElem?_set_self (by omega))
   have bs:=a7.isB
   have bv:=Qcb b5 dt.out
   rw[show (2:Nat) ^ (8*8)=18446744073709551616 from by decide] at bv
   have b8:=Qar a7 hg 8 (by omega) (by omega)
   obtain⟨bw,bz,b9,c3,eb,cm⟩:=hid6 U ao G b5 bs b8
   clear U ao G b5 bs b8 F
   refine j.out _ _ (fun _=>d5) ?_
   clear j K
   refine tk1 11 rfl fun K j=>?_
   go_simp
   go_at_call 204
   refine cm.out.mono ?_
   rintro e w6 ⟨fl,bf,⟨hr,rfl⟩|⟨a3,l6,v,dw,rfl,rfl,cy⟩⟩
   ·have c4:=bw.out.step bf (by unfold RdTag;decide)
    have ba:=b9.out.trans (bf.mono (T:=Qbn) (fun _ h=>Qdm h))
    have hp:pTxn l2=none:=by unfold pTxn;rw[b4.out];simp only[Z8];rw[c3.out];simp only[Z8];rw[hr];rfl
    have R:=Qds (y.out hp) n (by omega)
    unfold Qav
    refine And.intro rfl ?_
    refine⟨fl,.slice x i ct,.slice none 0 0,ba,?_,.inl ⟨by unfold Qdk;rw[af.out];simp only[Z8];rw[R];rfl,rfl⟩⟩
    rw[List.set_comm _ _ (by decide),Qhs h11];exact c4
   have c4:=bw.out.step bf (by unfold RdTag;decide)
   have cz:=bz.out.step bf (by unfold RdTag;decide)
   have ba:=b9.out.trans (bf.mono (T:=Qbn) (fun _ h=>Qdm h))
   have d6:=c4.at 10 (v:=.slice x i ct) (by rw[show (cs.set 10 (.slice x i ct))[10]?=_ from rfl];exact List.getElem?_set_self (by omega))
   have ec:=cy.isB
   have ed:=Qcb dw eb.out
   rw[show (2:Nat) ^ (8*8)=18446744073709551616 from by decide] at ed
   have bb:=Qar cy hg 1 (by omega) (by omega)
   obtain⟨ee,ef,da,eg,fm,cn⟩:=hid6 c4 cz ba dw ec bb
   clear c4 cz ba dw ec bb bf
   refine j.out _ _ (fun _=>d6) ?_
   clear j K
   refine tk1 13 rfl fun K j=>?_
   go_simp
   go_at_call 204
   refine cn.out.mono ?_
   rintro e w7 ⟨fo,bg,⟨hr,rfl⟩|⟨a4,l7,v,dx,rfl,rfl,c5⟩⟩
   ·have c6:=ee.out.step bg (by unfold RdTag;decide)
    have bc:=da.out.trans (bg.mono (T:=Qbn) (fun _ h=>Qdm h))
    have hp:pTxn l2=none:=by unfold pTxn;rw[b4.out];simp only[Z8];rw[c3.out];simp only[Z8];rw[eg.out];simp only[Z8];rw[hr];rfl
    have R:=Qds (y.out hp) n (by omega)
    unfold Qav
    refine And.intro rfl ?_
    refine⟨fo,.slice x i ct,.slice none 0 0,bc,?_,.inl ⟨by unfold Qdk;rw[af.out];simp only[Z8];rw[R];rfl,rfl⟩⟩
    rw[List.set_comm _ _ (by decide),Qhs h11];exact c6
   have c6:=ee.out.step bg (by unfold RdTag;decide)
   have db:=ef.out.step bg (by unfold RdTag;decide)
   have bc:=da.out.trans (bg.mono (T:=Qbn) (fun _ h=>Qdm h))
   have d7:=c6.at 10 (v:=.slice x i ct) (by rw[show (cs.set 10 (.slice x i ct))[10]?=_ from rfl];exact List.getElem?_set_self (by omega))
   have eh:=c5.isB
   have dc:=Qcb dx fm.out
   rw[show (2:Nat) ^ (8*1)=256 from by decide] at dc
   have hw7:IntKind.u8.wrap (a4:Int)=(a4:Int):=Qrv a4 dc
   obtain⟨ei,ej,ek,fp,HB7,em⟩:=hid6 c6 db bc dx eh c5
   clear c6 db bc dx eh c5 bg
   refine j.out _ _ (fun _=>d7) ?_
   clear j K
   refine tk (i:=14) (v:=?_) rfl (Or.inl ⟨by rfl,?_⟩) (by assumption) ?_
   rotate_left
   ·intro w ac;(try dsimp only at ac);go_simp
    all_goals with_reducible rfl
   try simp only[Act.put,lz1,lz2,lz3]
   refine tk1 15 rfl fun K j=>?_
   go_simp
   refine j.out _ _ (fun _=>d7) ?_
   clear j K
   refine tk1 16 rfl fun K j=>?_
   go_simp
   refine j.out _ _ (fun _=>(ei.out.alloc _).at 10 (by rw[show (cs.set 10 (.slice x i ct))[10]?=_ from rfl];exact List.getElem?_set_self (by omega))) ?_
   clear j K
   refine tk1 17 rfl fun K j=>?_
   obtain⟨i0,dy,dz,e0,e1⟩:=info_parts Tryz.infoActive
   refine Qg3 (enc:=Qct) Tryz.underlying72 dy dz e0 e1 rfl (by decide) ek.out ej.out ⟨a1,a2,a3,a4⟩ rfl (by intro u hu;simp[Qct] at hu;rcases hu with rfl|rfl|rfl|rfl <;> rfl) (by rw[b2.out];omega) (by decide) rfl rfl _ _ rfl rfl rfl ?_
   intro v9 w9 c7 q ap aq
   have X:=ei.out.step aq (by decide)
   have ar:=em.out.step aq (by decide) (fun h=>ci (.inr (.inr (.inl h))))
   obtain⟨tn,ae⟩:∃tn,t++[(⟨a1,a2,a3,a4⟩:TxnP)]=tn:=⟨_,rfl⟩
   have Y:tn.length=i+1:=by rw[<-ae,Z6,b2.out];rfl
   rw[ae] at q
   obtain⟨p9,c9,rfl⟩:=q.val
   rw[Y] at q ⊢
   have d9:=X.at 10 (v:=.slice x i ct) (by rw[show (cs.set 10 (.slice x i ct))[10]?=_ from rfl];exact List.getElem?_set_self (by omega))
   have z9:=X.fz 10
   have a6:=(Step.refl w9 c7 (fun t=>t=tRec)).set (b:=bx) (o:=10) X.tag rfl (.slice p9 (i+1) c9)
   have b6:=X.set 10 (.slice p9 (i+1) c9)
   rw[List.set_set] at b6
   have av:=q.step a6 (by decide)
   have aw:=ar.step a6 (by decide) (fun h=>ci (.inr (.inl h)))
   have ax:=ap.trans (a6.mono (T:=Qbn) (fun _ h=>.inr (.inl h)))
   obtain⟨e2,c8,ca,cb,cc,e3⟩:=hid6 b6 av aw ax Y ae
   clear b6 av aw ax Y ae X q ar ap aq a6
   refine j.out _ _ (fun _=>d9) ?_
   clear j K
   refine tk1 18 rfl fun K j=>?_
   go_simp
   refine j.out _ _ (fun _=>d9) ?_
   clear j K
   refine tk1 19 rfl fun K j=>?_
   go_simp
   refine j.out _ _ (fun _=>d9) ?_
   clear j K
   refine tk1 20 rfl fun K j=>?_
   go_simp
   refine j.out _ _ (fun h=>absurd h (by decide +kernel)) ?_
   clear j K d9 z9
   refine Qad (by kernel_rfl) ?_ _
   go_wp2_with fail
   go_round
   case rel =>
    refine⟨i+1,c7,tn,l7,_,by omega,by simp,?_,cc.out,e2.out,c8.out,ca.out,cb.out⟩
    rw[<-e3.out]
    show (pMany pTxn i l1).bind _=_
    rw[aj.out]
    show (pTxn l2).bind _=_
    unfold pTxn
    rw[b4.out];simp only[Z8];rw[c3.out];simp only[Z8];rw[eg.out];simp only[Z8];rw[fp.out];rfl
   case measure=>simp[intOf];omega
  ·obtain rfl:i=n:=by omega
   have ep:=Qar p hg 1 (by omega) (by omega)
   have ah:=p.isB
   obtain⟨aj,b2,cd,bd,ay,er,b1⟩:=hid7 L aa I k z ep ah
   clear L aa I k z ep ah p
   go_wp2_with fail
   refine er.out.mono ?_
   rintro e w3 ⟨et,bh,⟨hr,rfl⟩|⟨m,l3,v,e4,rfl,rfl,dd⟩⟩
   ·have M:=cd.out.step bh (by unfold RdTag;decide)
    have r:=ay.out.trans (bh.mono (T:=Qbn) (fun _ h=>Qdm h))
    unfold Qav
    refine And.intro rfl ?_
    refine⟨et,vt,.slice none 0 0,r,?_,.inl ⟨by unfold Qdk;rw[af.out];simp only[Z8];rw[aj.out];simp only[Z8];rw[hr];rfl,rfl⟩⟩
    rw[Qhs (show (cs.set 10 vt)[11]?=_ by rw[List.getElem?_set_ne (by decide)];exact h11)];exact M
   have M:=cd.out.step bh (by unfold RdTag;decide)
   have r:=ay.out.trans (bh.mono (T:=Qbn) (fun _ h=>Qdm h))
   have az:=bd.out.step bh (by unfold RdTag;decide)
   have e5:=Qcb e4 b1.out
   rw[show (2:Nat) ^ (8*1)=256 from by decide] at e5
   have ce:(cs.set 10 vt)[11]?=some (.slice none 0 0):=by rw[List.getElem?_set_ne (by decide)];exact h11
   have ew:(cs.set 10 vt).length=12:=by rw[Y1];exact fi
   have cf:=aj
   have HT1:=b2
   obtain⟨b7,cg⟩:∃b7,cs.set 10 vt=b7:=⟨_,rfl⟩
   rw[cg] at M ce ew
   obtain⟨ey,ai,J,e6,de,ch,ez⟩:=hid7 az M r e4 dd cg ce
   clear M r e4 dd cg ce bh cd bd ay er az hi ea
   rename List TxnP=>tt
   go_wp2_with fail
   go_loopw [31] (fun v wr=>∃(i:Nat) (s:Tags) (t:List (Nat×Nat)) (l':List Int) (vp:Value),i<=m/\v = .int .u64 (i:Int)/\pMany pDirt i l3=some (t,l')/\t.length=i/\Own wr s bx tRec 127 (b7.set 11 vp)/\NS 75 4 Qct w.heap.size wr s tTx vt tt/\NS 195 2 Qgn w.heap.size wr s tPx vp t/\RdAt wr s br g l'/\Step w τ wr s Qbn) (fun v _=>m-(intOf v).toNat)
   case atStart=>exact⟨0,et,[],l3,.slice none 0 0,Z9 _,rfl,rfl,rfl,by rw[Qhs ez.out];exact ai.out,ey.out,NS.nil _ _ _ _ _ _ _,de.out,J.out⟩
   case round =>
    clear ai J de ey
    obtain⟨i,s,t,l4,vp,hi,rfl,L,aa,I,be,k,p,z⟩:=hrel
    by_cases ea:i<m
    ·have fj:(i:Int)<(m:Int):=by omega
     obtain⟨x,ct,rfl⟩:=k.val
     rw[aa] at I k
     have dp:=I.at 11 (v:=.slice x i ct) (List.getElem?_set_self (by omega))
     have Z:=(Step.refl wr s nil).drew
     have M:=I.step Z (fun h=>h)
     have ag:=k.step Z (fun h=>h)
     have az:=be.step Z (fun h=>h)
     have r:=z.drew
     have B:=Qar (p.step Z (fun h=>h) (fun h=>h)) hg 4 (by omega) (by omega)
     have ah:=p.isB
     have N:pDirt l4=none->pMany pDirt (i+1) l3=none:=fun hr=>by
      show (pMany pDirt i l3).bind _=none
      rw[L]
      show (pDirt l4).bind _=none
      rw[hr];rfl
     have HB2':=b1
     clear b1
     obtain⟨ai,bl,fa,J,ab,b1,aj,b2,y⟩:=hid9 M ag az r B ah L aa N
     clear M ag az r B ah L aa N I k be z p Z
     go_wp2_with fail
     refine Qaf (S:=fun w':World=>w'.cell? ⟨bx,11,none⟩=some (.slice x i ct)) (by kernel_rfl) ?_
     have dq:wr.drew.cell? ⟨bx,11,none⟩=some (.slice x i ct):=dp
     refine tk0 [0,1,2,3,4,5,8] ?_
     iterate 7
      refine tks (v:=?_) rfl (Or.inl ⟨by rfl,?_⟩) (by assumption) ?_
      rotate_left
      ·intro w ac;(try dsimp only at ac);go_simp
       all_goals with_reducible rfl
      try simp only[Act.put,lz1,lz2,lz3]
     refine tk9 ?_
     clear dq
     refine tk1 6 rfl fun K j=>?_
     go_simp
     go_at_call 204
     refine ab.out.mono ?_
     rintro e w4 ⟨dr,C,⟨hr,rfl⟩|⟨a1,l6,v,b3,rfl,rfl,ak⟩⟩
     ·have O:=ai.out.step C (by unfold RdTag;decide)
      have D:=J.out.trans (C.mono (T:=Qbn) (fun _ h=>Qdm h))
      have hp:pDirt l4=none:=by unfold pDirt;rw[hr];rfl
      have R:=Qds (y.out hp) m (by omega)
      unfold Qav
      refine And.intro rfl ?_
      refine⟨dr,vt,.slice x i ct,D,?_,.inl ⟨by unfold Qdk;rw[af.out];simp only[Z8];rw[cf.out];simp only[Z8];rw[e6.out];simp only[Z8];rw[R];rfl,rfl⟩⟩
      rw[ch.out];exact O
     have O:=ai.out.step C (by unfold RdTag;decide)
     have al:=bl.out.step C (by unfold RdTag;decide)
     have D:=J.out.trans (C.mono (T:=Qbn) (fun _ h=>Qdm h))
     have d4:=O.at 11 (v:=.slice x i ct) (by rw[show (b7.set 11 (.slice x i ct))[11]?=_ from rfl];exact List.getElem?_set_self (by omega))
     have bo:=ak.isB
     have am:=Qcb b3 b1.out
     rw[show (2:Nat) ^ (8*4)=4294967296 from by decide] at am
     have fk:IntKind.u32.wrap (a1:Int)=(a1:Int):=Qb1 a1 am
     have E:=Qar ak hg 8 (by omega) (by omega)
     have df:=fa.out.step C (by unfold RdTag;decide)
     obtain⟨bp,bq,an,b4,dt,ad,fb⟩:=hid7 O al D b3 bo E df
     clear O al D b3 bo E df C
     refine j.out _ _ (fun _=>d4) ?_
     clear j K
     refine tk (i:=7) (v:=?_) rfl (Or.inl ⟨by rfl,?_⟩) (by assumption) ?_
     rotate_left
     ·intro w ac;(try dsimp only at ac);go_simp
      all_goals with_reducible rfl
     try simp only[Act.put,lz1,lz2,lz3]
     refine tk1 9 rfl fun K j=>?_
     go_simp
     go_at_call 204
     refine ad.out.mono ?_
     rintro e w5 ⟨dv,F,⟨hr,rfl⟩|⟨a2,l5,v,b5,rfl,rfl,a7⟩⟩
     ·have U:=bp.out.step F (by unfold RdTag;decide)
      have G:=an.out.trans (F.mono (T:=Qbn) (fun _ h=>Qdm h))
      have hp:pDirt l4=none:=by unfold pDirt;rw[b4.out];simp only[Z8];rw[hr];rfl
      have R:=Qds (y.out hp) m (by omega)
      unfold Qav
      refine And.intro rfl ?_
      refine⟨dv,vt,.slice x i ct,G,?_,.inl ⟨by unfold Qdk;rw[af.out];simp only[Z8];rw[cf.out];simp only[Z8];rw[e6.out];simp only[Z8];rw[R];rfl,rfl⟩⟩
      rw[ch.out];exact U
     have U:=bp.out.step F (by unfold RdTag;decide)
     have ao:=bq.out.step F (by unfold RdTag;decide)
     have G:=an.out.trans (F.mono (T:=Qbn) (fun _ h=>Qdm h))
     have d5:=U.at 11 (v:=.slice x i ct) (by rw[show (b7.set 11 (.slice x i ct))[11]?=_ from rfl];exact List.getElem?_set_self (by omega))
     have bs:=a7.isB
     have bv:=Qcb b5 dt.out
     rw[show (2:Nat) ^ (8*8)=18446744073709551616 from by decide] at bv
     have dh:=fb.out.step F (by unfold RdTag;decide)
     obtain⟨bw,bz,b9,c3,eb,fc,fe⟩:=hid7 U ao G b5 bs a7 dh
     clear U ao G b5 bs a7 dh F
     refine j.out _ _ (fun _=>d5) ?_
     clear j K
     refine tk1 10 rfl fun K j=>?_
     go_simp
     refine j.out _ _ (fun _=>d5) ?_
     clear j K
     refine tk1 11 rfl fun K j=>?_
     go_simp
     refine j.out _ _ (fun _=>(bw.out.alloc _).at 11 (by rw[show (b7.set 11 (.slice x i ct))[11]?=_ from rfl];exact List.getElem?_set_self (by omega))) ?_
     clear j K
     refine tk1 12 rfl fun K j=>?_
     obtain⟨i0,dy,dz,e0,e1⟩:=info_parts Tryz.infoDirty
     refine Qg3 (enc:=Qgn) Tryz.underlying125 dy dz e0 e1 rfl (by decide) b9.out bz.out (a1,a2) rfl (by intro u hu;simp[Qgn] at hu;rcases hu with rfl|rfl <;> rfl) (by rw[b2.out];omega) (by decide) rfl rfl _ _ rfl rfl rfl ?_
     intro v9 w9 c7 q ap aq
     have X:=bw.out.step aq (by decide)
     have di:=fe.out.step aq (by decide)
     have ar:=fc.out.step aq (by decide) (fun h=>ci (.inr (.inr (.inr h))))
     obtain⟨tn,ae⟩:∃tn,t++[(a1,a2)]=tn:=⟨_,rfl⟩
     have Y:tn.length=i+1:=by rw[<-ae,Z6,b2.out];rfl
     rw[ae] at q
     obtain⟨p9,c9,rfl⟩:=q.val
     rw[Y] at q ⊢
     have d9:=X.at 11 (v:=.slice x i ct) (by rw[show (b7.set 11 (.slice x i ct))[11]?=_ from rfl];exact List.getElem?_set_self (by omega))
     have z9:=X.fz 11
     have a6:=(Step.refl w9 c7 (fun t=>t=tRec)).set (b:=bx) (o:=11) X.tag rfl (.slice p9 (i+1) c9)
     have b6:=X.set 11 (.slice p9 (i+1) c9)
     rw[List.set_set] at b6
     have av:=q.step a6 (by decide)
     have dj:=di.step a6 (by decide)
     have aw:=ar.step a6 (by decide) (fun h=>ci (.inr (.inl h)))
     have ax:=ap.trans (a6.mono (T:=Qbn) (fun _ h=>.inr (.inl h)))
     obtain⟨e2,c8,ca,cb,cc,e3,ff⟩:=hid7 b6 av aw ax Y ae dj
     clear b6 av aw ax Y ae dj X q ar ap aq a6 di
     refine j.out _ _ (fun _=>d9) ?_
     clear j K
     refine tk1 13 rfl fun K j=>?_
     go_simp
     refine j.out _ _ (fun _=>d9) ?_
     clear j K
     refine tk1 14 rfl fun K j=>?_
     go_simp
     refine j.out _ _ (fun _=>d9) ?_
     clear j K
     refine tk1 15 rfl fun K j=>?_
     go_simp
     refine j.out _ _ (fun h=>absurd h (by decide +kernel)) ?_
     clear j K d9 z9
     refine Qad (by kernel_rfl) ?_ _
     go_wp2_with fail
     go_round
     case rel =>
      refine⟨i+1,c7,tn,l5,_,by omega,by simp,?_,cc.out,e2.out,ff.out,c8.out,ca.out,cb.out⟩
      rw[<-e3.out]
      show (pMany pDirt i l3).bind _=_
      rw[aj.out]
      show (pDirt l4).bind _=_
      unfold pDirt
      rw[b4.out];simp only[Z8];rw[c3.out];rfl
     case measure=>simp[intOf];omega
    ·obtain rfl:i=m:=by omega
     obtain⟨aj,cd,fg,bd,fh,ay⟩:=hid6 L I be k p z
     clear L I be k p z
     go_wp2_with fail
     go_end0
     refine⟨s,vt,vp,ay.out,by rw[ch.out];exact cd.out,.inr ⟨tt,t,l4,?_,rfl,fg.out,bd.out,fh.out⟩⟩
     unfold Qdk
     rw[af.out];simp only[Z8];rw[cf.out];simp only[Z8];rw[e6.out];simp only[Z8];rw[aj.out];rfl
def tIs:Tag:=(200,1)
theorem Qwc {bx i:Nat} {p q r s x y z B u8 C j k:Value} {D:Bool}(b:Own w τ bx tRec 127 [p,q,r,s,x,y,z,B,u8,C,j,k]) (hi:Own w τ i tIs 4 [.bool D]) (u:TypeId) (pv:Value) (d:List PanicEntry) :
 CallsD Tryz.prog 202 #[.pointer (some ⟨bx,0,none⟩),.pointer (some ⟨i,0,none⟩)] (.panicking ({v:=.iface u pv,recovered:=false}::d)) w fun e E F =>
  e = .returned (.tuple #[])/\E = .panicking ({v:=.iface u pv,recovered:=true}::d)/\F=(((((((((((((w).setCell ⟨bx,0,none⟩ (.int .u8 0)).setCell ⟨bx,1,none⟩ (.int .u32 0)).setCell ⟨bx,2,none⟩ (.int .u64 0)).setCell ⟨bx,3,none⟩ (.int .u64 0)).setCell ⟨bx,4,none⟩ (.int .u32 0)).setCell ⟨bx,5,none⟩ (.int .u16 0)).setCell ⟨bx,6,none⟩ (.bool false)).setCell ⟨bx,7,none⟩ (.bool false)).setCell ⟨bx,8,none⟩ (.slice none 0 0)).setCell ⟨bx,9,none⟩ (.slice none 0 0)).setCell ⟨bx,10,none⟩ (.slice none 0 0)).setCell ⟨bx,11,none⟩ (.slice none 0 0)).setCell ⟨i,0,none⟩ (.bool false):=by
 have c0:=b.at 0 (v:=p) rfl
 have f0:=b.fz 0
 have c1:=b.at 1 (v:=q) rfl
 have f1:=b.fz 1
 have c2:=b.at 2 (v:=r) rfl
 have f2:=b.fz 2
 have c3:=b.at 3 (v:=s) rfl
 have f3:=b.fz 3
 have c4:=b.at 4 (v:=x) rfl
 have f4:=b.fz 4
 have c5:=b.at 5 (v:=y) rfl
 have f5:=b.fz 5
 have c6:=b.at 6 (v:=z) rfl
 have f6:=b.fz 6
 have G:=b.at 7 (v:=B) rfl
 have f7:=b.fz 7
 have I:=b.at 8 (v:=u8) rfl
 have f8:=b.fz 8
 have J:=b.at 9 (v:=C) rfl
 have f9:=b.fz 9
 have m:=b.at 10 (v:=j) rfl
 have f10:=b.fz 10
 have o:=b.at 11 (v:=k) rfl
 have f11:=b.fz 11
 have L:=hi.at 0 (v:=.bool D) rfl
 have M:=hi.fz 0
 have h:bx≠i:=b.ne hi (by decide)
 have l:i≠bx:=fun e=>h e.symm
 refine callsD_of_wpS Tryz.func202 rfl fun c₀ cs hu=>?_
 apply wpS_seq
 apply wpS_region
 simp[wpOpsS,go_sem,recoverD,hu,Tryz.ntmps202,Exit.thenS]
 apply wpS_seq
 apply wpS_region
 simp[wpOpsS,go_sem,Exit.thenS]
 refine wpS_cond (t:=true) (by simp[Act.eval]) ?_
 simp only[if_true]
 apply wpS_region
 simp[wpOpsS,go_sem,c0,f0,c1,f1,c2,f2,c3,f3,c4,f4,c5,f5,c6,f6,G,f7,I,f8,J,f9,m,f10,o,f11,L,M,h,l,bodyPostS,results,Tryz.results202]
theorem Qbs (w:World) (bx d:Nat) :
 CallsD Tryz.prog 202 #[.pointer (some ⟨bx,0,none⟩),.pointer (some ⟨d,0,none⟩)] .returning w fun e h i=>e = .returned (.tuple #[])/\h = .returning/\i=w:=by
 refine callsD_of_wpS Tryz.func202 rfl fun b cs hu=>?_
 apply wpS_seq
 apply wpS_region
 simp[wpOpsS,go_sem,recoverD,hu,Tryz.ntmps202,Exit.thenS]
 apply wpS_seq
 apply wpS_region
 simp[wpOpsS,go_sem,Exit.thenS]
 refine wpS_cond (t:=false) (by simp[Act.eval]) ?_
 simp only[Bool.false_eq_true,if_false]
 refine wpS_of_wp (wp_skip ?_)
 cases b
 simp_all[bodyPostS,results,Tryz.results202]
def chgB (k:Nat):Bool:=decide (k=2) || decide (k=3)
def mayCB (chg:Bool) (pg sl:Nat) (hd hs:Bool) (nb na:Nat):Bool := !(decide (64<nb) || decide (64<na) || (!hd && decide (0<nb)) || (!hs && decide (0<na))) && (chg || (decide (pg=0) && decide (sl=0) && !hd && !hs))
theorem Qhk (w:World) (τ:Tags) (k tx pv nx pg sl:Nat) (hd j:Bool) (pb pa l m:Option Addr) (nb cb o ca nt ct np cp:Nat):Calls Tryz.prog 151 #[.agg #[.int .u8 (k:Int),.int .u32 (tx:Int),.int .u64 (pv:Int),.int .u64 (nx:Int),.int .u32 (pg:Int),.int .u16 (sl:Int),.bool hd,.bool j,.slice pb nb cb,.slice pa o ca,.slice l nt ct,.slice m np cp]] w fun e q=>e = .returned (.bool (chgB k))/\Step w τ q τ nil:=by
 have d:=(Step.refl w τ nil).alloc' (.cells #[.int .u8 (k:Int),.int .u32 (tx:Int),.int .u64 (pv:Int),.int .u64 (nx:Int),.int .u32 (pg:Int),.int .u16 (sl:Int),.bool hd,.bool j,.slice pb nb cb,.slice pa o ca,.slice l nt ct,.slice m np cp] 127)
 have b:=Z2 d
 clear d
 by_cases h2:k=2
 ·subst h2
  go_enter Tryz.func151,Tryz.ntmps151
  go_wp2_with fail
  go_ret
  exact⟨rfl,b.out⟩
 by_cases p:k=3
 ·subst p
  go_enter Tryz.func151,Tryz.ntmps151
  go_wp2_with fail
  go_ret
  exact⟨rfl,b.out⟩
 have h:¬(k:Int)=2:=by omega
 have i:¬(k:Int)=3:=by omega
 go_enter Tryz.func151,Tryz.ntmps151
 go_wp2_with fail
 go_ret
 exact⟨by simp[chgB,h2,p];exact⟨h,i⟩,b.out⟩
theorem Qn3 (w:World) (τ:Tags) (k tx pv nx pg sl:Nat) (hd d:Bool) (pb pa s x:Option Addr) (nb cb b ca nt ct np cp:Nat):Calls Tryz.prog 227 #[.agg #[.int .u8 (k:Int),.int .u32 (tx:Int),.int .u64 (pv:Int),.int .u64 (nx:Int),.int .u32 (pg:Int),.int .u16 (sl:Int),.bool hd,.bool d,.slice pb nb cb,.slice pa b ca,.slice s nt ct,.slice x np cp]] w fun e X=>e = .returned (.bool (mayCB (chgB k) pg sl hd d nb b))/\Step w τ X τ nil:=by
 have y:=fun (W:World) (τ:Tags)=>Qhk W τ k tx pv nx pg sl hd d pb pa s x nb cb b ca nt ct np cp
 have O:=((Step.refl w τ nil).alloc (.cells #[.int .u8 (k:Int),.int .u32 (tx:Int),.int .u64 (pv:Int),.int .u64 (nx:Int),.int .u32 (pg:Int),.int .u16 (sl:Int),.bool hd,.bool d,.slice pb nb cb,.slice pa b ca,.slice s nt ct,.slice x np cp] 127) tOne).alloc (.cells #[.int .u32 (pg:Int),.int .u16 (sl:Int),.bool hd,.bool d,.slice pb nb cb,.slice pa b ca] 124) tOne
 have G:=Own.born (w.alloc (.cells #[.int .u8 (k:Int),.int .u32 (tx:Int),.int .u64 (pv:Int),.int .u64 (nx:Int),.int .u32 (pg:Int),.int .u16 (sl:Int),.bool hd,.bool d,.slice pb nb cb,.slice pa b ca,.slice s nt ct,.slice x np cp] 127)) (τ.put w.heap.size tOne) tOne 124 #[.int .u32 (pg:Int),.int .u16 (sl:Int),.bool hd,.bool d,.slice pb nb cb,.slice pa b ca]
 have o:∀W,Step ((w.alloc (.cells #[.int .u8 (k:Int),.int .u32 (tx:Int),.int .u64 (pv:Int),.int .u64 (nx:Int),.int .u32 (pg:Int),.int .u16 (sl:Int),.bool hd,.bool d,.slice pb nb cb,.slice pa b ca,.slice s nt ct,.slice x np cp] 127)).alloc (.cells #[.int .u32 (pg:Int),.int .u16 (sl:Int),.bool hd,.bool d,.slice pb nb cb,.slice pa b ca] 124)) ((τ.put w.heap.size tOne).put (w.alloc (.cells #[.int .u8 (k:Int),.int .u32 (tx:Int),.int .u64 (pv:Int),.int .u64 (nx:Int),.int .u32 (pg:Int),.int .u16 (sl:Int),.bool hd,.bool d,.slice pb nb cb,.slice pa b ca,.slice s nt ct,.slice x np cp] 127)).heap.size tOne) W ((τ.put w.heap.size tOne).put (w.alloc (.cells #[.int .u8 (k:Int),.int .u32 (tx:Int),.int .u64 (pv:Int),.int .u64 (nx:Int),.int .u32 (pg:Int),.int .u16 (sl:Int),.bool hd,.bool d,.slice pb nb cb,.slice pa b ca,.slice s nt ct,.slice x np cp] 127)).heap.size tOne) nil->Step w τ W τ nil:=fun W h=>⟨(O.trans h).mod,Ext.refl _ _⟩
 have p:=o _ (Step.refl _ _ _)
 simp only[World.size_alloc] at G o
 generalize (τ.put w.heap.size tOne).put (w.heap.size+1) tOne=τ1 at *
 obtain⟨z,B⟩:∃c,chgB k=c:=⟨_,rfl⟩
 rw[B] at y ⊢
 have q:∀n:Nat,(64:Int)<(n:Int)↔64<n:=fun n=>by omega
 obtain⟨I,Y,J,i,Hcb,H64a⟩:=hid6 y G o p B q
 clear y G o p B q O
 by_cases h1:64<nb
 ·have i1:(64:Int)<(nb:Int):=by omega
  go_enter Tryz.func227,Tryz.ntmps227
  go_wp2_with fail
  go_ret
  exact⟨by simp[mayCB,h1],i.out⟩
 have i1:¬(64:Int)<(nb:Int):=by omega
 by_cases h2:64<b
 ·have i2:(64:Int)<(b:Int):=by omega
  go_enter Tryz.func227,Tryz.ntmps227
  go_wp2_with fail
  go_ret
  exact⟨by simp[mayCB,h2],i.out⟩
 have i2:¬(64:Int)<(b:Int):=by omega
 by_cases D:hd=false/\0<nb
 ·obtain⟨rfl,D⟩:=D
  have i3:(0:Int)<(nb:Int):=by omega
  go_enter Tryz.func227,Tryz.ntmps227
  go_wp2_with fail
  go_ret
  exact⟨by simp[mayCB,D],i.out⟩
 have L:hd=true\/(hd=false/\nb=0):=by
  cases hd with
  | true=>exact .inl rfl
  | false=>exact .inr ⟨rfl,Nat.eq_zero_of_not_pos (fun h=>D ⟨rfl,h⟩)⟩
 by_cases E:d=false/\0<b
 ·obtain⟨rfl,E⟩:=E
  have i4:(0:Int)<(b:Int):=by omega
  rcases L with rfl|⟨rfl,rfl⟩
  all_goals (
   go_enter Tryz.func227,Tryz.ntmps227
   go_wp2_with fail
   go_ret
   exact⟨by simp[mayCB,E],i.out⟩)
 have R:d=true\/(d=false/\b=0):=by
  cases d with
  | true=>exact .inl rfl
  | false=>exact .inr ⟨rfl,Nat.eq_zero_of_not_pos (fun h=>E ⟨rfl,h⟩)⟩
 have l:mayCB z pg sl hd d nb b=(z || (decide (pg=0) && decide (sl=0) && !hd && !d)):=by
  unfold mayCB
  have Z:(!hd && decide (0<nb))=false:=by rcases L with rfl|⟨rfl,rfl⟩ <;> simp
  have e4:(!d && decide (0<b))=false:=by rcases R with rfl|⟨rfl,rfl⟩ <;> simp
  rw[Z,e4,decide_eq_false h1,decide_eq_false h2];simp
 rw[l]
 obtain⟨Hval,H3,H4⟩:=hid3 l D E
 clear l D E
 rcases L with rfl|⟨rfl,rfl⟩
 all_goals rcases R with rfl|⟨rfl,rfl⟩
 all_goals (
  go_enter Tryz.func227,Tryz.ntmps227
  go_wp2_with fail
  refine(I.out _ τ1).mono ?_
  rintro e w2 ⟨rfl,C⟩
  have m:=Y.out.step C (fun h=>h)
  have c0:=m.at 0 rfl
  have c1:=m.at 1 rfl
  have c2:=m.at 2 rfl
  have c3:=m.at 3 rfl
  have r:=J.out _ C
  have j:=Z2 r
  clear r m C
  cases z with
  | true =>
    go_wp2_with fail
    go_ret
    exact⟨by simp,j.out⟩
  | false =>
    by_cases U:pg=0
    ·have M:(pg:Int)=0:=by omega
     by_cases F:sl=0
     ·have N:(sl:Int)=0:=by omega
      go_wp2_with fail
      go_ret
      exact⟨by simp[U,F],j.out⟩
     ·have N:¬(sl:Int)=0:=by omega
      go_wp2_with fail
      go_ret
      exact⟨by simp[F],j.out⟩
    ·have M:¬(pg:Int)=0:=by omega
     go_wp2_with fail
     go_ret
     exact⟨by simp[U],j.out⟩)
theorem NS.txn {l:List TxnP}(h:NS 75 4 Qct n0 w τ g v l):∃p c,v = .slice p l.length c/\l.length<=maxLen/\∀(i:Nat) (x:TxnP),l[i]?=some x->∃b,p=some ⟨b,0,none⟩/\w.cell? ⟨b,i*4,none⟩=some (.int .u32 (x.txn:Int))/\w.cell? ⟨b,i*4+1,none⟩=some (.int .u64 (x.last:Int))/\w.cell? ⟨b,i*4+2,none⟩=some (.int .u64 (x.undo:Int))/\w.cell? ⟨b,i*4+3,none⟩=some (.int .u8 (x.state:Int)):=by
 obtain⟨h1,⟨rfl,h2⟩|⟨b,cap,ys,rfl,m,h3,h4,h5⟩⟩:=h.buf
 ·refine⟨none,0,by rw[h2],by rw[h2];exact Z9 _,fun i x d=>?_⟩
  have:=(Z4 d).1
  omega
 ·refine⟨_,cap,rfl,by omega,fun i x d=>?_⟩
  have key:∀(l:List TxnP) (i:Nat) (x:TxnP) (j:Nat),l[i]?=some x->j<4->(l.flatMap Qct)[i*4+j]?=(Qct x)[j]?:=by
   intro l
   induction l with
   | nil=>intro i x j d;simp at d
   | cons y l ih =>
     intro i x j d e
     rw[List.flatMap_cons]
     have hl:(Qct y).length=4:=rfl
     cases i with
     | zero =>
       have:y=x:=by simpa using d
       subst this
       rw[Y5 (by rw[hl];omega),Nat.zero_mul,Nat.zero_add]
     | succ i =>
       rw[Y6 (by rw[hl];omega),hl,show (i+1)*4+j-4=i*4+j by omega]
       exact ih i x j (by simpa using d) e
  have hi:=(Z4 d).1
  have at_:∀j v,j<4->(Qct x)[j]?=some v->w.cell? ⟨b,i*4+j,none⟩=some v:=fun j v e k=>by
   have hk:=key l i x j d e
   exact m.at _ (by rw[Y5 (by have:=Z4 (hk.trans k);exact this.1),hk,k])
  exact⟨b,rfl,at_ 0 _ (by omega) rfl,at_ 1 _ (by omega) rfl,at_ 2 _ (by omega) rfl,at_ 3 _ (by omega) rfl⟩
def Qj4 (s:Nat):Bool:=decide (s<1) || decide (3<s)
theorem Quf (w:World) (a b c s:Nat):Calls Tryz.prog 226 #[.agg #[.int .u32 (a:Int),.int .u64 (b:Int),.int .u64 (c:Int),.int .u8 (s:Int)]] w fun e i=>e = .returned (.bool (Qj4 s))/\∀τ,Step w τ i τ nil:=by
 have h:=fun τ=>(Step.refl w τ nil).alloc' (.cells #[.int .u32 (a:Int),.int .u64 (b:Int),.int .u64 (c:Int),.int .u8 (s:Int)] 75)
 have d:=Z2 h
 clear h
 by_cases h1:s<1
 ·obtain rfl:s=0:=by omega
  go_enter Tryz.func226,Tryz.ntmps226
  go_wp2_with fail
  go_ret
  exact⟨rfl,d.out⟩
 have i1:¬(s:Int)<1:=by omega
 by_cases j:3<s
 ·have i3:(3:Int)<(s:Int):=by omega
  go_enter Tryz.func226,Tryz.ntmps226
  go_wp2_with fail
  go_ret
  exact⟨by simp[Qj4,j],d.out⟩
 have i3:¬(3:Int)<(s:Int):=by omega
 go_enter Tryz.func226,Tryz.ntmps226
 go_wp2_with fail
 go_ret
 exact⟨by simp[Qj4];omega,d.out⟩
def Qdu (l:List TxnP):Bool:=l.any (fun x=>Qj4 x.state)
theorem Qoo {l:List TxnP}(h:NS 75 4 Qct n0 w τ g v l) :
 Calls Tryz.prog 269 #[v,.func (.func 226) #[] #[]] w fun e U=>(∃r:Int,e = .returned (.int .i64 r)/\(decide (0<=r)=Qdu l))/\Step w τ U τ nil:=by
 obtain⟨p,c,rfl,m,-⟩:=h.txn
 obtain⟨len,hl⟩:∃len,l.length=len:=⟨_,rfl⟩
 rw[hl] at m
 have hbig:len<=9223372036854775807:=by unfold maxLen at m;omega
 rw[hl] at h ⊢
 obtain⟨I,O⟩:=hid2 h hl
 clear h hl m
 go_enter Tryz.func269,Tryz.ntmps269
 go_wp2_with fail
 go_loopw [8] (fun v wr=>∃k:Nat,k<=len/\v = .int .i64 (k:Int)/\Step w τ wr τ nil/\∀(j:Nat) (y:TxnP),j<k->l[j]?=some y->Qj4 y.state=false) (fun v _=>len-(intOf v).toNat)
 case atStart=>exact⟨0,Z9 _,rfl,Step.refl _ _ _,fun j y J=>by omega⟩
 case round =>
  obtain⟨k,hk,rfl,i,o⟩:=hrel
  by_cases L:k<len
  ·obtain⟨x,D⟩:∃x,l[k]?=some x:=⟨_,Z3 (by rw[O.out];exact L)⟩
   obtain⟨p',c',R,-,E⟩:=(I.out.step i (fun h=>h)).txn
   obtain⟨b,X,c0,c1,c2,c3⟩:=E k x D
   simp only[Value.slice.injEq] at R
   obtain⟨rfl,-,rfl⟩:=R
   subst X
   have hkI:(k:Int)<(len:Int):=by omega
   have B:=Quf wr x.txn x.last x.undo x.state
   cases hh:Qj4 x.state with
   | true =>
     rw[hh] at B
     have d:Qdu l=true:=by
      unfold Qdu
      rw[List.any_eq_true]
      exact⟨x,List.mem_of_getElem? D,hh⟩
     obtain⟨Y,Z,xc,xs⟩:=x
     simp only at c0 c1 c2 c3 B
     obtain⟨M,q,s⟩:=hid3 B i d
     clear B i d o hh D E
     go_wp2_with (go_at_call 226;refine M.out.mono ?_;rintro e w2 ⟨rfl,z⟩;have F:=Z2 z;clear z)
     go_returns
     exact⟨⟨(k:Int),rfl,by rw[s.out];simp⟩,q.out.trans (F.out τ)⟩
   | false =>
     rw[hh] at B
     have C:∀(j:Nat) (y:TxnP),j<k+1->l[j]?=some y->Qj4 y.state=false:=fun j y J N=>by
      by_cases e:j=k
      ·subst e
       rw[D] at N
       cases N
       exact hh
      ·exact o j y (by omega) N
     obtain⟨Y,Z,xc,xs⟩:=x
     simp only at c0 c1 c2 c3 B
     obtain⟨M,q⟩:=hid2 B i
     have G:=Z2 C
     clear B i C o hh D E
     go_wp2_with (go_at_call 226;refine M.out.mono ?_;rintro e w2 ⟨rfl,z⟩;have F:=Z2 z;clear z)
     go_round
     case rel=>exact⟨k+1,by omega,by simp,q.out.trans (F.out τ),G.out⟩
     case measure=>simp[intOf];omega
  ·obtain rfl:k=len:=by omega
   have d:Qdu l=false:=by
    unfold Qdu
    rw[List.any_eq_false]
    intro x D
    obtain⟨j,J,rfl⟩:=List.mem_iff_getElem.1 D
    rw[o j l[j] (by have:=O.out;omega) (Z3 J)];simp
   obtain⟨q,s⟩:=hid2 i d
   clear i d o
   go_wp2_with fail
   go_returns
   exact⟨⟨-1,rfl,by rw[s.out];decide⟩,q.out⟩
theorem Qpz {l:List TxnP}(h:NS 75 4 Qct n0 w τ g v l) :
 Calls Tryz.prog 228 #[v,.func (.func 226) #[] #[]] w fun e i=>e = .returned (.bool (Qdu l))/\Step w τ i τ nil:=by
 have h1:=Qoo h
 obtain⟨p,c,rfl⟩:=h.val
 have j:=Z2 h1
 clear h1 h
 go_enter Tryz.func228,Tryz.ntmps228
 go_wp2_with fail
 refine j.out.mono ?_
 rintro e w1 ⟨⟨r,rfl,b⟩,d⟩
 obtain⟨k,m⟩:=hid2 d b
 clear d b
 go_wp2_with fail
 go_returns
 exact⟨by rw[<-m.out];rfl,k.out⟩
def mayRB (k nt np:Nat) (mc wr:Bool):Bool := !(decide (k<1) || decide (8<k) || decide (64<nt) || decide (64<np)) && !(decide (k≠8) && decide (0<nt+np)) && (mc && !wr)
theorem Qn4(k tx pv nx pg sl:Nat) (hd y:Bool) (pb pa I J:Option Addr) (nb cb z ca nt ct np cp:Nat) {lt:List TxnP}(L:lt.length=nt) (M:NS 75 4 Qct n0 w τ g (.slice I nt ct) lt):Calls Tryz.prog 149 #[.agg #[.int .u8 (k:Int),.int .u32 (tx:Int),.int .u64 (pv:Int),.int .u64 (nx:Int),.int .u32 (pg:Int),.int .u16 (sl:Int),.bool hd,.bool y,.slice pb nb cb,.slice pa z ca,.slice I nt ct,.slice J np cp]] w fun e w'=>e = .returned (.bool (mayRB k nt np (mayCB (chgB k) pg sl hd y nb z) (Qdu lt)))/\Step w τ w' τ nil:=by
 have B:=fun (W:World) (τ:Tags)=>Qn3 W τ k tx pv nx pg sl hd y pb pa I J nb cb z ca nt ct np cp
 have hq:=(Step.refl w τ nil).alloc (.cells #[.int .u8 (k:Int),.int .u32 (tx:Int),.int .u64 (pv:Int),.int .u64 (nx:Int),.int .u32 (pg:Int),.int .u16 (sl:Int),.bool hd,.bool y,.slice pb nb cb,.slice pa z ca,.slice I nt ct,.slice J np cp] 127) tOne
 have ho:=Own.born w τ tOne 127 #[.int .u8 (k:Int),.int .u32 (tx:Int),.int .u64 (pv:Int),.int .u64 (nx:Int),.int .u32 (pg:Int),.int .u16 (sl:Int),.bool hd,.bool y,.slice pb nb cb,.slice pa z ca,.slice I nt ct,.slice J np cp]
 have p:∀W,Step (w.alloc (.cells #[.int .u8 (k:Int),.int .u32 (tx:Int),.int .u64 (pv:Int),.int .u64 (nx:Int),.int .u32 (pg:Int),.int .u16 (sl:Int),.bool hd,.bool y,.slice pb nb cb,.slice pa z ca,.slice I nt ct,.slice J np cp] 127)) (τ.put w.heap.size tOne) W (τ.put w.heap.size tOne) nil->Step w τ W τ nil:=fun W h=>⟨(hq.trans h).mod,Ext.refl _ _⟩
 have q:=p _ (Step.refl _ _ _)
 have i:=M.step hq (fun h=>h)
 obtain⟨bv,C⟩:∃bv,w.heap.size=bv:=⟨_,rfl⟩
 rw[C] at ho p i
 generalize τ.put bv tOne=τ1 at *
 obtain⟨mc,D⟩:∃m,mayCB (chgB k) pg sl hd y nb z=m:=⟨_,rfl⟩
 rw[D] at B ⊢
 obtain⟨ab,Ho,N,d,Hmc,O,ac,Hnt⟩:=hid8 B ho p q D i C L
 clear B ho p q D i C L hq M
 by_cases h1:k<1
 ·obtain rfl:k=0:=by omega
  go_enter Tryz.func149,Tryz.ntmps149
  go_wp2_with fail
  go_ret
  exact⟨by simp[mayRB],d.out⟩
 have i1:¬(k:Int)<1:=by omega
 by_cases h2:8<k
 ·have i2:(8:Int)<(k:Int):=by omega
  go_enter Tryz.func149,Tryz.ntmps149
  go_wp2_with fail
  go_ret
  exact⟨by simp[mayRB,h2],d.out⟩
 have i2:¬(8:Int)<(k:Int):=by omega
 by_cases h3:64<nt
 ·have i3:(64:Int)<(nt:Int):=by omega
  go_enter Tryz.func149,Tryz.ntmps149
  go_wp2_with fail
  go_ret
  exact⟨by simp[mayRB,h3],d.out⟩
 have i3:¬(64:Int)<(nt:Int):=by omega
 by_cases h4:64<np
 ·have i4:(64:Int)<(np:Int):=by omega
  go_enter Tryz.func149,Tryz.ntmps149
  go_wp2_with fail
  go_ret
  exact⟨by simp[mayRB,h4],d.out⟩
 have i4:¬(64:Int)<(np:Int):=by omega
 have hsum:IntKind.i64.wrap ((nt:Int)+(np:Int))=(nt:Int)+(np:Int):=Qd5 _ (by omega) (by omega)
 by_cases R:k≠8/\0<nt+np
 ·have i5:(0:Int)<(nt:Int)+(np:Int):=by omega
  have i6:¬(k:Int)=8:=by omega
  go_enter Tryz.func149,Tryz.ntmps149
  go_wp2_with fail
  go_ret
  exact⟨by simp[mayRB,R.1,R.2],d.out⟩
 have j:mayRB k nt np mc (Qdu lt)=(mc && !Qdu lt):=by
  unfold mayRB
  rw[decide_eq_false h1,decide_eq_false h2,decide_eq_false h3,decide_eq_false h4]
  have:(decide (k≠8) && decide (0<nt+np))=false:=by
   cases hx:(decide (k≠8) && decide (0<nt+np)) with
   | false=>rfl
   | true =>
     rw[Bool.and_eq_true,decide_eq_true_eq,decide_eq_true_eq] at hx
     exact absurd hx R
  rw[this];simp
 rw[j]
 have j5:k=8\/(¬k=8/\nt=0/\np=0):=by
  by_cases h8:k=8
  ·exact .inl h8
  ·exact .inr ⟨h8,by omega,by omega⟩
 obtain⟨wr_,E⟩:∃b,Qdu lt=b:=⟨_,rfl⟩
 rw[E]
 obtain⟨Hval,ag,H5⟩:=hid3 j E R
 clear j E R h1 h2 h3 h4
 rcases j5 with rfl|⟨h8,rfl,rfl⟩
 all_goals (
  try have i8:¬(k:Int)=8:=by omega
  go_enter Tryz.func149,Tryz.ntmps149
  go_wp2_with fail
  try rw[ac.out]
  refine(ab.out _ τ1).mono ?_
  rintro e w2 ⟨rfl,l⟩
  have U:=Ho.out.step l (fun h=>h)
  have c10:=U.at 10 rfl
  have r:=O.out.step l (fun h=>h)
  have F:=Qpz r
  rw[ag.out] at F
  have s:=N.out _ l
  have x:∀w3,Step w2 τ1 w3 τ1 nil->Step w τ w3 τ nil:=fun w3 h=>N.out _ (l.trans h)
  obtain⟨X,ah,Y⟩:=hid3 s F x
  clear s F x U l r
  cases mc with
  | false =>
    go_wp2_with fail
    go_ret
    exact⟨by simp,X.out⟩
  | true =>
    go_wp2_with fail
    refine ah.out.mono ?_
    rintro e w3 ⟨rfl,Z⟩
    have o:=Y.out _ Z
    have G:=Z2 o
    clear o Z
    go_wp2_with fail
    go_ret
    exact⟨by simp,G.out⟩)
