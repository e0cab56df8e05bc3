/-
 Records: rows of structs that grow;the reader takes the tables.
-/
import Derived.Test.YtemacanaihaldaaGreatMRdA
import Derived.Test.YtemacanaihaldaaGreatMPoolZ
set_option maxRecDepth 100000
set_option maxHeartbeats 4000000
set_option linter.all false
namespace Go.Proofs.YtemacanaihaldaaGreat
variable {g:Tag}{w:World}{τ:Tags}
open Go.RowKit
structure NS {α:Type} (e:TypeId) (k:Nat) (enc:α→List Value) (n0:Nat) (w:World) (τ:Tags) (g:Tag) (v:Value) (l:List α):Prop where
 buf:Buf w τ g e k v l.length (l.flatMap enc)
 low:∀k,v.ownBlock=some k→n0≤k
theorem NS.nil {α:Type}(e:TypeId) (k:Nat) (enc:α→List Value) (n0:Nat) (w:World) (τ:Tags) (g:Tag):NS e k enc n0 w τ g (.slice none 0 0) []:=⟨Buf.nil _ _ _ _ _,fun k hk=>by simp[Value.ownBlock] at hk⟩
theorem NS.step {α:Type} {e:TypeId} {k:Nat} {enc:α→List Value} {n0:Nat} {w':World} {τ':Tags} {S:Tag→Prop} {v:Value} {l:List α}(h:NS e k enc n0 w τ g v l) (m:Step w τ w' τ' S) (hs:¬S g):NS e k enc n0 w' τ' g v l:=⟨h.buf.step m hs,h.low⟩
theorem NS.val {α:Type} {e:TypeId} {k:Nat} {enc:α→List Value} {n0:Nat} {v:Value} {l:List α}(h:NS e k enc n0 w τ g v l):∃p c,v = .slice p l.length c:=Buf.len h.buf
theorem Qg3 {α:Type} {enc:α→List Value} {t e:TypeId} {k by_:Nat} {i0:TypeInfo} {z:Value}(ht:Tryz.prog.underlying t=some (.slice e)) (hi:Tryz.prog.info? e=some i0) (hz0:i0.zero=some z) (hz1:i0.size=k) (hz2:i0.bytes=by_) (hz3:z.cells.size=k) (hk0:0<k)
 {w0 w:World} {τ0 τ:Tags} {S:Tag→Prop} (hst:Step w0 τ0 w τ S) {g:Tag} {v:Value} {l:List α} (hown:NS e k enc w0.heap.size w τ g v l) (x:α) (hxl:(enc x).length=k) (hx1:∀u∈enc x,u.oneCell'=true) (hsz:l.length≤1000000) (hby:by_≤1000) {kb:Nat} (hkb:kb=w.heap.size)
 {ops:Array Oper} {o:Oper} {a:Act} {K:Act→World→Prop} {Q:Exit→Act→World→Prop} {E:Prop} (hgd:o.guard=none) (s y:Operand)
 (hop:o.op = .call {callee:=.builtin .append,args:=#[s,y],argTypes:=#[t,t]}) (hs:a.eval s=v) (hy:a.eval y = .slice (some ⟨kb,0,none⟩) 1 1)
 (h:∀v' w' τ',NS e k enc w0.heap.size w' τ' g v' (l++[x])→Step w0 τ0 w' τ' S→Step w τ w' τ' (fun t=>t=g)→K (a.put o.dst v') w'):if Region.wanted o (yielded ops a.tmps)=true then Oper.wp Tryz.prog o a (w.alloc (.cells (enc x).toArray e)) K Q else E:=by
 subst hkb
 have hw:Region.wanted o (yielded ops a.tmps)=true:=by simp[Region.wanted,hgd]
 rw[if_pos hw]
 have hst1:=hst.alloc' (.cells (enc x).toArray e)
 have hn1:=hown.step ((Step.refl w τ Go.Proofs.YtemacanaihaldaaGreat.nil).alloc' (.cells (enc x).toArray e)) (fun h=>h)
 obtain⟨v',w',τ',hr,hb',he,hm,hnw⟩:=Qap (P:=Tryz.prog) (w.alloc (.cells (enc x).toArray e)) τ g t o.type e i0 z k by_ ht hi hz0 hz1 hz2 hz3 hk0 v l.length (l.flatMap enc) hn1.buf
  (some ⟨w.heap.size,0,none⟩) 1 1 (enc x) (by rw[hxl,Nat.one_mul]) (fun h=>by cases h) (by
    intro ad had j u hu
    cases had
    exact World.news_of_block (cs:=(enc x).toArray) (t:=e) (fr:=(0,0)) (heap_alloc_new w _) j u (by simpa using hu)) hx1 (by unfold maxLen;omega) (by
     have:(l.length+1)*by_≤1000001*1000:=Nat.mul_le_mul (by omega) hby
     omega)
 unfold Oper.wp execOp
 simp only[hop,resolve,invoke,builtin,Sem.run_bind,Sem.run_pure,Result.andThen_ok,List.map_toArray,List.map_cons,List.map_nil,hs,hy,hr]
 refine h v' w' τ' ⟨?_,fun k hk=>?_⟩ ⟨hst1.mod.seq hm (fun k hk hS=>absurd (hn1.low k hS) (by omega)),hst1.ext.trans he hst1.size⟩ (((Step.refl w τ _).alloc' _).trans ⟨hm.mono (fun k hk hS=>(hn1.buf.own k hS).1),he⟩)
 ·rw[List.length_append,List.flatMap_append,show [x].flatMap enc=enc x by simp];exact hb'
 ·rcases hnw k hk with h|h
  ·exact hn1.low k h
  ·have:=hst1.size;omega
theorem Tryz.infoActive:(Tryz.prog.info? 75).map (fun i=>(i.zero,i.size,i.bytes))=some (some (.agg #[.int .u32 0,.int .u64 0,.int .u64 0,.int .u8 0]),4,32):=by kernel_rfl
structure TxnP where
 txn:Nat
 last:Nat
 undo:Nat
 state:Nat
def Qct (x:TxnP):List Value:=[.int .u32 (x.txn:Int),.int .u64 (x.last:Int),.int .u64 (x.undo:Int),.int .u8 (x.state:Int)]
def Qgn (x:Nat×Nat):List Value:=[.int .u32 (x.1:Int),.int .u64 (x.2:Int)]
def pTxn (l:List Int):Option (TxnP×List Int):=(pNum 4 l).bind fun a=>(pNum 8 a.2).bind fun b=>(pNum 8 b.2).bind fun c=>(pNum 1 c.2).bind fun d=>some (⟨a.1,b.1,c.1,d.1⟩,d.2)
def pDirt (l:List Int):Option ((Nat×Nat)×List Int):=(pNum 4 l).bind fun a=>(pNum 8 a.2).bind fun b=>some ((a.1,b.1),b.2)
def pMany {α:Type}(p:List Int→Option (α×List Int)):Nat→List Int→Option (List α×List Int)
 | 0,l=>some ([],l)
 | n+1,l=>(pMany p n l).bind fun x=>(p x.2).bind fun y=>some (x.1++[y.1],y.2)
theorem Qds {α:Type} {p:List Int→Option (α×List Int)} {i:Nat} {l:List Int}(h:pMany p i l=none):∀n,i≤n→pMany p n l=none:=by
 intro n hn
 induction n with
 | zero =>
    obtain rfl:i=0:=by omega
    exact h
 | succ n ih =>
   by_cases e:i=n+1
   ·subst e;exact h
   ·show (pMany p n l).bind _=none
    rw[ih (by omega)];rfl
def Qdk (l:List Int):Option ((List TxnP×List (Nat×Nat))×List Int) :=
 (pNum 1 l).bind fun n=>(pMany pTxn n.1 n.2).bind fun t=>(pNum 1 t.2).bind fun m=>(pMany pDirt m.1 m.2).bind fun d=>some ((t.1,d.1),d.2)
theorem Qhs {α:Type} {l:List α} {i:Nat} {x:α}(h:l[i]?=some x):l.set i x=l:=by
 apply List.ext_getElem?
 intro j
 by_cases e:i=j
 ·subst e
  rw[List.getElem?_set_self (List.getElem?_eq_some_iff.1 h).1,h]
 ·rw[List.getElem?_set_ne e]
theorem Qrv (n:Nat) (h:n<256):IntKind.u8.wrap (n:Int)=(n:Int):=by
 have:IntKind.u8.wrap (n:Int)=(n:Int)%256:=by simp[IntKind.wrap,IntKind.bits,IntKind.signed]
 rw[this];omega
def tRec:Tag:=(200,0)
def tTx:Tag:=(199,0)
def tPx:Tag:=(199,1)
def Qbn (g:Tag):Prop:=g=tRd∨g=tRec∨g=tTx∨g=tPx
theorem Qdm(h:RdTag g):Qbn g:=.inl h
theorem Qql {br bx:Nat} {l:List Int} {cs:List Value}(h:RdAt w τ br g l) (hg:g≠tRd) (hg2:¬Qbn g) (hx:Own w τ bx tRec 127 cs) (hcl:cs.length=12) (h10:cs[10]?=some (.slice none 0 0)) (h11:cs[11]?=some (.slice none 0 0)) :
 Calls Tryz.prog 206 #[.pointer (some ⟨br,0,none⟩),.pointer (some ⟨bx,0,none⟩)] w fun e w'=>∃τ' vt vp,Step w τ w' τ' Qbn∧Own w' τ' bx tRec 127 ((cs.set 10 vt).set 11 vp) ∧
  ((Qdk l=none∧e=Qav)∨∃t d l',Qdk l=some ((t,d),l')∧e = .returned (.tuple #[])∧NS 75 4 Qct w.heap.size w' τ' tTx vt t∧NS 195 2 Qgn w.heap.size w' τ' tPx vp d∧RdAt w' τ' br g l'):=by
 have hn1:=Qar h hg 1 (by omega) (by omega)
 have hB:=h.isB
 obtain⟨Hn1,HB,Hx⟩:=hid3 hn1 hB hx
 clear hn1 hB hx h
 go_enter Tryz.func206,Tryz.ntmps206
 go_wp2_with fail
 refine Hn1.out.mono ?_
 rintro e w1 ⟨τ1,hs1,⟨hr,rfl⟩|⟨n,l1,v,hr1,rfl,rfl,hrd1⟩⟩
 ·have hx1:=Hx.out.step hs1 (by unfold RdTag;decide)
  have hs:=hs1.mono (T:=Qbn) (fun _ h=>Qdm h)
  obtain⟨Hx1,Hs⟩:=hid2 hx1 hs
  clear hx1 hs
  unfold Qav
  go_wp2_with fail
  refine⟨rfl,τ1,.slice none 0 0,.slice none 0 0,Hs.out,?_,.inl ⟨by unfold Qdk;rw[hr];rfl,rfl⟩⟩
  have:=Hx1.out
  rw[Qhs h10,Qhs h11];exact this
 have hx1:=Hx.out.step hs1 (by unfold RdTag;decide)
 have hst1:=hs1.mono (T:=Qbn) (fun _ h=>Qdm h)
 have hn256:=Qcb hr1 HB.out
 rw[show (2:Nat) ^ (8*1)=256 from by decide] at hn256
 obtain⟨Hx1,Hst1,Hr1,Hrd1⟩:=hid4 hx1 hst1 hr1 hrd1
 clear hx1 hst1 hr1 hrd1 hs1 Hn1
 go_wp2_with fail
 go_loopw [6] (fun v wr=>∃(i:Nat) (τr:Tags) (t:List TxnP) (l':List Int) (vt:Value),i≤n∧v = .int .u64 (i:Int)∧pMany pTxn i l1=some (t,l')∧t.length=i∧Own wr τr bx tRec 127 (cs.set 10 vt)∧NS 75 4 Qct w.heap.size wr τr tTx vt t∧RdAt wr τr br g l'∧Step w τ wr τr Qbn) (fun v _=>n-(intOf v).toNat)
 case atStart=>exact⟨0,τ1,[],l1,.slice none 0 0,Nat.zero_le _,rfl,rfl,rfl,by rw[Qhs h10];exact Hx1.out,NS.nil _ _ _ _ _ _ _,Hrd1.out,Hst1.out⟩
 case round =>
  clear Hx1 Hst1 Hrd1
  obtain⟨i,τr,t,l2,vt,hi,rfl,hpm,htl,hx2,hns2,hrd2,hst2⟩:=hrel
  by_cases hlt:i<n
  ·have hiI:(i:Int)<(n:Int):=by omega
   obtain⟨pt,ct,rfl⟩:=hns2.val
   rw[htl] at hx2 hns2
   have c10:=hx2.at 10 (v:=.slice pt i ct) (List.getElem?_set_self (by omega))
   have hdw:=(Step.refl wr τr nil).drew
   have hx3:=hx2.step hdw (fun h=>h)
   have hns3:=hns2.step hdw (fun h=>h)
   have hst3:=hst2.drew
   have hcall1:=Qar (hrd2.step hdw (fun h=>h) (fun h=>h)) hg 4 (by omega) (by omega)
   have hB2:=hrd2.isB
   have hnone:pTxn l2=none→pMany pTxn (i+1) l1=none:=fun hr=>by
    show (pMany pTxn i l1).bind _=none
    rw[hpm]
    show (pTxn l2).bind _=none
    rw[hr];rfl
   obtain⟨Hx3,Hns3,Hst3,Hcall1,HB2,Hpm,Htl,Hnone⟩:=hid8 hx3 hns3 hst3 hcall1 hB2 hpm htl hnone
   clear hx3 hns3 hst3 hcall1 hB2 hpm htl hnone hx2 hns2 hst2 hrd2 hdw
   go_wp2_with fail
   refine Qaf (S:=fun w':World=>w'.cell? ⟨bx,10,none⟩=some (.slice pt i ct)) (by kernel_rfl) ?_
   have hSS:wr.drew.cell? ⟨bx,10,none⟩=some (.slice pt i ct):=c10
   refine tk0 [0,1,2,3,4,5,8,10,12] ?_
   iterate 9
    refine tks (v:=?_) rfl (Or.inl ⟨by rfl,?_⟩) (by assumption) ?_
    rotate_left
    ·intro w hSw;(try dsimp only at hSw);go_simp
     all_goals with_reducible rfl
    try simp only[Act.put,lz1,lz2,lz3]
   refine tk9 ?_
   clear hSS
   refine tk1 6 rfl fun K hK=>?_
   go_simp
   go_at_call 204
   refine Hcall1.out.mono ?_
   rintro e w4 ⟨τ4,hs4,⟨hr,rfl⟩|⟨a1,l4,v,hr4,rfl,rfl,hrd4⟩⟩
   ·have hx4:=Hx3.out.step hs4 (by unfold RdTag;decide)
    have hst4:=Hst3.out.trans (hs4.mono (T:=Qbn) (fun _ h=>Qdm h))
    have hp:pTxn l2=none:=by unfold pTxn;rw[hr];rfl
    have hp2:=Qds (Hnone.out hp) n (by omega)
    unfold Qav
    refine And.intro rfl ?_
    refine⟨τ4,.slice pt i ct,.slice none 0 0,hst4,?_,.inl ⟨by unfold Qdk;rw[Hr1.out];simp only[Option.bind_some];rw[hp2];rfl,rfl⟩⟩
    rw[List.set_comm _ _ (by decide),Qhs h11];exact hx4
   have hx4:=Hx3.out.step hs4 (by unfold RdTag;decide)
   have hns4:=Hns3.out.step hs4 (by unfold RdTag;decide)
   have hst4:=Hst3.out.trans (hs4.mono (T:=Qbn) (fun _ h=>Qdm h))
   have d4:=hx4.at 10 (v:=.slice pt i ct) (by rw[show (cs.set 10 (.slice pt i ct))[10]?=_ from rfl];exact List.getElem?_set_self (by omega))
   have hB4:=hrd4.isB
   have hlt4:=Qcb hr4 HB2.out
   rw[show (2:Nat) ^ (8*4)=4294967296 from by decide] at hlt4
   have hw4:IntKind.u32.wrap (a1:Int)=(a1:Int):=Qb1 a1 hlt4
   have hcall2:=Qar hrd4 hg 8 (by omega) (by omega)
   obtain⟨Hx4,Hns4,Hst4,Hr4,HB4,Hcall2⟩:=hid6 hx4 hns4 hst4 hr4 hB4 hcall2
   clear hx4 hns4 hst4 hr4 hB4 hcall2 hs4
   refine hK.out _ _ (fun _=>d4) ?_
   clear hK K
   refine tk (i:=7) (v:=?_) rfl (Or.inl ⟨by rfl,?_⟩) (by assumption) ?_
   rotate_left
   ·intro w hSw;(try dsimp only at hSw);go_simp
    all_goals with_reducible rfl
   try simp only[Act.put,lz1,lz2,lz3]
   refine tk1 9 rfl fun K hK=>?_
   go_simp
   go_at_call 204
   refine Hcall2.out.mono ?_
   rintro e w5 ⟨τ5,hs5,⟨hr,rfl⟩|⟨a2,l5,v,hr5,rfl,rfl,hrd5⟩⟩
   ·have hx5:=Hx4.out.step hs5 (by unfold RdTag;decide)
    have hst5:=Hst4.out.trans (hs5.mono (T:=Qbn) (fun _ h=>Qdm h))
    have hp:pTxn l2=none:=by unfold pTxn;rw[Hr4.out];simp only[Option.bind_some];rw[hr];rfl
    have hp2:=Qds (Hnone.out hp) n (by omega)
    unfold Qav
    refine And.intro rfl ?_
    refine⟨τ5,.slice pt i ct,.slice none 0 0,hst5,?_,.inl ⟨by unfold Qdk;rw[Hr1.out];simp only[Option.bind_some];rw[hp2];rfl,rfl⟩⟩
    rw[List.set_comm _ _ (by decide),Qhs h11];exact hx5
   have hx5:=Hx4.out.step hs5 (by unfold RdTag;decide)
   have hns5:=Hns4.out.step hs5 (by unfold RdTag;decide)
   have hst5:=Hst4.out.trans (hs5.mono (T:=Qbn) (fun _ h=>Qdm h))
   have d5:=hx5.at 10 (v:=.slice pt i ct) (by rw[show (cs.set 10 (.slice pt i ct))[10]?=_ from rfl];exact List.getElem?_set_self (by omega))
   have hB5:=hrd5.isB
   have hlt5:=Qcb hr5 HB4.out
   rw[show (2:Nat) ^ (8*8)=18446744073709551616 from by decide] at hlt5
   have hcall3:=Qar hrd5 hg 8 (by omega) (by omega)
   obtain⟨Hx5,Hns5,Hst5,Hr5,HB5,Hcall3⟩:=hid6 hx5 hns5 hst5 hr5 hB5 hcall3
   clear hx5 hns5 hst5 hr5 hB5 hcall3 hs5
   refine hK.out _ _ (fun _=>d5) ?_
   clear hK K
   refine tk1 11 rfl fun K hK=>?_
   go_simp
   go_at_call 204
   refine Hcall3.out.mono ?_
   rintro e w6 ⟨τ6,hs6,⟨hr,rfl⟩|⟨a3,l6,v,hr6,rfl,rfl,hrd6⟩⟩
   ·have hx6:=Hx5.out.step hs6 (by unfold RdTag;decide)
    have hst6:=Hst5.out.trans (hs6.mono (T:=Qbn) (fun _ h=>Qdm h))
    have hp:pTxn l2=none:=by unfold pTxn;rw[Hr4.out];simp only[Option.bind_some];rw[Hr5.out];simp only[Option.bind_some];rw[hr];rfl
    have hp2:=Qds (Hnone.out hp) n (by omega)
    unfold Qav
    refine And.intro rfl ?_
    refine⟨τ6,.slice pt i ct,.slice none 0 0,hst6,?_,.inl ⟨by unfold Qdk;rw[Hr1.out];simp only[Option.bind_some];rw[hp2];rfl,rfl⟩⟩
    rw[List.set_comm _ _ (by decide),Qhs h11];exact hx6
   have hx6:=Hx5.out.step hs6 (by unfold RdTag;decide)
   have hns6:=Hns5.out.step hs6 (by unfold RdTag;decide)
   have hst6:=Hst5.out.trans (hs6.mono (T:=Qbn) (fun _ h=>Qdm h))
   have d6:=hx6.at 10 (v:=.slice pt i ct) (by rw[show (cs.set 10 (.slice pt i ct))[10]?=_ from rfl];exact List.getElem?_set_self (by omega))
   have hB6:=hrd6.isB
   have hlt6:=Qcb hr6 HB5.out
   rw[show (2:Nat) ^ (8*8)=18446744073709551616 from by decide] at hlt6
   have hcall4:=Qar hrd6 hg 1 (by omega) (by omega)
   obtain⟨Hx6,Hns6,Hst6,Hr6,HB6,Hcall4⟩:=hid6 hx6 hns6 hst6 hr6 hB6 hcall4
   clear hx6 hns6 hst6 hr6 hB6 hcall4 hs6
   refine hK.out _ _ (fun _=>d6) ?_
   clear hK K
   refine tk1 13 rfl fun K hK=>?_
   go_simp
   go_at_call 204
   refine Hcall4.out.mono ?_
   rintro e w7 ⟨τ7,hs7,⟨hr,rfl⟩|⟨a4,l7,v,hr7,rfl,rfl,hrd7⟩⟩
   ·have hx7:=Hx6.out.step hs7 (by unfold RdTag;decide)
    have hst7:=Hst6.out.trans (hs7.mono (T:=Qbn) (fun _ h=>Qdm h))
    have hp:pTxn l2=none:=by unfold pTxn;rw[Hr4.out];simp only[Option.bind_some];rw[Hr5.out];simp only[Option.bind_some];rw[Hr6.out];simp only[Option.bind_some];rw[hr];rfl
    have hp2:=Qds (Hnone.out hp) n (by omega)
    unfold Qav
    refine And.intro rfl ?_
    refine⟨τ7,.slice pt i ct,.slice none 0 0,hst7,?_,.inl ⟨by unfold Qdk;rw[Hr1.out];simp only[Option.bind_some];rw[hp2];rfl,rfl⟩⟩
    rw[List.set_comm _ _ (by decide),Qhs h11];exact hx7
   have hx7:=Hx6.out.step hs7 (by unfold RdTag;decide)
   have hns7:=Hns6.out.step hs7 (by unfold RdTag;decide)
   have hst7:=Hst6.out.trans (hs7.mono (T:=Qbn) (fun _ h=>Qdm h))
   have d7:=hx7.at 10 (v:=.slice pt i ct) (by rw[show (cs.set 10 (.slice pt i ct))[10]?=_ from rfl];exact List.getElem?_set_self (by omega))
   have hB7:=hrd7.isB
   have hlt7:=Qcb hr7 HB6.out
   rw[show (2:Nat) ^ (8*1)=256 from by decide] at hlt7
   have hw7:IntKind.u8.wrap (a4:Int)=(a4:Int):=Qrv a4 hlt7
   obtain⟨Hx7,Hns7,Hst7,Hr7,HB7,Hrd7⟩:=hid6 hx7 hns7 hst7 hr7 hB7 hrd7
   clear hx7 hns7 hst7 hr7 hB7 hrd7 hs7
   refine hK.out _ _ (fun _=>d7) ?_
   clear hK K
   refine tk (i:=14) (v:=?_) rfl (Or.inl ⟨by rfl,?_⟩) (by assumption) ?_
   rotate_left
   ·intro w hSw;(try dsimp only at hSw);go_simp
    all_goals with_reducible rfl
   try simp only[Act.put,lz1,lz2,lz3]
   refine tk1 15 rfl fun K hK=>?_
   go_simp
   refine hK.out _ _ (fun _=>d7) ?_
   clear hK K
   refine tk1 16 rfl fun K hK=>?_
   go_simp
   refine hK.out _ _ (fun _=>(Hx7.out.alloc _).at 10 (by rw[show (cs.set 10 (.slice pt i ct))[10]?=_ from rfl];exact List.getElem?_set_self (by omega))) ?_
   clear hK K
   refine tk1 17 rfl fun K hK=>?_
   obtain⟨i0,hi0,hz0,hz1,hz2⟩:=info_parts Tryz.infoActive
   refine Qg3 (enc:=Qct) Tryz.underlying72 hi0 hz0 hz1 hz2 rfl (by decide) Hst7.out Hns7.out ⟨a1,a2,a3,a4⟩ rfl (by intro u hu;simp[Qct] at hu;rcases hu with rfl|rfl|rfl|rfl <;> rfl) (by rw[Htl.out];omega) (by decide) rfl rfl _ _ rfl rfl rfl ?_
   intro v9 w9 τ9 hns9 hst9 hs9
   have hx9:=Hx7.out.step hs9 (by decide)
   have hrd9:=Hrd7.out.step hs9 (by decide) (fun h=>hg2 (.inr (.inr (.inl h))))
   obtain⟨tn,htn⟩:∃tn,t++[(⟨a1,a2,a3,a4⟩:TxnP)]=tn:=⟨_,rfl⟩
   have htl9:tn.length=i+1:=by rw[←htn,List.length_append,Htl.out];rfl
   rw[htn] at hns9
   obtain⟨p9,c9,rfl⟩:=hns9.val
   rw[htl9] at hns9 ⊢
   have d9:=hx9.at 10 (v:=.slice pt i ct) (by rw[show (cs.set 10 (.slice pt i ct))[10]?=_ from rfl];exact List.getElem?_set_self (by omega))
   have z9:=hx9.fz 10
   have hqA:=(Step.refl w9 τ9 (fun t=>t=tRec)).set (b:=bx) (o:=10) hx9.tag rfl (.slice p9 (i+1) c9)
   have hxA:=hx9.set 10 (.slice p9 (i+1) c9)
   rw[List.set_set] at hxA
   have hnsA:=hns9.step hqA (by decide)
   have hrdA:=hrd9.step hqA (by decide) (fun h=>hg2 (.inr (.inl h)))
   have hstA:=hst9.trans (hqA.mono (T:=Qbn) (fun _ h=>.inr (.inl h)))
   obtain⟨HxA,HnsA,HrdA,HstA,Htl9,Htn⟩:=hid6 hxA hnsA hrdA hstA htl9 htn
   clear hxA hnsA hrdA hstA htl9 htn hx9 hns9 hrd9 hst9 hs9 hqA
   refine hK.out _ _ (fun _=>d9) ?_
   clear hK K
   refine tk1 18 rfl fun K hK=>?_
   go_simp
   refine hK.out _ _ (fun _=>d9) ?_
   clear hK K
   refine tk1 19 rfl fun K hK=>?_
   go_simp
   refine hK.out _ _ (fun _=>d9) ?_
   clear hK K
   refine tk1 20 rfl fun K hK=>?_
   go_simp
   refine hK.out _ _ (fun h=>absurd h (by decide +kernel)) ?_
   clear hK K d9 z9
   refine Qad (by kernel_rfl) ?_ _
   go_wp2_with fail
   go_round
   case rel =>
    refine⟨i+1,τ9,tn,l7,_,by omega,by simp,?_,Htl9.out,HxA.out,HnsA.out,HrdA.out,HstA.out⟩
    rw[←Htn.out]
    show (pMany pTxn i l1).bind _=_
    rw[Hpm.out]
    show (pTxn l2).bind _=_
    unfold pTxn
    rw[Hr4.out];simp only[Option.bind_some];rw[Hr5.out];simp only[Option.bind_some];rw[Hr6.out];simp only[Option.bind_some];rw[Hr7.out];rfl
   case measure=>simp[intOf];omega
  ·obtain rfl:i=n:=by omega
   have hn2:=Qar hrd2 hg 1 (by omega) (by omega)
   have hB2:=hrd2.isB
   obtain⟨Hpm,Htl,Hx2,Hns2,Hst2,Hn2,HB2⟩:=hid7 hpm htl hx2 hns2 hst2 hn2 hB2
   clear hpm htl hx2 hns2 hst2 hn2 hB2 hrd2
   go_wp2_with fail
   refine Hn2.out.mono ?_
   rintro e w3 ⟨τ3,hs3,⟨hr,rfl⟩|⟨m,l3,v,hr3,rfl,rfl,hrd3⟩⟩
   ·have hx3:=Hx2.out.step hs3 (by unfold RdTag;decide)
    have hst3:=Hst2.out.trans (hs3.mono (T:=Qbn) (fun _ h=>Qdm h))
    unfold Qav
    refine And.intro rfl ?_
    refine⟨τ3,vt,.slice none 0 0,hst3,?_,.inl ⟨by unfold Qdk;rw[Hr1.out];simp only[Option.bind_some];rw[Hpm.out];simp only[Option.bind_some];rw[hr];rfl,rfl⟩⟩
    rw[Qhs (show (cs.set 10 vt)[11]?=_ by rw[List.getElem?_set_ne (by decide)];exact h11)];exact hx3
   have hx3:=Hx2.out.step hs3 (by unfold RdTag;decide)
   have hst3:=Hst2.out.trans (hs3.mono (T:=Qbn) (fun _ h=>Qdm h))
   have htx3:=Hns2.out.step hs3 (by unfold RdTag;decide)
   have hm256:=Qcb hr3 HB2.out
   rw[show (2:Nat) ^ (8*1)=256 from by decide] at hm256
   have h111:(cs.set 10 vt)[11]?=some (.slice none 0 0):=by rw[List.getElem?_set_ne (by decide)];exact h11
   have hcl1:(cs.set 10 vt).length=12:=by rw[List.length_set];exact hcl
   have HPM1:=Hpm
   have HT1:=Htl
   obtain⟨cs1,hcs1⟩:∃cs1,cs.set 10 vt=cs1:=⟨_,rfl⟩
   rw[hcs1] at hx3 h111 hcl1
   obtain⟨Ht1,Hx3,Hst3,Hr3,Hrd3,Hcs1,H111⟩:=hid7 htx3 hx3 hst3 hr3 hrd3 hcs1 h111
   clear hx3 hst3 hr3 hrd3 hcs1 h111 hs3 Hx2 Hns2 Hst2 Hn2 htx3 hi hlt
   rename List TxnP=>tt
   go_wp2_with fail
   go_loopw [31] (fun v wr=>∃(i:Nat) (τr:Tags) (t:List (Nat×Nat)) (l':List Int) (vp:Value),i≤m∧v = .int .u64 (i:Int)∧pMany pDirt i l3=some (t,l')∧t.length=i∧Own wr τr bx tRec 127 (cs1.set 11 vp)∧NS 75 4 Qct w.heap.size wr τr tTx vt tt∧NS 195 2 Qgn w.heap.size wr τr tPx vp t∧RdAt wr τr br g l'∧Step w τ wr τr Qbn) (fun v _=>m-(intOf v).toNat)
   case atStart=>exact⟨0,τ3,[],l3,.slice none 0 0,Nat.zero_le _,rfl,rfl,rfl,by rw[Qhs H111.out];exact Hx3.out,Ht1.out,NS.nil _ _ _ _ _ _ _,Hrd3.out,Hst3.out⟩
   case round =>
    clear Hx3 Hst3 Hrd3 Ht1
    obtain⟨i,τr,t,l4,vp,hi,rfl,hpm,htl,hx2,htx2,hns2,hrd2,hst2⟩:=hrel
    by_cases hlt:i<m
    ·have hiI:(i:Int)<(m:Int):=by omega
     obtain⟨pt,ct,rfl⟩:=hns2.val
     rw[htl] at hx2 hns2
     have c10:=hx2.at 11 (v:=.slice pt i ct) (List.getElem?_set_self (by omega))
     have hdw:=(Step.refl wr τr nil).drew
     have hx3:=hx2.step hdw (fun h=>h)
     have hns3:=hns2.step hdw (fun h=>h)
     have htx3:=htx2.step hdw (fun h=>h)
     have hst3:=hst2.drew
     have hcall1:=Qar (hrd2.step hdw (fun h=>h) (fun h=>h)) hg 4 (by omega) (by omega)
     have hB2:=hrd2.isB
     have hnone:pDirt l4=none→pMany pDirt (i+1) l3=none:=fun hr=>by
      show (pMany pDirt i l3).bind _=none
      rw[hpm]
      show (pDirt l4).bind _=none
      rw[hr];rfl
     have HB2':=HB2
     clear HB2
     obtain⟨Hx3,Hns3,Htx3,Hst3,Hcall1,HB2,Hpm,Htl,Hnone⟩:=hid9 hx3 hns3 htx3 hst3 hcall1 hB2 hpm htl hnone
     clear hx3 hns3 htx3 hst3 hcall1 hB2 hpm htl hnone hx2 hns2 htx2 hst2 hrd2 hdw
     go_wp2_with fail
     refine Qaf (S:=fun w':World=>w'.cell? ⟨bx,11,none⟩=some (.slice pt i ct)) (by kernel_rfl) ?_
     have hSS:wr.drew.cell? ⟨bx,11,none⟩=some (.slice pt i ct):=c10
     refine tk0 [0,1,2,3,4,5,8] ?_
     iterate 7
      refine tks (v:=?_) rfl (Or.inl ⟨by rfl,?_⟩) (by assumption) ?_
      rotate_left
      ·intro w hSw;(try dsimp only at hSw);go_simp
       all_goals with_reducible rfl
      try simp only[Act.put,lz1,lz2,lz3]
     refine tk9 ?_
     clear hSS
     refine tk1 6 rfl fun K hK=>?_
     go_simp
     go_at_call 204
     refine Hcall1.out.mono ?_
     rintro e w4 ⟨τ4,hs4,⟨hr,rfl⟩|⟨a1,l6,v,hr4,rfl,rfl,hrd4⟩⟩
     ·have hx4:=Hx3.out.step hs4 (by unfold RdTag;decide)
      have hst4:=Hst3.out.trans (hs4.mono (T:=Qbn) (fun _ h=>Qdm h))
      have hp:pDirt l4=none:=by unfold pDirt;rw[hr];rfl
      have hp2:=Qds (Hnone.out hp) m (by omega)
      unfold Qav
      refine And.intro rfl ?_
      refine⟨τ4,vt,.slice pt i ct,hst4,?_,.inl ⟨by unfold Qdk;rw[Hr1.out];simp only[Option.bind_some];rw[HPM1.out];simp only[Option.bind_some];rw[Hr3.out];simp only[Option.bind_some];rw[hp2];rfl,rfl⟩⟩
      rw[Hcs1.out];exact hx4
     have hx4:=Hx3.out.step hs4 (by unfold RdTag;decide)
     have hns4:=Hns3.out.step hs4 (by unfold RdTag;decide)
     have hst4:=Hst3.out.trans (hs4.mono (T:=Qbn) (fun _ h=>Qdm h))
     have d4:=hx4.at 11 (v:=.slice pt i ct) (by rw[show (cs1.set 11 (.slice pt i ct))[11]?=_ from rfl];exact List.getElem?_set_self (by omega))
     have hB4:=hrd4.isB
     have hlt4:=Qcb hr4 HB2.out
     rw[show (2:Nat) ^ (8*4)=4294967296 from by decide] at hlt4
     have hw4:IntKind.u32.wrap (a1:Int)=(a1:Int):=Qb1 a1 hlt4
     have hcall2:=Qar hrd4 hg 8 (by omega) (by omega)
     have htx4:=Htx3.out.step hs4 (by unfold RdTag;decide)
     obtain⟨Hx4,Hns4,Hst4,Hr4,HB4,Hcall2,Htx4⟩:=hid7 hx4 hns4 hst4 hr4 hB4 hcall2 htx4
     clear hx4 hns4 hst4 hr4 hB4 hcall2 htx4 hs4
     refine hK.out _ _ (fun _=>d4) ?_
     clear hK K
     refine tk (i:=7) (v:=?_) rfl (Or.inl ⟨by rfl,?_⟩) (by assumption) ?_
     rotate_left
     ·intro w hSw;(try dsimp only at hSw);go_simp
      all_goals with_reducible rfl
     try simp only[Act.put,lz1,lz2,lz3]
     refine tk1 9 rfl fun K hK=>?_
     go_simp
     go_at_call 204
     refine Hcall2.out.mono ?_
     rintro e w5 ⟨τ5,hs5,⟨hr,rfl⟩|⟨a2,l5,v,hr5,rfl,rfl,hrd5⟩⟩
     ·have hx5:=Hx4.out.step hs5 (by unfold RdTag;decide)
      have hst5:=Hst4.out.trans (hs5.mono (T:=Qbn) (fun _ h=>Qdm h))
      have hp:pDirt l4=none:=by unfold pDirt;rw[Hr4.out];simp only[Option.bind_some];rw[hr];rfl
      have hp2:=Qds (Hnone.out hp) m (by omega)
      unfold Qav
      refine And.intro rfl ?_
      refine⟨τ5,vt,.slice pt i ct,hst5,?_,.inl ⟨by unfold Qdk;rw[Hr1.out];simp only[Option.bind_some];rw[HPM1.out];simp only[Option.bind_some];rw[Hr3.out];simp only[Option.bind_some];rw[hp2];rfl,rfl⟩⟩
      rw[Hcs1.out];exact hx5
     have hx5:=Hx4.out.step hs5 (by unfold RdTag;decide)
     have hns5:=Hns4.out.step hs5 (by unfold RdTag;decide)
     have hst5:=Hst4.out.trans (hs5.mono (T:=Qbn) (fun _ h=>Qdm h))
     have d5:=hx5.at 11 (v:=.slice pt i ct) (by rw[show (cs1.set 11 (.slice pt i ct))[11]?=_ from rfl];exact List.getElem?_set_self (by omega))
     have hB5:=hrd5.isB
     have hlt5:=Qcb hr5 HB4.out
     rw[show (2:Nat) ^ (8*8)=18446744073709551616 from by decide] at hlt5
     have htx5:=Htx4.out.step hs5 (by unfold RdTag;decide)
     obtain⟨Hx5,Hns5,Hst5,Hr5,HB5,Hrd5,Htx5⟩:=hid7 hx5 hns5 hst5 hr5 hB5 hrd5 htx5
     clear hx5 hns5 hst5 hr5 hB5 hrd5 htx5 hs5
     refine hK.out _ _ (fun _=>d5) ?_
     clear hK K
     refine tk1 10 rfl fun K hK=>?_
     go_simp
     refine hK.out _ _ (fun _=>d5) ?_
     clear hK K
     refine tk1 11 rfl fun K hK=>?_
     go_simp
     refine hK.out _ _ (fun _=>(Hx5.out.alloc _).at 11 (by rw[show (cs1.set 11 (.slice pt i ct))[11]?=_ from rfl];exact List.getElem?_set_self (by omega))) ?_
     clear hK K
     refine tk1 12 rfl fun K hK=>?_
     obtain⟨i0,hi0,hz0,hz1,hz2⟩:=info_parts Tryz.infoDirty
     refine Qg3 (enc:=Qgn) Tryz.underlying125 hi0 hz0 hz1 hz2 rfl (by decide) Hst5.out Hns5.out (a1,a2) rfl (by intro u hu;simp[Qgn] at hu;rcases hu with rfl|rfl <;> rfl) (by rw[Htl.out];omega) (by decide) rfl rfl _ _ rfl rfl rfl ?_
     intro v9 w9 τ9 hns9 hst9 hs9
     have hx9:=Hx5.out.step hs9 (by decide)
     have htx9:=Htx5.out.step hs9 (by decide)
     have hrd9:=Hrd5.out.step hs9 (by decide) (fun h=>hg2 (.inr (.inr (.inr h))))
     obtain⟨tn,htn⟩:∃tn,t++[(a1,a2)]=tn:=⟨_,rfl⟩
     have htl9:tn.length=i+1:=by rw[←htn,List.length_append,Htl.out];rfl
     rw[htn] at hns9
     obtain⟨p9,c9,rfl⟩:=hns9.val
     rw[htl9] at hns9 ⊢
     have d9:=hx9.at 11 (v:=.slice pt i ct) (by rw[show (cs1.set 11 (.slice pt i ct))[11]?=_ from rfl];exact List.getElem?_set_self (by omega))
     have z9:=hx9.fz 11
     have hqA:=(Step.refl w9 τ9 (fun t=>t=tRec)).set (b:=bx) (o:=11) hx9.tag rfl (.slice p9 (i+1) c9)
     have hxA:=hx9.set 11 (.slice p9 (i+1) c9)
     rw[List.set_set] at hxA
     have hnsA:=hns9.step hqA (by decide)
     have htxA:=htx9.step hqA (by decide)
     have hrdA:=hrd9.step hqA (by decide) (fun h=>hg2 (.inr (.inl h)))
     have hstA:=hst9.trans (hqA.mono (T:=Qbn) (fun _ h=>.inr (.inl h)))
     obtain⟨HxA,HnsA,HrdA,HstA,Htl9,Htn,HtxA⟩:=hid7 hxA hnsA hrdA hstA htl9 htn htxA
     clear hxA hnsA hrdA hstA htl9 htn htxA hx9 hns9 hrd9 hst9 hs9 hqA htx9
     refine hK.out _ _ (fun _=>d9) ?_
     clear hK K
     refine tk1 13 rfl fun K hK=>?_
     go_simp
     refine hK.out _ _ (fun _=>d9) ?_
     clear hK K
     refine tk1 14 rfl fun K hK=>?_
     go_simp
     refine hK.out _ _ (fun _=>d9) ?_
     clear hK K
     refine tk1 15 rfl fun K hK=>?_
     go_simp
     refine hK.out _ _ (fun h=>absurd h (by decide +kernel)) ?_
     clear hK K d9 z9
     refine Qad (by kernel_rfl) ?_ _
     go_wp2_with fail
     go_round
     case rel =>
      refine⟨i+1,τ9,tn,l5,_,by omega,by simp,?_,Htl9.out,HxA.out,HtxA.out,HnsA.out,HrdA.out,HstA.out⟩
      rw[←Htn.out]
      show (pMany pDirt i l3).bind _=_
      rw[Hpm.out]
      show (pDirt l4).bind _=_
      unfold pDirt
      rw[Hr4.out];simp only[Option.bind_some];rw[Hr5.out];rfl
     case measure=>simp[intOf];omega
    ·obtain rfl:i=m:=by omega
     obtain⟨Hpm,Hx2,Htx2,Hns2,Hrd2,Hst2⟩:=hid6 hpm hx2 htx2 hns2 hrd2 hst2
     clear hpm hx2 htx2 hns2 hrd2 hst2
     go_wp2_with fail
     go_end0
     refine⟨τr,vt,vp,Hst2.out,by rw[Hcs1.out];exact Hx2.out,.inr ⟨tt,t,l4,?_,rfl,Htx2.out,Hns2.out,Hrd2.out⟩⟩
     unfold Qdk
     rw[Hr1.out];simp only[Option.bind_some];rw[HPM1.out];simp only[Option.bind_some];rw[Hr3.out];simp only[Option.bind_some];rw[Hpm.out];rfl
def tIs:Tag:=(200,1)
theorem Qwc {bx bi:Nat} {u0 u1 u2 u3 u4 u5 u6 u7 u8 u9 u10 u11:Value} {b0:Bool}(hx:Own w τ bx tRec 127 [u0,u1,u2,u3,u4,u5,u6,u7,u8,u9,u10,u11]) (hi:Own w τ bi tIs 4 [.bool b0]) (u:TypeId) (pv:Value) (older:List PanicEntry) :
 CallsD Tryz.prog 202 #[.pointer (some ⟨bx,0,none⟩),.pointer (some ⟨bi,0,none⟩)] (.panicking ({v:=.iface u pv,recovered:=false}::older)) w fun e u' w' =>
  e = .returned (.tuple #[])∧u' = .panicking ({v:=.iface u pv,recovered:=true}::older)∧w'=(((((((((((((w).setCell ⟨bx,0,none⟩ (.int .u8 0)).setCell ⟨bx,1,none⟩ (.int .u32 0)).setCell ⟨bx,2,none⟩ (.int .u64 0)).setCell ⟨bx,3,none⟩ (.int .u64 0)).setCell ⟨bx,4,none⟩ (.int .u32 0)).setCell ⟨bx,5,none⟩ (.int .u16 0)).setCell ⟨bx,6,none⟩ (.bool false)).setCell ⟨bx,7,none⟩ (.bool false)).setCell ⟨bx,8,none⟩ (.slice none 0 0)).setCell ⟨bx,9,none⟩ (.slice none 0 0)).setCell ⟨bx,10,none⟩ (.slice none 0 0)).setCell ⟨bx,11,none⟩ (.slice none 0 0)).setCell ⟨bi,0,none⟩ (.bool false):=by
 have c0:=hx.at 0 (v:=u0) rfl
 have f0:=hx.fz 0
 have c1:=hx.at 1 (v:=u1) rfl
 have f1:=hx.fz 1
 have c2:=hx.at 2 (v:=u2) rfl
 have f2:=hx.fz 2
 have c3:=hx.at 3 (v:=u3) rfl
 have f3:=hx.fz 3
 have c4:=hx.at 4 (v:=u4) rfl
 have f4:=hx.fz 4
 have c5:=hx.at 5 (v:=u5) rfl
 have f5:=hx.fz 5
 have c6:=hx.at 6 (v:=u6) rfl
 have f6:=hx.fz 6
 have c7:=hx.at 7 (v:=u7) rfl
 have f7:=hx.fz 7
 have c8:=hx.at 8 (v:=u8) rfl
 have f8:=hx.fz 8
 have c9:=hx.at 9 (v:=u9) rfl
 have f9:=hx.fz 9
 have c10:=hx.at 10 (v:=u10) rfl
 have f10:=hx.fz 10
 have c11:=hx.at 11 (v:=u11) rfl
 have f11:=hx.fz 11
 have ci:=hi.at 0 (v:=.bool b0) rfl
 have fi:=hi.fz 0
 have hne1:bx≠bi:=hx.ne hi (by decide)
 have hne2:bi≠bx:=fun e=>hne1 e.symm
 refine callsD_of_wpS Tryz.func202 rfl fun c₀ cs hu=>?_
 apply wpS_seq
 apply wpS_region
 simp[wpOpsS,go_sem,recoverD,hu,Tryz.ntmps202,Exit.thenS]
 apply wpS_seq
 apply wpS_region
 simp[wpOpsS,go_sem,Exit.thenS]
 refine wpS_cond (t:=true) (by simp[Act.eval]) ?_
 simp only[if_true]
 apply wpS_region
 simp[wpOpsS,go_sem,c0,f0,c1,f1,c2,f2,c3,f3,c4,f4,c5,f5,c6,f6,c7,f7,c8,f8,c9,f9,c10,f10,c11,f11,ci,fi,hne1,hne2,bodyPostS,results,Tryz.results202]
theorem Qbs (w:World) (bx bi:Nat) :
 CallsD Tryz.prog 202 #[.pointer (some ⟨bx,0,none⟩),.pointer (some ⟨bi,0,none⟩)] .returning w fun e u' w'=>e = .returned (.tuple #[])∧u' = .returning∧w'=w:=by
 refine callsD_of_wpS Tryz.func202 rfl fun c₀ cs hu=>?_
 apply wpS_seq
 apply wpS_region
 simp[wpOpsS,go_sem,recoverD,hu,Tryz.ntmps202,Exit.thenS]
 apply wpS_seq
 apply wpS_region
 simp[wpOpsS,go_sem,Exit.thenS]
 refine wpS_cond (t:=false) (by simp[Act.eval]) ?_
 simp only[Bool.false_eq_true,if_false]
 refine wpS_of_wp (wp_skip ?_)
 cases c₀
 simp_all[bodyPostS,results,Tryz.results202]
end Go.Proofs.YtemacanaihaldaaGreat