/-
 Transactions,the laws: own: a change by one of a place of its own.
-/
import Derived.Test.YtjgacceifcnedaaGreatML15B
import Derived.Test.YtjgacceifcnedaaGreatMTxQ
set_option maxRecDepth 100000
set_option maxHeartbeats 4000000
set_option linter.all false
namespace Go.Proofs.YtjgacceifcnedaaGreat
variable {I:Ids}{R R':List RecP}{V V' V0:SlotV}{st:Nat}{w:World}{x:OneP}{τ:Tags}
open Go.RowKit Go.Maps
def Qbu (k:Nat):List Int:=if k%4=0 then [(k:Int)] else [(k:Int),1,2,3]
theorem Qzm {k:Nat}(hk:k<256):IsB (Qbu k):=by
 unfold Qbu
 intro x hx
 split at hx
 ·rw[List.mem_singleton.1 hx];omega
 ·simp at hx
  rcases hx with rfl|rfl|rfl|rfl <;> omega
theorem Qqz (k:Nat):0<(Qbu k).length∧(Qbu k).length≤4:=by
 unfold Qbu
 split <;> simp
def ownSlot (n k:Nat):Nat:=(3*n+k%3)%12
theorem Qim (n k:Nat):ownSlot n k<12:=Nat.mod_lt _ (by omega)
def OpV (kd nn pg:Nat) (sl:Int) (p:Option Addr) (m c k at_:Nat):Array Value:=#[.int .u8 (kd:Int),.int .u32 (nn:Int),.int .u32 (pg:Int),.int .i64 sl,.slice p m c,.int .u8 (k:Int),.int .u64 (at_:Int)]
theorem Qye (w:World) (τ:Tags) {k:Nat}(hk:k<256):Bytes (w.alloc (.cells #[.int .u8 (k:Int)] 5)) (τ.put w.heap.size tData) tData (.slice (some ⟨w.heap.size,0,none⟩) 1 1) [(k:Int)] :=
 Qia w τ [(k:Int)] (by intro x hx;rw[List.mem_singleton.1 hx];omega) (by simp)
theorem Qyd (w:World) (τ:Tags) {k:Nat}(hk:k<256):Bytes (w.alloc (.cells #[.int .u8 (k:Int),.int .u8 1,.int .u8 2,.int .u8 3] 5)) (τ.put w.heap.size tData) tData (.slice (some ⟨w.heap.size,0,none⟩) 4 4) [(k:Int),1,2,3] :=
 Qia w τ [(k:Int),1,2,3] (by intro x hx;simp at hx;rcases hx with rfl|rfl|rfl|rfl <;> omega) (by simp)
theorem Qqw {bo:Nat→Nat} {X:List OneP} {next:Nat}(h:TZ w τ I bo X next R V st):Calls Tryz.prog 38 #[.pointer (some ⟨I.bp,0,none⟩)] w fun e w'=>e = .returned (.int .i64 (I.N:Int))∧w=w':=by
 obtain⟨H,L,D,F,s,cur,h1,-⟩:=h.is
 have:=Qk2 h1.pool.pool
 rw[h1.hn] at this
 exact this
theorem ty_tn:¬TyTag tTn:=by
 rintro((h|h|h)|h)
 ·exact pw_tn h
 ·simp[Qai,tTn] at h
 ·simp[tTn] at h
 ·rcases h with h|h|h <;> simp[tTn] at h
theorem Qzl {bo:Nat→Nat} {X:List OneP} {next:Nat}(h:TZ w τ I bo X next R V st) (hst:st≤1000000) (hN:1≤I.N∧I.N≤512) (n:Nat) (hn:n≤900) {C:Ending→World→Prop}{kd nn pg:Nat}{sl:Int}{p:Option Addr}{m c k at_:Nat}(hkd:kd<256) (hpg:pg<4294967296) (hk:k<256)
 (hC:∀W T q,Step w τ W T nil→Bytes W T tData (.slice q (Qbu k).length (Qbu k).length) (Qbu k)→Calls Tryz.prog 29 #[.pointer (some ⟨I.bm,0,none⟩),.int .u32 (n:Int),.int .u32 ((pg%I.N:Nat):Int),.int .i64 (ownSlot n k:Int),.bool (decide (0<kd%5)),.slice q (Qbu k).length (Qbu k).length] W fun e w'=>C e w'∧(∃v,e = .returned v)∧∃T',Step W T w' T' TyTag) :
 Calls Tryz.prog 10 #[.pointer (some ⟨I.bm,0,none⟩),.int .u32 (n:Int),.agg (OpV kd nn pg sl p m c k at_)] w C:=by
 unfold OpV
 have hal:=(Step.refl w τ nil).alloc (.cells #[.int .u8 (kd:Int),.int .u32 (nn:Int),.int .u32 (pg:Int),.int .i64 sl,.slice p m c,.int .u8 (k:Int),.int .u64 (at_:Int)] 36) tTn
 have hoa:=Own.born w τ tTn 36 #[.int .u8 (kd:Int),.int .u32 (nn:Int),.int .u32 (pg:Int),.int .i64 sl,.slice p m c,.int .u8 (k:Int),.int .u64 (at_:Int)]
 obtain⟨bq,hbq⟩:∃bq,w.heap.size=bq:=⟨_,rfl⟩
 generalize τ.put w.heap.size tTn=τ1 at *
 rw[hbq] at hoa
 obtain⟨W1,hW1⟩:∃W,w.alloc (.cells #[.int .u8 (kd:Int),.int .u32 (nn:Int),.int .u32 (pg:Int),.int .i64 sl,.slice p m c,.int .u8 (k:Int),.int .u64 (at_:Int)] 36)=W:=⟨_,rfl⟩
 have hsz:(w.alloc (.cells #[.int .u8 (kd:Int),.int .u32 (nn:Int),.int .u32 (pg:Int),.int .i64 sl,.slice p m c,.int .u8 (k:Int),.int .u64 (at_:Int)] 36)).heap.size=w.heap.size+1:=World.size_alloc _ _
 rw[hW1,hbq] at hsz
 rw[hW1] at hal hoa
 have e5:=hoa.at 5 (v:=.int .u8 (k:Int)) rfl
 obtain⟨H_h,HC,Hal,Hoa,Hbq,HW1,Hsz⟩:=hid7 h hC hal hoa hbq hW1 hsz
 clear h hC hal hoa hbq hW1 hsz
 go_enter Tryz.func10,Tryz.ntmps10
 go_upto_region 2 with fail
 try rw[HW1.out]
 try rw[Hbq.out]
 have hb2:=Qyd W1 τ1 hk
 have hal2:=(Step.refl W1 τ1 nil).alloc (.cells #[.int .u8 (k:Int),.int .u8 1,.int .u8 2,.int .u8 3] 5) tData
 generalize τ1.put W1.heap.size tData=τ2 at *
 have hoa2:=Hoa.out.step hal2 (fun h=>h)
 have hst2:=Hal.out.trans hal2
 obtain⟨W2,hW2⟩:∃W,W1.alloc (.cells #[.int .u8 (k:Int),.int .u8 1,.int .u8 2,.int .u8 3] 5)=W:=⟨_,rfl⟩
 obtain⟨q2,hq2⟩:∃q,bq+1=q:=⟨_,rfl⟩
 rw[hW2,Hsz.out,hq2] at hb2
 rw[hW2] at hoa2 hst2
 rw[hW2,hq2]
 have f5:=hoa2.at 5 (v:=.int .u8 (k:Int)) rfl
 obtain⟨Hb2,Hoa2,Hst2,HW2,Hq2⟩:=hid5 hb2 hoa2 hst2 hW2 hq2
 clear hb2 hoa2 hst2 hW2 hq2 hal2 e5
 have hwr:IntKind.u8.wrap ((k:Int)%4)=(k:Int)%4:=by
  have:IntKind.u8.wrap ((k:Int)%4)=((k:Int)%4)%256:=by simp[IntKind.wrap,IntKind.bits,IntKind.signed]
  rw[this];omega
 refine Or.elim (Decidable.em (k%4=0)) ?c1 ?c2
 case' c1 =>
  intro hk4
  have hm:(k:Int)%4=0:=by omega
  go_upto_region 4 with fail
  have hb3:=Qye W2 τ2 hk
  have hal3:=(Step.refl W2 τ2 nil).alloc (.cells #[.int .u8 (k:Int)] 5) tData
  have hst3:=Hst2.out.trans hal3
  have hoa3:=Hoa2.out.step hal3 (fun h=>h)
  generalize τ2.put W2.heap.size tData=τ3 at *
  obtain⟨W3,hW3⟩:∃W,W2.alloc (.cells #[.int .u8 (k:Int)] 5)=W:=⟨_,rfl⟩
  obtain⟨q3,hq3⟩:∃q,W2.heap.size=q:=⟨_,rfl⟩
  rw[hW3,hq3] at hb3
  rw[hW3] at hst3 hoa3
  rw[hW3,hq3]
  have hd:Qbu k=[(k:Int)]:=if_pos hk4
  have hdl:(Qbu k).length=1:=by rw[hd];rfl
  rw[←hd] at hb3
  clear hal3
 case' c2 =>
  intro hk4
  have hm:¬(k:Int)%4=0:=by omega
  have hm':((k:Int)%4==0)=false:=beq_eq_false_iff_ne.2 hm
  go_upto_region 4 with fail
  have hb3:=Hb2.out
  have hst3:=Hst2.out
  have hoa3:=Hoa2.out
  obtain⟨W3,hW3⟩:∃W,W2=W:=⟨_,rfl⟩
  obtain⟨q3,hq3⟩:∃q,q2=q:=⟨_,rfl⟩
  obtain⟨τ3,hτ3⟩:∃q,τ2=q:=⟨_,rfl⟩
  rw[hW3,hq3,hτ3] at hb3
  rw[hW3,hτ3] at hst3 hoa3
  rw[hW3,hq3]
  have hd:Qbu k=[(k:Int),1,2,3]:=if_neg hk4
  have hdl:(Qbu k).length=4:=by rw[hd];rfl
  rw[←hd] at hb3
 all_goals (
  have hb3':Bytes W3 τ3 tData (.slice (some ⟨q3,0,none⟩) (Qbu k).length (Qbu k).length) (Qbu k):=by rw[hdl];exact hb3
  have hz3:=H_h.out.nil hst3
  have hd3:Step W3 τ3 W3.drew τ3 nil:=(Step.refl W3 τ3 nil).drew
  have hlo:∀W T,Step W3 τ3 W T nil→W.cell? ⟨bq,0,none⟩=some (.int .u8 (kd:Int))∧W.cell? ⟨bq,2,none⟩=some (.int .u32 (pg:Int))∧W.cell? ⟨bq,5,none⟩=some (.int .u8 (k:Int)):=fun W T q=>⟨(hoa3.step q (fun h=>h)).at 0 rfl,(hoa3.step q (fun h=>h)).at 2 rfl,(hoa3.step q (fun h=>h)).at 5 rfl⟩
  have hS3:=hlo _ _ hd3
  have hpl:=Qhg (hz3.nil hd3).mgr
  have hpg':=Qqw (hz3.nil hd3)
  have hch:=HC.out W3.drew τ3 _ (hst3.trans hd3) (hb3'.step hd3 (fun h=>h))
  rw[hdl] at hch
  have a1:IntKind.u32.wrap (I.N:Int)=(I.N:Int):=by simp[IntKind.wrap,IntKind.bits,IntKind.signed];omega
  have a2:IntKind.u32.wrap ((pg:Int)%(I.N:Int))=((pg%I.N:Nat):Int):=by
   have h1:((pg%I.N:Nat):Int)=(pg:Int)%(I.N:Int):=by omega
   have h2:pg%I.N<I.N:=Nat.mod_lt _ (by omega)
   rw[←h1]
   generalize pg%I.N=r at *
   simp[IntKind.wrap,IntKind.bits,IntKind.signed];omega
  have a3:IntKind.u32.wrap (3*(n:Int))=3*(n:Int):=by
   have:IntKind.u32.wrap (3*(n:Int))=(3*(n:Int))%4294967296:=by simp[IntKind.wrap,IntKind.bits,IntKind.signed]
   rw[this];omega
  have a4:IntKind.u32.wrap (k:Int)=(k:Int):=by simp[IntKind.wrap,IntKind.bits,IntKind.signed];omega
  have a5:IntKind.u32.wrap ((k:Int)%3)=(k:Int)%3:=by
   have:IntKind.u32.wrap ((k:Int)%3)=((k:Int)%3)%4294967296:=by simp[IntKind.wrap,IntKind.bits,IntKind.signed]
   rw[this];omega
  have a6:IntKind.u32.wrap (3*(n:Int)+(k:Int)%3)=3*(n:Int)+(k:Int)%3:=by
   have:IntKind.u32.wrap (3*(n:Int)+(k:Int)%3)=(3*(n:Int)+(k:Int)%3)%4294967296:=by simp[IntKind.wrap,IntKind.bits,IntKind.signed]
   rw[this];omega
  have hsl:((ownSlot n k:Nat):Int)=(3*(n:Int)+(k:Int)%3)%12:=by unfold ownSlot;omega
  have hsl12:=Qim n k
  have a7:IntKind.u32.wrap ((3*(n:Int)+(k:Int)%3)%12)=((ownSlot n k:Nat):Int):=by
   rw[←hsl]
   generalize ownSlot n k=r at *
   simp[IntKind.wrap,IntKind.bits,IntKind.signed];omega
  have a8:IntKind.i64.wrap ((ownSlot n k:Nat):Int)=((ownSlot n k:Nat):Int):=by
   generalize ownSlot n k=r at *
   simp[IntKind.wrap,IntKind.bits,IntKind.signed];omega
  have a9:IntKind.u8.wrap ((kd:Int)%5)=(kd:Int)%5:=by
   have:IntKind.u8.wrap ((kd:Int)%5)=((kd:Int)%5)%256:=by simp[IntKind.wrap,IntKind.bits,IntKind.signed]
   rw[this];omega
  have b1:decide (0<(kd:Int)%5)=decide (0<kd%5):=by
   by_cases h:0<kd%5
   ·rw[decide_eq_true h,decide_eq_true (by omega)]
   ·rw[decide_eq_false h,decide_eq_false (by omega)]
  have b2:¬(I.N:Int)=0:=by omega
  have b4:¬I.N=0:=by omega
  have a2':(pg:Int).tmod (I.N:Int)=((pg%I.N:Nat):Int):=by rw[Int.tmod_eq_emod_of_nonneg (by omega)];omega
  have b3:((I.N:Int)==0)=false:=beq_eq_false_iff_ne.2 b2
  obtain⟨os,hos⟩:∃os,ownSlot n k=os:=⟨_,rfl⟩
  obtain⟨op,hop⟩:∃op,pg%I.N=op:=⟨_,rfl⟩
  rw[hos] at a7 a8 hch
  rw[hop] at a2 a2' hch
  obtain⟨B,hB⟩:∃B,decide (0<kd%5)=B:=⟨_,rfl⟩
  rw[hB] at b1 hch
  have Hb3:=Lib.hid hb3
  have Hb3':=Lib.hid hb3'
  obtain⟨Hst3,Hoa3,Hz3,Hd3,Hlo,Hpl⟩:=hid6 hst3 hoa3 hz3 hd3 hlo hpl
  have Hpg':=Lib.hid hpg'
  obtain⟨Hch,Hsl,Hsl12,Hos,Hop,Hd,Hdl,Hwr,HB⟩:=hid9 hch hsl hsl12 hos hop hd hdl hwr hB
  clear hb3 hb3' hst3 hoa3 hz3 hd3 hlo hpl hpg' hch hsl hsl12 hos hop hd hdl hwr hB
  go_wp2_with fail
  refine Qaf (S:=fun W:World=>W.cell? ⟨bq,0,none⟩=some (.int .u8 (kd:Int))∧W.cell? ⟨bq,2,none⟩=some (.int .u32 (pg:Int))∧W.cell? ⟨bq,5,none⟩=some (.int .u8 (k:Int))) (by kernel_rfl) ?_
  refine tk0 [0,1,2,3,4] ?_
  iterate 5
   refine tks (v:=?_) rfl (Or.inl ⟨by rfl,?_⟩) (by assumption) ?_
   rotate_left
   ·intro w hSw;(try dsimp only at hSw);go_simp
    all_goals with_reducible rfl
   try simp only[Act.put,lz1,lz2,lz3]
  refine tk9 ?_
  try simp only[lz4,lz5,lz6,lz1,lz2,lz3]
  refine tk0 [9,10,11,12,13,14,15,16,17] ?_
  iterate 9
   refine tks (v:=?_) rfl (Or.inl ⟨by rfl,?_⟩) (by assumption) ?_
   rotate_left
   ·intro w hSw;(try dsimp only at hSw);go_simp
    all_goals with_reducible rfl
   try simp only[Act.put,lz1,lz2,lz3]
  refine tk9 ?_
  try simp only[lz4,lz5,lz6,lz1,lz2,lz3]
  refine tk0 [18,19,20,21,22] ?_
  iterate 5
   refine tks (v:=?_) rfl (Or.inl ⟨by rfl,?_⟩) (by assumption) ?_
   rotate_left
   ·intro w hSw;(try dsimp only at hSw);go_simp
    all_goals with_reducible rfl
   try simp only[Act.put,lz1,lz2,lz3]
  refine tk9 ?_
  try simp only[lz4,lz5,lz6,lz1,lz2,lz3]
  refine tk1 5 rfl fun K hK=>?_
  go_simp
  go_at_call 24
  refine Hpl.out.mono ?_
  rintro e w' ⟨rfl,rfl⟩
  refine hK.out _ _ (fun _=>hS3) ?_
  clear hK K
  refine tk1 6 rfl fun K hK=>?_
  go_simp
  go_at_call 38
  refine Hpg'.out.mono ?_
  rintro e w' ⟨rfl,rfl⟩
  refine hK.out _ _ (fun _=>hS3) ?_
  clear hK K
  refine tk0 [7,8] ?_
  iterate 2
   refine tks (v:=?_) rfl (Or.inl ⟨by rfl,?_⟩) (by assumption) ?_
   rotate_left
   ·intro w hSw;(try dsimp only at hSw);go_simp
    all_goals with_reducible rfl
   try simp only[Act.put,lz1,lz2,lz3]
  refine tk9 ?_
  try simp only[lz4,lz5,lz6,lz1,lz2,lz3]
  refine tk1 23 rfl fun K hK=>?_
  go_simp
  go_at_call 29
  have s1:IntKind.i64.wrap ((IntKind.u32.wrap (3*(n:Int)+(k:Int).tmod 3)).tmod 12)=(os:Int):=by
   rw[Int.tmod_eq_emod_of_nonneg (show (0:Int)≤(k:Int) by omega),a6,Int.tmod_eq_emod_of_nonneg (by omega),←Hsl.out,Hos.out]
   exact a8
  have s2:decide (0<(kd:Int).tmod 5)=B:=by
   rw[Int.tmod_eq_emod_of_nonneg (show (0:Int)≤(kd:Int) by omega)]
   exact b1
  rw[s1,s2]
  refine Hch.out.mono ?_
  rintro e w4 ⟨hce,⟨v4,rfl⟩,T4,hs4⟩
  have hoa4:=(Hoa3.out.step Hd3.out (fun h=>h)).step hs4 ty_tn
  have hS4:w4.cell? ⟨bq,0,none⟩=some (.int .u8 (kd:Int))∧w4.cell? ⟨bq,2,none⟩=some (.int .u32 (pg:Int))∧w4.cell? ⟨bq,5,none⟩=some (.int .u8 (k:Int)):=⟨hoa4.at 0 rfl,hoa4.at 2 rfl,hoa4.at 5 rfl⟩
  have Hce:=Lib.hid hce
  clear hce hs4 hoa4 hS3
  refine hK.out _ _ (fun _=>hS4) ?_
  clear hK K
  refine tk1 24 rfl fun K hK=>?_
  go_simp
  refine hK.out _ _ (fun h=>absurd h (by decide +kernel)) ?_
  clear hK K
  refine Qad (by kernel_rfl) ?_ _
  go_wp2_with fail
  exact Hce.out)
theorem Qu1 (l:List (Nat×ChangeP)):36*l.length≤Qbf l:=by
 induction l with
 | nil=>exact Nat.le_refl _
 | cons y l ih =>
   rw[Qcy,List.length_cons]
   have:36≤Qak y.2:=by unfold Qak;omega
   omega
structure Solo (w:World) (τ:Tags) (I:Ids) (bo:Nat→Nat) (R:List RecP) (V:SlotV) (st:Nat) (x:OneP) (l:List (Nat×ChangeP)) (V0:SlotV):Prop where
 tz:TZ w τ I bo [x] 2 R V st
 txn:x.txn=1
 state:x.state=1
 start:x.start=1
 trail:Trail R x.undo l
 tlast:Trail R x.last l
 ch:x.ch=chOf l
 ok:∀z∈l,ChgOk I.N z.2
 view:∀p t,undoV V l p t=V0 p t
 room:(recsB R).length+54+Qbf l≤I.S*127
 N:1≤I.N∧I.N≤512
 S:I.S≤200
theorem Solo.step {w':World} {τ':Tags} {bo:Nat→Nat} {l:List (Nat×ChangeP)}(h:Solo w τ I bo R V st x l V0) (m:Step w τ w' τ' nil):Solo w' τ' I bo R V st x l V0 :=
 ⟨h.tz.nil m,h.txn,h.state,h.start,h.trail,h.tlast,h.ch,h.ok,h.view,h.room,h.N,h.S⟩
theorem Solo.lenl {bo:Nat→Nat} {l:List (Nat×ChangeP)}(h:Solo w τ I bo R V st x l V0):l.length≤706:=by
 have h1:=h.room
 have h2:=Qu1 l
 have h3:I.S*127≤200*127:=Nat.mul_le_mul_right _ h.S
 omega
theorem Solo.last {bo:Nat→Nat} {l:List (Nat×ChangeP)}(h:Solo w τ I bo R V st x l V0):x.last≤1+(recsB R).length:=by have:=h.tlast.low;omega
theorem Qo3 {l:List (Nat×ChangeP)}(h:x.ch=chOf l):resv [x]=54+Qbf l:=by
 show x.need+0=_
 unfold OneP.need
 rw[h,Qya,Nat.add_zero]
inductive SoloC (V:SlotV) (R:List RecP) (x:OneP) (l:List (Nat×ChangeP)) (c:ChangeP):SlotV→List RecP→OneP→List (Nat×ChangeP)→Prop
 | no:SoloC V R x l c V R x l
 | yes:SoloC V R x l c (putV V c.page c.slot c.now) (R++[Qcp c x]) (x.changed (1+(recsB R).length) (Qak c)) ((1+(recsB R).length,c)::l)
theorem Solo.change {w':World} {bo:Nat→Nat} {l:List (Nat×ChangeP)}(h:Solo w τ I bo R V st x l V0) {n s:Nat}{has:Bool}{m:List Int}(hok:ChgOk I.N (chgV V n s has m)) {e:Ending}(hc:Qwq w τ I bo [x] 2 R V st x (chgV V n s has m) e w') :
 ∃e' τ' V' R' x' l',e = .returned (.int .u16 e')∧Step w τ w' τ' TxTag∧SoloC V R x l (chgV V n s has m) V' R' x' l'∧Solo w' τ' I bo R' V' (st+1) x' l' V0:=by
 obtain⟨τ',hs,⟨-,-,rfl,hz⟩|⟨-,-,rfl,hz⟩|⟨-,hroom,rfl,hz⟩⟩:=hc
 ·exact⟨_,τ',V,R,x,l,rfl,hs,.no,⟨hz,h.txn,h.state,h.start,h.trail,h.tlast,h.ch,h.ok,h.view,h.room,h.N,h.S⟩⟩
 ·exact⟨_,τ',V,R,x,l,rfl,hs,.no,⟨hz,h.txn,h.state,h.start,h.trail,h.tlast,h.ch,h.ok,h.view,h.room,h.N,h.S⟩⟩
 ·have hb:(chgV V n s has m).before=V (chgV V n s has m).page (chgV V n s has m).slot:=rfl
  generalize chgV V n s has m=c at *
  rw[Qjv x (x.changed (1+(recsB R).length) (Qak c)) rfl] at hz
  rw[Qo3 h.ch] at hroom
  have hl:=h.last
  have hlen:=Qb0 R (Qcp c x)
  rw[Qdt] at hlen
  have hat:=RecAt.new R (Qcp c x)
  have htl:Trail (R++[Qcp c x]) (1+(recsB R).length) ((1+(recsB R).length,c)::l):=by
   have hll:=h.tlast.low
   exact Trail.chg hat rfl (by show x.last<_;omega) (h.tlast.app _)
  refine⟨_,τ',_,_,_,_,rfl,hs,.yes,⟨hz,h.txn,h.state,h.start,htl,htl,?_,?_,?_,?_,h.N,h.S⟩⟩
  ·show x.ch++[(1+(recsB R).length,Qak c)]=_
   rw[h.ch,Qh9]
  ·intro z hz'
   rcases List.mem_cons.1 hz' with rfl|hz'
   ·exact hok
   ·exact h.ok z hz'
  ·intro p t
   rw[Quj V _ c c.now hb l p t]
   exact h.view p t
  ·rw[hlen,Qcy];dsimp only;omega
def Qwn (w:World) (τ:Tags) (I:Ids) (bo:Nat→Nat) (R:List RecP) (V:SlotV) (st:Nat) (x:OneP) (l:List (Nat×ChangeP)) (V0:SlotV) (pg k:Nat) (has:Bool) (e:Ending) (w':World):Prop :=
 ∃e' τ' V' R' x' l',e = .returned (.int .u16 e')∧Step w τ w' τ' TxTag∧SoloC V R x l (chgV V (pg%I.N) (ownSlot 1 k) has (Qbu k)) V' R' x' l'∧Solo w' τ' I bo R' V' (st+1) x' l' V0
theorem Qnc {bo:Nat→Nat} {l:List (Nat×ChangeP)}(h:Solo w τ I bo R V st x l V0) (hst:st≤1000000) {kd nn pg:Nat}{sl:Int}{p:Option Addr}{m c k at_:Nat}(hkd:kd<256) (hpg:pg<4294967296) (hk:k<256) :
 Calls Tryz.prog 10 #[.pointer (some ⟨I.bm,0,none⟩),.int .u32 1,.agg (OpV kd nn pg sl p m c k at_)] w (Qwn w τ I bo R V st x l V0 pg k (decide (0<kd%5))):=by
 have hpN:pg%I.N<I.N:=Nat.mod_lt _ (by have:=h.N;omega)
 have:=Qzl h.tz hst h.N 1 (by omega) (C:=Qwn w τ I bo R V st x l V0 pg k (decide (0<kd%5))) (nn:=nn) (sl:=sl) (p:=p) (m:=m) (c:=c) (at_:=at_) hkd hpg hk (fun W T q hs hb=>by
  have h1:=h.step hs
  have hlen:=h.lenl
  have ho:=Qqz k
  have hc:=Qkf h1.tz hst (x:=x) (by simp) h.state h.last (by rw[h.ch,Qyb];omega) hpN h.N.2 (Qim 1 k) (decide (0<kd%5)) hb ho.2 ho.1
  rw[h.txn] at hc
  refine hc.mono fun e w' hcz=>?_
  have hok:=Qwa (V:=V) hpN (Qim 1 k) (h.tz.slot4 hpN _).1 (decide (0<kd%5)) ho.2 ho.1
  obtain⟨e',τ',V',R',x',l',a1,a2,a3,a4⟩:=h1.change hok hcz
  exact⟨⟨e',τ',V',R',x',l',a1,(hs.mono (fun _ h=>h.elim)).trans a2,a3,a4⟩,⟨_,a1⟩,τ',a2.mono (fun _ h=>.inl h)⟩)
 exact this
theorem Qsz(h:TZ w τ I (fun _=>0) [] 1 [] (fun _ _=>[]) 0) (hN:1≤I.N∧I.N≤512) (hS:30≤I.S∧I.S≤200) :
 Calls Tryz.prog 9 #[.pointer (some ⟨I.bm,0,none⟩)] w fun e w'=>e = .returned (.tuple #[.int .u32 1,.int .u16 0])∧∃τ' bo,Step w τ w' τ' TyTag∧Solo w' τ' I bo kR1 kV0 0 kX1 [] kV0:=by
 refine(Qry h (by omega) (by simp)).mono ?_
 rintro e w' ⟨τ',hs,⟨hno,-,-⟩|⟨-,rfl,nb,hz⟩⟩
 ·exact absurd (by show 0+27+(0+54)≤_;omega) hno
 ·have hat:RecAt kR1 1 (Qic 1):=RecAt.new [] (Qic 1)
  refine⟨rfl,τ',_,hs,⟨hz,rfl,rfl,rfl,.stop hat rfl,.stop hat rfl,rfl,fun z hz=>absurd hz (by simp),fun _ _=>rfl,?_,hN,hS.2⟩⟩
  rw[Qlh]
  show 27+54+0≤_
  omega
theorem SoloC.grow {x':OneP} {l l':List (Nat×ChangeP)} {c:ChangeP}(hc:SoloC V R x l c V' R' x' l'):(∃T,R'=R++T)∧(recsB R).length≤(recsB R').length∧(x.undo=x.last→x'.undo=x'.last):=by
 cases hc with
 | no=>exact⟨⟨[],by simp⟩,Nat.le_refl _,id⟩
 | yes=>exact⟨⟨_,rfl⟩,by rw[Qb0];omega,fun _=>rfl⟩
theorem Solo.retz {w':World} {τ':Tags} {bo:Nat→Nat} {st':Nat} {l:List (Nat×ChangeP)}(h:Solo w τ I bo R V st x l V0) (hz:TZ w' τ' I bo [x] 2 R V st'):Solo w' τ' I bo R V st' x l V0 :=
 ⟨hz,h.txn,h.state,h.start,h.trail,h.tlast,h.ch,h.ok,h.view,h.room,h.N,h.S⟩
theorem Qs2 (a b:List (Nat×ChangeP)):Qbf (a++b)=Qbf a+Qbf b:=by
 unfold Qbf
 rw[List.map_append,List.sum_append]
theorem Solo.marks {bo:Nat→Nat} {l:List (Nat×ChangeP)}(h:Solo w τ I bo R V st x l V0) (hu:x.undo=1∨∃y∈l,y.1=x.undo) {y:OneP}{l2:List (Nat×ChangeP)}(hc:y.ch=chOf (l2++l)) (hs:y.start=1):Marks y x.undo:=by
 rcases hu with hu|⟨z,hz,e⟩
 ·exact .inr ⟨by rw[hu,hs],by rw[hu];omega⟩
 ·refine .inl ?_
  rw[hc,Qgx,List.any_append,Bool.or_eq_true]
  left
  rw[List.any_eq_true]
  refine⟨(z.1,Qak z.2),?_,by simpa using e⟩
  unfold chOf
  exact List.mem_reverse.2 (List.mem_map.2 ⟨z,hz,rfl⟩)
def Solo.top (x:OneP) (l:List (Nat×ChangeP)):Prop:=(l=[]∧x.undo=1)∨∃y l',l=y::l'∧y.1=x.undo
theorem Qwy {x':OneP} {l l':List (Nat×ChangeP)} {c:ChangeP}(hc:SoloC V R x l c V' R' x' l') (h:Solo.top x l):Solo.top x' l':=by
 cases hc with
 | no=>exact h
 | yes=>exact .inr ⟨_,_,rfl,rfl⟩
theorem Qwz {l:List (Nat×ChangeP)}(h:Solo.top x l):x.undo=1∨∃y∈l,y.1=x.undo:=by
 rcases h with ⟨_,h⟩|⟨y,l',rfl,h⟩
 ·exact .inl h
 ·exact .inr ⟨y,by simp,h⟩
def Qwo (w:World) (τ:Tags) (I:Ids) (bo:Nat→Nat) (st:Nat) (V0:SlotV) (e:Ending) (w':World):Prop :=
 e = .returned (.int .u16 0)∧∃τ' R',Step w τ w' τ' TyTag∧TZ w' τ' I bo [] 2 R' V0 (st+706)
structure PhB (Va:SlotV) (k0:List (Nat×ChangeP)) (m:Nat) (R:List RecP) (V:SlotV) (x:OneP) (l:List (Nat×ChangeP)):Prop where
 split:∃q,l=q++k0∧RunC R x.undo q m∧∀p t,undoV V q p t=Va p t
 same:x.undo=x.last
theorem PhB.start (V:SlotV) (k0:List (Nat×ChangeP)) (R:List RecP) (x:OneP) (h:x.undo=x.last):PhB V k0 x.undo R V x k0 :=
 ⟨⟨[],rfl,.nil _,fun _ _=>rfl⟩,h⟩
theorem PhB.next {Va:SlotV} {k0 l l':List (Nat×ChangeP)} {m n s:Nat} {has:Bool} {dat:List Int} {x':OneP}(h:PhB Va k0 m R V x l) (hx:x.last<1+(recsB R).length) (hc:SoloC V R x l (chgV V n s has dat) V' R' x' l'):PhB Va k0 m R' V' x' l':=by
 have hb:(chgV V n s has dat).before=V (chgV V n s has dat).page (chgV V n s has dat).slot:=rfl
 generalize chgV V n s has dat=c at *
 cases hc with
 | no=>exact h
 | yes =>
   obtain⟨q,rfl,h1,h2⟩:=h.split
   have hat:=RecAt.new R (Qcp c x)
   refine⟨⟨(1+(recsB R).length,c)::q,rfl,?_,fun p t=>?_⟩,rfl⟩
   ·refine RunC.chg hat rfl (by show x.last<_;exact hx) ?_
    show RunC _ x.last q m
    rw[←h.same]
    exact h1.app _
   ·rw[Quj V _ c c.now hb q p t]
    exact h2 p t
structure BackS (w:World) (τ:Tags) (I:Ids) (bo:Nat→Nat) (Va:SlotV) (k0:List (Nat×ChangeP)) (m st:Nat) (w':World) (τ':Tags) (R':List RecP) (V':SlotV) (st':Nat) (y:OneP):Prop where
 step:Step w τ w' τ' TyTag
 tz:TZ w' τ' I bo [y] 2 R' V' st'
 txn:y.txn=1
 state:y.state=1
 undo:y.undo=m
 trail:Trail R' m k0
 ch:y.ch=chOf k0
 ok:∀z∈k0,ChgOk I.N z.2
 last:y.last≤1+(recsB R').length
 room:(recsB R').length+54+Qbf k0≤I.S*127
 view:∀p t,V' p t=Va p t
 st:st'≤st
theorem Jck {bo:Nat→Nat} {Va:SlotV} {l k0:List (Nat×ChangeP)} {m:Nat}(h:Solo w τ I bo R V st x l V0) (hp:PhB Va k0 m R V x l) (ht:Trail R m k0) (hm:Marks x m) (hst:st≤1000) :
 Calls Tryz.prog 16 #[.pointer (some ⟨I.bm,0,none⟩),.int .u32 1,.int .u64 (m:Int)] w fun e w'=>e = .returned (.int .u16 0)∧∃τ' R' V' st' y,BackS w τ I bo Va k0 m (st+706) w' τ' R' V' st' y:=by
 obtain⟨q,rfl,h1,h2⟩:=hp.split
 have hlen:=h.lenl
 have hroom:=h.room
 have hb:=Qy3 h.tz (x:=x) (by simp) h.state h1 h.ch ht.le (fun z hz=>h.ok z (List.mem_append.2 (.inl hz))) hm h.last (by have:=Qs2 q k0;omega) (by rw[List.length_append] at hlen;omega) h.N.2
 rw[h.txn] at hb
 refine hb.mono ?_
 rintro e w' ⟨rfl,τ',T,y,V',st',hB⟩
 have hrun:=hB.run.inv
 have hy:y.undo=m:=by
  rcases hrun with ⟨-,e⟩|⟨r,l',_,_,_,_,e⟩
  ·exact e
  ·cases e
 have htz:=hB.tz
 rw[Qjv x y hB.txn.symm] at htz
 have hr2:=hB.room
 rw[Qs2] at hroom
 refine⟨rfl,τ',R++T,V',st',y,hB.step,htz,by rw[hB.txn,h.txn],by rw[hB.state,h.state],hy,ht.app T,hB.ch,fun z hz=>h.ok z (List.mem_append.2 (.inr hz)),hB.last,?_,fun p t=>?_,?_⟩
 ·have:Qbf ([]:List (Nat×ChangeP))=0:=rfl
  omega
 ·have:=hB.view p t
  rw[h2 p t] at this
  exact this
 ·have:=hB.st
  rw[List.length_append] at hlen
  have:([]:List (Nat×ChangeP)).length=0:=rfl
  omega
theorem Jch {w0:World} {τ0:Tags} {bo:Nat→Nat} {Va:SlotV} {k0:List (Nat×ChangeP)} {m st':Nat} {y:OneP}(h:BackS w0 τ0 I bo Va k0 m st w τ R' V' st' y) (hv:∀p t,undoV Va k0 p t=V0 p t) {w2:World}{τ2:Tags}{st2:Nat}(hz:TZ w2 τ2 I bo [y] 2 R' V' st2) (hst:st2≤10000) (hN:I.N≤512) (hS:I.S≤200) :
 Calls Tryz.prog 14 #[.pointer (some ⟨I.bm,0,none⟩),.int .u32 1] w2 (Qwo w2 τ2 I bo st2 V0):=by
 have hroom:=h.room
 have h2:=Qu1 k0
 have h3:I.S*127≤200*127:=Nat.mul_le_mul_right _ hS
 have hu:=h.undo
 have ht:Trail R' y.undo k0:=by rw[hu];exact h.trail
 have ha:=Qww hz (x:=y) (by simp) h.state ht h.ch h.ok h.last (by omega) (by omega) hN
 rw[h.txn] at ha
 refine ha.mono ?_
 rintro e w' ⟨rfl,τ',T,hs,hz',-⟩
 rw[show dropX [y] y.txn=[] by simp[dropX]] at hz'
 refine⟨rfl,τ',_,hs,(hz'.view fun p t=>?_).le (by omega)⟩
 rw[Qkb k0 (h.view p t)]
 exact hv p t
end Go.Proofs.YtjgacceifcnedaaGreat