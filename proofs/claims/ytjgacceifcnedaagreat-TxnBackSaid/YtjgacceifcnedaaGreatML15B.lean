/-
 Transactions,the laws' known: Make,and the chapter's example.
-/
import Derived.Test.YtjgacceifcnedaaGreatML15A
import Derived.Test.YtjgacceifcnedaaGreatMTxQ
import Derived.Deep.Slices
import Derived.Deep.Fields
import Derived.ChangeSame
import Derived.ChangeSlices
import Derived.Carry
set_option maxRecDepth 100000
set_option maxHeartbeats 4000000
set_option linter.all false
namespace Go.Proofs.YtjgacceifcnedaaGreat
open Go.RowKit Go.Maps
def tBoth:Tag:=(322,0)
theorem Qw7 (w:World) (br bq:Nat):Calls Tryz.prog 58 #[.pointer (some ⟨br,0,none⟩),.pointer (some ⟨bq,0,none⟩)] w fun e w'=>∃bn,e = .returned (.pointer (some ⟨bn,0,none⟩))∧∀τ,Step w τ w' τ nil:=by
 go_enter Tryz.func58,Tryz.ntmps58
 go_wp2_with fail
 go_ret
 exact⟨_,rfl,fun τ=>(Step.refl w τ nil).alloc' _⟩
structure Both15 (w:World) (τ:Tags) (bb bt bn:Nat) (T:TwoH) (I:Ids):Prop where
 both:Own w τ bb tBoth 77 [.pointer (some ⟨bt,0,none⟩),.pointer (some ⟨I.bm,0,none⟩),.pointer (some ⟨bn,0,none⟩),.slice none 0 0]
 two:Own w τ bt tTwoW 85 T.cells
 bp:T.bp=I.bp
theorem Both15.step {w w':World}{τ τ':Tags}{S:Tag→Prop}{bb bt bn:Nat}{T:TwoH}{I:Ids}(h:Both15 w τ bb bt bn T I) (m:Step w τ w' τ' S) (hS:∀g,S g→TyTag g):Both15 w' τ' bb bt bn T I:=by
 have h1:¬S tBoth:=fun q=>by have:=(hS _ q).fst;simp[tBoth] at this
 have h2:¬S tTwoW:=fun q=>by have:=(hS _ q).fst;rw[Qba] at this;omega
 exact⟨h.both.step m h1,h.two.step m h2,h.bp⟩
def Jba (w:World) (S N:Nat) (e:Ending) (w':World):Prop :=
 ∃(bb bt bn:Nat) (T:TwoH) (I:Ids) (τ':Tags),e = .returned (.tuple #[.pointer (some ⟨bb,0,none⟩),.int .i64 1])∧Both15 w' τ' bb bt bn T I∧I.N=N∧I.S=S∧TZ w' τ' I (fun _=>0) [] 1 [] (fun _ _=>[]) 0∧Step w (fun _=>tBox) w' τ' AnyTag
theorem Qtl (w:World) (S N k:Nat) (hS:8≤S) (hS2:S≤1000) (hN1:1≤N) (hN:N≤500) (hk3:3≤k) (hk64:k≤64):Calls Tryz.prog 28 #[.int .i64 (S:Int),.int .i64 (N:Int),.int .i64 (k:Int)] w (Jba w S N):=by
 have hmk:=Qxl w S N k hS hS2 hN1 hN hk3 hk64
 have Hmk:=Lib.hid hmk
 clear hmk
 go_enter Tryz.func28,Tryz.ntmps28
 go_wp2_with fail
 refine Hmk.out.mono ?_
 rintro e w1 ⟨bt,bf,τ1,T,H,HR,rfl,hT,hTn,hTk,hHs,hs1⟩
 have hd1:Step w1 τ1 w1.drew τ1 nil:=(Step.refl w1 τ1 nil).drew
 have hlo:∀W τ',Step w1 τ1 W τ' nil→W.cell? ⟨bt,2,none⟩=some (.pointer (some ⟨T.bl,0,none⟩))∧W.cell? ⟨bt,4,none⟩=some (.pointer (some ⟨T.bp,0,none⟩))∧W.cell? ⟨bt,3,none⟩=some (.pointer (some ⟨T.br,0,none⟩))∧W.cell? ⟨bt,5,none⟩=some (.pointer (some ⟨T.bq,0,none⟩)):=fun W τ' m=>by
  have h:=(hT.step m).two
  exact⟨h.at 2 rfl,h.at 4 rfl,h.at 3 rfl,h.at 5 rfl⟩
 have hS1:=hlo _ _ hd1
 have hnew:=Qmk w1.drew τ1 T.bl T.bp
 obtain⟨HT,HTn,HTk,HHs,Hs1,Hd1,Hlo,Hnew⟩:=hid8 hT hTn hTk hHs hs1 hd1 hlo hnew
 clear hT hTn hTk hHs hs1 hd1 hlo hnew
 go_wp2_with fail
 refine Qaf (S:=fun W:World=>W.cell? ⟨bt,2,none⟩=some (.pointer (some ⟨T.bl,0,none⟩))∧W.cell? ⟨bt,4,none⟩=some (.pointer (some ⟨T.bp,0,none⟩))∧W.cell? ⟨bt,3,none⟩=some (.pointer (some ⟨T.br,0,none⟩))∧W.cell? ⟨bt,5,none⟩=some (.pointer (some ⟨T.bq,0,none⟩))) (by kernel_rfl) ?_
 refine tk0 [0,1,2,3,4,5,6,7,8] ?_
 iterate 9
  refine tks (v:=?_) rfl (Or.inl ⟨by rfl,?_⟩) (by assumption) ?_
  rotate_left
  ·intro w hSw;(try dsimp only at hSw);go_simp
   all_goals with_reducible rfl
  try simp only[Act.put,lz1,lz2,lz3]
 refine tk9 ?_
 try simp only[lz4,lz5,lz6,lz1,lz2,lz3]
 refine tk0 [10,11,12,13,14,15,16,17] ?_
 iterate 8
  refine tks (v:=?_) rfl (Or.inl ⟨by rfl,?_⟩) (by assumption) ?_
  rotate_left
  ·intro w hSw;(try dsimp only at hSw);go_simp
   all_goals with_reducible rfl
  try simp only[Act.put,lz1,lz2,lz3]
 refine tk9 ?_
 try simp only[lz4,lz5,lz6,lz1,lz2,lz3]
 refine tk1 9 rfl fun K hK=>?_
 go_simp
 go_at_call 36
 refine Hnew.out.mono ?_
 rintro e w2 ⟨bm,τ2,rfl,hlow2,hm2,hs2⟩
 have hq2:=Hd1.out.trans hs2
 have hS2:=Hlo.out _ _ hq2
 have hrn:=Qw7 w2 T.br T.bq
 obtain⟨Hm2,Hq2,Hrn,Hlow2⟩:=hid4 hm2 hq2 hrn hlow2
 clear hm2 hq2 hrn hlow2 hs2 hS1
 refine hK.out _ _ (fun _=>hS2) ?_
 clear hK K
 refine tk1 18 rfl fun K hK=>?_
 go_simp
 go_at_call 58
 refine Hrn.out.mono ?_
 rintro e w3 ⟨bn,rfl,hs3⟩
 have hq3:=Hq2.out.trans (hs3 τ2)
 have hS3:=Hlo.out _ _ hq3
 have hm3:=Hm2.out.nil (hs3 τ2)
 have hT3:=HT.out.step hq3
 have hob:=Own.born w3 τ2 tBoth 77 #[.pointer (some ⟨bt,0,none⟩),.pointer (some ⟨bm,0,none⟩),.pointer (some ⟨bn,0,none⟩),.slice none 0 0]
 have hal:Step w3 τ2 (w3.alloc (.cells #[.pointer (some ⟨bt,0,none⟩),.pointer (some ⟨bm,0,none⟩),.pointer (some ⟨bn,0,none⟩),.slice none 0 0] 77)) (τ2.put w3.heap.size tBoth) nil:=(Step.refl w3 τ2 nil).alloc _ _
 have hT4:=hT3.step hal
 have hm4:=hm3.nil hal
 have hst4:=Hs1.out.trans ((hq3.trans hal).mono (T:=AnyTag) (fun _ h=>h.elim))
 generalize τ2.put w3.heap.size tBoth=τ4 at *
 obtain⟨HT4,Hm4,Hob,Hst4⟩:=hid4 hT4 hm4 hob hst4
 clear hT4 hm4 hob hst4 hs3 hal hq3 hm3 hT3 hS2
 refine hK.out _ _ (fun _=>hS3) ?_
 clear hK K
 refine tk (i:=19) (v:=?_) rfl (Or.inl ⟨by rfl,?_⟩) (by assumption) ?_
 rotate_left
 ·intro w hSw;(try dsimp only at hSw);go_simp
  all_goals with_reducible rfl
 try simp only[Act.put,lz1,lz2,lz3]
 try simp only[lz4,lz5,lz6,lz1,lz2,lz3]
 refine tk1 20 rfl fun K hK=>?_
 go_simp
 have hS4:(w3.alloc (.cells #[.pointer (some ⟨bt,0,none⟩),.pointer (some ⟨bm,0,none⟩),.pointer (some ⟨bn,0,none⟩),.slice none 0 0] 77)).cell? ⟨bt,2,none⟩=some (.pointer (some ⟨T.bl,0,none⟩))∧(w3.alloc (.cells #[.pointer (some ⟨bt,0,none⟩),.pointer (some ⟨bm,0,none⟩),.pointer (some ⟨bn,0,none⟩),.slice none 0 0] 77)).cell? ⟨bt,4,none⟩=some (.pointer (some ⟨T.bp,0,none⟩))∧(w3.alloc (.cells #[.pointer (some ⟨bt,0,none⟩),.pointer (some ⟨bm,0,none⟩),.pointer (some ⟨bn,0,none⟩),.slice none 0 0] 77)).cell? ⟨bt,3,none⟩=some (.pointer (some ⟨T.br,0,none⟩))∧(w3.alloc (.cells #[.pointer (some ⟨bt,0,none⟩),.pointer (some ⟨bm,0,none⟩),.pointer (some ⟨bn,0,none⟩),.slice none 0 0] 77)).cell? ⟨bt,5,none⟩=some (.pointer (some ⟨T.bq,0,none⟩)) :=
  ⟨HT4.out.two.at 2 rfl,HT4.out.two.at 4 rfl,HT4.out.two.at 3 rfl,HT4.out.two.at 5 rfl⟩
 refine hK.out _ _ (fun _=>hS4) ?_
 clear hK K hS3
 refine tk1 21 rfl fun K hK=>?_
 go_simp
 refine hK.out _ _ (fun _=>hS4) ?_
 clear hK K
 refine tk1 22 rfl fun K hK=>?_
 go_simp
 refine hK.out _ _ (fun h=>absurd h (by decide +kernel)) ?_
 clear hK K hS4
 refine Qad (by kernel_rfl) ?_ _
 go_wp2_with fail
 go_ret2
 have hz:TZ (w3.alloc (.cells #[.pointer (some ⟨bt,0,none⟩),.pointer (some ⟨bm,0,none⟩),.pointer (some ⟨bn,0,none⟩),.slice none 0 0] 77)) τ4 ⟨bm,T.bl,T.bp,bf,T.bd,N,S⟩ (fun _=>0) [] 1 [] (fun _ _=>[]) 0 :=
  Qun (k:=k) (H:=H) ⟨by have:=HT4.out.pool;rw[HTk.out] at this;exact this,by rw[HT4.out.hl];exact HT4.out.log,HT4.out.dev⟩ Hm4.out (by rw[HT4.out.hn,HTn.out]) HT4.out.hl HHs.out hN hk3 hk64
 exact⟨w3.heap.size,bt,bn,T,⟨bm,T.bl,T.bp,bf,T.bd,N,S⟩,τ4,rfl,⟨Hob.out,HT4.out.two,rfl⟩,rfl,rfl,hz,Hst4.out⟩
theorem Qia (w:World) (τ:Tags) (l:List Int) (hB:IsB l) (hl:l.length≤1000):Bytes (w.alloc (.cells ⟨u8s l⟩ 5)) (τ.put w.heap.size tData) tData (.slice (some ⟨w.heap.size,0,none⟩) l.length l.length) l :=
 ⟨hB,some ⟨w.heap.size,0,none⟩,l.length,rfl,Nat.le_refl _,by unfold maxLen;omega,fun _=>⟨w.heap.size,0,rfl,Tags.put_same _ _ _,fun i hi=>by
  have:=(Own.new w τ tData 5 (u8s l)).cell (0+i)
  rw[Nat.zero_add] at this
  rw[Nat.zero_add,this,Qfw l i hi]⟩⟩
def Qz7 (w:World) (e:Ending) (w':World):Prop:=e = .returned (.int .u16 150)∧w=w'
theorem Qrn {w:World}{τ:Tags}{bm bl bp:Nat}{bo:Nat→Nat}{X:List OneP}{next:Nat}(h:MgrAt w τ bm bl bp bo X next) (k:Nat) (hk4:k<4294967296) (hno:∀x∈X,x.txn≠k) (n sl:Nat) (has:Bool) (p:Option Addr) (m c:Nat) :
 Calls Tryz.prog 29 #[.pointer (some ⟨bm,0,none⟩),.int .u32 (k:Int),.int .u32 (n:Int),.int .i64 (sl:Int),.bool has,.slice p m c] w (Qz7 w):=by
 have hr:=Qy6 h k hk4 hno
 have Hr:=Lib.hid hr
 clear hr h
 go_enter Tryz.func29,Tryz.ntmps29
 go_wp2_with fail
 refine Hr.out.mono ?_
 rintro e w1 ⟨rfl,rfl⟩
 go_wp2_with fail
 go_ret
 exact⟨rfl,rfl⟩
theorem Qjv (x y:OneP) (h:x.txn=y.txn):putX [x] y=[y]:=by
 unfold putX
 simp[h]
def Qz5 (w:World) (e:Ending) (w':World):Prop:=e = .returned (.bool true)∧∃τ',Step w (fun _=>tBox) w' τ' AnyTag
def kV0:SlotV:=fun _ _=>[]
def kC1:ChangeP:=⟨0,0,false,true,[],[7]⟩
def kC2:ChangeP:=⟨0,0,true,true,[7],[8,8]⟩
def kX1:OneP:=begOne 1 1
def kX2:OneP:=kX1.changed 28 37
def kX3:OneP:=kX2.changed 65 39
def kR1:List RecP:=[Qic 1]
def kR2:List RecP:=kR1++[Qcp kC1 kX1]
def kR3:List RecP:=kR2++[Qcp kC2 kX2]
theorem Qlh:(recsB kR1).length=27:=by
 have:=Qm5 1
 unfold kR1 recsB
 simpa using this
theorem Qlg:(recsB kR2).length=64:=by
 unfold kR2
 rw[Qb0,Qlh,Qdt];rfl
theorem Qvp:(recsB kR3).length=103:=by
 unfold kR3
 rw[Qb0,Qlg,Qdt];rfl
theorem Jax:IsB [7]:=by intro x hx;rw[List.mem_singleton.1 hx];omega
theorem Qzv:IsB [8,8]:=by intro x hx;simp at hx;omega
theorem Qra (w:World):Calls Tryz.prog 7 #[] w (Qz5 w):=by
 have hmk:=Qtl w 20 4 3 (by omega) (by omega) (by omega) (by omega) (by omega) (by omega)
 have Hmk:=Lib.hid hmk
 clear hmk
 go_enter Tryz.func7,Tryz.ntmps7
 go_wp2_with fail
 refine Hmk.out.mono ?_
 rintro e w1 ⟨bb,bt,bn,T,I,τ1,rfl,hb1,hN,hS,hz1,hs1⟩
 have c1:=hb1.both.at 1 (v:=.pointer (some ⟨I.bm,0,none⟩)) rfl
 have hbe:=Qry hz1 (by omega) (by simp)
 obtain⟨Hb1,HN,HS,Hz1,Hs1,Hbe⟩:=hid6 hb1 hN hS hz1 hs1 hbe
 clear hb1 hN hS hz1 hs1 hbe
 go_wp2_with fail
 refine Hbe.out.mono ?_
 rintro e w2 ⟨τ2,hs2,⟨hno,-,-⟩|⟨-,rfl,nb,hz2⟩⟩
 ·exact absurd (by rw[HS.out];decide) hno
 have hb2:=Hb1.out.step hs2 (fun _ h=>h)
 have hst2:=Hs1.out.trans (hs2.mono (T:=AnyTag) (fun _ h=>Qdw h))
 have hz2':TZ w2 τ2 I (boPut (fun _=>0) 1 nb) [kX1] 2 kR1 kV0 0:=hz2
 have hbn:=Qia w2 τ2 [7] Jax (by simp)
 have hal:=(Step.refl w2 τ2 nil).alloc (.cells ⟨u8s [7]⟩ 5) tData
 generalize τ2.put w2.heap.size tData=τa at *
 have hza:=hz2'.nil hal
 have hba:=hb2.step hal (fun _ h=>h.elim)
 have hsta:=hst2.trans (hal.mono (T:=AnyTag) (fun _ h=>h.elim))
 have hch:=Qkf hza (by omega) (x:=kX1) (by simp) rfl (by rw[Qlh];decide) (by decide) (n:=0) (by rw[HN.out];omega) (by rw[HN.out];omega) (sl:=0) (by omega) true hbn (by simp) (by simp)
 have c2:=hb2.both.at 1 (v:=.pointer (some ⟨I.bm,0,none⟩)) rfl
 obtain⟨bo,hbo⟩:∃b,boPut (fun _=>0) 1 nb=b:=⟨_,rfl⟩
 rw[hbo] at hch hza
 have hcc:chgV kV0 0 0 true [7]=kC1:=rfl
 rw[hcc] at hch
 obtain⟨Hch,Hza,Hba,Hsta⟩:=hid4 hch hza hba hsta
 clear hch hza hba hsta c1 hz2 hz2' hbn hal hb2 hst2 hs2 hcc hbo
 go_wp2_with fail
 refine Hch.out.mono ?_
 rintro e w3 ⟨τ3,hs3,⟨hno,-,-⟩|⟨-,hno,-,-⟩|⟨-,-,rfl,hz3⟩⟩
 ·cases hno
 ·exact absurd (by rw[Qlh,HS.out];decide) hno
 have hz3':TZ w3 τ3 I bo [kX2] 2 kR2 (putV kV0 0 0 [7]) 1:=by
  rw[Qjv kX1 (kX1.changed (1+(recsB kR1).length) (Qak kC1)) rfl,Qlh] at hz3
  exact hz3
 have hb3:=Hba.out.step hs3 (fun _ h=>.inl h)
 have hst3:=Hsta.out.trans (hs3.mono (T:=AnyTag) (fun _ h=>Qdw (.inl h)))
 have c3:=hb3.both.at 1 (v:=.pointer (some ⟨I.bm,0,none⟩)) rfl
 have hre:=Qde hz3'.mgr
 rw[show ((resv [kX2]:Nat):Int)=91 from rfl] at hre
 have Hz3':=Lib.hid hz3'
 obtain⟨Hb3,Hst3,Hre⟩:=hid3 hb3 hst3 hre
 clear hz3' hb3 hst3 hre hz3 hs3 c2
 go_wp2_with fail
 refine Hre.out.mono ?_
 rintro e w4 ⟨rfl,τ4,hs4⟩
 have hz4:=Hz3'.out.nil hs4
 have hb4:=Hb3.out.step hs4 (fun _ h=>h.elim)
 have hst4:=Hst3.out.trans (hs4.mono (T:=AnyTag) (fun _ h=>h.elim))
 have c4:=hb4.both.at 1 (v:=.pointer (some ⟨I.bm,0,none⟩)) rfl
 have hmk4:=Qsd hz4.mgr (x:=kX2) (by simp) rfl 1 rfl (by omega)
 obtain⟨Hz4,Hb4,Hst4,Hmk4⟩:=hid4 hz4 hb4 hst4 hmk4
 clear hz4 hb4 hst4 hmk4 hs4 c3
 go_wp2_with fail
 refine Hmk4.out.mono ?_
 rintro e w' ⟨rfl,rfl⟩
 have hbn:=Qia w4 τ4 [8,8] Qzv (by simp)
 have hal:=(Step.refl w4 τ4 nil).alloc (.cells ⟨u8s [8,8]⟩ 5) tData
 generalize τ4.put w4.heap.size tData=τb at *
 have hzb:=Hz4.out.nil hal
 have hbb:=Hb4.out.step hal (fun _ h=>h.elim)
 have hstb:=Hst4.out.trans (hal.mono (T:=AnyTag) (fun _ h=>h.elim))
 have hch2:=Qkf hzb (by omega) (x:=kX2) (by simp) rfl (by rw[Qlg];decide) (by decide) (n:=0) (by rw[HN.out];omega) (by rw[HN.out];omega) (sl:=0) (by omega) true hbn (by simp) (by simp)
 rw[show chgV (putV kV0 0 0 [7]) 0 0 true [8,8]=kC2 from rfl] at hch2
 obtain⟨Hch2,Hzb,Hbb,Hstb⟩:=hid4 hch2 hzb hbb hstb
 clear hch2 hzb hbb hstb hbn hal
 go_wp2_with fail
 refine Hch2.out.mono ?_
 rintro e w5 ⟨τ5,hs5,⟨hno,-,-⟩|⟨-,hno,-,-⟩|⟨-,-,rfl,hz5⟩⟩
 ·cases hno
 ·exact absurd (by rw[Qlg,HS.out];decide) hno
 have hz5':TZ w5 τ5 I bo [kX3] 2 kR3 (putV (putV kV0 0 0 [7]) 0 0 [8,8]) 2:=by
  rw[Qjv kX2 (kX2.changed (1+(recsB kR2).length) (Qak kC2)) rfl,Qlg] at hz5
  exact hz5
 have hb5:=Hbb.out.step hs5 (fun _ h=>.inl h)
 have hst5:=Hstb.out.trans (hs5.mono (T:=AnyTag) (fun _ h=>Qdw (.inl h)))
 have c5:=hb5.both.at 1 (v:=.pointer (some ⟨I.bm,0,none⟩)) rfl
 have hrun:RunC kR3 kX3.undo [(65,kC2)] 28:=by
  have h1:RecAt kR3 65 (Qcp kC2 kX2):=by
   have:=RecAt.new kR2 (Qcp kC2 kX2)
   rw[Qlg] at this
   exact this
  exact RunC.chg h1 rfl (by decide) (.nil 28)
 have hc2ok:ChgOk I.N kC2:=⟨by rw[HN.out];decide,by decide,by decide,by decide,rfl,rfl⟩
 have hba:=Qy3 hz5' (x:=kX3) (by simp) rfl (l:=[(65,kC2)]) (k:=[(28,kC1)]) (m:=28) hrun rfl (fun z hz=>by rw[List.mem_singleton.1 hz];exact Nat.le_refl _) (fun z hz=>by rw[List.mem_singleton.1 hz];exact hc2ok) (.inl (by decide)) (by rw[Qvp];decide) (by rw[Qvp,HS.out];decide) (by decide) (by rw[HN.out];omega)
 have Hz5':=Lib.hid hz5'
 obtain⟨Hb5,Hst5,Hba⟩:=hid3 hb5 hst5 hba
 clear hz5' hb5 hst5 hba hz5 hs5 c4 hrun hc2ok
 go_wp2_with fail
 refine Hba.out.mono ?_
 rintro e w6 ⟨rfl,τ6,R6,y,V6,st6,hi6⟩
 have hb6:=Hb5.out.step hi6.step (fun _ h=>h)
 have hst6:=Hst5.out.trans (hi6.step.mono (T:=AnyTag) (fun _ h=>Qdw h))
 have hz6:=hi6.tz
 have hv6:V6 0 0=[7]:=hi6.view 0 0
 have hst6':=hi6.st
 obtain⟨H,L,D,F,s,cur,h1,h2,h3,h4,h5⟩:=hz6.is
 have hget:=Qr0 h1 (by simp at hst6';omega) 0 (by rw[HN.out];omega)
 have c6:=hb6.both.at 0 (v:=.pointer (some ⟨bt,0,none⟩)) rfl
 have d6:=hb6.two.at 4 (v:=.pointer (some ⟨T.bp,0,none⟩)) rfl
 rw[←hb6.bp] at hget
 obtain⟨Hb6,Hst6,Hz6,Hv6,H1,H2,H3,H4,H5,Hget,Hi6⟩:=hid11 hb6 hst6 hz6 hv6 h1 h2 h3 h4 h5 hget hi6
 clear hb6 hst6 hz6 hv6 h1 h2 h3 h4 h5 hget hi6 c5 hst6'
 go_wp2_with fail
 refine Hget.out.mono ?_
 rintro e w7 ⟨b,rfl,τ7,H7,L7,D7,F7,s7,i7,f7,hg7,hst7',hsl7,hs7⟩
 have hsd:=(hg7.good.page 0 (by rw[HN.out];omega)).1
 have hgt:=Qk0 hg7.page hsd.tidy.lies.fit 0 (by omega) tData
 rw[(H5.out 0 (by rw[HN.out];omega)).2 0,Hv6.out] at hgt
 have hb7:=Hb6.out.step hs7 (fun _ h=>.inl (.inl h))
 have hst7:=Hst6.out.trans (hs7.mono (T:=AnyTag) (fun _ h=>Qdw (.inl (.inl h))))
 obtain⟨Hg7,Hsl7,Hgt,Hb7,Hst7⟩:=hid5 hg7 hsl7 hgt hb7 hst7
 clear hg7 hsl7 hgt hb7 hst7 hs7 c6 d6 hsd
 go_wp2_with fail
 refine Hgt.out.mono ?_
 rintro e w8 ⟨u,τ8,rfl,hu,hs8⟩
 obtain⟨pu,cu,rfl⟩:=hu.val
 have hg8:=Hg7.out.step hs8 (fun g h=>h.elim)
 have hb8:=Hb7.out.step hs8 (fun _ h=>h.elim)
 have hst8:=Hst7.out.trans (hs8.mono (T:=AnyTag) (fun _ h=>h.elim))
 have c8:=hb8.both.at 0 (v:=.pointer (some ⟨bt,0,none⟩)) rfl
 have d8:=hb8.two.at 4 (v:=.pointer (some ⟨T.bp,0,none⟩)) rfl
 have hput:=Qrz hg8 (by omega)
 have hub:=hu.bytes
 obtain⟨Hg8,Hb8,Hst8,Hput,Hub⟩:=hid5 hg8 hb8 hst8 hput hub
 clear hg8 hb8 hst8 hput hub hs8 hu
 go_wp2_with fail
 refine Hput.out.mono ?_
 rintro e w9 ⟨rfl,s9,ht9,hs9⟩
 have hb9:=Hb8.out.step hs9 (fun _ h=>.inl (.inl h))
 have hst9:=Hst8.out.trans (hs9.mono (T:=AnyTag) (fun _ h=>Qdw (.inl (.inl h))))
 have hub9:=Hub.out.step hs9 Qhd
 obtain⟨-,p9,e9,hv9,h9a,h9b,h9c⟩:=hub9
 cases hv9
 obtain⟨b9,o9,rfl,-,hcell⟩:=h9c (by simp)
 have hcell0:=hcell 0 (by simp)
 rw[Nat.add_zero] at hcell0
 rw[show ([7]:List Int).getD 0 0=7 from rfl] at hcell0
 have hcn:=Qrn ht9.mgr 9 (by omega) (fun z hz=>by
  have:z.txn=kX3.txn:=by
   rcases putX_mem hz with h|⟨h,h2⟩
   ·rw[h];exact Hi6.out.txn
   ·rw[List.mem_singleton.1 h]
  rw[this];decide) 0 0 true (some ⟨b9,o9,none⟩) 1 cu
 have c9:=hb9.both.at 1 (v:=.pointer (some ⟨I.bm,0,none⟩)) rfl
 obtain⟨Hb9,Hst9,Hcn⟩:=hid3 hb9 hst9 hcn
 clear hb9 hst9 hcn hcell h9a h9b h9c hs9 ht9 c8 d8
 go_wp2_with fail
 refine Hcn.out.mono ?_
 rintro e w' ⟨rfl,rfl⟩
 go_wp2_with fail
 go_ret
 exact⟨rfl,τ8,Hst9.out⟩
end Go.Proofs.YtjgacceifcnedaaGreat
namespace Go.Proofs.YtjgacceifcnedaaGreat
open Go.RowKit
def boxed:Tags:=fun _=>tBox
theorem Qcq {w w':World}{τ τ':Tags}{S:Tag→Prop}(m:Step w τ w' τ' S) {b o:Nat}{v:Value}(h:w.cell? ⟨b,o,none⟩=some v) (hs:¬S (τ b)):w'.cell? ⟨b,o,none⟩=some v:=by
 have hb:=cell_lt h
 have:=m.mod.block b hb hs
 unfold World.cell? at h ⊢
 rw[this];exact h
theorem Qhl:¬AnyTag tBox:=fun h=>h rfl
end Go.Proofs.YtjgacceifcnedaaGreat
namespace Go.Proofs.YtjgacceifcnedaaGreat.ArgsQ
open Go.ChangeShapes Go.WideShapes Go.Deep Go.RowKit
section
variable {H : Type} {enc : TypeId × Value → H} {P : Program} {w : World} {base : Nat} {spare : Nat → Bool} {held : Bool}
theorem open_slice_fields {t e:TypeId}{fs:Array Field}{fuel:Nat}{cs:List Value}{x:DataW H×List MemPlace}(ht:P.underlying t=some (.slice e)) (he:P.underlying e=some (.struct fs))
 (hone:oneCellFields P fs=true) (hC:P.cellsOf e=fs.size) (h:DataW.trod enc P w base spare held fuel t cs=some x) :
 cs=[.slice none 0 0] ∨
 ∃(a:Addr) (len cap m:Nat),cs=[.slice (some a) len cap]∧len≤cap∧cap≤maxLen∧len≤m ∧
   ∀i,i<m→∀(j:Nat) (f:Field),fs[j]?=some f→∃(v:Value) (n:Nat) (y:DataW H×List MemPlace),w.cell? (a.add (i*fs.size+j))=some v∧DataW.trod enc P w base spare held n f.type [v]=some y:=by
 rcases open_slice ht h with h0|⟨a,len,cap,m,n,D,Pl,hcs,hb,hl,hm,hmm,hx,hi⟩
 ·exact .inl h0.1
 ·refine .inr ⟨a,len,cap,m,hcs,hl,hm,by rw[hmm];split <;> omega,fun i him j f hj=>?_⟩
  obtain⟨cs',hc,ht'⟩:=hi i him
  rw[hC] at hc
  obtain⟨ys,n',hn',hy,hlen,hyl,hf⟩:=DataW.trod_struct he ht'
  obtain⟨_,hcl,hat⟩:=World.cells?_some hc
  obtain⟨ho,hk⟩:=hone_of hone j f hj
  have hjl:j<fs.size:=(Array.getElem?_eq_some_iff.1 hj).1
  have hcell:=hat j hjl
  have hv:cs'[j]?=some (cs'[j]'(by omega)):=List.getElem?_eq_getElem (by omega)
  have h1:=hf j f hj
  rw[ho,hk] at h1
  have hone':(cs'.drop j).take 1=[cs'[j]'(by omega)]:=by
   rw[List.drop_eq_getElem_cons (by omega)]
   rfl
  rw[hone'] at h1
  have hys:ys[j]?=some (ys[j]'(by omega)):=List.getElem?_eq_getElem (by omega)
  refine⟨_,n',_,?_,h1.trans hys⟩
  rw[←Go.Deep.add_add,hcell,hv]
theorem Qoz {a:Addr}{v:Value}(h:w.cell? (a.add 0)=some v):a.spot=none:=by
 cases hsp:a.spot with
 | none=>rfl
 | some s =>
   exfalso
   simp[World.cell?,Addr.add,hsp] at h
   split at h <;> simp_all
theorem Qyv (bl ol k:Nat):(⟨bl,ol,none⟩:Addr).add k=⟨bl,ol+k,none⟩:=by
 unfold Addr.add
 split
 ·next h=>subst h;rfl
 ·rfl
end
section
variable {H : Type} {enc : TypeId × Value → H} {P : Program}
theorem Qnp {f:Func}{s:ChangeSpec}{apart fresh handsOn again:Bool}{W W':World}{args:Array Value}{v:Value}{ds gs:List (DataW H)}{before pa pv:List MemPlace}
 (hW:DataW.Whole enc P f.params.toList s.vars apart W args.toList ds gs before)
 (hres:∀(b:Nat) (sp:Nat→Bool) (hd:Bool),DataW.TrodAll enc P W' b sp hd f.resultTypes.toList (v.resultList f.resultTypes.size) (s.fn H (ds++gs)).results [])
 (hargs:∀sp:Nat→Bool,(∀p∈before,sp p.block=true)→DataW.TrodAll enc P W' 0 sp true f.params.toList args.toList (s.fn H (ds++gs)).args pa)
 (hvars:∀sp:Nat→Bool,(∀p∈before,sp p.block=true)→DataW.TrodVars enc P W' sp s.vars (s.fn H (ds++gs)).vars pv)
 (hps:before=pa++pv) (hb:Below W.heap.size W W')
 (hok:∀(j:Nat) (t:TypeId) (r:Value),f.resultTypes[j]?=some t→(v.resultList f.resultTypes.size)[j]?=some r→Value.okWide P W' .any 0 t r) :
 s.post enc P f apart fresh handsOn again W args v W':=by
 have hlt:∀p∈before,p.block<W.heap.size:=fun p hp=>hW.lt p hp
 have hold:∀p∈before,(fun b=>decide (b<W.heap.size)) p.block=true:=fun p hp=>by simpa using hlt p hp
 refine⟨ds,gs,before,[],pa,pv,hW,hres _ _ _,hargs _ hold,hvars _ hold,World.keptBut_mono (fun p hp=>⟨hp,?_⟩) (hb.frame (·∈before)),fun _=>?_⟩
 ·rw[hps,List.mem_append] at hp
  exact Or.inr hp
 ·obtain⟨_,_,_,_,_,hz,hn⟩:=hW
  refine⟨hok,_,_,([]++pa)++pv,⟨[]++pa,pv,trodAll_append (hargs _ (fun _ _=>rfl)) (hres _ _ _),hvars _ (fun _ _=>rfl),rfl,?_,?_⟩,?_⟩
  ·intro b off hp
   have hin:MemPlace.cell b off∈before:=by rw[hps];simpa using hp
   rw[hb.frozen (hlt _ hin)]
   exact hz b off hin
  ·intro ha
   have:=hn ha
   rw[hps] at this
   simpa using this
  ·intro p hp _
   rw[hps]
   simpa using hp
end
section
variable {H : Type} {enc : TypeId × Value → H} {W : World} {base : Nat} {spare : Nat → Bool} {held : Bool}
theorem Qiu {n:Int}(h:(Lit.int .u8 n).wf=true):0≤n∧n≤255:=by simpa [Lit.wf,IntKind.min,IntKind.max,IntKind.signed,IntKind.bits] using h
theorem Qyj {n:Int}(h:(Lit.int .u32 n).wf=true):0≤n∧n≤4294967295:=by simpa [Lit.wf,IntKind.min,IntKind.max,IntKind.signed,IntKind.bits] using h
theorem Qth {v:Value}{fuel:Nat}{x:DataW H×List MemPlace}(h:DataW.trod enc Tryz.prog W base spare held fuel 33 [v]=some x):∃data,Bytes W boxed tBox v data:=by
 rcases open_ints Tryz.underlying33 Tryz.underlying5 (by kernel_rfl) h with ⟨hcs,_⟩|⟨a,len,cap,zs,hcs,_,hl,hm,hz,_,hcell,hwf⟩
 ·simp only[List.cons.injEq,and_true] at hcs
  subst hcs
  exact⟨[],fun x hx=>by simp at hx,none,0,rfl,Nat.le_refl _,Nat.zero_le _,fun hx=>by simp at hx⟩
 ·simp only[List.cons.injEq,and_true] at hcs
  subst hcs
  have hlz:len≤zs.length:=by rw[hz];split <;> omega
  refine⟨zs.take len,fun x hx=>Qiu (hwf x (List.mem_of_mem_take hx)),some a,cap,by rw[List.length_take,Nat.min_eq_left hlz],by rw[List.length_take];omega,hm,fun hpos=>?_⟩
  rw[List.length_take] at hpos
  have hsp:=Qoz (hcell 0 (by omega))
  obtain⟨b,o,sp⟩:=a
  simp only at hsp
  subst hsp
  refine⟨b,o,rfl,rfl,fun i hi=>?_⟩
  rw[List.length_take] at hi
  have:=hcell i (by omega)
  rw[Qyv] at this
  rw[this,List.getD_eq_getElem?_getD,List.getD_eq_getElem?_getD,List.getElem?_take,if_pos (by omega)]
end
section
variable {H : Type} {enc : TypeId × Value → H} {P : Program} {w : World} {base : Nat} {spare : Nat → Bool} {held : Bool}
theorem Jb7 {t t' t'' t3 t4:TypeId}{args:Array Value}{ds:List (DataW H)}{ps:List MemPlace}(h:DataW.TrodAll enc P w base spare held [t,t',t'',t3,t4] args.toList ds ps) :
 ∃v v' v'' v3 v4 d d' d'' d3 d4 p p' p'' p3 p4,args=#[v,v',v'',v3,v4]∧ds=[d,d',d'',d3,d4]∧ps=p++(p'++(p''++(p3++p4)))∧DataW.Trod enc P w base spare held t v d p∧DataW.Trod enc P w base spare held t' v' d' p'∧DataW.Trod enc P w base spare held t'' v'' d'' p''∧DataW.Trod enc P w base spare held t3 v3 d3 p3∧DataW.Trod enc P w base spare held t4 v4 d4 p4:=by
 obtain⟨v,vs,d,dx,p,q,hargs,rfl,rfl,hd,hrest⟩:=trodAll_cons h
 obtain⟨v',vs',d',dx',p',q',rfl,rfl,rfl,hd',hrest'⟩:=trodAll_cons hrest
 obtain⟨v'',vs'',d'',dx'',p'',q'',rfl,rfl,rfl,hd'',hrest''⟩:=trodAll_cons hrest'
 obtain⟨v3,vs3,d3,ds3,p3,q3,rfl,rfl,rfl,hd3,hrest3⟩:=trodAll_cons hrest''
 obtain⟨v4,vs4,d4,ds4,p4,q4,rfl,rfl,rfl,hd4,hrest4⟩:=trodAll_cons hrest3
 obtain⟨rfl,rfl,rfl⟩:=trodAll_nil hrest4
 exact⟨v,v',v'',v3,v4,d,d',d'',d3,d4,p,p',p'',p3,p4,by cases args;simp_all,rfl,by simp,hd,hd',hd'',hd3,hd4⟩
theorem Qqa {t t' t'' t3 t4:TypeId}{v v' v'' v3 v4:Value}{d d' d'' d3 d4:DataW H}{p p' p'' p3 p4:List MemPlace}(h:DataW.Trod enc P w base spare held t v d p) (h':DataW.Trod enc P w base spare held t' v' d' p')
 (h'':DataW.Trod enc P w base spare held t'' v'' d'' p'') (h3:DataW.Trod enc P w base spare held t3 v3 d3 p3) (h4:DataW.Trod enc P w base spare held t4 v4 d4 p4):DataW.TrodAll enc P w base spare held [t,t',t'',t3,t4] [v,v',v'',v3,v4] [d,d',d'',d3,d4] (p++(p'++(p''++(p3++p4)))):=⟨p,p'++(p''++(p3++p4)),h,trodAll_mk4 h' h'' h3 h4,rfl⟩
end
structure OpT where
 kd:Nat
 nn:Nat
 pg:Nat
 sl:Int
 p:Option Addr
 m:Nat
 c:Nat
 k:Nat
 at_:Nat
structure OpTAt (w:World) (b o:Nat) (x:OpT):Prop where
 kd:x.kd<256
 pg:x.pg<4294967296
 k:x.k<256
 c0:w.cell? ⟨b,o,none⟩=some (.int .u8 (x.kd:Int))
 c1:w.cell? ⟨b,o+1,none⟩=some (.int .u32 (x.nn:Int))
 c2:w.cell? ⟨b,o+2,none⟩=some (.int .u32 (x.pg:Int))
 c3:w.cell? ⟨b,o+3,none⟩=some (.int .i64 x.sl)
 c4:w.cell? ⟨b,o+4,none⟩=some (.slice x.p x.m x.c)
 c5:w.cell? ⟨b,o+5,none⟩=some (.int .u8 (x.k:Int))
 c6:w.cell? ⟨b,o+6,none⟩=some (.int .u64 (x.at_:Int))
def OpsT (w:World) (a:Option Addr) (len:Nat):Prop:=∀i,i<len→∃bl ol x,a=some ⟨bl,ol,none⟩∧OpTAt w bl (ol+i*7) x
section
variable {H : Type} {enc : TypeId × Value → H} {W : World} {base : Nat} {spare : Nat → Bool} {held : Bool}
theorem Jaf {n:Int}(h:(Lit.int .u64 n).wf=true):0≤n∧n≤18446744073709551615:=by simpa [Lit.wf,IntKind.min,IntKind.max,IntKind.signed,IntKind.bits] using h
theorem Qux:∃f0 f1 f2 f3 f4 f5 f6:Field,Tryz.prog.underlying 36 = some (.struct #[f0,f1,f2,f3,f4,f5,f6])∧f0.type = 5 ∧ f1.type = 28 ∧ f2.type = 28 ∧ f3.type = 3 ∧ f4.type = 33 ∧ f5.type = 5 ∧ f6.type = 34 := ⟨_,_,_,_,_,_,_,Tryz.underlying36,rfl,rfl,rfl,rfl,rfl,rfl,rfl⟩
theorem Qk6 {v:Value}{d:DataW H}{p:List MemPlace}{b0:Nat}(hv:Value.okWide Tryz.prog W .any b0 22 v) (h:DataW.Trod enc Tryz.prog W base spare held 22 v d p):∃a len cap,v = .slice a len cap∧len≤maxLen∧OpsT W a len:=by
 obtain⟨a,len,cap,rfl⟩:=okWide_slice Tryz.underlying22 hv
 obtain⟨fuel,hf⟩:=h
 obtain⟨f0,f1,f2,f3,f4,f5,f6,hs,t0,t1,t2,t3,t4,t5,t6⟩:=Qux
 have hone:oneCellFields Tryz.prog #[f0,f1,f2,f3,f4,f5,f6]=true:=by
  have:(match Tryz.prog.underlying 36 with|some (.struct fs)=>oneCellFields Tryz.prog fs|_=>false)=true:=by kernel_rfl
  rw[hs] at this
  exact this
 rcases open_slice_fields Tryz.underlying22 hs hone (by kernel_rfl) hf with hcs|⟨a',len',cap',m,hcs,hl,hm,hlm,hi⟩
 ·have hcs':[Value.slice a len cap]=[Value.slice none 0 0]:=hcs
  simp only[List.cons.injEq,Value.slice.injEq,and_true] at hcs'
  obtain⟨rfl,rfl,rfl⟩:=hcs'
  exact⟨none,0,0,rfl,Nat.zero_le _,fun k hk=>by omega⟩
 ·have hcs':[Value.slice a len cap]=[Value.slice (some a') len' cap']:=hcs
  simp only[List.cons.injEq,Value.slice.injEq,and_true] at hcs'
  obtain⟨rfl,rfl,rfl⟩:=hcs'
  refine⟨some a',len,cap,rfl,Nat.le_trans hl hm,fun k hk=>?_⟩
  obtain⟨v0,n0,y0,c0,z0⟩:=hi k (by omega) 0 f0 rfl
  obtain⟨v1,n1,y1,c1,z1⟩:=hi k (by omega) 1 f1 rfl
  obtain⟨v2,n2,y2,c2,z2⟩:=hi k (by omega) 2 f2 rfl
  obtain⟨v3,n3,y3,c3,z3⟩:=hi k (by omega) 3 f3 rfl
  obtain⟨v4,n4,y4,c4,z4⟩:=hi k (by omega) 4 f4 rfl
  obtain⟨v5,n5,y5,c5,z5⟩:=hi k (by omega) 5 f5 rfl
  obtain⟨v6,n6,y6,c6,z6⟩:=hi k (by omega) 6 f6 rfl
  rw[t0] at z0
  rw[t1] at z1
  rw[t2] at z2
  rw[t3] at z3
  rw[t4] at z4
  rw[t5] at z5
  rw[t6] at z6
  obtain⟨m0,e0,_,w0⟩:=DataW.trod_int Tryz.underlying5 z0
  obtain⟨m1,e1,_,w1⟩:=DataW.trod_int Tryz.underlying28 z1
  obtain⟨m2,e2,_,w2⟩:=DataW.trod_int Tryz.underlying28 z2
  obtain⟨m3,e3,_,w3⟩:=DataW.trod_int Tryz.underlying3 z3
  obtain⟨data,hb⟩:=Qth z4
  obtain⟨pb,cb,rfl,-,-⟩:=hb.any
  obtain⟨m5,e5,_,w5⟩:=DataW.trod_int Tryz.underlying5 z5
  obtain⟨m6,e6,_,w6⟩:=DataW.trod_int Tryz.underlying34 z6
  simp only[List.cons.injEq,and_true] at e0 e1 e2 e3 e5 e6
  subst e0 e1 e2 e3 e5 e6
  have hx0:=Qiu w0
  have hx1:=Qyj w1
  have hx2:=Qyj w2
  have hx5:=Qiu w5
  obtain⟨kd,rfl⟩:=Int.eq_ofNat_of_zero_le hx0.1
  obtain⟨nn,rfl⟩:=Int.eq_ofNat_of_zero_le hx1.1
  obtain⟨pg,rfl⟩:=Int.eq_ofNat_of_zero_le hx2.1
  obtain⟨kk,rfl⟩:=Int.eq_ofNat_of_zero_le hx5.1
  obtain⟨at_,rfl⟩:=Int.eq_ofNat_of_zero_le (Jaf w6).1
  obtain⟨_,_,_,cc,-⟩:=hi 0 (by omega) 0 f0 rfl
  have hsp:=Qoz cc
  obtain⟨bl,ol,sp⟩:=a'
  simp only at hsp
  subst hsp
  simp only[Qyv] at c0 c1 c2 c3 c4 c5 c6
  exact⟨bl,ol,⟨kd,nn,pg,m3,pb,data.length,cb,kk,at_⟩,rfl,⟨by show kd<256;omega,by show pg<4294967296;omega,by show kk<256;omega,c0,c1,c2,c3,c4,c5,c6⟩⟩
end
end Go.Proofs.YtjgacceifcnedaaGreat.ArgsQ