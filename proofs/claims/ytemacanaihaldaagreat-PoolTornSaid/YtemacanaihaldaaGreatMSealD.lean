/-
 Seals: Seal: a page's bytes as four sectors.
-/
import Derived.Test.YtemacanaihaldaaGreatMStrip
import Derived.Test.YtemacanaihaldaaGreatMRegL
set_option maxRecDepth 100000
set_option maxHeartbeats 4000000
set_option linter.all false
namespace Go.Proofs.YtemacanaihaldaaGreat
open Go.RowKit Go.Shelf
attribute [local go_sem] Oper.semAt_some
def Qcl (b:List Int) (j:Nat):List Int:=(b.drop (j*112)).take 112
def sealOf (b:List Int) (stamp:Nat) (j:Nat):List Int:=leB stamp 8++Qcl b j++leB stamp 8
def sealAll (b:List Int) (stamp:Nat):List (List Int):=(List.range 4).map (sealOf b stamp)
theorem Qdy (b:List Int) (j:Nat):(Qcl b j).length=min 112 (b.length-j*112):=by
 unfold Qcl;rw[List.length_take,List.length_drop]
def SealI (w W0:World) (τ:Tags) (b s2:Nat) (mk:Value) (bs:List Int) (s:Nat) (pre:List (Ql1 448 112)) (W:World):Prop :=
 ∃τ' vo,Step w τ W τ' nil∧Own W τ' w.heap.size tBox 52 [vo]∧NR w.heap.size W τ' tOut vo (pre.map (fun x=>sealOf bs s x.1))∧Keep3 b (s2+1) (s2+1+1) W0 W∧Own W τ' s2 tBox 37 [mk]∧Bytes W τ' tData mk (leB s 8)∧τ' (s2+1)=tBox∧τ' (s2+1+1)=tBox
theorem Qw5 {w:World}{τ:Tags}{g:Tag}{v:Value}{bs:List Int}(h:Bytes w τ g v bs) (h448:bs.length=448) (s:Nat) (hs64:s<2 ^ 64) :
 Calls Tryz.prog 157 #[v,.int .u64 (s:Int)] w fun e w'=>∃u τ',e = .returned u∧NR w.heap.size w' τ' tOut u (sealAll bs s)∧Step w τ w' τ' nil:=by
 obtain⟨b,off,c,rfl,hc1,hc2,-,hbl,-⟩:=h.pos (by omega)
 rw[h448] at h hc1 ⊢
 have hch:∀(m:Nat) (W:World),CallsIn Fence.wide m Tryz.prog 125 #[.slice (some ⟨b,off,none⟩) 448 c,.int .i64 112] W fun e w'=>e = .returned (.func (.func 207) #[] #[.pointer (some ⟨W.heap.size,0,none⟩),.pointer (some ⟨W.heap.size+1,0,none⟩)]) ∧
  w'=(W.alloc (.cells #[.slice (some ⟨b,off,none⟩) 448 c] 37)).alloc (.cells #[.int .i64 112] 3):=fun m W=>(callsIn_wide (n:=m)).2 (Qpx (some ⟨b,off,none⟩) 448 c 112 (by omega) W)
 have hpt:∀(m:Nat) (W:World),CallsIn Fence.wide m Tryz.prog 154 #[.int .u64 (s:Int),.int .i64 8] W (NewB W (τ.put w.heap.size tBox) tData (leB s 8)):=fun m W=>(callsIn_wide (n:=m)).2 (Qeu W (τ.put w.heap.size tBox) tData s 8 hs64 (by omega) (by omega))
 obtain⟨H_h,Hch,Hpt,H448⟩:=hid4 h hch hpt h448
 clear h hch hpt h448 hs64
 refine(callsIn_wide (n:=4)).1 ?_
 refine callsIn_of_wp_marks Tryz.func157 rfl trivial ?_ rfl
 simp only[Tryz.ntmps157,List.size_toArray,List.length_cons,List.length_nil,Nat.reduceAdd,Nat.reduceSub,Array.replicate_succ,Array.replicate_zero,List.push_toArray,List.append_toArray,List.nil_append,List.cons_append]
 gi_wp2_with (first
  | (refine⟨trivial,?_⟩;gi_at_call 154;refine(Hpt.out _ _).mono ?_;rintro e w2 ⟨mk,τ2,rfl,hmk,he2,hm2⟩;obtain⟨bm,om,cm,rfl,h8a,h8b,-,hbm,-⟩:=hmk.pos (by rw[Qaa];omega);have hl8:=Qaa s 8;rw[hl8] at hmk h8a ⊢;clear hl8;obtain⟨Hmk,He2,Hm2⟩:=hid3 hmk he2 hm2;clear hmk he2 hm2)
  | (refine⟨trivial,?_⟩;gi_at_call 125;refine(Hch.out _ _).mono ?_;rintro e w' ⟨rfl,rfl⟩))
 have hst2:Step w τ w2 τ2 nil:=((Step.refl w τ nil).alloc (.cells #[Value.slice none 0 0] 52) tBox).trans (Step.of nil Hm2.out He2.out)
 have hbox2:Own w2 τ2 w.heap.size tBox 52 [.slice none 0 0]:=(Own.new w τ tBox 52 [.slice none 0 0]).step (Step.of nil Hm2.out He2.out) (fun h=>h)
 have hst0:=((hst2.alloc (.cells #[Value.slice (some ⟨bm,om,none⟩) 8 cm] 37) tBox).alloc (.cells #[Value.slice (some ⟨b,off,none⟩) 448 c] 37) tBox).alloc (.cells #[Value.int .i64 112] 3) tBox
 have hbox0:=((hbox2.step_new (.cells #[Value.slice (some ⟨bm,om,none⟩) 8 cm] 37) tBox).step_new (.cells #[Value.slice (some ⟨b,off,none⟩) 448 c] 37) tBox).step_new (.cells #[Value.int .i64 112] 3) tBox
 have hmb0:=((Own.new w2 τ2 tBox 37 [Value.slice (some ⟨bm,om,none⟩) 8 cm]).step_new (.cells #[Value.slice (some ⟨b,off,none⟩) 448 c] 37) tBox).step_new (.cells #[Value.int .i64 112] 3) tBox
 have hsb0:=(Own.new (w2.alloc (.cells #[Value.slice (some ⟨bm,om,none⟩) 8 cm] 37)) (τ2.put w2.heap.size tBox) tBox 37 [Value.slice (some ⟨b,off,none⟩) 448 c]).step_new (.cells #[Value.int .i64 112] 3) tBox
 have hnb0:=Own.new ((w2.alloc (.cells #[Value.slice (some ⟨bm,om,none⟩) 8 cm] 37)).alloc (.cells #[Value.slice (some ⟨b,off,none⟩) 448 c] 37)) ((τ2.put w2.heap.size tBox).put (w2.heap.size+1) tBox) tBox 3 [Value.int .i64 112]
 have hmk0:=Hmk.out.step (((((Step.refl w2 τ2 nil).alloc (.cells #[Value.slice (some ⟨bm,om,none⟩) 8 cm] 37) tBox).alloc (.cells #[Value.slice (some ⟨b,off,none⟩) 448 c] 37) tBox).alloc (.cells #[Value.int .i64 112] 3) tBox)) (fun h=>h)
 simp only[World.size_alloc] at hst0 hbox0 hmb0 hsb0 hnb0 hmk0
 have hsz0:(((w2.alloc (.cells #[Value.slice (some ⟨bm,om,none⟩) 8 cm] 37)).alloc (.cells #[Value.slice (some ⟨b,off,none⟩) 448 c] 37)).alloc (.cells #[Value.int .i64 112] 3)).heap.size=w2.heap.size+1+1+1:=by simp
 have hlw2:w.heap.size<w2.heap.size:=hbox2.lt
 generalize ((τ2.put w2.heap.size tBox).put (w2.heap.size+1) tBox).put (w2.heap.size+1+1) tBox=τ0 at *
 have hmk0':Bytes (((w2.alloc (.cells #[Value.slice (some ⟨bm,om,none⟩) 8 cm] 37)).alloc (.cells #[Value.slice (some ⟨b,off,none⟩) 448 c] 37)).alloc (.cells #[Value.int .i64 112] 3)) τ0 tData (.slice (some ⟨bm,om,none⟩) 8 cm) (leB s 8):=hmk0
 have hmb0':Own (((w2.alloc (.cells #[Value.slice (some ⟨bm,om,none⟩) 8 cm] 37)).alloc (.cells #[Value.slice (some ⟨b,off,none⟩) 448 c] 37)).alloc (.cells #[Value.int .i64 112] 3)) τ0 w2.heap.size tBox 37 [.slice (some ⟨bm,om,none⟩) 8 cm]:=hmb0
 have hsb0':Own (((w2.alloc (.cells #[Value.slice (some ⟨bm,om,none⟩) 8 cm] 37)).alloc (.cells #[Value.slice (some ⟨b,off,none⟩) 448 c] 37)).alloc (.cells #[Value.int .i64 112] 3)) τ0 (w2.heap.size+1) tBox 37 [.slice (some ⟨b,off,none⟩) 448 c]:=hsb0
 have hnb0':Own (((w2.alloc (.cells #[Value.slice (some ⟨bm,om,none⟩) 8 cm] 37)).alloc (.cells #[Value.slice (some ⟨b,off,none⟩) 448 c] 37)).alloc (.cells #[Value.int .i64 112] 3)) τ0 (w2.heap.size+1+1) tBox 3 [.int .i64 112]:=hnb0
 clear hmk0 hmb0 hsb0 hnb0
 generalize ((w2.alloc (.cells #[Value.slice (some ⟨bm,om,none⟩) 8 cm] 37)).alloc (.cells #[Value.slice (some ⟨b,off,none⟩) 448 c] 37)).alloc (.cells #[Value.int .i64 112] 3)=W0 at *
 generalize hs2:w2.heap.size=s2 at *
 clear hs2 hbox2 hst2
 obtain⟨Hst0,Hbox0⟩:=hid2 hst0 hbox0
 have Hmb0':=Lib.hid hmb0'
 have Hsb0':=Lib.hid hsb0'
 have Hnb0':=Lib.hid hnb0'
 have Hmk0':=Lib.hid hmk0'
 have Hsz0:=Lib.hid hsz0
 clear hst0 hbox0 hmb0' hsb0' hnb0' hmk0' hsz0
 have hbl2:b<s2:=by omega
 refine wpIn_rangeFunc_ownG rfl (by omega) (gf := 207) (lb:=#[.pointer (some ⟨s2+1,0,none⟩),.pointer (some ⟨s2+1+1,0,none⟩)]) rfl trivial (enters_of Tryz.func207 (by kernel_rfl) rfl)
  (Qlx Fence.wide 3 trivial rfl (by omega) (s2+1) (s2+1+1) b off 448 c 112 (some ⟨b,off,none⟩) (fun _=>rfl) (by omega) (by omega) (by omega) hc1 hc2 W0 (Hsb0'.out.at 0 rfl) (Hnb0'.out.at 0 rfl))
  Qvn (Qvo (by have:=Hsz0.out;omega) (by have:=Hsz0.out;omega) (by have:=Hsz0.out;omega)) (Below.refl _ _) (fun _=>rfl)
  (SealI w W0 τ b s2 (.slice (some ⟨bm,om,none⟩) 8 cm) bs s) (fun _ _ _=>False) ?hI (fun _ _ _ _ _ hs _ _=>hs) ?h0
  (fun j=>{tmps:=#[.slice (some ⟨b,off,none⟩) 448 c,.int .u64 (s:Int),undef,undef,.slice none 0 0,.pointer (some ⟨w.heap.size,0,none⟩),.pointer (some ⟨s2,0,none⟩),partV b off 448 112 j.1,.slice (some ⟨b,off,none⟩) 448 c,.int .i64 448,.bool false,.int .u64 (s:Int),.slice (some ⟨bm,om,none⟩) 8 cm,.slice (some ⟨b,off,none⟩) 448 c,
    .func (.func 207) #[] #[.pointer (some ⟨s2+1,0,none⟩),.pointer (some ⟨s2+1+1,0,none⟩)],partV b off 448 112 j.1,undef,undef,undef,undef,undef,undef,undef,undef,undef],defers:=[]}) ?assign ?body ?done ?stop
 case hI =>
  rintro pre W W' row ⟨τ',vo,h1,h2,h3,h4,h5,h6,ht1,ht2⟩ hg hr
  have hnc:Qeq W row:=fun r e=>(hr r e).2
  exact⟨τ',vo,h1.turn hg (fun r e=>by have:=(hr r e).1;rw[Hsz0.out] at this;omega),h2.turn hg hnc,h3.turn hg hnc,h4.turn (B:=s2+1+1+1) hg (fun r e=>by have:=(hr r e).1;rw[Hsz0.out] at this;exact this) (by omega) (by omega) (by omega) (by
   have h5:=h4 (s2+1+1) (.inr (.inr rfl))
   have h6:=Hnb0'.out.lt
   have h7:=(Array.getElem?_eq_some_iff.1 (h5.trans (Array.getElem?_eq_getElem h6))).1
   omega),h5.turn hg hnc,h6.turn hg hnc,ht1,ht2⟩
 case h0=>exact⟨_,_,Hst0.out,Hbox0.out,NR.nil _ _ _ _,Keep3.refl _ _ _ _,Hmb0'.out,Hmk0'.out,Hsb0'.out.tag,Hnb0'.out.tag⟩
 case assign =>
  intro l x W K hK
  gi_wp2
  exact hK
 case body =>
  rintro l pre ⟨j,hjN⟩ W ⟨τ',vo,hst,hbox,hnr,hkp,hmb,hmk,ht1,ht2⟩ hlt
  obtain⟨po,co,rfl⟩:=hnr.val
  have hmx:Tryz.prog.follows .mixedOrders=true:=by kernel_rfl
  have c0:=hbox.at 0 rfl
  have z0:=hbox.fz 0
  have cm0:=hmb.at 0 rfl
  have hj4:j<4:=by unfold parts at hjN;omega
  have hpv:partV b off 448 112 j = .slice (some ⟨b,off+j*112,none⟩) 112 112:=by
   unfold partV
   rw[show min 112 (448-j*112)=112 by omega]
  have hpl:=Qdy bs j
  rw[H448.out,show min 112 (448-j*112)=112 by omega] at hpl
  have hbp:Bytes W τ' g (partV b off 448 112 j) (Qcl bs j):=by
   have h1:=H_h.out.step hst (fun h=>h)
   have h2:=H448.out
   have h3:Bytes W τ' g (.slice (some ⟨b,off,none⟩) bs.length c) bs:=by rw[h2];exact h1
   have:=h3.part (b:=b) (off:=off) (fun _=>rfl) 112 j
   rw[h2] at this
   exact this
  rw[hpv] at hbp ⊢
  clear hpv
  have hlx:(sealOf bs s j).length=128:=by unfold sealOf;simp only[List.length_append,Qaa,hpl]
  have hBx:IsB (sealOf bs s j):=by unfold sealOf;exact((Qan s 8).append hbp.isB).append (Qan s 8)
  have hnr128:((pre.map (fun x=>sealOf bs s x.1)).length:Nat)≤1000000000:=by
   rw[List.length_map]
   have:parts 448 112≤1000000:=by unfold parts;omega
   omega
  have hsz3:s2+1+1<W.heap.size:=by
   have h5:=hkp (s2+1+1) (.inr (.inr rfl))
   have h6:=Hnb0'.out.lt
   exact(Array.getElem?_eq_some_iff.1 (h5.trans (Array.getElem?_eq_getElem h6))).1
  have hcb:=hbox.row
  have hcv:=fun k=>hnr.cells (k:=k)
  have hmap:(pre++[(⟨j,hjN⟩:Ql1 448 112)]).map (fun x=>sealOf bs s x.1)=pre.map (fun x=>sealOf bs s x.1)++[sealOf bs s j]:=by simp
  have hst1:=(((Step.refl W τ' nil).alloc (.cells #[Value.slice (some ⟨bm,om,none⟩) 8 cm,Value.slice (some ⟨b,off+j*112,none⟩) 112 112,Value.slice (some ⟨bm,om,none⟩) 8 cm] 37) tBox).drew)
  have hrow:=(Own.new W τ' tBox 37 [Value.slice (some ⟨bm,om,none⟩) 8 cm,Value.slice (some ⟨b,off+j*112,none⟩) 112 112,Value.slice (some ⟨bm,om,none⟩) 8 cm]).drew
  have hmk1:=hmk.step hst1 (fun h=>h)
  have hbp1:=hbp.step hst1 (fun h=>h)
  have hcat:=Qt2 (w:=(W.alloc (.cells #[Value.slice (some ⟨bm,om,none⟩) 8 cm,Value.slice (some ⟨b,off+j*112,none⟩) 112 112,Value.slice (some ⟨bm,om,none⟩) 8 cm] 37)).drew) (τ:=τ'.put W.heap.size tBox) (br:=W.heap.size) (c:=3) (ls:=[leB s 8,Qcl bs j,leB s 8]) (by
   intro i hi
   have hi:i<3:=hi
   rcases (by omega:i=0∨i=1∨i=2) with rfl|rfl|rfl
   ·exact⟨_,hrow.at 0 rfl,_,hmk1⟩
   ·exact⟨_,hrow.at 1 rfl,_,hbp1⟩
   ·exact⟨_,hrow.at 2 rfl,_,hmk1⟩) tData (by simp) (by simp) (by simp[catTo,Qaa];omega) (by simp[catTo,Qaa,hpl])
  have hce:catTo [leB s 8,Qcl bs j,leB s 8] 3=sealOf bs s j:=by simp[catTo,sealOf]
  have hcat':=(callsIn_wide (n:=1)).2 hcat
  have hl3:[leB s 8,Qcl bs j,leB s 8].length=3:=rfl
  rw[hl3,hce] at hcat'
  have hbox1:=hbox.step hst1 (fun h=>h)
  have hnr1:=hnr.step hst1 (fun h=>h) (fun h=>h)
  have hmb1:=hmb.step hst1 (fun h=>h)
  have hsts:=hst.trans hst1
  generalize sealOf bs s j=y at *
  generalize hml:pre.map (fun x=>sealOf bs s x.1)=ls at *
  have hmn:w.heap.size≠W.heap.size:=by have:=hbox.lt;omega
  obtain⟨Hst1,Hmk1⟩:=hid2 hst1 hmk1
  have Hcat':=Lib.hid hcat'
  obtain⟨Hbox1,Hnr1,Hmb1,Hsts,Hlx,HBx,Hnr128,Hcv,Hcb,Hmap,Hkp,Ht1⟩:=hid12 hbox1 hnr1 hmb1 hsts hlx hBx hnr128 hcv hcb hmap hkp ht1
  obtain⟨Ht2,Hsz3⟩:=hid2 ht2 hsz3
  clear hst1 hmk1 hcat' hbox1 hnr1 hmb1 hsts hlx hBx hnr128 hcv hcb hmap hkp ht1 ht2 hsz3 hrow hbp hbp1 hcat hce hl3 hst hbox hnr hmb hmk hpl H_h Hch Hpt H448
  have hodt:tOut≠tData:=by simp[tOut,tData]
  have hbo:¬tBox=tOut:=by simp[tOut,tBox]
  obtain⟨Hbl,Hlw2⟩:=hid2 hbl hlw2
  clear hbl hlw2 Hmb0' Hsb0' Hnb0' Hmk0' Hsz0 Hst0 Hbox0 hbl2 hc1 hc2 h8a h8b hbm hj4 hlt
  gi_wp2
  refine Qm8 (S:=fun w':World=>w'.cell? ⟨w.heap.size,0,none⟩=some (.slice po ls.length co)∧w'.cell? ⟨s2,0,none⟩=some (.slice (some ⟨bm,om,none⟩) 8 cm)) hmx ?_
  have hSS:W.drew.cell? ⟨w.heap.size,0,none⟩=some (.slice po ls.length co)∧W.drew.cell? ⟨s2,0,none⟩=some (.slice (some ⟨bm,om,none⟩) 8 cm):=⟨c0,cm0⟩
  refine Qfg (i:=0) (v:=?_) (by decide +kernel) rfl (by decide +kernel) (by decide +kernel) (by decide +kernel) (by decide +kernel) (fun _ _ _ h=>h) ⟨Or.inl ⟨by rfl,?_⟩,fun _=>rfl⟩ (by assumption) ?_
  rotate_left
  ·intro w hSw
   (try dsimp only at hSw)
   go_simp
   all_goals with_reducible rfl
  try simp only[Act.put]
  try simp only[List.setIfInBounds_toArray]
  try simp only[List.set_cons_succ]
  try simp only[List.set_cons_zero]
  refine Qfg (i:=1) (v:=?_) (by decide +kernel) rfl (by decide +kernel) (by decide +kernel) (by decide +kernel) (by decide +kernel) (fun _ _ _ h=>h) ⟨Or.inl ⟨by rfl,?_⟩,fun _=>rfl⟩ (by assumption) ?_
  rotate_left
  ·intro w hSw
   (try dsimp only at hSw)
   go_simp
   all_goals with_reducible rfl
  try simp only[Act.put]
  try simp only[List.setIfInBounds_toArray]
  try simp only[List.set_cons_succ]
  try simp only[List.set_cons_zero]
  refine Qfg (i:=2) (v:=?_) (by decide +kernel) rfl (by decide +kernel) (by decide +kernel) (by decide +kernel) (by decide +kernel) (fun _ _ _ h=>h) ⟨Or.inl ⟨by rfl,?_⟩,fun _=>rfl⟩ (by assumption) ?_
  rotate_left
  ·intro w hSw
   (try dsimp only at hSw)
   go_simp
   all_goals with_reducible rfl
  try simp only[Act.put]
  try simp only[List.setIfInBounds_toArray]
  try simp only[List.set_cons_succ]
  try simp only[List.set_cons_zero]
  refine Qfg (i:=3) (v:=?_) (by decide +kernel) rfl (by decide +kernel) (by decide +kernel) (by decide +kernel) (by decide +kernel) (fun _ _ _ h=>h) ⟨Or.inl ⟨by rfl,?_⟩,fun _=>rfl⟩ (by assumption) ?_
  rotate_left
  ·intro w hSw
   (try dsimp only at hSw)
   go_simp
   all_goals with_reducible rfl
  try simp only[Act.put]
  try simp only[List.setIfInBounds_toArray]
  try simp only[List.set_cons_succ]
  try simp only[List.set_cons_zero]
  clear hSS
  refine Qe1 (i:=4) (by decide +kernel) rfl (fun K hK=>?_)
  go_simp
  refine hK.out _ _ (fun _=>⟨Hbox1.out.at 0 rfl,Hmb1.out.at 0 rfl⟩) ?_
  clear hK K
  refine Qe1 (i:=5) (by decide +kernel) rfl (fun K hK=>?_)
  go_simp
  gi_wp2_with (refine⟨trivial,?_⟩
               gi_at_call 232
               refine(CallsIn.inRound l Hcat'.out).mono ?_
               rintro e w5 ⟨v5,τ5,rfl,hnb,hs5⟩
               obtain⟨p5,c5,rfl⟩:=hnb.val
               rw[Hlx.out] at hnb ⊢
               have hbox5:=Hbox1.out.step hs5 (fun h=>h)
               have c05:=hbox5.at 0 rfl
               have z05:=hbox5.fz 0
               have hmn5:w.heap.size<w5.heap.size:=hbox5.lt
               have hnr5:=Hnr1.out.step hs5 (fun h=>h) (fun h=>h)
               have hmb5:=Hmb1.out.step hs5 (fun h=>h)
               have hmk5:=Hmk1.out.step hs5 (fun h=>h)
               have hst5:=Hsts.out.trans hs5
               have hsw5:=Hst1.out.trans hs5
               have hb5:=hnb.bytes
               obtain⟨Hnb,Hs5,Hbox5,Hnr5,Hmb5,Hmk5,Hst5,Hsw5,Hb5⟩:=hid9 hnb hs5 hbox5 hnr5 hmb5 hmk5 hst5 hsw5 hb5
               clear hnb hs5 hbox5 hnr5 hmb5 hmk5 hst5 hsw5 hb5)
  refine hK.out _ _ (fun _=>⟨c05,Hmb5.out.at 0 rfl⟩) ?_
  clear hK K
  refine Qe1 (i:=6) (by decide +kernel) rfl (fun K hK=>?_)
  go_simp
  refine hK.out _ _ (fun _=>⟨(Hbox5.out.alloc _).at 0 rfl,(Hmb5.out.alloc _).at 0 rfl⟩) ?_
  clear hK K
  refine Qe1 (i:=7) (by decide +kernel) rfl (fun K hK=>?_)
  refine Qih Hst5.out hodt Hnr5.out Hb5.out Hlx.out Hnr128.out rfl rfl _ _ rfl rfl rfl ?_
  intro v6 w6 τ6 hnr6 hs6 hW6 hM6
  obtain⟨p6,c6,rfl⟩:=hnr6.val
  have hbox6:=Hbox5.out.step hW6 hbo
  have c06:=hbox6.at 0 rfl
  have z06:=hbox6.fz 0
  have htag6:=hbox6.tag
  have hmb6:=Hmb5.out.step hW6 hbo
  have cm6:=hmb6.at 0 rfl
  have hmk6:=Hmk5.out.step hW6 (fun h=>hodt h.symm)
  obtain⟨Hnr6,Hs6,HW6,HM6,Hbox6,Htag6,Hmb6,Hmk6⟩:=hid8 hnr6 hs6 hW6 hM6 hbox6 htag6 hmb6 hmk6
  clear hnr6 hs6 hW6 hM6 hbox6 htag6 hmb6 hmk6
  refine hK.out _ _ (fun _=>⟨c06,cm6⟩) ?_
  clear hK K
  refine Qe1 (i:=8) (by decide +kernel) rfl (fun K hK=>?_)
  go_simp
  refine hK.out _ _ (fun h=>absurd h (by decide +kernel)) ?_
  clear hK K
  refine Qp1 (by kernel_rfl) ?_ _
  have hmW:Mod W w6 (fun k=>(Value.slice po ls.length co).ownBlock=some k):=(Hsw5.out.no.mono (fun _ _ h=>h.elim)).seq HM6.out (fun _ _ h=>h)
  have hmW':Mod W (w6.setCell ⟨w.heap.size,0,none⟩ (.slice p6 (ls.length+1) c6)) (fun k=>k=w.heap.size∨(Value.slice po ls.length co).ownBlock=some k):=(hmW.mono (fun _ _ h=>.inr h)).setCell (p:=⟨w.heap.size,0,none⟩) (fun _=>.inl rfl) _
  have heW:Ext W τ' τ6:=Hsw5.out.ext.trans HW6.out.ext Hsw5.out.size
  have hlen:(ls++[y]).length=ls.length+1:=by simp
  have hq:Step w6 τ6 (w6.setCell ⟨w.heap.size,0,none⟩ (.slice p6 (ls.length+1) c6)) τ6 (fun t=>t=tBox):=(Step.refl w6 τ6 (fun t=>t=tBox)).set (o:=0) Htag6.out rfl _
  have hnr7:=Hnr6.out.step hq (fun h=>by simp[tOut,tBox] at h) (fun h=>by simp[tData,tBox] at h)
  have hmk7:=Hmk6.out.step hq (fun h=>by simp[tData,tBox] at h)
  have hmb7:=Hmb6.out.set_ne (p:=⟨w.heap.size,0,none⟩) (by have:=Hlw2.out;show s2≠w.heap.size;omega) (.slice p6 (ls.length+1) c6)
  rw[hlen] at hnr7
  have hk3:Keep3 b (s2+1) (s2+1+1) W (w6.setCell ⟨w.heap.size,0,none⟩ (.slice p6 (ls.length+1) c6)):=by
   intro k hk
   have h3:=Hsz3.out
   have h4:=Hbl.out
   have h5:=Hlw2.out
   refine hmW'.block k (by omega) ?_
   rintro(h|h)
   ·omega
   ·obtain⟨h1,h2,_⟩:=Hcv.out k h
    have hn1:k≠s2+1:=fun e=>by rw[e,Ht1.out] at h1;simp[tBox,tOut] at h1
    have hn2:k≠s2+1+1:=fun e=>by rw[e,Ht2.out] at h1;simp[tBox,tOut] at h1
    omega
  refine⟨Qh4 hmW' ?_,hk3,τ6,.slice p6 (ls.length+1) c6,Hs6.out.setNew (Nat.le_refl _) _,Hbox6.out.set 0 _,?_,Hkp.out.trans hk3,hmb7,hmk7,?_,?_⟩
  ·rintro k o (rfl|hk) ho
   ·rw[Hcb.out] at ho;cases ho;rfl
   ·obtain⟨_,_,xs,hx⟩:=Hcv.out k hk
    rw[hx] at ho;cases ho;rfl
  ·rw[Hmap.out];exact hnr7
  ·rw[heW _ (by have:=Hsz3.out;omega)];exact Ht1.out
  ·rw[heW _ (by have:=Hsz3.out;omega)];exact Ht2.out
 case done =>
  rintro D ys W hD hys ⟨τ',vo,hst,hbox,hnr,hkp,hmb,hmk,ht1,ht2⟩ hK
  have hys2:ys.map (fun x=>sealOf bs s x.1)=sealAll bs s:=by
   have h1:ys.map (fun x=>sealOf bs s x.1)=(ys.map (fun x=>x.1)).map (sealOf bs s):=by rw[List.map_map];rfl
   rw[h1,hys];rfl
  rw[hys2] at hnr
  clear hys hys2
  obtain⟨po,co,rfl⟩:=hnr.val
  have c0:=hbox.at 0 rfl
  obtain⟨Hst,Hnr,HK⟩:=hid3 hst hnr hK
  clear hst hnr hK
  gi_wp2
  refine⟨by simp,.inl ⟨_,_,rfl,run_takeDeferred HK.out,?_⟩⟩
  have hg:=grownBy_putObj' W D (.deferred none)
  have hnc:Qeq W (some D):=fun r e=>by cases e;exact⟨_,HK.out,rfl⟩
  have hl:(sealAll bs s).length=4:=by simp[sealAll]
  exact⟨_,results_tmp rfl _ _ _,.slice po (sealAll bs s).length co,τ',by first|rfl|(rw[hl];rfl),Hnr.out.turn hg hnc,Hst.out.turn hg (fun r e=>by cases e;have:=Hsz0.out;omega)⟩
 case stop =>
  rintro D c pre W _ _ h _
  exact h.elim
end Go.Proofs.YtemacanaihaldaaGreat
namespace Go.Proofs.YtemacanaihaldaaGreat
open Go.RowKit
theorem Qet (b:List Int) (s:Nat):(sealAll b s).length=4:=by simp[sealAll]
theorem Qqk (b:List Int) (s i:Nat) (hi:i<4):(sealAll b s).getD i []=sealOf b s i:=by
 unfold sealAll
 rw[List.getD_eq_getElem?_getD,List.getElem?_map,List.getElem?_range hi];rfl
theorem Qii (b:List Int) (s i:Nat) (hs:s<2 ^ 64):lowMark (sealOf b s i)=s:=by
 unfold lowMark sealOf
 rw[List.drop_zero,List.append_assoc,List.take_append_of_le_length (by rw[Qaa];omega),List.take_of_length_le (by rw[Qaa];omega),Qdl s 8 8 (Nat.le_refl _)]
 exact Nat.mod_eq_of_lt hs
theorem Qkm {b:List Int}(hb:b.length=448) (s i:Nat) (hi:i<4) (hs:s<2 ^ 64):highMark (sealOf b s i)=s:=by
 have hl:(leB s 8++Qcl b i).length=120:=by
  rw[List.length_append,Qaa,Qdy,hb];omega
 unfold highMark sealOf
 rw[List.drop_append_of_le_length (by rw[hl];exact Nat.le_refl _),List.drop_eq_nil_of_le (by rw[hl];exact Nat.le_refl _),List.nil_append,List.take_of_length_le (by rw[Qaa];omega),Qdl s 8 8 (Nat.le_refl _)]
 exact Nat.mod_eq_of_lt hs
theorem Qqj {b:List Int}(hb:b.length=448) (s i:Nat) (hi:i<4):((sealOf b s i).drop 8).take (120-8)=Qcl b i:=by
 have hp:(Qcl b i).length=112:=by rw[Qdy,hb];omega
 unfold sealOf
 rw[List.append_assoc,List.drop_append_of_le_length (by rw[Qaa];omega),List.drop_eq_nil_of_le (by rw[Qaa];omega),List.nil_append,List.take_append_of_le_length (by omega),List.take_of_length_le (by omega)]
theorem Qs6 {b:List Int}(hb:b.length=448) (s:Nat) (hs:s<2 ^ 64):Qb3 (sealAll b s)=true∧sealStamp (sealAll b s)=s∧Qjt (sealAll b s)=b∧greatTo (sealAll b s) 4=s:=by
 have g:=fun i (hi:i<4)=>Qqk b s i hi
 have hst:sealStamp (sealAll b s)=s:=by
  unfold sealStamp
  rw[g 0 (by omega),Qii b s 0 hs]
 refine⟨?_,hst,?_,?_⟩
 ·unfold Qb3
  rw[hst]
  have key:∀i,i≤4→okTo (sealAll b s) s i=true:=by
   intro i
   induction i with
   | zero=>intro _;rfl
   | succ i ih =>
     intro hi
     rw[Qh0,ih (by omega),Bool.true_and,g i (by omega),Qii b s i hs,Qkm hb s i (by omega) hs]
     simp
  exact key 4 (Nat.le_refl _)
 ·have key:∀i,i≤4→Qcu (sealAll b s) i=b.take (i*112):=by
   intro i
   induction i with
   | zero=>intro _;simp[Qcu]
   | succ i ih =>
     intro hi
     show Qcu (sealAll b s) i++_=_
     rw[ih (by omega),g i (by omega),Qqj hb s i (by omega)]
     unfold Qcl
     rw[show (i+1)*112=i*112+112 by omega,List.take_add]
  show Qcu (sealAll b s) 4=b
  rw[key 4 (Nat.le_refl _),List.take_of_length_le (by omega)]
 ·have key:∀i,i≤4→greatTo (sealAll b s) i=if i=0 then 0 else s:=by
   intro i
   induction i with
   | zero=>intro _;rfl
   | succ i ih =>
     intro hi
     show max (max (greatTo (sealAll b s) i) (lowMark ((sealAll b s).getD i []))) (highMark ((sealAll b s).getD i []))=_
     rw[ih (by omega),g i (by omega),Qii b s i hs,Qkm hb s i (by omega) hs,if_neg (show ¬i+1=0 by omega)]
     by_cases h0:i=0
     ·rw[if_pos h0];omega
     ·rw[if_neg h0];omega
  rw[key 4 (Nat.le_refl _),if_neg (by omega)]
end Go.Proofs.YtemacanaihaldaaGreat