/-
  A log and a pool, and the document's: Make of the chapter's example.
-/
import Derived.Test.YtgjoahddbieliaaGreatML12
import Derived.Test.YtgjoahddbieliaaGreatML12B
namespace Go.Proofs.YtgjoahddbieliaaGreat
open Go.RowKit
set_option linter.unusedVariables false

theorem tTwo_fst : tTwo.1 = 70 := rfl
theorem knD0_len : knD0.f0.length = 18 := List.length_replicate
theorem knD0_lim : knD0.lim 0 := new_lim 18 20
theorem knD_len0 : knD.f0.length ≤ 4096 → True := fun _ => trivial
set_option maxHeartbeats 4000000 in
set_option maxRecDepth 100000 in
theorem make_known (w : World) : Calls Tryz.prog 29 #[.int .i64 8, .int .i64 4, .int .i64 3] w fun e w' => ∃ (bt bf : Nat) (τ' : Tags) (T : TwoH) (H : PoolH) (HR : RPoolH) (L : LogM), e = .returned (.tuple #[.pointer (some ⟨bt, 0, none⟩), .int .i64 1]) ∧ TwoW w' τ' bt bf T H HR L knD (Ck.Clk.newS 3) ∧ T.n = 4 ∧ T.k = 3 ∧ Step w (fun _ => tBox) w' τ' AnyTag := by
  have hnd : Calls Tryz.prog 41 #[.int .i64 18, .int .i64 20] w (NewD w (fun _ => tBox) 18 20) := newdev_any w (fun _ => tBox) 18 20 (by omega) (by omega)
  obtain ⟨L0, hL0⟩ : ∃ L0, walNewLog knD0.f0.length = L0 := ⟨_, rfl⟩
  have hK : walNewDev knD0 = knD := rfl
  have Hnd := Lib.hid hnd
  have HL0 := Lib.hid hL0
  have HK := Lib.hid hK
  clear hnd hL0 hK
  go_enter Tryz.func29, Tryz.ntmps29
  go_wp2_with fail
  refine Hnd.out.mono ?_
  rintro e w1 ⟨bd, rfl, hlow1, τ1, he1, hm1, hd1⟩
  have hd1' : DevAt w1 τ1 bd knD0 := hd1
  have hs1 : Step w (fun _ => tBox) w1 τ1 AnyTag := Step.of _ hm1 he1
  have hne : Calls Tryz.prog 74 #[.int .i64 18, .int .i64 20] w1 fun e w' => ∃ bd τ', e = .returned (.pointer (some ⟨bd, 0, none⟩)) ∧ w1.heap.size ≤ bd ∧ RDevAt w' τ' bd knD0 ∧ Step w1 τ1 w' τ' RDevTag := r5new w1 τ1 18 20 (by omega) (by omega)
  have Hd1' := Lib.hid hd1'
  have Hs1 := Lib.hid hs1
  have Hne := Lib.hid hne
  clear hd1' hs1 hne
  clear hd1 he1 hm1
  go_wp2_with fail
  refine Hne.out.mono ?_
  rintro e w2 ⟨be, τ2, rfl, hlow2, he2, hs2⟩
  have hd2 := Hd1'.out.step hs2 (fun g hg => ⟨fun k => by have := hg.fst; have := k.fst; omega, fun k => by have := hg.fst; rw [k, tData_fst] at this; omega⟩)
  have hst2 := Hs1.out.trans (hs2.mono (T := AnyTag) (fun g hg => by have := hg.fst; show g.1 ≠ 90; omega))
  have ho3 := Own.new w2 τ2 tTwo 72 [.pointer (some ⟨bd, 0, none⟩), .pointer (some ⟨be, 0, none⟩), .pointer none, .pointer none, .pointer none, .pointer none, .int .i64 4, .int .i64 3]
  have hq3 := (Step.refl w2 τ2 nil).alloc (.cells ⟨[.pointer (some ⟨bd, 0, none⟩), .pointer (some ⟨be, 0, none⟩), .pointer none, .pointer none, .pointer none, .pointer none, .int .i64 4, .int .i64 3]⟩ 72) tTwo
  have hd3 := hd2.step hq3 (fun _ h => h.elim)
  have he3 := he2.step hq3 (fun _ h => h.elim)
  have hst3 := hst2.trans (hq3.mono (T := AnyTag) (fun _ h => h.elim))
  generalize τ2.put w2.heap.size tTwo = τ3 at *
  obtain ⟨bt, hbt⟩ : ∃ bt, w2.heap.size = bt := ⟨_, rfl⟩
  rw [hbt] at ho3
  have hlow3 : w.heap.size ≤ bt := by rw [← hbt]; exact hst2.size
  have Ho3 := Lib.hid ho3
  have Hd3 := Lib.hid hd3
  have He3 := Lib.hid he3
  have Hst3 := Lib.hid hst3
  have Hbt := Lib.hid hbt
  clear ho3 hd3 he3 hst3 hbt
  clear hd2 he2 hs2 hst2 hq3
  go_wp2_with fail
  rw [Hbt.out]
  generalize w2.alloc (.cells #[.pointer (some ⟨bd, 0, none⟩), .pointer (some ⟨be, 0, none⟩), .pointer none, .pointer none, .pointer none, .pointer none, .int .i64 4, .int .i64 3] 72) = w3 at *
  have hnew := walnew_yes Hd3.out (by rw [knD0_len]; exact Nat.le_refl _) (Dev.lim_mono knD0_lim (by omega))
  rw [HL0.out, HK.out] at hnew
  have c0 := Ho3.out.at 0 (v := .pointer (some ⟨bd, 0, none⟩)) rfl
  have c1 := Ho3.out.at 1 (v := .pointer (some ⟨be, 0, none⟩)) rfl
  have Hnew := Lib.hid hnew
  clear hnew
  go_wp2_with fail
  refine Hnew.out.mono ?_
  rintro e w4 ⟨bl, τ4, rfl, -, hl4, hd4, hs4⟩
  have ho4 := Ho3.out.step hs4 (fun k => by have := k.fst; rw [tTwo_fst] at this; omega)
  have he4 := He3.out.step hs4 (fun g hg => ⟨fun k => by have := hg.fst; have := k.fst; omega, fun k => by have := hg.fst; rw [k, tData_fst] at this; omega⟩)
  have hst4 := Hst3.out.trans (hs4.mono (T := AnyTag) (fun g hg => by have := hg.fst; show g.1 ≠ 90; omega))
  have hrn := r8new_yes he4 (by rw [knD0_len]; exact Nat.le_refl _) (Dev.lim_mono knD0_lim (by omega))
  rw [HL0.out, HK.out] at hrn
  have d1 := ho4.at 1 (v := .pointer (some ⟨be, 0, none⟩)) rfl
  have Ho4 := Lib.hid ho4
  have Hl4 := Lib.hid hl4
  have Hd4 := Lib.hid hd4
  have Hst4 := Lib.hid hst4
  have Hrn := Lib.hid hrn
  clear ho4 hl4 hd4 hst4 hrn
  clear he4 hs4 c0 c1
  go_wp2_with fail
  refine Hrn.out.mono ?_
  rintro e w5 ⟨br, τ5, rfl, -, hr5, he5, hs5⟩
  have ho5 := Ho4.out.step hs5 (fun k => by have := k.fst; rw [tTwo_fst] at this; omega)
  have hl5 := Hl4.out.step hs5 (fun g hg k => by have := hg.fst; have := k.fst; omega)
  have hd5 := Hd4.out.step hs5 (fun g hg => ⟨fun k => by have := hg.fst; have := k.fst; omega, fun k => by have := hg.fst; rw [k, tData_fst] at this; omega⟩)
  have hst5 := Hst4.out.trans (hs5.mono (T := AnyTag) (fun g hg => by have := hg.fst; show g.1 ≠ 90; omega))
  have c2 := ho5.at 2 (v := .pointer none) rfl
  have z2 := ho5.fz 2
  have c3 := ho5.at 3 (v := .pointer none) rfl
  have z3 := ho5.fz 3
  have ho6 := (ho5.set 2 (.pointer (some ⟨bl, 0, none⟩))).set 3 (.pointer (some ⟨br, 0, none⟩))
  have hq6 : Step w5 τ5 ((w5.setCell ⟨bt, 2, none⟩ (.pointer (some ⟨bl, 0, none⟩))).setCell ⟨bt, 3, none⟩ (.pointer (some ⟨br, 0, none⟩))) τ5 (fun t => t = tTwo) := ((Step.refl w5 τ5 (fun t => t = tTwo)).set (o := 2) ho5.tag rfl _).set (o := 3) (ho5.set 2 (.pointer (some ⟨bl, 0, none⟩))).tag rfl _
  have hl6 := hl5.step hq6 (fun g hg k => by have := hg.fst; rw [k, tTwo_fst] at this; omega)
  have hr6 := hr5.step hq6 (fun g hg k => by have := hg.fst; rw [k, tTwo_fst] at this; omega)
  have hd6 := hd5.step hq6 (fun g hg => ⟨fun k => by have := k.fst; rw [hg, tTwo_fst] at this; omega, fun k => by rw [hg] at k; cases k⟩)
  have he6 := he5.step hq6 (fun g hg => ⟨fun k => by have := k.fst; rw [hg, tTwo_fst] at this; omega, fun k => by rw [hg] at k; cases k⟩)
  have hst6 := hst5.trans (hq6.mono (T := AnyTag) (fun g hg => by show g.1 ≠ 90; rw [hg]; decide))
  have Ho6 := Lib.hid ho6
  have Hl6 := Lib.hid hl6
  have Hr6 := Lib.hid hr6
  have Hd6 := Lib.hid hd6
  have He6 := Lib.hid he6
  have Hst6 := Lib.hid hst6
  clear ho6 hl6 hr6 hd6 he6 hst6
  clear hl5 hr5 hd5 he5 hs5 hst5 ho5 hq6
  go_wp2_with fail
  generalize (w5.setCell ⟨bt, 2, none⟩ (.pointer (some ⟨bl, 0, none⟩))).setCell ⟨bt, 3, none⟩ (.pointer (some ⟨br, 0, none⟩)) = w6 at *
  have hpn : Calls Tryz.prog 26 #[.pointer (some ⟨bl, 0, none⟩), .int .i64 4, .int .i64 3] w6 fun e w' => ∃ bp bf τ' H, e = .returned (.tuple #[.pointer (some ⟨bp, 0, none⟩), .int .u16 0]) ∧ PoolAt w' τ' bp bf H (List.replicate 3 Fr.no) (Ck.Clk.newS 3) ∧ H.bl = bl ∧ H.n = 4 ∧ H.st = stampTo knD (4 + 1) ∧ w6.heap.size ≤ bp ∧ Step w6 τ5 w' τ' nil :=
    poolnew_yes Hl6.out Hd6.out 4 3 (by omega) (by omega) (by omega) (by omega) (by rw [knD_f1len]; omega) (fun i hi => by rw [knD_blank i (by omega)]; exact blank_ok)
  have Hpn := Lib.hid hpn
  clear hpn
  clear c2 z2 c3 z3 d1
  go_wp2_with fail
  refine Hpn.out.mono ?_
  rintro e w7 ⟨bp, bf, τ7, H, rfl, hp7, hHl, hHn, -, -, hs7⟩
  have ho7 := Ho6.out.step hs7 (fun h => h)
  have hl7 := Hl6.out.step hs7 (fun _ _ h => h)
  have hr7 := Hr6.out.step hs7 (fun _ _ h => h)
  have hd7 := Hd6.out.step hs7 (fun _ h => h.elim)
  have he7 := He6.out.step hs7 (fun _ h => h.elim)
  have hst7 := Hst6.out.trans (hs7.mono (T := AnyTag) (fun _ h => h.elim))
  have hqn : Calls Tryz.prog 77 #[.pointer (some ⟨br, 0, none⟩), .int .i64 4, .int .i64 3] w7 fun e w' => ∃ bp τ' H, e = .returned (.tuple #[.pointer (some ⟨bp, 0, none⟩), .int .i64 0]) ∧ RPoolAt0 w' τ' bp H 3 ∧ H.bl = br ∧ H.n = 4 ∧ H.st = stampTo knD (4 + 1) ∧ w7.heap.size ≤ bp ∧ Step w7 τ7 w' τ' RPoolTag :=
    r12new_yes hr7 he7 4 3 (by omega) (by omega) (by omega) (by omega) (by rw [knD_f1len]; omega) (fun i hi => by rw [knD_blank i (by omega)]; exact blank_ok) (fun i hi => stampTo_lt hd7 i (by rw [knD_f1len]; omega))
  have Ho7 := Lib.hid ho7
  have Hl7 := Lib.hid hl7
  have Hr7 := Lib.hid hr7
  have Hd7 := Lib.hid hd7
  have He7 := Lib.hid he7
  have Hst7 := Lib.hid hst7
  have Hp7 := Lib.hid hp7
  have Hqn := Lib.hid hqn
  have HHl := Lib.hid hHl
  have HHn := Lib.hid hHn
  clear ho7 hl7 hr7 hd7 he7 hst7 hp7 hqn hHl hHn
  clear hs7
  go_wp2_with fail
  refine Hqn.out.mono ?_
  rintro e w8 ⟨bq, τ8, HR, rfl, hq8, -, -, -, -, hs8⟩
  have ho8 := Ho7.out.step hs8 (fun k => by have := k.fst; rw [tTwo_fst] at this; omega)
  have hl8 := Hl7.out.step hs8 (fun g hg k => by have := hg.fst; have := k.fst; omega)
  have hr8 := Hr7.out.step hs8 (fun g hg k => by have := hg.fst; have := k.fst; omega)
  have hd8 := Hd7.out.step hs8 (fun g hg => ⟨fun k => by have := hg.fst; have := k.fst; omega, fun k => by have := hg.fst; rw [k, tData_fst] at this; omega⟩)
  have he8 := He7.out.step hs8 (fun g hg => ⟨fun k => by have := hg.fst; have := k.fst; omega, fun k => by have := hg.fst; rw [k, tData_fst] at this; omega⟩)
  have hp8 := Hp7.out.step hs8 (fun g hg k => by have := hg.fst; have := k.fst; omega)
  have hst8 := Hst7.out.trans (hs8.mono (T := AnyTag) (fun g hg => by have := hg.fst; show g.1 ≠ 90; omega))
  have c4 := ho8.at 4 (v := .pointer none) rfl
  have z4 := ho8.fz 4
  have c5 := ho8.at 5 (v := .pointer none) rfl
  have z5 := ho8.fz 5
  have ho9 := (ho8.set 4 (.pointer (some ⟨bp, 0, none⟩))).set 5 (.pointer (some ⟨bq, 0, none⟩))
  have hq9 : Step w8 τ8 ((w8.setCell ⟨bt, 4, none⟩ (.pointer (some ⟨bp, 0, none⟩))).setCell ⟨bt, 5, none⟩ (.pointer (some ⟨bq, 0, none⟩))) τ8 (fun t => t = tTwo) := ((Step.refl w8 τ8 (fun t => t = tTwo)).set (o := 4) ho8.tag rfl _).set (o := 5) (ho8.set 4 (.pointer (some ⟨bp, 0, none⟩))).tag rfl _
  have hW : TwoW ((w8.setCell ⟨bt, 4, none⟩ (.pointer (some ⟨bp, 0, none⟩))).setCell ⟨bt, 5, none⟩ (.pointer (some ⟨bq, 0, none⟩))) τ8 bt bf ⟨bd, be, bl, br, bp, bq, 4, 3⟩ H HR L0 knD (Ck.Clk.newS 3) :=
    ⟨ho9, hl8.step hq9 (fun g hg k => by have := hg.fst; rw [k, tTwo_fst] at this; omega), hr8.step hq9 (fun g hg k => by have := hg.fst; rw [k, tTwo_fst] at this; omega),
      hd8.step hq9 (fun g hg => ⟨fun k => by have := k.fst; rw [hg, tTwo_fst] at this; omega, fun k => by rw [hg] at k; cases k⟩), he8.step hq9 (fun g hg => ⟨fun k => by have := k.fst; rw [hg, tTwo_fst] at this; omega, fun k => by rw [hg] at k; cases k⟩),
      hp8.step hq9 (fun g hg k => by have := hg.fst; rw [k, tTwo_fst] at this; omega), hq8.step hq9 (fun g hg k => by have := hg.fst; rw [k, tTwo_fst] at this; omega), HHl.out, HHn.out, ⟨by show 0 < 3; omega, by show 3 ≤ 64; omega⟩⟩
  have hst9 := hst8.trans (hq9.mono (T := AnyTag) (fun g hg => by show g.1 ≠ 90; rw [hg]; decide))
  have hal := alike12 hW
  have HW := Lib.hid hW
  have Hst9 := Lib.hid hst9
  have Hal := Lib.hid hal
  clear hW hst9 hal
  clear ho8 hl8 hr8 hd8 he8 hp8 hq8 hs8 hst8 ho9 hq9
  go_wp2_with fail
  generalize (w8.setCell ⟨bt, 4, none⟩ (.pointer (some ⟨bp, 0, none⟩))).setCell ⟨bt, 5, none⟩ (.pointer (some ⟨bq, 0, none⟩)) = w9 at *
  refine Hal.out.mono ?_
  rintro e w10 ⟨rfl, τ10, hs10⟩
  have Hs10 := Lib.hid hs10
  clear hs10
  clear c4 z4 c5 z5
  go_wp2_with fail
  go_ret2
  exact ⟨bt, bf, τ10, _, H, HR, L0, rfl, HW.out.step Hs10.out, rfl, rfl, Hst9.out.trans (Hs10.out.mono (T := AnyTag) (fun _ h => h.elim))⟩
end Go.Proofs.YtgjoahddbieliaaGreat
