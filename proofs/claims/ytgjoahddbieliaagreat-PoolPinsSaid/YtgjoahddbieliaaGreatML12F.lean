/-
  PoolPins, walked.
-/
import Derived.Test.YtgjoahddbieliaaGreatML12D
import Derived.Test.YtgjoahddbieliaaGreatML12E
namespace Go.Proofs.YtgjoahddbieliaaGreat
open Go.RowKit
set_option linter.unusedVariables false

theorem world_pool {g : Tag} (h : PoolTag g) : g ≠ tWorld := fun e => by have := h.fst; rw [e, tWorld_fst] at this; omega
set_option maxHeartbeats 4000000 in
set_option maxRecDepth 100000 in
theorem law_pins (w : World) (fr : Nat) (hfr : fr < 256) : Calls Tryz.prog 3 #[.int .u8 (fr : Int)] w fun e w' => e = .returned (.bool true) ∧ Below w.heap.size w w' := by
  have hmd := made_yes w fr hfr
  have hk3 : 3 ≤ 3 + fr % 5 ∧ 3 + fr % 5 ≤ 7 := by omega
  generalize 3 + fr % 5 = k at *
  have Hmd := Lib.hid hmd
  clear hmd
  go_enter Tryz.func3, Tryz.ntmps3
  go_wp2_with fail
  refine Hmd.out.mono ?_
  rintro e w1 ⟨bw, bd, bl, bp, bf, τ1, was, H, L, rfl, hM, hHn, hst1⟩
  have hkn := known_yes w1
  have HM := Lib.hid hM
  have HHn := Lib.hid hHn
  have Hst1 := Lib.hid hst1
  have Hkn := Lib.hid hkn
  clear hM hHn hst1 hkn
  go_wp2_with fail
  refine Hkn.out.mono ?_
  rintro e w2 ⟨rfl, hm2⟩
  have hs2 : Step w1 τ1 w2 τ1 nil := Step.of nil hm2 (Ext.refl _ _)
  have hM2 := HM.out.step hs2
  have hst2 := Hst1.out.trans (hs2.mono (T := AnyTag) (fun _ h => h.elim))
  obtain ⟨pw, cw, rfl⟩ := hM2.was.val
  have c3 := hM2.own.at 3 (v := .int .i64 (k : Int)) rfl
  have c4 := hM2.own.at 4 (v := .slice pw 8 cw) rfl
  have hmin : min (k : Int) 7 = (k : Int) := by omega
  have hwu : IntKind.u32.wrap (k : Int) = (k : Int) := u32_wrap' k (by omega)
  have hF0 := FirstF.start k
  have HM2 := Lib.hid hM2
  have Hst2 := Lib.hid hst2
  have HF0 := Lib.hid hF0
  clear hM2 hst2 hF0
  clear hs2 hm2
  go_wp2_with fail
  go_quiet (fail)
  have hMq := HM2.out.step ((Step.refl w2 τ1 nil).drews nq)
  have hstq := Hst2.out.drews nq
  have HMq := Lib.hid hMq
  have Hstq := Lib.hid hstq
  clear hMq hstq
  generalize w2.drewN nq = w3 at *
  clear HM2 Hst2 c3 c4 HM Hst1
  have hk5 : (k : Int) ≤ 7 := by omega
  have hpl : PoolW w3 τ1 bp bf bd H L mdD (List.replicate k Fr.no) (allS k 0) := HMq.out.pool
  have how := HMq.out.own
  have Hpl := Lib.hid hpl
  have How := Lib.hid how
  clear hpl how
  clear HMq
  go_wp2_with fail
  go_loopw [5] (fun v wr => ∃ (i : Nat) (τr : Tags) (F : List Fr), i ≤ k ∧ v = .int .u32 (i : Int) ∧ Own wr τr bw tWorld 31 [.pointer (some ⟨bd, 0, none⟩), .pointer (some ⟨bl, 0, none⟩), .pointer (some ⟨bp, 0, none⟩), .int .i64 (k : Int), .slice pw 8 cw] ∧ PoolW wr τr bp bf bd H L mdD F (allS k i) ∧ FirstF k i F ∧ Step w (fun _ => tBox) wr τr AnyTag) (fun v _ => k - (intOf v).toNat)
  case atStart => exact ⟨0, τ1, _, Nat.zero_le _, rfl, How.out, Hpl.out, HF0.out, Hstq.out⟩
  case round =>
    clear How Hpl HF0 Hstq
    obtain ⟨i, τr, F, hi, rfl, ht, hP, hF, hst⟩ := hrel
    have c2 := ht.at 2 (v := .pointer (some ⟨bp, 0, none⟩)) rfl
    have c3 := ht.at 3 (v := .int .i64 (k : Int)) rfl
    by_cases hlt : i < k
    · have hone := hP.pool.one
      have hno := hF.no i (Nat.le_refl _) hlt
      have hpk := allS_pick k (by omega) i hlt
      have hg := get_blank hP i (by rw [HHn.out]; omega) (by rw [mdD_f1len]; omega) (mdD_blank i (by omega)) hpk.1 hpk.2 hno (fun h => by cases h) (hF.not hone i (Nat.le_refl _)) (fun q => Nat.le_trans (allS_bound k i q) (by omega))
      have hi3 : (i : Int) < (k : Int) := by omega
      have hwu2 : IntKind.u32.wrap ((i : Int) + 1) = (i : Int) + 1 := by
        have : IntKind.u32.wrap ((i : Int) + 1) = ((i : Int) + 1) % 4294967296 := by simp [IntKind.wrap, IntKind.bits, IntKind.signed]
        rw [this]; omega
      have Hg := Lib.hid hg
      have Ht := Lib.hid ht
      have Hst := Lib.hid hst
      have HF := Lib.hid hF
      clear hg ht hst hF
      clear hP hone hno hpk
      go_wp2_with fail
      refine Hg.out.mono ?_
      rintro e w4 ⟨b, τ2, rfl, hP2, hs2⟩
      have ht2 := Ht.out.step hs2 (fun h => world_pool h rfl)
      have hF2 := HF.out.next hlt b
      have hst2 := Hst.out.trans (hs2.mono (fun _ h => pool_any h))
      have Ht2 := Lib.hid ht2
      have HF2 := Lib.hid hF2
      have Hst2 := Lib.hid hst2
      have HP2 := Lib.hid hP2
      clear ht2 hF2 hst2 hP2
      clear hs2
      go_wp2_with fail
      go_round
      case rel =>
        have h1 := Ht2.out
        have h2 := HP2.out
        have h3 := HF2.out
        have h4 := Hst2.out
        first
          | exact ⟨i + 1, τ2, _, by omega, by simp, h1, h2, h3, h4⟩
          | exact ⟨i + 1, by omega, by simp, τ2, _, h1, h2, h3, h4⟩
          | exact ⟨i + 1, by omega, τ2, _, h1, h2, h3, h4⟩
          | exact ⟨i + 1, by omega, τ2, h1, ⟨_, h2, h3⟩, h4⟩
          | exact ⟨i + 1, by omega, by simp, τ2, h1, ⟨_, h2, h3⟩, h4⟩
      case measure => simp [intOf]; omega
    · obtain rfl : i = k := by omega
      have hk1 := allS_full i (by omega)
      have hk2 := allS_put i (by omega) (by omega)
      have hk3 := allS_again i (by omega) (by omega)
      have hk4 := allS_bound i i
      generalize allS i i = s at *
      have hbd : ∀ q, (Ck.Clk.pickS s).p q ≤ 1000000 := fun q => Nat.le_trans ((pins_bound _ _ hk4 0).2.2.2.1 q) (by omega)
      have hbd2 : ∀ q, (Ck.Clk.unpinS (Ck.Clk.pickS s) 1).p q ≤ 1000000 := fun q => Nat.le_trans ((pins_bound _ _ ((pins_bound _ _ hk4 0).2.2.2.1) 1).2.2.2.2 q) (by omega)
      obtain ⟨b1, hf1⟩ := hF.has 1 (by omega)
      have hlen := hF.len
      have hg := get_full hP.pool i (by rw [HHn.out]; omega) (hF.not hP.pool.one i (Nat.le_refl _)) hk1
      have hw1 := hF.yes hP.pool.one 1 (by omega)
      have hwk := hF.not hP.pool.one i (Nat.le_refl _)
      have Hg := Lib.hid hg
      have Ht := Lib.hid ht
      have Hst := Lib.hid hst
      have Hf1 := Lib.hid hf1
      have Hlen := Lib.hid hlen
      have HP := Lib.hid hP
      have Hw1 := Lib.hid hw1
      have Hwk := Lib.hid hwk
      have Hk2 := Lib.hid hk2
      have Hk3 := Lib.hid hk3
      have Hbd := Lib.hid hbd
      have Hbd2 := Lib.hid hbd2
      clear hg ht hst hf1 hlen hP hw1 hwk hk2 hk3 hbd hbd2
      clear hk1 hk4 hF
      go_wp2_with fail
      refine Hg.out.mono ?_
      rintro e w4 ⟨rfl, hp4, hs4⟩
      have hP4 := HP.out.turn hp4 hs4
      have ht4 := Ht.out.step hs4 (fun h => world_pool h rfl)
      have hst4 := Hst.out.trans (hs4.mono (fun _ h => pool_any h))
      have hp := put_zero hP4.pool 1 (by omega) Hw1.out (by rw [Hlen.out]; omega) Hbd.out
      rw [show ((1 : Nat) : Int) = 1 from rfl] at hp
      have hv : (decide (Ck.Clk.pinsV (Ck.Clk.pickS s) 1 ≠ 0) && Ck.Clk.unpinB (Ck.Clk.pickS s) 1) = true := by rw [Hk2.out.2, decide_eq_true Hk2.out.1]; rfl
      rw [hv, if_neg Hk2.out.1] at hp
      have d2 := ht4.at 2 (v := .pointer (some ⟨bp, 0, none⟩)) rfl
      have HP4 := Lib.hid hP4
      have Ht4 := Lib.hid ht4
      have Hst4 := Lib.hid hst4
      have Hp := Lib.hid hp
      clear hP4 ht4 hst4 hp
      clear hp4 hs4 hv c2
      go_wp2_with fail
      refine Hp.out.mono ?_
      rintro e w5 ⟨rfl, hp5, hs5⟩
      have hs5' := hs5.mono (T := PoolTag) (fun _ h => clk_pool h)
      have hP5 := HP4.out.turn hp5 hs5'
      have ht5 := Ht4.out.step hs5' (fun h => world_pool h rfl)
      have hst5 := Hst4.out.trans (hs5'.mono (fun _ h => pool_any h))
      have hg2 := get_blank hP5 i (by rw [HHn.out]; omega) (by rw [mdD_f1len]; omega) (mdD_blank i (by omega)) Hk3.out.1 Hk3.out.2 Hf1.out (fun _ => ⟨rfl, by show (1 : Nat) < _; omega⟩) Hwk.out Hbd2.out
      have e2 := ht5.at 2 (v := .pointer (some ⟨bp, 0, none⟩)) rfl
      have HP5 := Lib.hid hP5
      have Ht5 := Lib.hid ht5
      have Hst5 := Lib.hid hst5
      have Hg2 := Lib.hid hg2
      clear hP5 ht5 hst5 hg2
      clear hp5 hs5 hs5' d2
      go_wp2_with fail
      refine Hg2.out.mono ?_
      rintro e w6 ⟨b6, τ6, rfl, hP6, hs6⟩
      have ht6 := Ht5.out.step hs6 (fun h => world_pool h rfl)
      have hst6 := Hst5.out.trans (hs6.mono (fun _ h => pool_any h))
      have hno1 : whereOf (F.set 1 ⟨some (b6, emptyPage i), i, 0⟩) 1 = none := by
        cases hw : whereOf (F.set 1 ⟨some (b6, emptyPage i), i, 0⟩) 1 with
        | none => rfl
        | some j =>
          obtain ⟨f, hf, hh⟩ := (whereOf_iff hP6.pool.one 1 j).1 hw
          rw [List.getElem?_set] at hf
          split at hf
          · split at hf
            · cases hf
              simp only [Fr.has, Bool.and_eq_true, beq_iff_eq] at hh
              omega
            · cases hf
          · rename_i hne
            have := HP.out.pool.one j 1 1 f _ hf Hf1.out hh (by simp [Fr.has])
            exact absurd this.symm hne
      have hp2 := put_none hP6.pool 1 0 (by omega) hno1
      rw [show ((1 : Nat) : Int) = 1 from rfl, show ((0 : Nat) : Int) = 0 from rfl] at hp2
      have f2 := ht6.at 2 (v := .pointer (some ⟨bp, 0, none⟩)) rfl
      have Hst6 := Lib.hid hst6
      have Hp2 := Lib.hid hp2
      clear hst6 hp2
      clear hs6 hP6 ht6 hno1 e2
      go_wp2_with fail
      refine Hp2.out.mono ?_
      rintro e w' ⟨rfl, rfl⟩
      go_wp2_with fail
      go_ret
      exact ⟨rfl, (any_mod Hst6.out).below⟩
end Go.Proofs.YtgjoahddbieliaaGreat
