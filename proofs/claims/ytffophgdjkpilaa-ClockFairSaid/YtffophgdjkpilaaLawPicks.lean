/-
  ClockPicks returns true, whatever the arguments.
-/
import Derived.Test.YtffophgdjkpilaaRun
namespace Go.Proofs.Ytffophgdjkpilaa
open Go.RowKit Clk
set_option linter.unusedVariables false

/-! plain facts on Pick -/
theorem goes_res (n : Nat) (p : Nat → Nat) (hn : n ≤ 64) (k0 : Nat) (hk : k0 < n) (hp0 : p k0 = 0) : ∀ (m : Nat) (u : Nat → Bool) (h : Nat), h < n → mes n p u h ≤ m → (goes n p u h).2.2 < n ∧ p (goes n p u h).2.2 = 0 := by
  intro m
  induction m with
  | zero =>
    intro u h hh hm
    by_cases hp : p h = 0
    · cases hu : u h with
      | true => have := mes_used n p u h hh hp hu; omega
      | false => rw [goes_here n p u h hp hu]; exact ⟨hh, hp⟩
    · have := mes_pinned n p u h hh hp k0 hk hp0; omega
  | succ m ih =>
    intro u h hh hm
    have hmod : (h + 1) % n < n := Nat.mod_lt _ (by omega)
    by_cases hp : p h = 0
    · cases hu : u h with
      | true =>
        have := mes_used n p u h hh hp hu
        rw [goes_used n p u h hn hh hp hu]; exact ih _ _ hmod (by omega)
      | false => rw [goes_here n p u h hp hu]; exact ⟨hh, hp⟩
    · have := mes_pinned n p u h hh hp k0 hk hp0
      rw [goes_pinned n p u h hn hh hp k0 hk hp0]; exact ih _ _ hmod (by omega)

theorem free_lt {s : St} (h : freeK s < s.n) : s.t (freeK s) = false := by
  have := first_yes (fun k => !s.t k) s.n h
  simpa [freeK] using this
theorem pickB_eq {s : St} {j : Nat} (h : Ok s j) : pickB s = some0 s := by
  unfold pickB
  by_cases hf : freeK s < s.n
  · have := h.free _ (free_lt hf)
    have h2 := (some0_iff s).2 ⟨_, hf, this⟩
    simp [h2]
  · simp [hf]
theorem pick_yes {s : St} {j : Nat} (h : Ok s j) (hb : pickB s = true) : pickI s < s.n ∧ s.p (pickI s) = 0 := by
  rw [pickB_eq h] at hb
  obtain ⟨k0, hk, hp⟩ := (some0_iff s).1 hb
  unfold pickI
  by_cases hf : freeK s < s.n
  · rw [if_pos hf]; exact ⟨hf, h.free _ (free_lt hf)⟩
  · rw [if_neg hf, if_pos hb]; exact goes_res s.n s.p h.n64 k0 hk hp _ s.u s.h h.hh (Nat.le_refl _)
theorem pick_no {s : St} {j : Nat} (h : Ok s j) (hb : pickB s = false) : pickI s = 0 := by
  unfold pickI
  have hs := hb
  rw [pickB_eq h] at hs
  by_cases hf : freeK s < s.n
  · simp [pickB, hf] at hb
  · rw [if_neg hf, hs]; rfl
theorem pick_pins (s : St) : (pickS s).p = s.p := by
  unfold pickS; split <;> (try split) <;> rfl
theorem pick_taken (s : St) : (pickS s).t = s.t := by
  unfold pickS; split <;> (try split) <;> rfl

theorem law_picks_pos (w : World) (n : Int) (b : Option Addr) (len cap : Nat) (hmax : len ≤ maxLen) (hL : Ops w b len) (h0 : 0 ≤ n) :
   Calls Try.prog 4 #[.int .i64 n, .slice b len cap] w (DidV w (.bool true)) := by
  unfold maxLen at hmax
  by_cases hlen : 200 < len
  · have a0 : decide ((200 : Int) < (len : Int)) = true := by simp; omega
    clear hL
    go_enter Try.func4, Try.ntmps4
    go_wp2_with fail
    refine (known_any _).mono ?_
    rintro e w1 ⟨rfl, m1⟩
    have M1 := Lib.hid m1
    clear m1
    go_wp2_with fail
    go_ret
    exact ⟨rfl, M1.out⟩
  have a0 : decide ((200 : Int) < (len : Int)) = false := by simp; omega
  have hrun := fun w1 h => run_any w1 n b len cap (by omega) h
  have hme : (manyOf n : Int) = 1 + n % 64 := by unfold manyOf; omega
  have h0' : max n 0 = n := by omega
  generalize manyOf n = many at *
  have HR := Lib.hid hrun
  have Hme := Lib.hid hme
  clear hme
  have HL := Lib.hid hL
  clear hL hrun
  go_enter Try.func4, Try.ntmps4
  go_wp2_with fail
  refine (known_any _).mono ?_
  rintro e w0 ⟨rfl, m0⟩
  have M0 := Lib.hid m0
  clear m0
  go_wp2_with fail
  refine (HR.out _ (HL.out.mod M0.out)).mono ?_
  rintro e w1 ⟨bc, bf, s, rfl, q1, q2, p1, ok, hn, m1⟩
  have z0 := M0.out.size
  have l1 := Lib.hid (show w.heap.size ≤ bc by omega)
  have l2 := Lib.hid (show w.heap.size ≤ bf by omega)
  have P1 := Lib.hid p1
  have OK := Lib.hid ok
  have Hn := Lib.hid hn
  have M1 := Lib.hid (M0.out.trans m1)
  clear p1 ok hn m1 q1 q2 z0 M0
  go_wp2_with fail
  have hpk := pick_any w1 bc bf s P1.out
  have hpi := pick_no OK.out
  have hpy := pick_yes OK.out
  have hpb := pickB_eq OK.out
  have pin := pick_pins s
  have pn := pick_n s
  generalize pickS s = s' at *
  generalize pickI s = i at *
  cases hb : pickB s with
  | false =>
    rw [hb] at hpk hpb
    have Hpk := Lib.hid hpk
    have hi := hpi hb
    subst hi
    have hno : ∀ k, k < s.n → s.p k ≠ 0 := fun k hk hz => by
      have := (some0_iff s).2 ⟨k, hk, hz⟩
      rw [← hpb] at this; cases this
    have Hno := Lib.hid hno
    have Pin := Lib.hid pin
    have Pn := Lib.hid pn
    clear hpk hno hpb hpy hpi hb pin pn
    refine Hpk.out.mono ?_
    rintro e w2 ⟨rfl, p2, m2⟩
    have P2 := Lib.hid p2
    have M2 := Lib.hid (M1.out.fresh m2 (by have := l1.out; have := l2.out; simp; omega))
    clear p2 m2
    go_wp2_with fail
    go_loop [8, 9] (fun c v => ∃ k : Nat, (k : Int) ≤ (1 + n % 64) ∧ v = .int .i64 (k : Int) ∧ c = .bool false) (fun _ v => ((1 + n % 64) - intOf v).toNat)
    case atStart => exact ⟨0, by omega, rfl, rfl⟩
    case round =>
      obtain ⟨k, hk, rfl, rfl⟩ := hrel
      by_cases hlt : (k : Int) < (1 + n % 64)
      · have hz : s'.p k ≠ 0 := by rw [Pin.out]; exact Hno.out k (by have := Hn.out; have := Hme.out; omega)
        have hps := pins_any w2 bc bf s' P2.out k
        have hv : pinsV s' k = s'.p k := by
          have : inn s' (k : Int) = true := inn_yes (by have := Pn.out; have := Hn.out; have := Hme.out; omega)
          simp [pinsV, this]
        rw [hv] at hps
        have hz' : ((s'.p k : Int) == 0) = false := by simpa using hz
        have Hps := Lib.hid hps
        clear hz hps hv
        go_wp2_with fail
        refine Hps.out.mono ?_
        rintro e w3 ⟨rfl, rfl⟩
        go_wp2_with fail
        go_round
        case rel => exact ⟨k + 1, by omega, by go_num, rfl⟩
        case measure => simp [intOf]; omega
      · go_wp2_with fail
        go_ret
        exact ⟨rfl, M2.out⟩
  | true =>
    rw [hb] at hpk hpb
    have Hpk := Lib.hid hpk
    obtain ⟨hi1, hi2⟩ := hpy hb
    have hi3 : (i : Int) < (1 + n % 64) := by have := Hn.out; have := Hme.out; omega
    have hiz : s'.p i = 0 := by rw [pin]; exact hi2
    have hin : i < s'.n := by rw [pn]; exact hi1
    have Hiz := Lib.hid hiz
    have Pn := Lib.hid pn
    clear hpk hpb hpy hpi hb pin pn hi2 hiz
    refine Hpk.out.mono ?_
    rintro e w2 ⟨rfl, p2, m2⟩
    have P2 := Lib.hid p2
    have M2 := Lib.hid (M1.out.fresh m2 (by have := l1.out; have := l2.out; simp; omega))
    clear p2 m2
    go_wp2_with fail
    go_loop [8, 9] (fun c v => ∃ (k : Nat) (x : Bool), (k : Int) ≤ (1 + n % 64) ∧ v = .int .i64 (k : Int) ∧ c = .bool x ∧ Hid (i < k → x = true)) (fun _ v => ((1 + n % 64) - intOf v).toNat)
    case atStart => exact ⟨0, false, by omega, rfl, rfl, Lib.hid (fun h => by omega)⟩
    case round =>
      obtain ⟨k, x, hk, rfl, rfl, hx⟩ := hrel
      by_cases hlt : (k : Int) < (1 + n % 64)
      · cases x with
        | true =>
          go_wp2_with fail
          go_round
          case rel => exact ⟨k + 1, true, by omega, by go_num, rfl, Lib.hid (fun _ => rfl)⟩
          case measure => simp [intOf]; omega
        | false =>
          have hps := pins_any w2 bc bf s' P2.out k
          have hv : pinsV s' k = s'.p k := by
            have : inn s' (k : Int) = true := inn_yes (by have := Pn.out; have := Hn.out; have := Hme.out; omega)
            simp [pinsV, this]
          rw [hv] at hps
          by_cases hz : s'.p k = 0
          · rw [hz] at hps
            have Hps := Lib.hid hps
            clear hps hv hz
            go_wp2_with fail
            refine Hps.out.mono ?_
            rintro e w3 ⟨rfl, rfl⟩
            go_wp2_with fail
            go_round
            case rel => exact ⟨k + 1, true, by omega, by go_num, rfl, Lib.hid (fun _ => rfl)⟩
            case measure => simp [intOf]; omega
          · have hz' : ((s'.p k : Int) == 0) = false := by simpa using hz
            have hne : i ≠ k := fun e => hz (by rw [← e]; exact Hiz.out)
            have Hps := Lib.hid hps
            clear hps hv hz
            go_wp2_with fail
            refine Hps.out.mono ?_
            rintro e w3 ⟨rfl, rfl⟩
            go_wp2_with fail
            go_round
            case rel => exact ⟨k + 1, false, by omega, by go_num, rfl, Lib.hid (fun h => hx.out (by omega))⟩
            case measure => simp [intOf]; omega
      · have hx' : x = true := hx.out (by omega)
        subst hx'
        have hps := pins_any w2 bc bf s' P2.out i
        have hv : pinsV s' i = 0 := by
          have : inn s' (i : Int) = true := inn_yes hin
          simp [pinsV, this]; exact Hiz.out
        rw [hv] at hps
        have Hps := Lib.hid hps
        clear hps hv
        go_wp2_with fail
        refine Hps.out.mono ?_
        rintro e w3 ⟨rfl, rfl⟩
        go_wp2_with fail
        go_ret
        exact ⟨rfl, M2.out⟩
theorem law_picks_neg (w : World) (n : Int) (b : Option Addr) (len cap : Nat) (hmax : len ≤ maxLen) (hL : Ops w b len) (h0 : n < 0) :
   Calls Try.prog 4 #[.int .i64 n, .slice b len cap] w (DidV w (.bool true)) := by
  unfold maxLen at hmax
  by_cases hlen : 200 < len
  · have a0 : decide ((200 : Int) < (len : Int)) = true := by simp; omega
    clear hL
    go_enter Try.func4, Try.ntmps4
    go_wp2_with fail
    refine (known_any _).mono ?_
    rintro e w1 ⟨rfl, m1⟩
    have M1 := Lib.hid m1
    clear m1
    go_wp2_with fail
    go_ret
    exact ⟨rfl, M1.out⟩
  have a0 : decide ((200 : Int) < (len : Int)) = false := by simp; omega
  have hrun := fun w1 h => run_any w1 n b len cap (by omega) h
  have hme : (manyOf n : Int) = 1 := by unfold manyOf; omega
  have h0' : max n 0 = 0 := by omega
  have hm1 : manyOf n = 1 := by omega
  rw [hm1] at hrun
  clear hme hm1
  have HR := Lib.hid hrun
  have HL := Lib.hid hL
  clear hL hrun
  go_enter Try.func4, Try.ntmps4
  go_wp2_with fail
  refine (known_any _).mono ?_
  rintro e w0 ⟨rfl, m0⟩
  have M0 := Lib.hid m0
  clear m0
  go_wp2_with fail
  refine (HR.out _ (HL.out.mod M0.out)).mono ?_
  rintro e w1 ⟨bc, bf, s, rfl, q1, q2, p1, ok, hn, m1⟩
  have z0 := M0.out.size
  have l1 := Lib.hid (show w.heap.size ≤ bc by omega)
  have l2 := Lib.hid (show w.heap.size ≤ bf by omega)
  have P1 := Lib.hid p1
  have OK := Lib.hid ok
  have Hn := Lib.hid hn
  have M1 := Lib.hid (M0.out.trans m1)
  clear p1 ok hn m1 q1 q2 z0 M0
  go_wp2_with fail
  have hpk := pick_any w1 bc bf s P1.out
  have hpi := pick_no OK.out
  have hpy := pick_yes OK.out
  have hpb := pickB_eq OK.out
  have pin := pick_pins s
  have pn := pick_n s
  generalize pickS s = s' at *
  generalize pickI s = i at *
  cases hb : pickB s with
  | false =>
    rw [hb] at hpk hpb
    have Hpk := Lib.hid hpk
    have hi := hpi hb
    subst hi
    have hno : ∀ k, k < s.n → s.p k ≠ 0 := fun k hk hz => by
      have := (some0_iff s).2 ⟨k, hk, hz⟩
      rw [← hpb] at this; cases this
    have Hno := Lib.hid hno
    have Pin := Lib.hid pin
    have Pn := Lib.hid pn
    clear hpk hno hpb hpy hpi hb pin pn
    refine Hpk.out.mono ?_
    rintro e w2 ⟨rfl, p2, m2⟩
    have P2 := Lib.hid p2
    have M2 := Lib.hid (M1.out.fresh m2 (by have := l1.out; have := l2.out; simp; omega))
    clear p2 m2
    go_wp2_with fail
    go_loop [8, 9] (fun c v => ∃ k : Nat, (k : Int) ≤ 1 ∧ v = .int .i64 (k : Int) ∧ c = .bool false) (fun _ v => (1 - intOf v).toNat)
    case atStart => exact ⟨0, by omega, rfl, rfl⟩
    case round =>
      obtain ⟨k, hk, rfl, rfl⟩ := hrel
      by_cases hlt : (k : Int) < 1
      · have hz : s'.p k ≠ 0 := by rw [Pin.out]; exact Hno.out k (by have := Hn.out; omega)
        have hps := pins_any w2 bc bf s' P2.out k
        have hv : pinsV s' k = s'.p k := by
          have : inn s' (k : Int) = true := inn_yes (by have := Pn.out; have := Hn.out; omega)
          simp [pinsV, this]
        rw [hv] at hps
        have hz' : ((s'.p k : Int) == 0) = false := by simpa using hz
        have Hps := Lib.hid hps
        clear hz hps hv
        go_wp2_with fail
        refine Hps.out.mono ?_
        rintro e w3 ⟨rfl, rfl⟩
        go_wp2_with fail
        go_round
        case rel => exact ⟨k + 1, by omega, by go_num, rfl⟩
        case measure => simp [intOf]; omega
      · go_wp2_with fail
        go_ret
        exact ⟨rfl, M2.out⟩
  | true =>
    rw [hb] at hpk hpb
    have Hpk := Lib.hid hpk
    obtain ⟨hi1, hi2⟩ := hpy hb
    have hi3 : (i : Int) < 1 := by have := Hn.out; omega
    have hiz : s'.p i = 0 := by rw [pin]; exact hi2
    have hin : i < s'.n := by rw [pn]; exact hi1
    have Hiz := Lib.hid hiz
    have Pn := Lib.hid pn
    clear hpk hpb hpy hpi hb pin pn hi2 hiz
    refine Hpk.out.mono ?_
    rintro e w2 ⟨rfl, p2, m2⟩
    have P2 := Lib.hid p2
    have M2 := Lib.hid (M1.out.fresh m2 (by have := l1.out; have := l2.out; simp; omega))
    clear p2 m2
    go_wp2_with fail
    go_loop [8, 9] (fun c v => ∃ (k : Nat) (x : Bool), (k : Int) ≤ 1 ∧ v = .int .i64 (k : Int) ∧ c = .bool x ∧ Hid (i < k → x = true)) (fun _ v => (1 - intOf v).toNat)
    case atStart => exact ⟨0, false, by omega, rfl, rfl, Lib.hid (fun h => by omega)⟩
    case round =>
      obtain ⟨k, x, hk, rfl, rfl, hx⟩ := hrel
      by_cases hlt : (k : Int) < 1
      · cases x with
        | true =>
          go_wp2_with fail
          go_round
          case rel => exact ⟨k + 1, true, by omega, by go_num, rfl, Lib.hid (fun _ => rfl)⟩
          case measure => simp [intOf]; omega
        | false =>
          have hps := pins_any w2 bc bf s' P2.out k
          have hv : pinsV s' k = s'.p k := by
            have : inn s' (k : Int) = true := inn_yes (by have := Pn.out; have := Hn.out; omega)
            simp [pinsV, this]
          rw [hv] at hps
          by_cases hz : s'.p k = 0
          · rw [hz] at hps
            have Hps := Lib.hid hps
            clear hps hv hz
            go_wp2_with fail
            refine Hps.out.mono ?_
            rintro e w3 ⟨rfl, rfl⟩
            go_wp2_with fail
            go_round
            case rel => exact ⟨k + 1, true, by omega, by go_num, rfl, Lib.hid (fun _ => rfl)⟩
            case measure => simp [intOf]; omega
          · have hz' : ((s'.p k : Int) == 0) = false := by simpa using hz
            have hne : i ≠ k := fun e => hz (by rw [← e]; exact Hiz.out)
            have Hps := Lib.hid hps
            clear hps hv hz
            go_wp2_with fail
            refine Hps.out.mono ?_
            rintro e w3 ⟨rfl, rfl⟩
            go_wp2_with fail
            go_round
            case rel => exact ⟨k + 1, false, by omega, by go_num, rfl, Lib.hid (fun h => hx.out (by omega))⟩
            case measure => simp [intOf]; omega
      · have hx' : x = true := hx.out (by omega)
        subst hx'
        have hps := pins_any w2 bc bf s' P2.out i
        have hv : pinsV s' i = 0 := by
          have : inn s' (i : Int) = true := inn_yes hin
          simp [pinsV, this]; exact Hiz.out
        rw [hv] at hps
        have Hps := Lib.hid hps
        clear hps hv
        go_wp2_with fail
        refine Hps.out.mono ?_
        rintro e w3 ⟨rfl, rfl⟩
        go_wp2_with fail
        go_ret
        exact ⟨rfl, M2.out⟩

theorem law_picks (w : World) (n : Int) (b : Option Addr) (len cap : Nat) (hmax : len ≤ maxLen) (hL : Ops w b len) :
   Calls Try.prog 4 #[.int .i64 n, .slice b len cap] w (DidV w (.bool true)) := by
  by_cases h0 : 0 ≤ n
  · exact law_picks_pos w n b len cap hmax hL h0
  · exact law_picks_neg w n b len cap hmax hL (by omega)
end Go.Proofs.Ytffophgdjkpilaa
