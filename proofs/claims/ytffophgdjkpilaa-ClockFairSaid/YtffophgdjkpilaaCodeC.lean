/-
  slices.IndexFunc and slices.ContainsFunc at the two closures of the program's Pick: which frame is the first one, whether there is one.
-/
import Derived.Test.YtffophgdjkpilaaCodeB
namespace Go.Proofs.Ytffophgdjkpilaa
open Go.RowKit Clk
set_option linter.unusedVariables false

/-- the two closures -/
theorem fn28 (t u : Bool) (p : Int) (w : World) : Calls Try.prog 28 #[.agg #[.bool t, .bool u, .int .i64 p]] w fun e w' => e = .returned (.bool (!t)) ∧ Mod w w' [] := by
  go_enter Try.func28, Try.ntmps28
  go_wp2
  go_ret
  exact ⟨rfl, (Mod.refl _ _).alloc _⟩
theorem fn30 (t u : Bool) (p : Nat) (w : World) : Calls Try.prog 30 #[.agg #[.bool t, .bool u, .int .i64 (p : Int)]] w fun e w' => e = .returned (.bool (decide (p = 0))) ∧ Mod w w' [] := by
  by_cases h : p = 0
  · subst h
    go_enter Try.func30, Try.ntmps30
    go_wp2
    go_ret
    exact ⟨rfl, (Mod.refl _ _).alloc _⟩
  · have h1 : ((p : Int) == 0) = false := by simpa using h
    have h2 : decide (p = 0) = false := by simpa using h
    rw [h2]
    clear h h2
    go_enter Try.func30, Try.ntmps30
    go_wp2
    go_ret
    exact ⟨rfl, (Mod.refl _ _).alloc _⟩

def idx (f : Nat → Bool) (n : Nat) : Int := if first f n < n then (first f n : Int) else -1
theorem idx_at {f : Nat → Bool} {n k : Nat} (hk : k < n) (hy : f k = true) (hno : ∀ j, j < k → f j = false) : idx f n = (k : Int) := by
  unfold idx; rw [first_eq f n k hk hy hno, if_pos hk]
theorem idx_none {f : Nat → Bool} {n : Nat} (hno : ∀ j, j < n → f j = false) : idx f n = -1 := by
  unfold idx; rw [first_none f n hno, if_neg (by omega)]

def DidV (w : World) (r : Value) (e : Ending) (w' : World) : Prop := e = .returned r ∧ Mod w w' []

theorem index_28 (w : World) (bc bf : Nat) (s : St) (h : PC w bc bf s) :
    Calls Try.prog 27 #[.slice (some ⟨bf, 0, none⟩) s.n s.n, .func (.func 28) #[] #[]] w (DidV w (.int .i64 (idx (fun k => !s.t k) s.n))) := by
  have hn := h.n64
  go_enter Try.func27, Try.ntmps27
  go_wp2
  go_loopw [5, 8] (fun a v wr => ∃ k : Nat, k ≤ s.n ∧ v = .int .i64 (k : Int) ∧ Mod w wr [] ∧ ∀ j, j < k → (!s.t j) = false) (fun _ v _ => s.n - (intOf v).toNat)
  case atStart => exact ⟨0, Nat.zero_le _, rfl, Mod.refl _ _, fun j hj => by omega⟩
  case round =>
    obtain ⟨k, hk, rfl, hm, hno⟩ := hrel
    have hPC := h.mod hm (by simp) (by simp)
    have Hno := Lib.hid hno
    have Hm := Lib.hid hm
    by_cases hlt : k < s.n
    · have hT := hPC.ct k hlt
      have hU := hPC.cu k hlt
      have hP := hPC.cp k hlt
      cases hf : (!s.t k : Bool) with
      | true =>
        have hi := idx_at hlt hf hno
        have Hi := Lib.hid hi
        have hc := fn28 (s.t k) (s.u k) (s.p k)
        rw [hf] at hc
        have Hc := Lib.hid hc
        clear hf hc hi hno h hPC hm
        go_wp2_with (go_at_call 28; refine (Hc.out _).mono ?_; rintro e w1 ⟨rfl, hm1⟩; have Hm1 := Lib.hid hm1; clear hm1)
        go_ret
        exact ⟨by rw [Hi.out]; rfl, Hm.out.trans Hm1.out⟩
      | false =>
        have hc := fn28 (s.t k) (s.u k) (s.p k)
        rw [hf] at hc
        have hno' : ∀ j, j < k + 1 → (!s.t j) = false := by
          intro j hj
          by_cases e : j = k
          · subst e; exact hf
          · exact hno j (by omega)
        have Hno' := Lib.hid hno'
        have Hc := Lib.hid hc
        clear hf hc hno h hPC hm hno'
        go_wp2_with (go_at_call 28; refine (Hc.out _).mono ?_; rintro e w1 ⟨rfl, hm1⟩; have Hm1 := Lib.hid hm1; clear hm1)
        go_roundw
        case rel => exact ⟨k + 1, by omega, by go_num, Hm.out.trans Hm1.out, Hno'.out⟩
        case measure => simp [intOf]; omega
    · have hi := idx_none (n := s.n) (f := fun k => !s.t k) (fun j hj => hno j (by omega))
      have Hi := Lib.hid hi
      clear hi hno h hPC hm
      go_wp2
      go_ret
      exact ⟨by rw [Hi.out]; rfl, Hm.out⟩

theorem index_30 (w : World) (bc bf : Nat) (s : St) (h : PC w bc bf s) :
    Calls Try.prog 27 #[.slice (some ⟨bf, 0, none⟩) s.n s.n, .func (.func 30) #[] #[]] w (DidV w (.int .i64 (idx (fun k => decide (s.p k = 0)) s.n))) := by
  have hn := h.n64
  go_enter Try.func27, Try.ntmps27
  go_wp2
  go_loopw [5, 8] (fun a v wr => ∃ k : Nat, k ≤ s.n ∧ v = .int .i64 (k : Int) ∧ Mod w wr [] ∧ ∀ j, j < k → (decide (s.p j = 0)) = false) (fun _ v _ => s.n - (intOf v).toNat)
  case atStart => exact ⟨0, Nat.zero_le _, rfl, Mod.refl _ _, fun j hj => by omega⟩
  case round =>
    obtain ⟨k, hk, rfl, hm, hno⟩ := hrel
    have hPC := h.mod hm (by simp) (by simp)
    have Hno := Lib.hid hno
    have Hm := Lib.hid hm
    by_cases hlt : k < s.n
    · have hT := hPC.ct k hlt
      have hU := hPC.cu k hlt
      have hP := hPC.cp k hlt
      cases hf : (decide (s.p k = 0) : Bool) with
      | true =>
        have hi := idx_at hlt hf hno
        have Hi := Lib.hid hi
        have hc := fn30 (s.t k) (s.u k) (s.p k)
        rw [hf] at hc
        have Hc := Lib.hid hc
        clear hf hc hi hno h hPC hm
        go_wp2_with (go_at_call 30; refine (Hc.out _).mono ?_; rintro e w1 ⟨rfl, hm1⟩; have Hm1 := Lib.hid hm1; clear hm1)
        go_ret
        exact ⟨by rw [Hi.out]; rfl, Hm.out.trans Hm1.out⟩
      | false =>
        have hc := fn30 (s.t k) (s.u k) (s.p k)
        rw [hf] at hc
        have hno' : ∀ j, j < k + 1 → (decide (s.p j = 0)) = false := by
          intro j hj
          by_cases e : j = k
          · subst e; exact hf
          · exact hno j (by omega)
        have Hno' := Lib.hid hno'
        have Hc := Lib.hid hc
        clear hf hc hno h hPC hm hno'
        go_wp2_with (go_at_call 30; refine (Hc.out _).mono ?_; rintro e w1 ⟨rfl, hm1⟩; have Hm1 := Lib.hid hm1; clear hm1)
        go_roundw
        case rel => exact ⟨k + 1, by omega, by go_num, Hm.out.trans Hm1.out, Hno'.out⟩
        case measure => simp [intOf]; omega
    · have hi := idx_none (n := s.n) (f := fun k => decide (s.p k = 0)) (fun j hj => hno j (by omega))
      have Hi := Lib.hid hi
      clear hi hno h hPC hm
      go_wp2
      go_ret
      exact ⟨by rw [Hi.out]; rfl, Hm.out⟩

theorem contains_30 (w : World) (bc bf : Nat) (s : St) (h : PC w bc bf s) :
    Calls Try.prog 29 #[.slice (some ⟨bf, 0, none⟩) s.n s.n, .func (.func 30) #[] #[]] w (DidV w (.bool (some0 s))) := by
  have e1 : decide (0 ≤ idx (fun k => decide (s.p k = 0)) s.n) = some0 s := by
    unfold idx some0
    by_cases q : first (fun k => decide (s.p k = 0)) s.n < s.n
    · simp [q]
    · simp [q]
  rw [← e1]
  clear e1
  generalize hi : idx (fun k => decide (s.p k = 0)) s.n = r
  have hc := index_30 w bc bf s h
  rw [hi] at hc
  have Hc := Lib.hid hc
  clear hc hi h
  go_enter Try.func29, Try.ntmps29
  go_wp2_with (go_at_call 27; refine Hc.out.mono ?_; rintro e w1 ⟨rfl, hm1⟩; have Hm1 := Lib.hid hm1; clear hm1)
  go_ret
  exact ⟨rfl, Hm1.out⟩
end Go.Proofs.Ytffophgdjkpilaa
