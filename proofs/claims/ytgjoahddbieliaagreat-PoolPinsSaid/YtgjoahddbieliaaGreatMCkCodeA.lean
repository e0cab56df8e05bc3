/-
  The program's clock: stores into it; at, taken, Take: each does what the plain model says.
-/
import Derived.Test.YtgjoahddbieliaaGreatMCkModel
namespace Go.Proofs.YtgjoahddbieliaaGreat.Ck
open Go.RowKit Clk
set_option linter.unusedVariables false

/-! stores into the program's clock -/
theorem off3 (a b c d : Nat) (hc : c < 3) (hd : d < 3) : (a * 3 + c = b * 3 + d) ↔ (a = b ∧ c = d) := by omega

theorem PC.setH {w : World} {bc bf : Nat} {s : St} (h : PC w bc bf s) (h' : Nat) (hh' : h' < s.n) : PC (w.setCell ⟨bc, 1, none⟩ (.int .i64 (h' : Int))) bc bf { s with h := h' } := by
  have hne := h.ne
  refine ⟨h.n1, h.n64, hh', h.ne, ?_, ?_, ?_, ?_, ?_, ?_, ?_⟩
  · rw [cell_set _ _ _ _ _ _ _ h.c0]; simp
  · rw [cell_set _ _ _ _ _ _ _ h.c1]; simp
  · intro o; rw [frozen_set]; exact h.fc o
  · intro k hk; rw [cell_set _ _ _ _ _ _ _ (h.ct k hk)]; simp [Ne.symm hne]
  · intro k hk; rw [cell_set _ _ _ _ _ _ _ (h.cu k hk)]; simp [Ne.symm hne]
  · intro k hk; rw [cell_set _ _ _ _ _ _ _ (h.cp k hk)]; simp [Ne.symm hne]
  · intro o; rw [frozen_set]; exact h.ff o
theorem PC.setT {w : World} {bc bf : Nat} {s : St} (h : PC w bc bf s) (j : Nat) (v : Bool) : PC (w.setCell ⟨bf, j * 3, none⟩ (.bool v)) bc bf { s with t := upd s.t j v } := by
  have hne := h.ne
  refine ⟨h.n1, h.n64, h.hh, h.ne, ?_, ?_, ?_, ?_, ?_, ?_, ?_⟩
  · rw [cell_set _ _ _ _ _ _ _ h.c0]; simp [hne]
  · rw [cell_set _ _ _ _ _ _ _ h.c1]; simp [hne]
  · intro o; rw [frozen_set]; exact h.fc o
  · intro k hk; rw [cell_set _ _ _ _ _ _ _ (h.ct k hk)]
    by_cases e : k = j
    · subst e; simp [upd]
    · have : ¬ (k * 3 = j * 3) := by omega
      simp [upd, e, this]
  · intro k hk; rw [cell_set _ _ _ _ _ _ _ (h.cu k hk)]
    have : ¬ (k * 3 + 1 = j * 3) := by omega
    simp [this]
  · intro k hk; rw [cell_set _ _ _ _ _ _ _ (h.cp k hk)]
    have : ¬ (k * 3 + 2 = j * 3) := by omega
    simp [this]
  · intro o; rw [frozen_set]; exact h.ff o
theorem PC.setU {w : World} {bc bf : Nat} {s : St} (h : PC w bc bf s) (j : Nat) (v : Bool) : PC (w.setCell ⟨bf, j * 3 + 1, none⟩ (.bool v)) bc bf { s with u := upd s.u j v } := by
  have hne := h.ne
  refine ⟨h.n1, h.n64, h.hh, h.ne, ?_, ?_, ?_, ?_, ?_, ?_, ?_⟩
  · rw [cell_set _ _ _ _ _ _ _ h.c0]; simp [hne]
  · rw [cell_set _ _ _ _ _ _ _ h.c1]; simp [hne]
  · intro o; rw [frozen_set]; exact h.fc o
  · intro k hk; rw [cell_set _ _ _ _ _ _ _ (h.ct k hk)]
    have : ¬ (k * 3 = j * 3 + 1) := by omega
    simp [this]
  · intro k hk; rw [cell_set _ _ _ _ _ _ _ (h.cu k hk)]
    by_cases e : k = j
    · subst e; simp [upd]
    · have : ¬ (k * 3 = j * 3) := by omega
      simp [upd, e, this]
  · intro k hk; rw [cell_set _ _ _ _ _ _ _ (h.cp k hk)]
    have : ¬ (k * 3 + 2 = j * 3 + 1) := by omega
    simp [this]
  · intro o; rw [frozen_set]; exact h.ff o
theorem PC.setP {w : World} {bc bf : Nat} {s : St} (h : PC w bc bf s) (j : Nat) (v : Nat) : PC (w.setCell ⟨bf, j * 3 + 2, none⟩ (.int .i64 (v : Int))) bc bf { s with p := upd s.p j v } := by
  have hne := h.ne
  refine ⟨h.n1, h.n64, h.hh, h.ne, ?_, ?_, ?_, ?_, ?_, ?_, ?_⟩
  · rw [cell_set _ _ _ _ _ _ _ h.c0]; simp [hne]
  · rw [cell_set _ _ _ _ _ _ _ h.c1]; simp [hne]
  · intro o; rw [frozen_set]; exact h.fc o
  · intro k hk; rw [cell_set _ _ _ _ _ _ _ (h.ct k hk)]
    have : ¬ (k * 3 = j * 3 + 2) := by omega
    simp [this]
  · intro k hk; rw [cell_set _ _ _ _ _ _ _ (h.cu k hk)]
    have : ¬ (k * 3 = j * 3 + 1) := by omega
    simp [this]
  · intro k hk; rw [cell_set _ _ _ _ _ _ _ (h.cp k hk)]
    by_cases e : k = j
    · subst e; simp [upd]
    · have : ¬ (k * 3 = j * 3) := by omega
      simp [upd, e, this]
  · intro o; rw [frozen_set]; exact h.ff o

theorem upd_self {α : Type} (f : Nat → α) (k : Nat) : upd f k (f k) = f := by
  funext j; unfold upd; split
  · rename_i e; rw [e]
  · rfl

theorem inn_yes {s : St} {k : Nat} (h : k < s.n) : inn s (k : Int) = true := by simp [inn]; omega
theorem inn_no {s : St} {i : Int} (h : i < 0 ∨ (s.n : Int) ≤ i) : inn s i = false := by
  unfold inn
  rcases h with h | h
  · have : ¬ 0 ≤ i := by omega
    simp [this]
  · have : ¬ i < (s.n : Int) := by omega
    simp [this]
theorem inn_cases (s : St) (i : Int) : (∃ k : Nat, i = (k : Int) ∧ k < s.n) ∨ (i < 0 ∨ (s.n : Int) ≤ i) := by
  by_cases h : 0 ≤ i ∧ i < (s.n : Int)
  · exact .inl ⟨i.toNat, by omega, by omega⟩
  · exact .inr (by omega)

theorem at_in (w : World) (bc bf n k : Nat) (h1 : k < n) (hn : n ≤ 64)
   (hc0 : w.cell? ⟨bc, 0, none⟩ = some (.slice (some ⟨bf, 0, none⟩) n n)) :
   Calls Tryz.prog 120 #[.pointer (some ⟨bc, 0, none⟩), .int .i64 (k : Int)] w fun e w' => e = .returned (.pointer (some ⟨bf, k * 3, none⟩)) ∧ w = w' := by
  have a1 : decide ((n : Int) ≤ (k : Int)) = false := by simp; omega
  go_enter Tryz.func120, Tryz.ntmps120
  go_wp2
  go_ret
  exact ⟨rfl, rfl⟩
theorem at_out (w : World) (bc bf n : Nat) (i : Int) (h1 : i < 0 ∨ n ≤ i) (hn : n ≤ 64)
   (hc0 : w.cell? ⟨bc, 0, none⟩ = some (.slice (some ⟨bf, 0, none⟩) n n)) :
   Calls Tryz.prog 120 #[.pointer (some ⟨bc, 0, none⟩), .int .i64 i] w fun e w' => e = .returned (.pointer none) ∧ w = w' := by
  by_cases h0 : i < 0
  · go_enter Tryz.func120, Tryz.ntmps120
    go_wp2
    go_ret
    exact ⟨rfl, rfl⟩
  · have a0 : decide (i < 0) = false := by simp; omega
    have a1 : decide ((n : Int) ≤ i) = true := by simp; omega
    go_enter Tryz.func120, Tryz.ntmps120
    go_wp2
    go_ret
    exact ⟨rfl, rfl⟩
theorem taken_out (w : World) (bc bf n : Nat) (i : Int) (h1 : i < 0 ∨ n ≤ i) (hn : n ≤ 64)
   (hc0 : w.cell? ⟨bc, 0, none⟩ = some (.slice (some ⟨bf, 0, none⟩) n n)) :
   Calls Tryz.prog 119 #[.pointer (some ⟨bc, 0, none⟩), .int .i64 i] w fun e w' => e = .returned (.pointer none) ∧ w = w' := by
  go_enter Tryz.func119, Tryz.ntmps119
  go_wp2_with (go_at_call 120; refine (at_out _ bc bf n i h1 hn hc0).mono ?_; rintro e w' ⟨rfl, rfl⟩)
  go_ret
  exact ⟨rfl, rfl⟩
theorem taken_yes (w : World) (bc bf n k : Nat) (h1 : k < n) (hn : n ≤ 64)
   (hc0 : w.cell? ⟨bc, 0, none⟩ = some (.slice (some ⟨bf, 0, none⟩) n n)) (hT : w.cell? ⟨bf, k * 3, none⟩ = some (.bool true)) :
   Calls Tryz.prog 119 #[.pointer (some ⟨bc, 0, none⟩), .int .i64 (k : Int)] w fun e w' => e = .returned (.pointer (some ⟨bf, k * 3, none⟩)) ∧ w = w' := by
  go_enter Tryz.func119, Tryz.ntmps119
  go_wp2_with (go_at_call 120; refine (at_in _ bc bf n k h1 hn hc0).mono ?_; rintro e w' ⟨rfl, rfl⟩)
  go_ret
  exact ⟨rfl, rfl⟩
theorem taken_no (w : World) (bc bf n k : Nat) (h1 : k < n) (hn : n ≤ 64)
   (hc0 : w.cell? ⟨bc, 0, none⟩ = some (.slice (some ⟨bf, 0, none⟩) n n)) (hT : w.cell? ⟨bf, k * 3, none⟩ = some (.bool false)) :
   Calls Tryz.prog 119 #[.pointer (some ⟨bc, 0, none⟩), .int .i64 (k : Int)] w fun e w' => e = .returned (.pointer none) ∧ w = w' := by
  go_enter Tryz.func119, Tryz.ntmps119
  go_wp2_with (go_at_call 120; refine (at_in _ bc bf n k h1 hn hc0).mono ?_; rintro e w' ⟨rfl, rfl⟩)
  go_ret
  exact ⟨rfl, rfl⟩

def Did (w : World) (r : Value) (bc bf : Nat) (s : St) (bs : List Nat) (e : Ending) (w' : World) : Prop := e = .returned r ∧ PC w' bc bf s ∧ Mod w w' bs

theorem take_any (w : World) (bc bf : Nat) (s : St) (h : PC w bc bf s) (i : Int) :
   Calls Tryz.prog 118 #[.pointer (some ⟨bc, 0, none⟩), .int .i64 i] w (Did w (.bool (takeB s i)) bc bf (takeS s i) [bf]) := by
  have hc0 := h.c0
  have hn := h.n64
  rcases inn_cases s i with ⟨k, rfl, hk⟩ | ho
  · have hT := h.ct k hk
    have hi := inn_yes hk
    cases ht : s.t k with
    | true =>
      rw [ht] at hT
      have e1 : takeB s (k : Int) = false := by simp [takeB, ht]
      have e2 : takeS s (k : Int) = s := by simp [takeS, e1]
      rw [e1, e2]
      clear e1 e2 hi ht
      go_enter Tryz.func118, Tryz.ntmps118
      go_wp2_with (go_at_call 120; refine (at_in _ bc bf s.n k hk hn hc0).mono ?_; rintro e w' ⟨rfl, rfl⟩)
      go_ret
      exact ⟨rfl, h, Mod.refl _ _⟩
    | false =>
      rw [ht] at hT
      have hU := h.cu k hk
      have hP := h.cp k hk
      have f0 := h.ff (k * 3)
      have f1 := h.ff (k * 3 + 1)
      have f2 := h.ff (k * 3 + 2)
      have e1 : takeB s (k : Int) = true := by simp [takeB, ht, hi]
      have e2 : takeS s (k : Int) = { s with t := upd s.t k true, u := upd s.u k true, p := upd s.p k 0 } := by simp [takeS, e1]
      rw [e1, e2]
      clear e1 e2 hi ht
      go_enter Tryz.func118, Tryz.ntmps118
      go_wp2_with (go_at_call 120; refine (at_in _ bc bf s.n k hk hn hc0).mono ?_; rintro e w' ⟨rfl, rfl⟩)
      go_ret
      exact ⟨rfl, ((h.setT k true).setU k true).setP k 0, (((Mod.refl _ _).setCell (by simp) _).setCell (by simp) _).setCell (by simp) _⟩
  · have hi := inn_no ho
    have e1 : takeB s i = false := by simp [takeB, hi]
    have e2 : takeS s i = s := by simp [takeS, e1]
    rw [e1, e2]
    clear e1 e2 hi
    go_enter Tryz.func118, Tryz.ntmps118
    go_wp2_with (go_at_call 120; refine (at_out _ bc bf s.n i ho hn hc0).mono ?_; rintro e w' ⟨rfl, rfl⟩)
    go_ret
    exact ⟨rfl, h, Mod.refl _ _⟩
end Go.Proofs.YtgjoahddbieliaaGreat.Ck

/-
  The program's clock: Leave, Touch, Pin, Unpin, Pins: each does what the plain model says (Pin, Unpin: at most a million pins).
-/
namespace Go.Proofs.YtgjoahddbieliaaGreat.Ck
open Go.RowKit Clk
set_option linter.unusedVariables false

theorem leave_any (w : World) (bc bf : Nat) (s : St) (h : PC w bc bf s) (i : Int) :
   Calls Tryz.prog 187 #[.pointer (some ⟨bc, 0, none⟩), .int .i64 i] w (Did w (.bool (leaveB s i)) bc bf (leaveS s i) [bf]) := by
  have hc0 := h.c0
  have hn := h.n64
  rcases inn_cases s i with ⟨k, rfl, hk⟩ | ho
  · have hT := h.ct k hk
    have hi := inn_yes hk
    have hP := h.cp k hk
    cases ht : s.t k with
    | false =>
      rw [ht] at hT
      have e1 : leaveB s (k : Int) = false := by simp [leaveB, isT, ht]
      have e2 : leaveS s (k : Int) = s := by simp [leaveS, e1]
      rw [e1, e2]
      clear e1 e2 hi ht
      go_enter Tryz.func187, Tryz.ntmps187
      go_wp2_with (go_at_call 119; refine (taken_no _ bc bf s.n k hk hn hc0 hT).mono ?_; rintro e w' ⟨rfl, rfl⟩)
      go_ret
      exact ⟨rfl, h, Mod.refl _ _⟩
    | true =>
      rw [ht] at hT
      by_cases hp : s.p k = 0
      · have e1 : leaveB s (k : Int) = true := by simp [leaveB, isT, ht, hi, hp]
        have e2 : leaveS s (k : Int) = { s with t := upd s.t k false, u := upd s.u k false, p := upd s.p k 0 } := by
          have : upd s.p k 0 = s.p := by rw [← hp]; exact upd_self _ _
          simp [leaveS, e1, this]
        rw [e1, e2]
        rw [hp] at hP
        have hU := h.cu k hk
        have f0 := h.ff (k * 3)
        have f1 := h.ff (k * 3 + 1)
        have f2 := h.ff (k * 3 + 2)
        clear e1 e2 hi ht hp
        go_enter Tryz.func187, Tryz.ntmps187
        go_wp2_with (go_at_call 119; refine (taken_yes _ bc bf s.n k hk hn hc0 hT).mono ?_; rintro e w' ⟨rfl, rfl⟩)
        go_ret
        exact ⟨rfl, ((h.setT k false).setU k false).setP k 0, (((Mod.refl _ _).setCell (by simp) _).setCell (by simp) _).setCell (by simp) _⟩
      · have e1 : leaveB s (k : Int) = false := by simp [leaveB, hp]
        have e2 : leaveS s (k : Int) = s := by simp [leaveS, e1]
        rw [e1, e2]
        have hpos : 0 < s.p k := by omega
        clear e1 e2 hi ht hp
        go_enter Tryz.func187, Tryz.ntmps187
        go_wp2_with (go_at_call 119; refine (taken_yes _ bc bf s.n k hk hn hc0 hT).mono ?_; rintro e w' ⟨rfl, rfl⟩)
        go_ret
        exact ⟨rfl, h, Mod.refl _ _⟩
  · have hi := inn_no ho
    have e1 : leaveB s i = false := by simp [leaveB, isT, hi]
    have e2 : leaveS s i = s := by simp [leaveS, e1]
    rw [e1, e2]
    clear e1 e2 hi
    go_enter Tryz.func187, Tryz.ntmps187
    go_wp2_with (go_at_call 119; refine (taken_out _ bc bf s.n i ho hn hc0).mono ?_; rintro e w' ⟨rfl, rfl⟩)
    go_ret
    exact ⟨rfl, h, Mod.refl _ _⟩

theorem touch_any (w : World) (bc bf : Nat) (s : St) (h : PC w bc bf s) (i : Int) :
   Calls Tryz.prog 46 #[.pointer (some ⟨bc, 0, none⟩), .int .i64 i] w (Did w (.bool (isT s i)) bc bf (touchS s i) [bf]) := by
  have hc0 := h.c0
  have hn := h.n64
  rcases inn_cases s i with ⟨k, rfl, hk⟩ | ho
  · have hT := h.ct k hk
    have hi := inn_yes hk
    cases ht : s.t k with
    | false =>
      rw [ht] at hT
      have e1 : isT s (k : Int) = false := by simp [isT, ht]
      have e2 : touchS s (k : Int) = s := by simp [touchS, e1]
      rw [e1, e2]
      clear e1 e2 hi ht
      go_enter Tryz.func46, Tryz.ntmps46
      go_wp2_with (go_at_call 119; refine (taken_no _ bc bf s.n k hk hn hc0 hT).mono ?_; rintro e w' ⟨rfl, rfl⟩)
      go_ret
      exact ⟨rfl, h, Mod.refl _ _⟩
    | true =>
      rw [ht] at hT
      have e1 : isT s (k : Int) = true := by simp [isT, ht, hi]
      have e2 : touchS s (k : Int) = { s with u := upd s.u k true } := by simp [touchS, e1]
      rw [e1, e2]
      have hU := h.cu k hk
      have f1 := h.ff (k * 3 + 1)
      clear e1 e2 hi ht
      go_enter Tryz.func46, Tryz.ntmps46
      go_wp2_with (go_at_call 119; refine (taken_yes _ bc bf s.n k hk hn hc0 hT).mono ?_; rintro e w' ⟨rfl, rfl⟩)
      go_ret
      exact ⟨rfl, h.setU k true, (Mod.refl _ _).setCell (by simp) _⟩
  · have hi := inn_no ho
    have e1 : isT s i = false := by simp [isT, hi]
    have e2 : touchS s i = s := by simp [touchS, e1]
    rw [e1, e2]
    clear e1 e2 hi
    go_enter Tryz.func46, Tryz.ntmps46
    go_wp2_with (go_at_call 119; refine (taken_out _ bc bf s.n i ho hn hc0).mono ?_; rintro e w' ⟨rfl, rfl⟩)
    go_ret
    exact ⟨rfl, h, Mod.refl _ _⟩

theorem pin_any (w : World) (bc bf : Nat) (s : St) (h : PC w bc bf s) (i : Int) (hs : ∀ k, s.p k ≤ 1000000) :
   Calls Tryz.prog 47 #[.pointer (some ⟨bc, 0, none⟩), .int .i64 i] w (Did w (.bool (isT s i)) bc bf (pinS s i) [bf]) := by
  have hc0 := h.c0
  have hn := h.n64
  rcases inn_cases s i with ⟨k, rfl, hk⟩ | ho
  · have hT := h.ct k hk
    have hi := inn_yes hk
    cases ht : s.t k with
    | false =>
      rw [ht] at hT
      have e1 : isT s (k : Int) = false := by simp [isT, ht]
      have e2 : pinS s (k : Int) = s := by simp [pinS, e1]
      rw [e1, e2]
      clear e1 e2 hi ht
      go_enter Tryz.func47, Tryz.ntmps47
      go_wp2_with (go_at_call 119; refine (taken_no _ bc bf s.n k hk hn hc0 hT).mono ?_; rintro e w' ⟨rfl, rfl⟩)
      go_ret
      exact ⟨rfl, h, Mod.refl _ _⟩
    | true =>
      rw [ht] at hT
      have e1 : isT s (k : Int) = true := by simp [isT, ht, hi]
      have e2 : pinS s (k : Int) = { s with p := upd s.p k (s.p k + 1) } := by simp [pinS, e1]
      rw [e1, e2]
      have hP := h.cp k hk
      have f2 := h.ff (k * 3 + 2)
      have hb := hs k
      have hset := h.setP k (s.p k + 1)
      clear e1 e2 hi ht hs
      go_enter Tryz.func47, Tryz.ntmps47
      go_wp2_with (go_at_call 119; refine (taken_yes _ bc bf s.n k hk hn hc0 hT).mono ?_; rintro e w' ⟨rfl, rfl⟩)
      go_ret
      refine ⟨rfl, ?_, (Mod.refl _ _).setCell (by simp) _⟩
      simpa using hset
  · have hi := inn_no ho
    have e1 : isT s i = false := by simp [isT, hi]
    have e2 : pinS s i = s := by simp [pinS, e1]
    rw [e1, e2]
    clear e1 e2 hi hs
    go_enter Tryz.func47, Tryz.ntmps47
    go_wp2_with (go_at_call 119; refine (taken_out _ bc bf s.n i ho hn hc0).mono ?_; rintro e w' ⟨rfl, rfl⟩)
    go_ret
    exact ⟨rfl, h, Mod.refl _ _⟩

theorem unpin_any (w : World) (bc bf : Nat) (s : St) (h : PC w bc bf s) (i : Int) (hs : ∀ k, s.p k ≤ 1000000) :
   Calls Tryz.prog 51 #[.pointer (some ⟨bc, 0, none⟩), .int .i64 i] w (Did w (.bool (unpinB s i)) bc bf (unpinS s i) [bf]) := by
  have hc0 := h.c0
  have hn := h.n64
  rcases inn_cases s i with ⟨k, rfl, hk⟩ | ho
  · have hT := h.ct k hk
    have hi := inn_yes hk
    have hP := h.cp k hk
    cases ht : s.t k with
    | false =>
      rw [ht] at hT
      have e1 : unpinB s (k : Int) = false := by simp [unpinB, isT, ht]
      have e2 : unpinS s (k : Int) = s := by simp [unpinS, e1]
      rw [e1, e2]
      clear e1 e2 hi ht hs
      go_enter Tryz.func51, Tryz.ntmps51
      go_wp2_with (go_at_call 119; refine (taken_no _ bc bf s.n k hk hn hc0 hT).mono ?_; rintro e w' ⟨rfl, rfl⟩)
      go_ret
      exact ⟨rfl, h, Mod.refl _ _⟩
    | true =>
      rw [ht] at hT
      by_cases hp : s.p k = 0
      · have e1 : unpinB s (k : Int) = false := by simp [unpinB, hp]
        have e2 : unpinS s (k : Int) = s := by simp [unpinS, e1]
        rw [e1, e2]
        rw [hp] at hP
        clear e1 e2 hi ht hp hs
        go_enter Tryz.func51, Tryz.ntmps51
        go_wp2_with (go_at_call 119; refine (taken_yes _ bc bf s.n k hk hn hc0 hT).mono ?_; rintro e w' ⟨rfl, rfl⟩)
        go_ret
        exact ⟨rfl, h, Mod.refl _ _⟩
      · have e1 : unpinB s (k : Int) = true := by simp [unpinB, isT, ht, hi, hp]
        have e2 : unpinS s (k : Int) = { s with p := upd s.p k (s.p k - 1) } := by simp [unpinS, e1]
        rw [e1, e2]
        have f2 := h.ff (k * 3 + 2)
        have hb := hs k
        have hset := h.setP k (s.p k - 1)
        have hz : ((s.p k : Int) == 0) = false := by simpa using hp
        have hc : ((s.p k - 1 : Nat) : Int) = (s.p k : Int) - 1 := by omega
        rw [hc] at hset
        have hpos : 1 ≤ s.p k := by omega
        clear e1 e2 hi ht hs hp hc
        go_enter Tryz.func51, Tryz.ntmps51
        go_wp2_with (go_at_call 119; refine (taken_yes _ bc bf s.n k hk hn hc0 hT).mono ?_; rintro e w' ⟨rfl, rfl⟩)
        go_ret
        exact ⟨rfl, hset, (Mod.refl _ _).setCell (by simp) _⟩
  · have hi := inn_no ho
    have e1 : unpinB s i = false := by simp [unpinB, isT, hi]
    have e2 : unpinS s i = s := by simp [unpinS, e1]
    rw [e1, e2]
    clear e1 e2 hi hs
    go_enter Tryz.func51, Tryz.ntmps51
    go_wp2_with (go_at_call 119; refine (taken_out _ bc bf s.n i ho hn hc0).mono ?_; rintro e w' ⟨rfl, rfl⟩)
    go_ret
    exact ⟨rfl, h, Mod.refl _ _⟩

theorem pins_any (w : World) (bc bf : Nat) (s : St) (h : PC w bc bf s) (i : Int) :
   Calls Tryz.prog 48 #[.pointer (some ⟨bc, 0, none⟩), .int .i64 i] w fun e w' => e = .returned (.int .i64 (pinsV s i : Int)) ∧ w = w' := by
  have hc0 := h.c0
  have hn := h.n64
  rcases inn_cases s i with ⟨k, rfl, hk⟩ | ho
  · have hP := h.cp k hk
    have hi := inn_yes hk
    have e1 : pinsV s (k : Int) = s.p k := by simp [pinsV, hi]
    rw [e1]
    clear e1 hi
    go_enter Tryz.func48, Tryz.ntmps48
    go_wp2_with (go_at_call 120; refine (at_in _ bc bf s.n k hk hn hc0).mono ?_; rintro e w' ⟨rfl, rfl⟩)
    go_ret
    exact ⟨rfl, rfl⟩
  · have hi := inn_no ho
    have e1 : pinsV s i = 0 := by simp [pinsV, hi]
    rw [e1]
    clear e1 hi
    go_enter Tryz.func48, Tryz.ntmps48
    go_wp2_with (go_at_call 120; refine (at_out _ bc bf s.n i ho hn hc0).mono ?_; rintro e w' ⟨rfl, rfl⟩)
    go_ret
    exact ⟨rfl, rfl⟩
end Go.Proofs.YtgjoahddbieliaaGreat.Ck
