/-
  The reference's clock in memory: stores into it; is.
-/
import Derived.Test.YtffophgdjkpilaaCodeE
namespace Go.Proofs.Ytffophgdjkpilaa
open Go.RowKit Clk
set_option linter.unusedVariables false

/-- the reference's clock: its struct in block br; three rows -/
structure RC (w : World) (br bt bu bp : Nat) (s : St) : Prop where
  n1 : 1 ≤ s.n
  n64 : s.n ≤ 64
  hh : s.h < s.n
  d1 : br ≠ bt
  d2 : br ≠ bu
  d3 : br ≠ bp
  d4 : bt ≠ bu
  d5 : bt ≠ bp
  d6 : bu ≠ bp
  c0 : w.cell? ⟨br, 0, none⟩ = some (.slice (some ⟨bt, 0, none⟩) s.n s.n)
  c1 : w.cell? ⟨br, 1, none⟩ = some (.slice (some ⟨bu, 0, none⟩) s.n s.n)
  c2 : w.cell? ⟨br, 2, none⟩ = some (.slice (some ⟨bp, 0, none⟩) s.n s.n)
  c3 : w.cell? ⟨br, 3, none⟩ = some (.int .i64 (s.h : Int))
  fr : ∀ o, w.frozen? ⟨br, o, none⟩ = false
  ct : ∀ k, k < s.n → w.cell? ⟨bt, k, none⟩ = some (.bool (s.t k))
  ft : ∀ o, w.frozen? ⟨bt, o, none⟩ = false
  cu : ∀ k, k < s.n → w.cell? ⟨bu, k, none⟩ = some (.bool (s.u k))
  fu : ∀ o, w.frozen? ⟨bu, o, none⟩ = false
  cp : ∀ k, k < s.n → w.cell? ⟨bp, k, none⟩ = some (.int .i64 (s.p k : Int))
  fp : ∀ o, w.frozen? ⟨bp, o, none⟩ = false

theorem RC.mod {w w' : World} {br bt bu bp : Nat} {s : St} (h : RC w br bt bu bp s) {bs : List Nat} (m : Mod w w' bs) (h1 : br ∉ bs) (h2 : bt ∉ bs) (h3 : bu ∉ bs) (h4 : bp ∉ bs) : RC w' br bt bu bp s := by
  have l1 := cell_lt h.c0
  have l2 := cell_lt (h.ct 0 h.n1)
  have l3 := cell_lt (h.cu 0 h.n1)
  have l4 := cell_lt (h.cp 0 h.n1)
  refine ⟨h.n1, h.n64, h.hh, h.d1, h.d2, h.d3, h.d4, h.d5, h.d6, m.cell_of h.c0 h1, m.cell_of h.c1 h1, m.cell_of h.c2 h1, m.cell_of h.c3 h1, ?_, ?_, ?_, ?_, ?_, ?_, ?_⟩
  · intro o; rw [m.frozen _ _ l1 h1]; exact h.fr o
  · intro k hk; exact m.cell_of (h.ct k hk) h2
  · intro o; rw [m.frozen _ _ l2 h2]; exact h.ft o
  · intro k hk; exact m.cell_of (h.cu k hk) h3
  · intro o; rw [m.frozen _ _ l3 h3]; exact h.fu o
  · intro k hk; exact m.cell_of (h.cp k hk) h4
  · intro o; rw [m.frozen _ _ l4 h4]; exact h.fp o

theorem cell_set_ne (w : World) {b o b' o' : Nat} {v x : Value} (h : w.cell? ⟨b, o, none⟩ = some x) (hn : ¬ (b = b' ∧ o = o')) :
    (w.setCell ⟨b', o', none⟩ v).cell? ⟨b, o, none⟩ = some x := by rw [cell_set _ _ _ _ _ _ _ h, if_neg hn]

theorem RC.setH {w : World} {br bt bu bp : Nat} {s : St} (h : RC w br bt bu bp s) (h' : Nat) (hh' : h' < s.n) : RC (w.setCell ⟨br, 3, none⟩ (.int .i64 (h' : Int))) br bt bu bp { s with h := h' } := by
  have d1 := h.d1
  have d2 := h.d2
  have d3 := h.d3
  refine ⟨h.n1, h.n64, hh', h.d1, h.d2, h.d3, h.d4, h.d5, h.d6, cell_set_ne _ h.c0 (by omega), cell_set_ne _ h.c1 (by omega), cell_set_ne _ h.c2 (by omega), ?_, ?_, ?_, ?_, ?_, ?_, ?_, ?_⟩
  · rw [cell_set _ _ _ _ _ _ _ h.c3]; simp
  · intro o; rw [frozen_set]; exact h.fr o
  · intro k hk; exact cell_set_ne _ (h.ct k hk) (by omega)
  · intro o; rw [frozen_set]; exact h.ft o
  · intro k hk; exact cell_set_ne _ (h.cu k hk) (by omega)
  · intro o; rw [frozen_set]; exact h.fu o
  · intro k hk; exact cell_set_ne _ (h.cp k hk) (by omega)
  · intro o; rw [frozen_set]; exact h.fp o
theorem RC.setT {w : World} {br bt bu bp : Nat} {s : St} (h : RC w br bt bu bp s) (j : Nat) (v : Bool) : RC (w.setCell ⟨bt, j, none⟩ (.bool v)) br bt bu bp { s with t := upd s.t j v } := by
  have d1 := h.d1
  have d4 := h.d4
  have d5 := h.d5
  refine ⟨h.n1, h.n64, h.hh, h.d1, h.d2, h.d3, h.d4, h.d5, h.d6, cell_set_ne _ h.c0 (by omega), cell_set_ne _ h.c1 (by omega), cell_set_ne _ h.c2 (by omega), cell_set_ne _ h.c3 (by omega), ?_, ?_, ?_, ?_, ?_, ?_, ?_⟩
  · intro o; rw [frozen_set]; exact h.fr o
  · intro k hk; rw [cell_set _ _ _ _ _ _ _ (h.ct k hk)]; unfold upd; by_cases e : k = j <;> simp [e]
  · intro o; rw [frozen_set]; exact h.ft o
  · intro k hk; exact cell_set_ne _ (h.cu k hk) (by omega)
  · intro o; rw [frozen_set]; exact h.fu o
  · intro k hk; exact cell_set_ne _ (h.cp k hk) (by omega)
  · intro o; rw [frozen_set]; exact h.fp o
theorem RC.setU {w : World} {br bt bu bp : Nat} {s : St} (h : RC w br bt bu bp s) (j : Nat) (v : Bool) : RC (w.setCell ⟨bu, j, none⟩ (.bool v)) br bt bu bp { s with u := upd s.u j v } := by
  have d2 := h.d2
  have d4 := h.d4
  have d6 := h.d6
  refine ⟨h.n1, h.n64, h.hh, h.d1, h.d2, h.d3, h.d4, h.d5, h.d6, cell_set_ne _ h.c0 (by omega), cell_set_ne _ h.c1 (by omega), cell_set_ne _ h.c2 (by omega), cell_set_ne _ h.c3 (by omega), ?_, ?_, ?_, ?_, ?_, ?_, ?_⟩
  · intro o; rw [frozen_set]; exact h.fr o
  · intro k hk; exact cell_set_ne _ (h.ct k hk) (by omega)
  · intro o; rw [frozen_set]; exact h.ft o
  · intro k hk; rw [cell_set _ _ _ _ _ _ _ (h.cu k hk)]; unfold upd; by_cases e : k = j <;> simp [e]
  · intro o; rw [frozen_set]; exact h.fu o
  · intro k hk; exact cell_set_ne _ (h.cp k hk) (by omega)
  · intro o; rw [frozen_set]; exact h.fp o
theorem RC.setP {w : World} {br bt bu bp : Nat} {s : St} (h : RC w br bt bu bp s) (j : Nat) (v : Nat) : RC (w.setCell ⟨bp, j, none⟩ (.int .i64 (v : Int))) br bt bu bp { s with p := upd s.p j v } := by
  have d3 := h.d3
  have d5 := h.d5
  have d6 := h.d6
  refine ⟨h.n1, h.n64, h.hh, h.d1, h.d2, h.d3, h.d4, h.d5, h.d6, cell_set_ne _ h.c0 (by omega), cell_set_ne _ h.c1 (by omega), cell_set_ne _ h.c2 (by omega), cell_set_ne _ h.c3 (by omega), ?_, ?_, ?_, ?_, ?_, ?_, ?_⟩
  · intro o; rw [frozen_set]; exact h.fr o
  · intro k hk; exact cell_set_ne _ (h.ct k hk) (by omega)
  · intro o; rw [frozen_set]; exact h.ft o
  · intro k hk; exact cell_set_ne _ (h.cu k hk) (by omega)
  · intro o; rw [frozen_set]; exact h.fu o
  · intro k hk; rw [cell_set _ _ _ _ _ _ _ (h.cp k hk)]; unfold upd; by_cases e : k = j <;> simp [e]
  · intro o; rw [frozen_set]; exact h.fp o

def DidR (w : World) (r : Value) (br bt bu bp : Nat) (s : St) (bs : List Nat) (e : Ending) (w' : World) : Prop := e = .returned r ∧ RC w' br bt bu bp s ∧ Mod w w' bs

theorem is_any (w : World) (br bt bu bp : Nat) (s : St) (h : RC w br bt bu bp s) (i : Int) :
   Calls Try.prog 32 #[.pointer (some ⟨br, 0, none⟩), .int .i64 i] w fun e w' => e = .returned (.bool (isT s i)) ∧ w = w' := by
  have hc0 := h.c0
  have hn := h.n64
  rcases inn_cases s i with ⟨k, rfl, hk⟩ | ho
  · have hT := h.ct k hk
    have hi := inn_yes hk
    have e1 : isT s (k : Int) = s.t k := by simp [isT, hi]
    have a1 : decide ((k : Int) < (s.n : Int)) = true := by simp; omega
    rw [e1]
    clear e1 hi
    go_enter Try.func32, Try.ntmps32
    go_wp2
    go_ret
    exact ⟨rfl, rfl⟩
  · have hi := inn_no ho
    have e1 : isT s i = false := by simp [isT, hi]
    rw [e1]
    clear e1 hi
    by_cases h0 : 0 ≤ i
    · have a1 : decide (i < (s.n : Int)) = false := by simp; omega
      go_enter Try.func32, Try.ntmps32
      go_wp2
      go_ret
      exact ⟨rfl, rfl⟩
    · have a0 : decide (0 ≤ i) = false := by simp; omega
      go_enter Try.func32, Try.ntmps32
      go_wp2
      go_ret
      exact ⟨rfl, rfl⟩
end Go.Proofs.Ytffophgdjkpilaa
