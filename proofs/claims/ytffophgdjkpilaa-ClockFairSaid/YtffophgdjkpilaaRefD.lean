/-
  The reference's New makes a clock of so many frames, or none.
-/
import Derived.Test.YtffophgdjkpilaaRefC
namespace Go.Proofs.Ytffophgdjkpilaa
open Go.RowKit Clk
set_option linter.unusedVariables false

theorem Try.info4 : (Try.prog.info? 4).map (fun i => (i.zero, i.size, i.bytes)) = some (some (.bool false), 1, 1) := by kernel_rfl
theorem Try.info3 : (Try.prog.info? 3).map (fun i => (i.zero, i.size, i.bytes)) = some (some (.int .i64 0), 1, 8) := by kernel_rfl

theorem run_bools (k : Nat) (hk : k ≤ 64) (W : World) : (Instr.makeSlice 43 (.int .i64 (k : Int)) (.int .i64 (k : Int))).run Try.prog W =
    .ok (.slice (some ⟨W.heap.size, 0, none⟩) k k) (W.alloc (.cells (madeCells #[.bool false] k) 4)) := by
  obtain ⟨i, hi, hz0, hz1, hz2⟩ := info_parts Try.info4
  have := run_make (P := Try.prog) W 43 4 i (.bool false) Try.underlying43 hi hz0 .i64 .i64 k k (by omega) (Int.le_refl _) (by rw [hz2]; omega) (by omega)
  simp only [Int.toNat_natCast, hz1, Nat.mul_one] at this
  exact this
theorem run_ints (k : Nat) (hk : k ≤ 64) (W : World) : (Instr.makeSlice 44 (.int .i64 (k : Int)) (.int .i64 (k : Int))).run Try.prog W =
    .ok (.slice (some ⟨W.heap.size, 0, none⟩) k k) (W.alloc (.cells (madeCells #[.int .i64 0] k) 3)) := by
  obtain ⟨i, hi, hz0, hz1, hz2⟩ := info_parts Try.info3
  have := run_make (P := Try.prog) W 44 3 i (.int .i64 0) Try.underlying44 hi hz0 .i64 .i64 k k (by omega) (Int.le_refl _) (by rw [hz2]; omega) (by omega)
  simp only [Int.toNat_natCast, hz1, Nat.mul_one] at this
  exact this

def MadeR (w : World) (s : St) (e : Ending) (w' : World) : Prop :=
  ∃ br bt bu bp, e = .returned (.pointer (some ⟨br, 0, none⟩)) ∧ w.heap.size ≤ br ∧ w.heap.size ≤ bt ∧ w.heap.size ≤ bu ∧ w.heap.size ≤ bp ∧ RC w' br bt bu bp s ∧ Mod w w' []

theorem rnew_no (w : World) (n : Int) (h : n < 1 ∨ 64 < n) :
   Calls Try.prog 9 #[.int .i64 n] w fun e w' => e = .returned (.pointer none) ∧ w = w' := by
  by_cases h0 : n < 1
  · have a0 : decide (n < 1) = true := by simp; omega
    go_enter Try.func9, Try.ntmps9
    go_wp2
    go_ret
    exact ⟨rfl, rfl⟩
  · have a0 : decide (n < 1) = false := by simp; omega
    have a1 : decide (64 < n) = true := by simp; omega
    go_enter Try.func9, Try.ntmps9
    go_wp2
    go_ret
    exact ⟨rfl, rfl⟩

theorem heap_alloc_at (w : World) (o : Obj) (k : Nat) : (w.alloc o).heap[k]? = if k = w.heap.size then some o else w.heap[k]? := by
  rw [show (w.alloc o).heap = w.heap.push o from rfl, Array.getElem?_push]
theorem size_alloc (w : World) (o : Obj) : (w.alloc o).heap.size = w.heap.size + 1 := by simp
theorem heap_drew (w : World) : w.drew.heap = w.heap := rfl

theorem heap4 (w : World) (A B C D : Obj) : ((((w.alloc A).alloc B).alloc C).alloc D).drew.heap[w.heap.size]? = some A ∧ ((((w.alloc A).alloc B).alloc C).alloc D).drew.heap[w.heap.size + 1]? = some B ∧
    ((((w.alloc A).alloc B).alloc C).alloc D).drew.heap[w.heap.size + 1 + 1]? = some C ∧ ((((w.alloc A).alloc B).alloc C).alloc D).drew.heap[w.heap.size + 1 + 1 + 1]? = some D := by
  simp only [heap_drew, heap_alloc_at, size_alloc]
  refine ⟨?_, ?_, ?_, ?_⟩
  · rw [if_neg (by omega), if_neg (by omega), if_neg (by omega), if_pos trivial]
  · rw [if_neg (by omega), if_neg (by omega), if_pos trivial]
  · rw [if_neg (by omega), if_pos trivial]
  · rw [if_pos trivial]

theorem rc_made (W : World) (br bt bu bp k : Nat) (h1 : 1 ≤ k) (h64 : k ≤ 64) (d1 : br ≠ bt) (d2 : br ≠ bu) (d3 : br ≠ bp) (d4 : bt ≠ bu) (d5 : bt ≠ bp) (d6 : bu ≠ bp)
    (ht : W.heap[bt]? = some (.cells (madeCells #[.bool false] k) 4)) (hu : W.heap[bu]? = some (.cells (madeCells #[.bool false] k) 4))
    (hp : W.heap[bp]? = some (.cells (madeCells #[.int .i64 0] k) 3))
    (hr : W.heap[br]? = some (.cells #[.slice (some ⟨bt, 0, none⟩) k k, .slice (some ⟨bu, 0, none⟩) k k, .slice (some ⟨bp, 0, none⟩) k k, .int .i64 0] 46)) : RC W br bt bu bp (newS k) := by
  have gb : ∀ j, j < k → (madeCells #[.bool false] k)[j]? = some (.bool false) := by
    intro j hj
    rw [made_get _ _ _ hj]
    show some (#[Value.bool false][j % 1]!) = _
    rw [Nat.mod_one]; rfl
  have gi : ∀ j, j < k → (madeCells #[.int .i64 0] k)[j]? = some (.int .i64 0) := by
    intro j hj
    rw [made_get _ _ _ hj]
    show some (#[Value.int .i64 0][j % 1]!) = _
    rw [Nat.mod_one]; rfl
  refine ⟨h1, h64, h1, d1, d2, d3, d4, d5, d6, ?_, ?_, ?_, ?_, ?_, ?_, ?_, ?_, ?_, ?_, ?_⟩
  · simp [World.cell?, hr, newS]
  · simp [World.cell?, hr, newS]
  · simp [World.cell?, hr, newS]
  · simp [World.cell?, hr, newS]
  · intro o; simp [World.frozen?, hr]
  · intro j hj; simp only [World.cell?, ht]; simpa [newS] using gb j hj
  · intro o; simp [World.frozen?, ht]
  · intro j hj; simp only [World.cell?, hu]; simpa [newS] using gb j hj
  · intro o; simp [World.frozen?, hu]
  · intro j hj; simp only [World.cell?, hp]; simpa [newS] using gi j hj
  · intro o; simp [World.frozen?, hp]

theorem rnew_ok (w : World) (k : Nat) (h1 : 1 ≤ k) (h64 : k ≤ 64) :
   Calls Try.prog 9 #[.int .i64 (k : Int)] w (MadeR w (newS k)) := by
  have hmk := run_bools k h64
  have hmi := run_ints k h64
  have a0 : decide ((k : Int) < 1) = false := by simp; omega
  have a1 : decide ((64 : Int) < (k : Int)) = false := by simp; omega
  go_enter Try.func9, Try.ntmps9
  go_wp2
  go_region
  all_goals (go_wp2; go_ret)
  all_goals first
    | (refine ⟨_, w.heap.size, (w.heap.size + 1), (w.heap.size + 1 + 1), rfl, ?_, ?_, ?_, ?_, rc_made _ _ _ _ _ k h1 h64 ?_ ?_ ?_ ?_ ?_ ?_ ?_ ?_ ?_ ?_, ?_⟩ <;> first | omega | exact (heap4 _ _ _ _ _).1 | exact (heap4 _ _ _ _ _).2.1 | exact (heap4 _ _ _ _ _).2.2.1 | exact (heap4 _ _ _ _ _).2.2.2 | exact (((((Mod.refl _ _).alloc _).alloc _).alloc _).alloc _).drew)
    | (refine ⟨_, w.heap.size, (w.heap.size + 1 + 1), (w.heap.size + 1), rfl, ?_, ?_, ?_, ?_, rc_made _ _ _ _ _ k h1 h64 ?_ ?_ ?_ ?_ ?_ ?_ ?_ ?_ ?_ ?_, ?_⟩ <;> first | omega | exact (heap4 _ _ _ _ _).1 | exact (heap4 _ _ _ _ _).2.1 | exact (heap4 _ _ _ _ _).2.2.1 | exact (heap4 _ _ _ _ _).2.2.2 | exact (((((Mod.refl _ _).alloc _).alloc _).alloc _).alloc _).drew)
    | (refine ⟨_, (w.heap.size + 1), w.heap.size, (w.heap.size + 1 + 1), rfl, ?_, ?_, ?_, ?_, rc_made _ _ _ _ _ k h1 h64 ?_ ?_ ?_ ?_ ?_ ?_ ?_ ?_ ?_ ?_, ?_⟩ <;> first | omega | exact (heap4 _ _ _ _ _).1 | exact (heap4 _ _ _ _ _).2.1 | exact (heap4 _ _ _ _ _).2.2.1 | exact (heap4 _ _ _ _ _).2.2.2 | exact (((((Mod.refl _ _).alloc _).alloc _).alloc _).alloc _).drew)
    | (refine ⟨_, (w.heap.size + 1), (w.heap.size + 1 + 1), w.heap.size, rfl, ?_, ?_, ?_, ?_, rc_made _ _ _ _ _ k h1 h64 ?_ ?_ ?_ ?_ ?_ ?_ ?_ ?_ ?_ ?_, ?_⟩ <;> first | omega | exact (heap4 _ _ _ _ _).1 | exact (heap4 _ _ _ _ _).2.1 | exact (heap4 _ _ _ _ _).2.2.1 | exact (heap4 _ _ _ _ _).2.2.2 | exact (((((Mod.refl _ _).alloc _).alloc _).alloc _).alloc _).drew)
    | (refine ⟨_, (w.heap.size + 1 + 1), w.heap.size, (w.heap.size + 1), rfl, ?_, ?_, ?_, ?_, rc_made _ _ _ _ _ k h1 h64 ?_ ?_ ?_ ?_ ?_ ?_ ?_ ?_ ?_ ?_, ?_⟩ <;> first | omega | exact (heap4 _ _ _ _ _).1 | exact (heap4 _ _ _ _ _).2.1 | exact (heap4 _ _ _ _ _).2.2.1 | exact (heap4 _ _ _ _ _).2.2.2 | exact (((((Mod.refl _ _).alloc _).alloc _).alloc _).alloc _).drew)
    | (refine ⟨_, (w.heap.size + 1 + 1), (w.heap.size + 1), w.heap.size, rfl, ?_, ?_, ?_, ?_, rc_made _ _ _ _ _ k h1 h64 ?_ ?_ ?_ ?_ ?_ ?_ ?_ ?_ ?_ ?_, ?_⟩ <;> first | omega | exact (heap4 _ _ _ _ _).1 | exact (heap4 _ _ _ _ _).2.1 | exact (heap4 _ _ _ _ _).2.2.1 | exact (heap4 _ _ _ _ _).2.2.2 | exact (((((Mod.refl _ _).alloc _).alloc _).alloc _).alloc _).drew)
end Go.Proofs.Ytffophgdjkpilaa
