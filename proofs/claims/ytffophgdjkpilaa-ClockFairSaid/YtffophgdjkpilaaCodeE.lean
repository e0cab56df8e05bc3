/-
  The program's New makes a clock of so many frames, or none.
-/
import Derived.Test.YtffophgdjkpilaaCodeD
namespace Go.Proofs.Ytffophgdjkpilaa
open Go.RowKit Clk
set_option linter.unusedVariables false

theorem Try.info50 : (Try.prog.info? 50).map (fun i => (i.zero, i.size, i.bytes)) = some (some (.agg #[.bool false, .bool false, .int .i64 0]), 3, 16) := by kernel_rfl

theorem made_get (z : Array Value) (n j : Nat) (h : j < n) : (madeCells z n)[j]? = some (z[j % z.size]!) := by
  unfold madeCells
  rw [Array.getElem?_map, Array.getElem?_range, if_pos h]; rfl

theorem run_frames (k : Nat) (hk : k ≤ 64) (W : World) : (Instr.makeSlice 40 (.int .i64 (k : Int)) (.int .i64 (k : Int))).run Try.prog W =
    .ok (.slice (some ⟨W.heap.size, 0, none⟩) k k) (W.alloc (.cells (madeCells #[.bool false, .bool false, .int .i64 0] (k * 3)) 50)) := by
  obtain ⟨i, hi, hz0, hz1, hz2⟩ := info_parts Try.info50
  have := run_make (P := Try.prog) W 40 50 i (.agg #[.bool false, .bool false, .int .i64 0]) Try.underlying40 hi hz0 .i64 .i64 k k (by omega) (Int.le_refl _) (by rw [hz2]; omega) (by omega)
  simp only [Int.toNat_natCast, hz1] at this
  exact this

theorem cell_alloc (w : World) (c : Array Value) (t : TypeId) (o : Nat) : (w.alloc (.cells c t)).cell? ⟨w.heap.size, o, none⟩ = c[o]? := by
  unfold World.cell?
  rw [show (w.alloc (.cells c t)).heap = w.heap.push (.cells c t) from rfl]
  simp
theorem frozen_alloc (w : World) (c : Array Value) (t : TypeId) (o : Nat) : (w.alloc (.cells c t)).frozen? ⟨w.heap.size, o, none⟩ = false := by
  unfold World.frozen?
  rw [show (w.alloc (.cells c t)).heap = w.heap.push (.cells c t) from rfl]
  simp

def Made (w : World) (r : Value) (bc bf : Nat) (s : St) (e : Ending) (w' : World) : Prop := e = .returned r ∧ PC w' bc bf s ∧ Mod w w' []

theorem new_ok (w : World) (k : Nat) (h1 : 1 ≤ k) (h64 : k ≤ 64) :
   Calls Try.prog 8 #[.int .i64 (k : Int)] w (Made w (.pointer (some ⟨w.heap.size + 1, 0, none⟩)) (w.heap.size + 1) w.heap.size (newS k)) := by
  have hmk := run_frames k h64
  have a0 : decide ((k : Int) < 1) = false := by simp; omega
  have a1 : decide ((64 : Int) < (k : Int)) = false := by simp; omega
  go_enter Try.func8, Try.ntmps8
  go_wp2
  go_ret
  have hs : (w.alloc (.cells (madeCells #[.bool false, .bool false, .int .i64 0] (k * 3)) 50)).heap.size = w.heap.size + 1 := by simp
  refine ⟨rfl, ?_, ((Mod.refl _ _).alloc _).alloc _⟩
  have m : Mod (w.alloc (.cells (madeCells #[.bool false, .bool false, .int .i64 0] (k * 3)) 50)) ((w.alloc (.cells (madeCells #[.bool false, .bool false, .int .i64 0] (k * 3)) 50)).alloc (.cells #[.slice (some ⟨w.heap.size, 0, none⟩) k k, .int .i64 0] 42)) [] := (Mod.refl _ _).alloc _
  have hl : w.heap.size < (w.alloc (.cells (madeCells #[.bool false, .bool false, .int .i64 0] (k * 3)) 50)).heap.size := by rw [hs]; omega
  refine ⟨h1, h64, h1, by omega, ?_, ?_, ?_, ?_, ?_, ?_, ?_⟩
  · have := cell_alloc (w.alloc (.cells (madeCells #[.bool false, .bool false, .int .i64 0] (k * 3)) 50)) #[.slice (some ⟨w.heap.size, 0, none⟩) k k, .int .i64 0] 42 0
    rw [hs] at this
    exact this
  · have := cell_alloc (w.alloc (.cells (madeCells #[.bool false, .bool false, .int .i64 0] (k * 3)) 50)) #[.slice (some ⟨w.heap.size, 0, none⟩) k k, .int .i64 0] 42 1
    rw [hs] at this
    exact this
  · intro o
    have := frozen_alloc (w.alloc (.cells (madeCells #[.bool false, .bool false, .int .i64 0] (k * 3)) 50)) #[.slice (some ⟨w.heap.size, 0, none⟩) k k, .int .i64 0] 42 o
    rw [hs] at this
    exact this
  · intro j hj
    have hj : j < k := hj
    refine m.cell_of ?_ (by simp)
    rw [cell_alloc, made_get _ _ _ (by omega)]
    show some (#[Value.bool false, Value.bool false, Value.int .i64 0][j * 3 % 3]!) = _
    rw [show j * 3 % 3 = 0 from by omega]; rfl
  · intro j hj
    have hj : j < k := hj
    refine m.cell_of ?_ (by simp)
    rw [cell_alloc, made_get _ _ _ (by omega)]
    show some (#[Value.bool false, Value.bool false, Value.int .i64 0][(j * 3 + 1) % 3]!) = _
    rw [show (j * 3 + 1) % 3 = 1 from by omega]; rfl
  · intro j hj
    have hj : j < k := hj
    refine m.cell_of ?_ (by simp)
    rw [cell_alloc, made_get _ _ _ (by omega)]
    show some (#[Value.bool false, Value.bool false, Value.int .i64 0][(j * 3 + 2) % 3]!) = _
    rw [show (j * 3 + 2) % 3 = 2 from by omega]; rfl
  · intro o
    rw [m.frozen _ _ hl (by simp)]
    exact frozen_alloc _ _ _ _

theorem new_no (w : World) (n : Int) (h : n < 1 ∨ 64 < n) :
   Calls Try.prog 8 #[.int .i64 n] w fun e w' => e = .returned (.pointer none) ∧ w = w' := by
  by_cases h0 : n < 1
  · have a0 : decide (n < 1) = true := by simp; omega
    go_enter Try.func8, Try.ntmps8
    go_wp2
    go_ret
    exact ⟨rfl, rfl⟩
  · have a0 : decide (n < 1) = false := by simp; omega
    have a1 : decide (64 < n) = true := by simp; omega
    go_enter Try.func8, Try.ntmps8
    go_wp2
    go_ret
    exact ⟨rfl, rfl⟩
end Go.Proofs.Ytffophgdjkpilaa
