/-
  The chapter's example is true.
-/
import Derived.Test.YtffophgdjkpilaaDoesD
namespace Go.Proofs.Ytffophgdjkpilaa
open Go.RowKit Clk
set_option linter.unusedVariables false

/-- what turns is new -/
theorem Mod.fresh {w a b : World} {bs : List Nat} (h : Mod w a []) (m : Mod a b bs) (hb : ∀ k, k ∈ bs → w.heap.size ≤ k) : Mod w b [] :=
  ⟨m.os.trans h.os, m.tape.trans h.tape, m.output.trans h.output, Nat.le_trans h.size m.size, fun k hk _ => (m.block k (Nat.lt_of_lt_of_le hk h.size) (fun q => by have := hb k q; omega)).trans (h.block k hk (by simp))⟩

def k0 : St := newS 2
def k1 : St := takeS k0 0
def k2 : St := takeS k1 1
def k3 : St := pickS k2
def k4 : St := touchS k3 1

def DidV' (w : World) (r : Value) (e : Ending) (w' : World) : Prop := e = .returned r ∧ Mod w w' []

theorem known_any (w : World) : Calls Try.prog 7 #[] w (DidV w (.bool true)) := by
  have hT0 := fun w bc bf h => take_any w bc bf k0 h 0
  have hT1 := fun w bc bf h => take_any w bc bf k1 h 1
  have hP2 := fun w bc bf h => pick_any w bc bf k2 h
  have hU3 := fun w bc bf h => touch_any w bc bf k3 h 1
  have hP4 := fun w bc bf h => pick_any w bc bf k4 h
  have e0 : takeB k0 0 = true := by decide +kernel
  have e1 : takeB k1 1 = true := by decide +kernel
  have e2 : pickB k2 = true := by decide +kernel
  have e2' : pickI k2 = 0 := by decide +kernel
  have e3 : isT k3 1 = true := by decide +kernel
  have e4 : pickB k4 = true := by decide +kernel
  have e4' : pickI k4 = 0 := by decide +kernel
  rw [e0] at hT0
  rw [e1] at hT1
  rw [e2, e2'] at hP2
  rw [e3] at hU3
  rw [e4, e4'] at hP4
  have HT0 := Lib.hid hT0
  have HT1 := Lib.hid hT1
  have HP2 := Lib.hid hP2
  have HU3 := Lib.hid hU3
  have HP4 := Lib.hid hP4
  clear hT0 hT1 hP2 hU3 hP4 e0 e1 e2 e2' e3 e4 e4'
  go_enter Try.func7, Try.ntmps7
  go_wp2_with fail
  refine (new_ok _ 2 (by omega) (by omega)).mono ?_
  rintro e w1 ⟨rfl, p1, m1⟩
  generalize hbc : w.heap.size + 1 = bc at *
  generalize hbf : w.heap.size = bf at *
  have l1 := Lib.hid (show w.heap.size ≤ bc by omega)
  have l2 := Lib.hid (show w.heap.size ≤ bf by omega)
  have P1 := Lib.hid p1
  have M1 := Lib.hid m1
  clear p1 m1 hbc hbf
  go_wp2_with fail
  refine (HT0.out _ bc bf P1.out).mono ?_
  rintro e w2 ⟨rfl, p2, m2⟩
  have P2 := Lib.hid p2
  have M2 := Lib.hid (M1.out.fresh m2 (by simp; exact l2.out))
  clear p2 m2
  go_wp2_with fail
  refine (HT1.out _ bc bf P2.out).mono ?_
  rintro e w3 ⟨rfl, p3, m3⟩
  have P3 := Lib.hid p3
  have M3 := Lib.hid (M2.out.fresh m3 (by simp; exact l2.out))
  clear p3 m3
  go_wp2_with fail
  refine (HP2.out _ bc bf P3.out).mono ?_
  rintro e w4 ⟨rfl, p4, m4⟩
  have P4 := Lib.hid p4
  have M4 := Lib.hid (M3.out.fresh m4 (by simp; exact ⟨l1.out, l2.out⟩))
  clear p4 m4
  go_wp2_with fail
  refine (HU3.out _ bc bf P4.out).mono ?_
  rintro e w5 ⟨rfl, p5, m5⟩
  have P5 := Lib.hid p5
  have M5 := Lib.hid (M4.out.fresh m5 (by simp; exact l2.out))
  clear p5 m5
  go_wp2_with fail
  refine (HP4.out _ bc bf P5.out).mono ?_
  rintro e w6 ⟨rfl, p6, m6⟩
  have M6 := Lib.hid (M5.out.fresh m6 (by simp; exact ⟨l1.out, l2.out⟩))
  clear p6 m6
  go_wp2_with fail
  refine (new_no _ 0 (by omega)).mono ?_
  rintro e w7 ⟨rfl, rfl⟩
  go_wp2_with fail
  refine (new_no _ 65 (by omega)).mono ?_
  rintro e w8 ⟨rfl, rfl⟩
  go_wp2_with fail
  go_ret
  exact ⟨rfl, M6.out⟩

/-- the calls that came in: a slice of structs of two cells -/
def Ops (w : World) (b : Option Addr) (len : Nat) : Prop :=
  ∀ k, k < len → ∃ (bl ol kd : Nat) (i : Int), b = some ⟨bl, ol, none⟩ ∧ kd < 256 ∧ w.cell? ⟨bl, ol + k * 2, none⟩ = some (.int .u8 (kd : Int)) ∧ w.cell? ⟨bl, ol + k * 2 + 1, none⟩ = some (.int .i64 i)
theorem Ops.mod {w w' : World} {b : Option Addr} {len : Nat} (h : Ops w b len) (m : Mod w w' []) : Ops w' b len := by
  intro k hk
  obtain ⟨bl, ol, kd, i, hb, h1, h2, h3⟩ := h k hk
  exact ⟨bl, ol, kd, i, hb, h1, m.cell_of h2 (by simp), m.cell_of h3 (by simp)⟩
end Go.Proofs.Ytffophgdjkpilaa
