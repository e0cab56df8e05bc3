/-
  A call on both clocks, kinds 6 and 7 (Pick), where nothing is left.
-/
import Derived.Test.YtffophgdjkpilaaDoesA
namespace Go.Proofs.Ytffophgdjkpilaa
open Go.RowKit Clk
set_option linter.unusedVariables false

/-- what the two Picks come to, under names -/
def PickP (s s1 : St) (i : Nat) (b : Bool) : Prop := ∀ (w : World) (bc bf : Nat), PC w bc bf s →
  Calls Try.prog 14 #[.pointer (some ⟨bc, 0, none⟩)] w (Did w (.tuple #[.int .i64 (i : Int), .bool b]) bc bf s1 [bc, bf])
def PickR (s s1 : St) (i : Nat) (b : Bool) : Prop := ∀ (w : World) (br bt bu bp : Nat), RC w br bt bu bp s →
  Calls Try.prog 25 #[.pointer (some ⟨br, 0, none⟩)] w (DidR w (.tuple #[.int .i64 (i : Int), .bool b]) br bt bu bp s1 [br, bu])
theorem pickP (s : St) : PickP s (pickS s) (pickI s) (pickB s) := fun w bc bf h => pick_any w bc bf s h
theorem pickR (s : St) : PickR s (pickS s) (pickI s) (pickB s) := fun w br bt bu bp h => rpick_any w br bt bu bp s h
def PairD (w : World) (K : Blk) (s r : St) (b : Bool) (e : Ending) (w' : World) : Prop := DidP w K s r b e w'

theorem does_6_eq_true_true (w : World) (K : Blk) (s r s1 r1 : St) (h : Pair w K s r) (kd : Nat) (i : Int) (i1 : Nat) (hk : kd < 256) (hj : kd % 8 = 6)
   (hP : PickP s s1 i1 true) (hR : PickR r r1 i1 true) : Calls Try.prog 10 #[.pointer (some ⟨K.bc, 0, none⟩), .pointer (some ⟨K.br, 0, none⟩), .agg #[.int .u8 (kd : Int), .int .i64 i]] w (DidP w K s1 r1 true) := by
  have hlt := h.lt
  have e0 : ((kd : Int) % 8 == 0) = false := by simp; omega
  have e1 : ((kd : Int) % 8 == 1) = false := by simp; omega
  have e2 : ((kd : Int) % 8 == 2) = false := by simp; omega
  have e3 : ((kd : Int) % 8 == 3) = false := by simp; omega
  have e4 : ((kd : Int) % 8 == 4) = false := by simp; omega
  have e5 : ((kd : Int) % 8 == 5) = false := by simp; omega
  have e6 : ((kd : Int) % 8 == 6) = true := by simp; omega
  have e7 : ((kd : Int) % 8 == 7) = false := by simp; omega
  have Hlt := Lib.hid hlt
  have Hp := Lib.hid h
  clear h hlt hj
  go_enter Try.func10, Try.ntmps10
  go_wp2_with fail
  have hq : Pair (w.alloc (.cells #[.int .u8 (kd : Int), .int .i64 i] 30)) K s r := Hp.out.alloc _
  have hbx : w.heap.size ∉ K.all := fun hm => by have := Hlt.out _ hm; omega
  have hcb : (w.alloc (.cells #[.int .u8 (kd : Int), .int .i64 i] 30)).cell? ⟨w.heap.size, 0, none⟩ = some (.int .u8 (kd : Int)) := by rw [cell_alloc]; rfl
  have hmm : Mod w (w.alloc (.cells #[.int .u8 (kd : Int), .int .i64 i] 30)) K.all := (Mod.refl _ _).alloc _
  have Hq := Lib.hid hq
  have Hbx := Lib.hid hbx
  have Hmm := Lib.hid hmm
  clear hq hbx hmm Hlt Hp
  generalize w.alloc (.cells #[.int .u8 (kd : Int), .int .i64 i] 30) = W at *
  generalize w.heap.size = bx at *
  refine (hP _ K.bc K.bf Hq.out.pc).mono ?_
  rintro e w1 ⟨rfl, p1, m1⟩
  have c1 : w1.cell? ⟨bx, 0, none⟩ = some (.int .u8 (kd : Int)) := m1.cell_of hcb (fun hm => Hbx.out (by simp [Blk.all] at hm ⊢; omega))
  have P1 := Lib.hid p1
  have M1 := Lib.hid m1
  clear p1 m1
  go_wp2_with fail
  refine (hR _ K.br K.bt K.bu K.bp (Hq.out.prog P1.out M1.out (by simp)).rc).mono ?_
  rintro e w2 ⟨rfl, p2, m2⟩
  have c2 : w2.cell? ⟨bx, 0, none⟩ = some (.int .u8 (kd : Int)) := m2.cell_of c1 (fun hm => Hbx.out (by simp [Blk.all] at hm ⊢; omega))
  have P2 := Lib.hid p2
  have M2 := Lib.hid m2
  clear p2 m2
  go_wp2_with fail
  go_ret
  have q1 := (Hq.out.prog P1.out M1.out (by simp)).ref P2.out M2.out (by simp)
  have m1 := Hmm.out.trans ((M1.out.mono (by simp [Blk.all])).trans (M2.out.mono (by simp [Blk.all])))
  exact ⟨rfl, q1, m1⟩

theorem does_6_ne_true_true (w : World) (K : Blk) (s r s1 r1 : St) (h : Pair w K s r) (kd : Nat) (i : Int) (i1 i2 : Nat) (hk : kd < 256) (hj : kd % 8 = 6) (hne : i1 ≠ i2)
   (hP : PickP s s1 i1 true) (hR : PickR r r1 i2 true) : Calls Try.prog 10 #[.pointer (some ⟨K.bc, 0, none⟩), .pointer (some ⟨K.br, 0, none⟩), .agg #[.int .u8 (kd : Int), .int .i64 i]] w (DidP w K s1 r1 false) := by
  have hne' : ((i1 : Int) == (i2 : Int)) = false := by simp; omega
  have hlt := h.lt
  have e0 : ((kd : Int) % 8 == 0) = false := by simp; omega
  have e1 : ((kd : Int) % 8 == 1) = false := by simp; omega
  have e2 : ((kd : Int) % 8 == 2) = false := by simp; omega
  have e3 : ((kd : Int) % 8 == 3) = false := by simp; omega
  have e4 : ((kd : Int) % 8 == 4) = false := by simp; omega
  have e5 : ((kd : Int) % 8 == 5) = false := by simp; omega
  have e6 : ((kd : Int) % 8 == 6) = true := by simp; omega
  have e7 : ((kd : Int) % 8 == 7) = false := by simp; omega
  have Hlt := Lib.hid hlt
  have Hp := Lib.hid h
  clear h hlt hj
  go_enter Try.func10, Try.ntmps10
  go_wp2_with fail
  have hq : Pair (w.alloc (.cells #[.int .u8 (kd : Int), .int .i64 i] 30)) K s r := Hp.out.alloc _
  have hbx : w.heap.size ∉ K.all := fun hm => by have := Hlt.out _ hm; omega
  have hcb : (w.alloc (.cells #[.int .u8 (kd : Int), .int .i64 i] 30)).cell? ⟨w.heap.size, 0, none⟩ = some (.int .u8 (kd : Int)) := by rw [cell_alloc]; rfl
  have hmm : Mod w (w.alloc (.cells #[.int .u8 (kd : Int), .int .i64 i] 30)) K.all := (Mod.refl _ _).alloc _
  have Hq := Lib.hid hq
  have Hbx := Lib.hid hbx
  have Hmm := Lib.hid hmm
  clear hq hbx hmm Hlt Hp
  generalize w.alloc (.cells #[.int .u8 (kd : Int), .int .i64 i] 30) = W at *
  generalize w.heap.size = bx at *
  refine (hP _ K.bc K.bf Hq.out.pc).mono ?_
  rintro e w1 ⟨rfl, p1, m1⟩
  have c1 : w1.cell? ⟨bx, 0, none⟩ = some (.int .u8 (kd : Int)) := m1.cell_of hcb (fun hm => Hbx.out (by simp [Blk.all] at hm ⊢; omega))
  have P1 := Lib.hid p1
  have M1 := Lib.hid m1
  clear p1 m1
  go_wp2_with fail
  refine (hR _ K.br K.bt K.bu K.bp (Hq.out.prog P1.out M1.out (by simp)).rc).mono ?_
  rintro e w2 ⟨rfl, p2, m2⟩
  have c2 : w2.cell? ⟨bx, 0, none⟩ = some (.int .u8 (kd : Int)) := m2.cell_of c1 (fun hm => Hbx.out (by simp [Blk.all] at hm ⊢; omega))
  have P2 := Lib.hid p2
  have M2 := Lib.hid m2
  clear p2 m2
  go_wp2_with fail
  go_ret
  have q1 := (Hq.out.prog P1.out M1.out (by simp)).ref P2.out M2.out (by simp)
  have m1 := Hmm.out.trans ((M1.out.mono (by simp [Blk.all])).trans (M2.out.mono (by simp [Blk.all])))
  exact ⟨rfl, q1, m1⟩

theorem does_7_ne_true_true (w : World) (K : Blk) (s r s1 r1 : St) (h : Pair w K s r) (kd : Nat) (i : Int) (i1 i2 : Nat) (hk : kd < 256) (hj : kd % 8 = 7) (hne : i1 ≠ i2)
   (hP : PickP s s1 i1 true) (hR : PickR r r1 i2 true) : Calls Try.prog 10 #[.pointer (some ⟨K.bc, 0, none⟩), .pointer (some ⟨K.br, 0, none⟩), .agg #[.int .u8 (kd : Int), .int .i64 i]] w (DidP w K s1 r1 false) := by
  have hne' : ((i1 : Int) == (i2 : Int)) = false := by simp; omega
  have hlt := h.lt
  have e0 : ((kd : Int) % 8 == 0) = false := by simp; omega
  have e1 : ((kd : Int) % 8 == 1) = false := by simp; omega
  have e2 : ((kd : Int) % 8 == 2) = false := by simp; omega
  have e3 : ((kd : Int) % 8 == 3) = false := by simp; omega
  have e4 : ((kd : Int) % 8 == 4) = false := by simp; omega
  have e5 : ((kd : Int) % 8 == 5) = false := by simp; omega
  have e6 : ((kd : Int) % 8 == 6) = false := by simp; omega
  have e7 : ((kd : Int) % 8 == 7) = true := by simp; omega
  have Hlt := Lib.hid hlt
  have Hp := Lib.hid h
  clear h hlt hj
  go_enter Try.func10, Try.ntmps10
  go_wp2_with fail
  have hq : Pair (w.alloc (.cells #[.int .u8 (kd : Int), .int .i64 i] 30)) K s r := Hp.out.alloc _
  have hbx : w.heap.size ∉ K.all := fun hm => by have := Hlt.out _ hm; omega
  have hcb : (w.alloc (.cells #[.int .u8 (kd : Int), .int .i64 i] 30)).cell? ⟨w.heap.size, 0, none⟩ = some (.int .u8 (kd : Int)) := by rw [cell_alloc]; rfl
  have hmm : Mod w (w.alloc (.cells #[.int .u8 (kd : Int), .int .i64 i] 30)) K.all := (Mod.refl _ _).alloc _
  have Hq := Lib.hid hq
  have Hbx := Lib.hid hbx
  have Hmm := Lib.hid hmm
  clear hq hbx hmm Hlt Hp
  generalize w.alloc (.cells #[.int .u8 (kd : Int), .int .i64 i] 30) = W at *
  generalize w.heap.size = bx at *
  refine (hP _ K.bc K.bf Hq.out.pc).mono ?_
  rintro e w1 ⟨rfl, p1, m1⟩
  have c1 : w1.cell? ⟨bx, 0, none⟩ = some (.int .u8 (kd : Int)) := m1.cell_of hcb (fun hm => Hbx.out (by simp [Blk.all] at hm ⊢; omega))
  have P1 := Lib.hid p1
  have M1 := Lib.hid m1
  clear p1 m1
  go_wp2_with fail
  refine (hR _ K.br K.bt K.bu K.bp (Hq.out.prog P1.out M1.out (by simp)).rc).mono ?_
  rintro e w2 ⟨rfl, p2, m2⟩
  have c2 : w2.cell? ⟨bx, 0, none⟩ = some (.int .u8 (kd : Int)) := m2.cell_of c1 (fun hm => Hbx.out (by simp [Blk.all] at hm ⊢; omega))
  have P2 := Lib.hid p2
  have M2 := Lib.hid m2
  clear p2 m2
  go_wp2_with fail
  go_ret
  have q1 := (Hq.out.prog P1.out M1.out (by simp)).ref P2.out M2.out (by simp)
  have m1 := Hmm.out.trans ((M1.out.mono (by simp [Blk.all])).trans (M2.out.mono (by simp [Blk.all])))
  exact ⟨rfl, q1, m1⟩

theorem does_6_eq_true_false (w : World) (K : Blk) (s r s1 r1 : St) (h : Pair w K s r) (kd : Nat) (i : Int) (i1 : Nat) (hk : kd < 256) (hj : kd % 8 = 6)
   (hP : PickP s s1 i1 true) (hR : PickR r r1 i1 false) : Calls Try.prog 10 #[.pointer (some ⟨K.bc, 0, none⟩), .pointer (some ⟨K.br, 0, none⟩), .agg #[.int .u8 (kd : Int), .int .i64 i]] w (DidP w K s1 r1 false) := by
  have hlt := h.lt
  have e0 : ((kd : Int) % 8 == 0) = false := by simp; omega
  have e1 : ((kd : Int) % 8 == 1) = false := by simp; omega
  have e2 : ((kd : Int) % 8 == 2) = false := by simp; omega
  have e3 : ((kd : Int) % 8 == 3) = false := by simp; omega
  have e4 : ((kd : Int) % 8 == 4) = false := by simp; omega
  have e5 : ((kd : Int) % 8 == 5) = false := by simp; omega
  have e6 : ((kd : Int) % 8 == 6) = true := by simp; omega
  have e7 : ((kd : Int) % 8 == 7) = false := by simp; omega
  have Hlt := Lib.hid hlt
  have Hp := Lib.hid h
  clear h hlt hj
  go_enter Try.func10, Try.ntmps10
  go_wp2_with fail
  have hq : Pair (w.alloc (.cells #[.int .u8 (kd : Int), .int .i64 i] 30)) K s r := Hp.out.alloc _
  have hbx : w.heap.size ∉ K.all := fun hm => by have := Hlt.out _ hm; omega
  have hcb : (w.alloc (.cells #[.int .u8 (kd : Int), .int .i64 i] 30)).cell? ⟨w.heap.size, 0, none⟩ = some (.int .u8 (kd : Int)) := by rw [cell_alloc]; rfl
  have hmm : Mod w (w.alloc (.cells #[.int .u8 (kd : Int), .int .i64 i] 30)) K.all := (Mod.refl _ _).alloc _
  have Hq := Lib.hid hq
  have Hbx := Lib.hid hbx
  have Hmm := Lib.hid hmm
  clear hq hbx hmm Hlt Hp
  generalize w.alloc (.cells #[.int .u8 (kd : Int), .int .i64 i] 30) = W at *
  generalize w.heap.size = bx at *
  refine (hP _ K.bc K.bf Hq.out.pc).mono ?_
  rintro e w1 ⟨rfl, p1, m1⟩
  have c1 : w1.cell? ⟨bx, 0, none⟩ = some (.int .u8 (kd : Int)) := m1.cell_of hcb (fun hm => Hbx.out (by simp [Blk.all] at hm ⊢; omega))
  have P1 := Lib.hid p1
  have M1 := Lib.hid m1
  clear p1 m1
  go_wp2_with fail
  refine (hR _ K.br K.bt K.bu K.bp (Hq.out.prog P1.out M1.out (by simp)).rc).mono ?_
  rintro e w2 ⟨rfl, p2, m2⟩
  have c2 : w2.cell? ⟨bx, 0, none⟩ = some (.int .u8 (kd : Int)) := m2.cell_of c1 (fun hm => Hbx.out (by simp [Blk.all] at hm ⊢; omega))
  have P2 := Lib.hid p2
  have M2 := Lib.hid m2
  clear p2 m2
  go_wp2_with fail
  go_ret
  have q1 := (Hq.out.prog P1.out M1.out (by simp)).ref P2.out M2.out (by simp)
  have m1 := Hmm.out.trans ((M1.out.mono (by simp [Blk.all])).trans (M2.out.mono (by simp [Blk.all])))
  exact ⟨rfl, q1, m1⟩

theorem does_6_ne_true_false (w : World) (K : Blk) (s r s1 r1 : St) (h : Pair w K s r) (kd : Nat) (i : Int) (i1 i2 : Nat) (hk : kd < 256) (hj : kd % 8 = 6) (hne : i1 ≠ i2)
   (hP : PickP s s1 i1 true) (hR : PickR r r1 i2 false) : Calls Try.prog 10 #[.pointer (some ⟨K.bc, 0, none⟩), .pointer (some ⟨K.br, 0, none⟩), .agg #[.int .u8 (kd : Int), .int .i64 i]] w (DidP w K s1 r1 false) := by
  have hne' : ((i1 : Int) == (i2 : Int)) = false := by simp; omega
  have hlt := h.lt
  have e0 : ((kd : Int) % 8 == 0) = false := by simp; omega
  have e1 : ((kd : Int) % 8 == 1) = false := by simp; omega
  have e2 : ((kd : Int) % 8 == 2) = false := by simp; omega
  have e3 : ((kd : Int) % 8 == 3) = false := by simp; omega
  have e4 : ((kd : Int) % 8 == 4) = false := by simp; omega
  have e5 : ((kd : Int) % 8 == 5) = false := by simp; omega
  have e6 : ((kd : Int) % 8 == 6) = true := by simp; omega
  have e7 : ((kd : Int) % 8 == 7) = false := by simp; omega
  have Hlt := Lib.hid hlt
  have Hp := Lib.hid h
  clear h hlt hj
  go_enter Try.func10, Try.ntmps10
  go_wp2_with fail
  have hq : Pair (w.alloc (.cells #[.int .u8 (kd : Int), .int .i64 i] 30)) K s r := Hp.out.alloc _
  have hbx : w.heap.size ∉ K.all := fun hm => by have := Hlt.out _ hm; omega
  have hcb : (w.alloc (.cells #[.int .u8 (kd : Int), .int .i64 i] 30)).cell? ⟨w.heap.size, 0, none⟩ = some (.int .u8 (kd : Int)) := by rw [cell_alloc]; rfl
  have hmm : Mod w (w.alloc (.cells #[.int .u8 (kd : Int), .int .i64 i] 30)) K.all := (Mod.refl _ _).alloc _
  have Hq := Lib.hid hq
  have Hbx := Lib.hid hbx
  have Hmm := Lib.hid hmm
  clear hq hbx hmm Hlt Hp
  generalize w.alloc (.cells #[.int .u8 (kd : Int), .int .i64 i] 30) = W at *
  generalize w.heap.size = bx at *
  refine (hP _ K.bc K.bf Hq.out.pc).mono ?_
  rintro e w1 ⟨rfl, p1, m1⟩
  have c1 : w1.cell? ⟨bx, 0, none⟩ = some (.int .u8 (kd : Int)) := m1.cell_of hcb (fun hm => Hbx.out (by simp [Blk.all] at hm ⊢; omega))
  have P1 := Lib.hid p1
  have M1 := Lib.hid m1
  clear p1 m1
  go_wp2_with fail
  refine (hR _ K.br K.bt K.bu K.bp (Hq.out.prog P1.out M1.out (by simp)).rc).mono ?_
  rintro e w2 ⟨rfl, p2, m2⟩
  have c2 : w2.cell? ⟨bx, 0, none⟩ = some (.int .u8 (kd : Int)) := m2.cell_of c1 (fun hm => Hbx.out (by simp [Blk.all] at hm ⊢; omega))
  have P2 := Lib.hid p2
  have M2 := Lib.hid m2
  clear p2 m2
  go_wp2_with fail
  go_ret
  have q1 := (Hq.out.prog P1.out M1.out (by simp)).ref P2.out M2.out (by simp)
  have m1 := Hmm.out.trans ((M1.out.mono (by simp [Blk.all])).trans (M2.out.mono (by simp [Blk.all])))
  exact ⟨rfl, q1, m1⟩

theorem does_7_ne_true_false (w : World) (K : Blk) (s r s1 r1 : St) (h : Pair w K s r) (kd : Nat) (i : Int) (i1 i2 : Nat) (hk : kd < 256) (hj : kd % 8 = 7) (hne : i1 ≠ i2)
   (hP : PickP s s1 i1 true) (hR : PickR r r1 i2 false) : Calls Try.prog 10 #[.pointer (some ⟨K.bc, 0, none⟩), .pointer (some ⟨K.br, 0, none⟩), .agg #[.int .u8 (kd : Int), .int .i64 i]] w (DidP w K s1 r1 false) := by
  have hne' : ((i1 : Int) == (i2 : Int)) = false := by simp; omega
  have hlt := h.lt
  have e0 : ((kd : Int) % 8 == 0) = false := by simp; omega
  have e1 : ((kd : Int) % 8 == 1) = false := by simp; omega
  have e2 : ((kd : Int) % 8 == 2) = false := by simp; omega
  have e3 : ((kd : Int) % 8 == 3) = false := by simp; omega
  have e4 : ((kd : Int) % 8 == 4) = false := by simp; omega
  have e5 : ((kd : Int) % 8 == 5) = false := by simp; omega
  have e6 : ((kd : Int) % 8 == 6) = false := by simp; omega
  have e7 : ((kd : Int) % 8 == 7) = true := by simp; omega
  have Hlt := Lib.hid hlt
  have Hp := Lib.hid h
  clear h hlt hj
  go_enter Try.func10, Try.ntmps10
  go_wp2_with fail
  have hq : Pair (w.alloc (.cells #[.int .u8 (kd : Int), .int .i64 i] 30)) K s r := Hp.out.alloc _
  have hbx : w.heap.size ∉ K.all := fun hm => by have := Hlt.out _ hm; omega
  have hcb : (w.alloc (.cells #[.int .u8 (kd : Int), .int .i64 i] 30)).cell? ⟨w.heap.size, 0, none⟩ = some (.int .u8 (kd : Int)) := by rw [cell_alloc]; rfl
  have hmm : Mod w (w.alloc (.cells #[.int .u8 (kd : Int), .int .i64 i] 30)) K.all := (Mod.refl _ _).alloc _
  have Hq := Lib.hid hq
  have Hbx := Lib.hid hbx
  have Hmm := Lib.hid hmm
  clear hq hbx hmm Hlt Hp
  generalize w.alloc (.cells #[.int .u8 (kd : Int), .int .i64 i] 30) = W at *
  generalize w.heap.size = bx at *
  refine (hP _ K.bc K.bf Hq.out.pc).mono ?_
  rintro e w1 ⟨rfl, p1, m1⟩
  have c1 : w1.cell? ⟨bx, 0, none⟩ = some (.int .u8 (kd : Int)) := m1.cell_of hcb (fun hm => Hbx.out (by simp [Blk.all] at hm ⊢; omega))
  have P1 := Lib.hid p1
  have M1 := Lib.hid m1
  clear p1 m1
  go_wp2_with fail
  refine (hR _ K.br K.bt K.bu K.bp (Hq.out.prog P1.out M1.out (by simp)).rc).mono ?_
  rintro e w2 ⟨rfl, p2, m2⟩
  have c2 : w2.cell? ⟨bx, 0, none⟩ = some (.int .u8 (kd : Int)) := m2.cell_of c1 (fun hm => Hbx.out (by simp [Blk.all] at hm ⊢; omega))
  have P2 := Lib.hid p2
  have M2 := Lib.hid m2
  clear p2 m2
  go_wp2_with fail
  go_ret
  have q1 := (Hq.out.prog P1.out M1.out (by simp)).ref P2.out M2.out (by simp)
  have m1 := Hmm.out.trans ((M1.out.mono (by simp [Blk.all])).trans (M2.out.mono (by simp [Blk.all])))
  exact ⟨rfl, q1, m1⟩

theorem does_6_eq_false_true (w : World) (K : Blk) (s r s1 r1 : St) (h : Pair w K s r) (kd : Nat) (i : Int) (i1 : Nat) (hk : kd < 256) (hj : kd % 8 = 6)
   (hP : PickP s s1 i1 false) (hR : PickR r r1 i1 true) : Calls Try.prog 10 #[.pointer (some ⟨K.bc, 0, none⟩), .pointer (some ⟨K.br, 0, none⟩), .agg #[.int .u8 (kd : Int), .int .i64 i]] w (DidP w K s1 r1 false) := by
  have hlt := h.lt
  have e0 : ((kd : Int) % 8 == 0) = false := by simp; omega
  have e1 : ((kd : Int) % 8 == 1) = false := by simp; omega
  have e2 : ((kd : Int) % 8 == 2) = false := by simp; omega
  have e3 : ((kd : Int) % 8 == 3) = false := by simp; omega
  have e4 : ((kd : Int) % 8 == 4) = false := by simp; omega
  have e5 : ((kd : Int) % 8 == 5) = false := by simp; omega
  have e6 : ((kd : Int) % 8 == 6) = true := by simp; omega
  have e7 : ((kd : Int) % 8 == 7) = false := by simp; omega
  have Hlt := Lib.hid hlt
  have Hp := Lib.hid h
  clear h hlt hj
  go_enter Try.func10, Try.ntmps10
  go_wp2_with fail
  have hq : Pair (w.alloc (.cells #[.int .u8 (kd : Int), .int .i64 i] 30)) K s r := Hp.out.alloc _
  have hbx : w.heap.size ∉ K.all := fun hm => by have := Hlt.out _ hm; omega
  have hcb : (w.alloc (.cells #[.int .u8 (kd : Int), .int .i64 i] 30)).cell? ⟨w.heap.size, 0, none⟩ = some (.int .u8 (kd : Int)) := by rw [cell_alloc]; rfl
  have hmm : Mod w (w.alloc (.cells #[.int .u8 (kd : Int), .int .i64 i] 30)) K.all := (Mod.refl _ _).alloc _
  have Hq := Lib.hid hq
  have Hbx := Lib.hid hbx
  have Hmm := Lib.hid hmm
  clear hq hbx hmm Hlt Hp
  generalize w.alloc (.cells #[.int .u8 (kd : Int), .int .i64 i] 30) = W at *
  generalize w.heap.size = bx at *
  refine (hP _ K.bc K.bf Hq.out.pc).mono ?_
  rintro e w1 ⟨rfl, p1, m1⟩
  have c1 : w1.cell? ⟨bx, 0, none⟩ = some (.int .u8 (kd : Int)) := m1.cell_of hcb (fun hm => Hbx.out (by simp [Blk.all] at hm ⊢; omega))
  have P1 := Lib.hid p1
  have M1 := Lib.hid m1
  clear p1 m1
  go_wp2_with fail
  refine (hR _ K.br K.bt K.bu K.bp (Hq.out.prog P1.out M1.out (by simp)).rc).mono ?_
  rintro e w2 ⟨rfl, p2, m2⟩
  have c2 : w2.cell? ⟨bx, 0, none⟩ = some (.int .u8 (kd : Int)) := m2.cell_of c1 (fun hm => Hbx.out (by simp [Blk.all] at hm ⊢; omega))
  have P2 := Lib.hid p2
  have M2 := Lib.hid m2
  clear p2 m2
  go_wp2_with fail
  go_ret
  have q1 := (Hq.out.prog P1.out M1.out (by simp)).ref P2.out M2.out (by simp)
  have m1 := Hmm.out.trans ((M1.out.mono (by simp [Blk.all])).trans (M2.out.mono (by simp [Blk.all])))
  exact ⟨rfl, q1, m1⟩

theorem does_7_eq_false_true (w : World) (K : Blk) (s r s1 r1 : St) (h : Pair w K s r) (kd : Nat) (i : Int) (i1 : Nat) (hk : kd < 256) (hj : kd % 8 = 7)
   (hP : PickP s s1 i1 false) (hR : PickR r r1 i1 true) : Calls Try.prog 10 #[.pointer (some ⟨K.bc, 0, none⟩), .pointer (some ⟨K.br, 0, none⟩), .agg #[.int .u8 (kd : Int), .int .i64 i]] w (DidP w K s1 r1 false) := by
  have hlt := h.lt
  have e0 : ((kd : Int) % 8 == 0) = false := by simp; omega
  have e1 : ((kd : Int) % 8 == 1) = false := by simp; omega
  have e2 : ((kd : Int) % 8 == 2) = false := by simp; omega
  have e3 : ((kd : Int) % 8 == 3) = false := by simp; omega
  have e4 : ((kd : Int) % 8 == 4) = false := by simp; omega
  have e5 : ((kd : Int) % 8 == 5) = false := by simp; omega
  have e6 : ((kd : Int) % 8 == 6) = false := by simp; omega
  have e7 : ((kd : Int) % 8 == 7) = true := by simp; omega
  have Hlt := Lib.hid hlt
  have Hp := Lib.hid h
  clear h hlt hj
  go_enter Try.func10, Try.ntmps10
  go_wp2_with fail
  have hq : Pair (w.alloc (.cells #[.int .u8 (kd : Int), .int .i64 i] 30)) K s r := Hp.out.alloc _
  have hbx : w.heap.size ∉ K.all := fun hm => by have := Hlt.out _ hm; omega
  have hcb : (w.alloc (.cells #[.int .u8 (kd : Int), .int .i64 i] 30)).cell? ⟨w.heap.size, 0, none⟩ = some (.int .u8 (kd : Int)) := by rw [cell_alloc]; rfl
  have hmm : Mod w (w.alloc (.cells #[.int .u8 (kd : Int), .int .i64 i] 30)) K.all := (Mod.refl _ _).alloc _
  have Hq := Lib.hid hq
  have Hbx := Lib.hid hbx
  have Hmm := Lib.hid hmm
  clear hq hbx hmm Hlt Hp
  generalize w.alloc (.cells #[.int .u8 (kd : Int), .int .i64 i] 30) = W at *
  generalize w.heap.size = bx at *
  refine (hP _ K.bc K.bf Hq.out.pc).mono ?_
  rintro e w1 ⟨rfl, p1, m1⟩
  have c1 : w1.cell? ⟨bx, 0, none⟩ = some (.int .u8 (kd : Int)) := m1.cell_of hcb (fun hm => Hbx.out (by simp [Blk.all] at hm ⊢; omega))
  have P1 := Lib.hid p1
  have M1 := Lib.hid m1
  clear p1 m1
  go_wp2_with fail
  refine (hR _ K.br K.bt K.bu K.bp (Hq.out.prog P1.out M1.out (by simp)).rc).mono ?_
  rintro e w2 ⟨rfl, p2, m2⟩
  have c2 : w2.cell? ⟨bx, 0, none⟩ = some (.int .u8 (kd : Int)) := m2.cell_of c1 (fun hm => Hbx.out (by simp [Blk.all] at hm ⊢; omega))
  have P2 := Lib.hid p2
  have M2 := Lib.hid m2
  clear p2 m2
  go_wp2_with fail
  go_ret
  have q1 := (Hq.out.prog P1.out M1.out (by simp)).ref P2.out M2.out (by simp)
  have m1 := Hmm.out.trans ((M1.out.mono (by simp [Blk.all])).trans (M2.out.mono (by simp [Blk.all])))
  exact ⟨rfl, q1, m1⟩

theorem does_6_ne_false_true (w : World) (K : Blk) (s r s1 r1 : St) (h : Pair w K s r) (kd : Nat) (i : Int) (i1 i2 : Nat) (hk : kd < 256) (hj : kd % 8 = 6) (hne : i1 ≠ i2)
   (hP : PickP s s1 i1 false) (hR : PickR r r1 i2 true) : Calls Try.prog 10 #[.pointer (some ⟨K.bc, 0, none⟩), .pointer (some ⟨K.br, 0, none⟩), .agg #[.int .u8 (kd : Int), .int .i64 i]] w (DidP w K s1 r1 false) := by
  have hne' : ((i1 : Int) == (i2 : Int)) = false := by simp; omega
  have hlt := h.lt
  have e0 : ((kd : Int) % 8 == 0) = false := by simp; omega
  have e1 : ((kd : Int) % 8 == 1) = false := by simp; omega
  have e2 : ((kd : Int) % 8 == 2) = false := by simp; omega
  have e3 : ((kd : Int) % 8 == 3) = false := by simp; omega
  have e4 : ((kd : Int) % 8 == 4) = false := by simp; omega
  have e5 : ((kd : Int) % 8 == 5) = false := by simp; omega
  have e6 : ((kd : Int) % 8 == 6) = true := by simp; omega
  have e7 : ((kd : Int) % 8 == 7) = false := by simp; omega
  have Hlt := Lib.hid hlt
  have Hp := Lib.hid h
  clear h hlt hj
  go_enter Try.func10, Try.ntmps10
  go_wp2_with fail
  have hq : Pair (w.alloc (.cells #[.int .u8 (kd : Int), .int .i64 i] 30)) K s r := Hp.out.alloc _
  have hbx : w.heap.size ∉ K.all := fun hm => by have := Hlt.out _ hm; omega
  have hcb : (w.alloc (.cells #[.int .u8 (kd : Int), .int .i64 i] 30)).cell? ⟨w.heap.size, 0, none⟩ = some (.int .u8 (kd : Int)) := by rw [cell_alloc]; rfl
  have hmm : Mod w (w.alloc (.cells #[.int .u8 (kd : Int), .int .i64 i] 30)) K.all := (Mod.refl _ _).alloc _
  have Hq := Lib.hid hq
  have Hbx := Lib.hid hbx
  have Hmm := Lib.hid hmm
  clear hq hbx hmm Hlt Hp
  generalize w.alloc (.cells #[.int .u8 (kd : Int), .int .i64 i] 30) = W at *
  generalize w.heap.size = bx at *
  refine (hP _ K.bc K.bf Hq.out.pc).mono ?_
  rintro e w1 ⟨rfl, p1, m1⟩
  have c1 : w1.cell? ⟨bx, 0, none⟩ = some (.int .u8 (kd : Int)) := m1.cell_of hcb (fun hm => Hbx.out (by simp [Blk.all] at hm ⊢; omega))
  have P1 := Lib.hid p1
  have M1 := Lib.hid m1
  clear p1 m1
  go_wp2_with fail
  refine (hR _ K.br K.bt K.bu K.bp (Hq.out.prog P1.out M1.out (by simp)).rc).mono ?_
  rintro e w2 ⟨rfl, p2, m2⟩
  have c2 : w2.cell? ⟨bx, 0, none⟩ = some (.int .u8 (kd : Int)) := m2.cell_of c1 (fun hm => Hbx.out (by simp [Blk.all] at hm ⊢; omega))
  have P2 := Lib.hid p2
  have M2 := Lib.hid m2
  clear p2 m2
  go_wp2_with fail
  go_ret
  have q1 := (Hq.out.prog P1.out M1.out (by simp)).ref P2.out M2.out (by simp)
  have m1 := Hmm.out.trans ((M1.out.mono (by simp [Blk.all])).trans (M2.out.mono (by simp [Blk.all])))
  exact ⟨rfl, q1, m1⟩

theorem does_7_ne_false_true (w : World) (K : Blk) (s r s1 r1 : St) (h : Pair w K s r) (kd : Nat) (i : Int) (i1 i2 : Nat) (hk : kd < 256) (hj : kd % 8 = 7) (hne : i1 ≠ i2)
   (hP : PickP s s1 i1 false) (hR : PickR r r1 i2 true) : Calls Try.prog 10 #[.pointer (some ⟨K.bc, 0, none⟩), .pointer (some ⟨K.br, 0, none⟩), .agg #[.int .u8 (kd : Int), .int .i64 i]] w (DidP w K s1 r1 false) := by
  have hne' : ((i1 : Int) == (i2 : Int)) = false := by simp; omega
  have hlt := h.lt
  have e0 : ((kd : Int) % 8 == 0) = false := by simp; omega
  have e1 : ((kd : Int) % 8 == 1) = false := by simp; omega
  have e2 : ((kd : Int) % 8 == 2) = false := by simp; omega
  have e3 : ((kd : Int) % 8 == 3) = false := by simp; omega
  have e4 : ((kd : Int) % 8 == 4) = false := by simp; omega
  have e5 : ((kd : Int) % 8 == 5) = false := by simp; omega
  have e6 : ((kd : Int) % 8 == 6) = false := by simp; omega
  have e7 : ((kd : Int) % 8 == 7) = true := by simp; omega
  have Hlt := Lib.hid hlt
  have Hp := Lib.hid h
  clear h hlt hj
  go_enter Try.func10, Try.ntmps10
  go_wp2_with fail
  have hq : Pair (w.alloc (.cells #[.int .u8 (kd : Int), .int .i64 i] 30)) K s r := Hp.out.alloc _
  have hbx : w.heap.size ∉ K.all := fun hm => by have := Hlt.out _ hm; omega
  have hcb : (w.alloc (.cells #[.int .u8 (kd : Int), .int .i64 i] 30)).cell? ⟨w.heap.size, 0, none⟩ = some (.int .u8 (kd : Int)) := by rw [cell_alloc]; rfl
  have hmm : Mod w (w.alloc (.cells #[.int .u8 (kd : Int), .int .i64 i] 30)) K.all := (Mod.refl _ _).alloc _
  have Hq := Lib.hid hq
  have Hbx := Lib.hid hbx
  have Hmm := Lib.hid hmm
  clear hq hbx hmm Hlt Hp
  generalize w.alloc (.cells #[.int .u8 (kd : Int), .int .i64 i] 30) = W at *
  generalize w.heap.size = bx at *
  refine (hP _ K.bc K.bf Hq.out.pc).mono ?_
  rintro e w1 ⟨rfl, p1, m1⟩
  have c1 : w1.cell? ⟨bx, 0, none⟩ = some (.int .u8 (kd : Int)) := m1.cell_of hcb (fun hm => Hbx.out (by simp [Blk.all] at hm ⊢; omega))
  have P1 := Lib.hid p1
  have M1 := Lib.hid m1
  clear p1 m1
  go_wp2_with fail
  refine (hR _ K.br K.bt K.bu K.bp (Hq.out.prog P1.out M1.out (by simp)).rc).mono ?_
  rintro e w2 ⟨rfl, p2, m2⟩
  have c2 : w2.cell? ⟨bx, 0, none⟩ = some (.int .u8 (kd : Int)) := m2.cell_of c1 (fun hm => Hbx.out (by simp [Blk.all] at hm ⊢; omega))
  have P2 := Lib.hid p2
  have M2 := Lib.hid m2
  clear p2 m2
  go_wp2_with fail
  go_ret
  have q1 := (Hq.out.prog P1.out M1.out (by simp)).ref P2.out M2.out (by simp)
  have m1 := Hmm.out.trans ((M1.out.mono (by simp [Blk.all])).trans (M2.out.mono (by simp [Blk.all])))
  exact ⟨rfl, q1, m1⟩

theorem does_6_eq_false_false (w : World) (K : Blk) (s r s1 r1 : St) (h : Pair w K s r) (kd : Nat) (i : Int) (i1 : Nat) (hk : kd < 256) (hj : kd % 8 = 6)
   (hP : PickP s s1 i1 false) (hR : PickR r r1 i1 false) : Calls Try.prog 10 #[.pointer (some ⟨K.bc, 0, none⟩), .pointer (some ⟨K.br, 0, none⟩), .agg #[.int .u8 (kd : Int), .int .i64 i]] w (DidP w K s1 r1 true) := by
  have hlt := h.lt
  have e0 : ((kd : Int) % 8 == 0) = false := by simp; omega
  have e1 : ((kd : Int) % 8 == 1) = false := by simp; omega
  have e2 : ((kd : Int) % 8 == 2) = false := by simp; omega
  have e3 : ((kd : Int) % 8 == 3) = false := by simp; omega
  have e4 : ((kd : Int) % 8 == 4) = false := by simp; omega
  have e5 : ((kd : Int) % 8 == 5) = false := by simp; omega
  have e6 : ((kd : Int) % 8 == 6) = true := by simp; omega
  have e7 : ((kd : Int) % 8 == 7) = false := by simp; omega
  have Hlt := Lib.hid hlt
  have Hp := Lib.hid h
  clear h hlt hj
  go_enter Try.func10, Try.ntmps10
  go_wp2_with fail
  have hq : Pair (w.alloc (.cells #[.int .u8 (kd : Int), .int .i64 i] 30)) K s r := Hp.out.alloc _
  have hbx : w.heap.size ∉ K.all := fun hm => by have := Hlt.out _ hm; omega
  have hcb : (w.alloc (.cells #[.int .u8 (kd : Int), .int .i64 i] 30)).cell? ⟨w.heap.size, 0, none⟩ = some (.int .u8 (kd : Int)) := by rw [cell_alloc]; rfl
  have hmm : Mod w (w.alloc (.cells #[.int .u8 (kd : Int), .int .i64 i] 30)) K.all := (Mod.refl _ _).alloc _
  have Hq := Lib.hid hq
  have Hbx := Lib.hid hbx
  have Hmm := Lib.hid hmm
  clear hq hbx hmm Hlt Hp
  generalize w.alloc (.cells #[.int .u8 (kd : Int), .int .i64 i] 30) = W at *
  generalize w.heap.size = bx at *
  refine (hP _ K.bc K.bf Hq.out.pc).mono ?_
  rintro e w1 ⟨rfl, p1, m1⟩
  have c1 : w1.cell? ⟨bx, 0, none⟩ = some (.int .u8 (kd : Int)) := m1.cell_of hcb (fun hm => Hbx.out (by simp [Blk.all] at hm ⊢; omega))
  have P1 := Lib.hid p1
  have M1 := Lib.hid m1
  clear p1 m1
  go_wp2_with fail
  refine (hR _ K.br K.bt K.bu K.bp (Hq.out.prog P1.out M1.out (by simp)).rc).mono ?_
  rintro e w2 ⟨rfl, p2, m2⟩
  have c2 : w2.cell? ⟨bx, 0, none⟩ = some (.int .u8 (kd : Int)) := m2.cell_of c1 (fun hm => Hbx.out (by simp [Blk.all] at hm ⊢; omega))
  have P2 := Lib.hid p2
  have M2 := Lib.hid m2
  clear p2 m2
  go_wp2_with fail
  go_ret
  have q1 := (Hq.out.prog P1.out M1.out (by simp)).ref P2.out M2.out (by simp)
  have m1 := Hmm.out.trans ((M1.out.mono (by simp [Blk.all])).trans (M2.out.mono (by simp [Blk.all])))
  exact ⟨rfl, q1, m1⟩

theorem does_7_eq_false_false (w : World) (K : Blk) (s r s1 r1 : St) (h : Pair w K s r) (kd : Nat) (i : Int) (i1 : Nat) (hk : kd < 256) (hj : kd % 8 = 7)
   (hP : PickP s s1 i1 false) (hR : PickR r r1 i1 false) : Calls Try.prog 10 #[.pointer (some ⟨K.bc, 0, none⟩), .pointer (some ⟨K.br, 0, none⟩), .agg #[.int .u8 (kd : Int), .int .i64 i]] w (DidP w K s1 r1 true) := by
  have hlt := h.lt
  have e0 : ((kd : Int) % 8 == 0) = false := by simp; omega
  have e1 : ((kd : Int) % 8 == 1) = false := by simp; omega
  have e2 : ((kd : Int) % 8 == 2) = false := by simp; omega
  have e3 : ((kd : Int) % 8 == 3) = false := by simp; omega
  have e4 : ((kd : Int) % 8 == 4) = false := by simp; omega
  have e5 : ((kd : Int) % 8 == 5) = false := by simp; omega
  have e6 : ((kd : Int) % 8 == 6) = false := by simp; omega
  have e7 : ((kd : Int) % 8 == 7) = true := by simp; omega
  have Hlt := Lib.hid hlt
  have Hp := Lib.hid h
  clear h hlt hj
  go_enter Try.func10, Try.ntmps10
  go_wp2_with fail
  have hq : Pair (w.alloc (.cells #[.int .u8 (kd : Int), .int .i64 i] 30)) K s r := Hp.out.alloc _
  have hbx : w.heap.size ∉ K.all := fun hm => by have := Hlt.out _ hm; omega
  have hcb : (w.alloc (.cells #[.int .u8 (kd : Int), .int .i64 i] 30)).cell? ⟨w.heap.size, 0, none⟩ = some (.int .u8 (kd : Int)) := by rw [cell_alloc]; rfl
  have hmm : Mod w (w.alloc (.cells #[.int .u8 (kd : Int), .int .i64 i] 30)) K.all := (Mod.refl _ _).alloc _
  have Hq := Lib.hid hq
  have Hbx := Lib.hid hbx
  have Hmm := Lib.hid hmm
  clear hq hbx hmm Hlt Hp
  generalize w.alloc (.cells #[.int .u8 (kd : Int), .int .i64 i] 30) = W at *
  generalize w.heap.size = bx at *
  refine (hP _ K.bc K.bf Hq.out.pc).mono ?_
  rintro e w1 ⟨rfl, p1, m1⟩
  have c1 : w1.cell? ⟨bx, 0, none⟩ = some (.int .u8 (kd : Int)) := m1.cell_of hcb (fun hm => Hbx.out (by simp [Blk.all] at hm ⊢; omega))
  have P1 := Lib.hid p1
  have M1 := Lib.hid m1
  clear p1 m1
  go_wp2_with fail
  refine (hR _ K.br K.bt K.bu K.bp (Hq.out.prog P1.out M1.out (by simp)).rc).mono ?_
  rintro e w2 ⟨rfl, p2, m2⟩
  have c2 : w2.cell? ⟨bx, 0, none⟩ = some (.int .u8 (kd : Int)) := m2.cell_of c1 (fun hm => Hbx.out (by simp [Blk.all] at hm ⊢; omega))
  have P2 := Lib.hid p2
  have M2 := Lib.hid m2
  clear p2 m2
  go_wp2_with fail
  go_ret
  have q1 := (Hq.out.prog P1.out M1.out (by simp)).ref P2.out M2.out (by simp)
  have m1 := Hmm.out.trans ((M1.out.mono (by simp [Blk.all])).trans (M2.out.mono (by simp [Blk.all])))
  exact ⟨rfl, q1, m1⟩

theorem does_6_ne_false_false (w : World) (K : Blk) (s r s1 r1 : St) (h : Pair w K s r) (kd : Nat) (i : Int) (i1 i2 : Nat) (hk : kd < 256) (hj : kd % 8 = 6) (hne : i1 ≠ i2)
   (hP : PickP s s1 i1 false) (hR : PickR r r1 i2 false) : Calls Try.prog 10 #[.pointer (some ⟨K.bc, 0, none⟩), .pointer (some ⟨K.br, 0, none⟩), .agg #[.int .u8 (kd : Int), .int .i64 i]] w (DidP w K s1 r1 false) := by
  have hne' : ((i1 : Int) == (i2 : Int)) = false := by simp; omega
  have hlt := h.lt
  have e0 : ((kd : Int) % 8 == 0) = false := by simp; omega
  have e1 : ((kd : Int) % 8 == 1) = false := by simp; omega
  have e2 : ((kd : Int) % 8 == 2) = false := by simp; omega
  have e3 : ((kd : Int) % 8 == 3) = false := by simp; omega
  have e4 : ((kd : Int) % 8 == 4) = false := by simp; omega
  have e5 : ((kd : Int) % 8 == 5) = false := by simp; omega
  have e6 : ((kd : Int) % 8 == 6) = true := by simp; omega
  have e7 : ((kd : Int) % 8 == 7) = false := by simp; omega
  have Hlt := Lib.hid hlt
  have Hp := Lib.hid h
  clear h hlt hj
  go_enter Try.func10, Try.ntmps10
  go_wp2_with fail
  have hq : Pair (w.alloc (.cells #[.int .u8 (kd : Int), .int .i64 i] 30)) K s r := Hp.out.alloc _
  have hbx : w.heap.size ∉ K.all := fun hm => by have := Hlt.out _ hm; omega
  have hcb : (w.alloc (.cells #[.int .u8 (kd : Int), .int .i64 i] 30)).cell? ⟨w.heap.size, 0, none⟩ = some (.int .u8 (kd : Int)) := by rw [cell_alloc]; rfl
  have hmm : Mod w (w.alloc (.cells #[.int .u8 (kd : Int), .int .i64 i] 30)) K.all := (Mod.refl _ _).alloc _
  have Hq := Lib.hid hq
  have Hbx := Lib.hid hbx
  have Hmm := Lib.hid hmm
  clear hq hbx hmm Hlt Hp
  generalize w.alloc (.cells #[.int .u8 (kd : Int), .int .i64 i] 30) = W at *
  generalize w.heap.size = bx at *
  refine (hP _ K.bc K.bf Hq.out.pc).mono ?_
  rintro e w1 ⟨rfl, p1, m1⟩
  have c1 : w1.cell? ⟨bx, 0, none⟩ = some (.int .u8 (kd : Int)) := m1.cell_of hcb (fun hm => Hbx.out (by simp [Blk.all] at hm ⊢; omega))
  have P1 := Lib.hid p1
  have M1 := Lib.hid m1
  clear p1 m1
  go_wp2_with fail
  refine (hR _ K.br K.bt K.bu K.bp (Hq.out.prog P1.out M1.out (by simp)).rc).mono ?_
  rintro e w2 ⟨rfl, p2, m2⟩
  have c2 : w2.cell? ⟨bx, 0, none⟩ = some (.int .u8 (kd : Int)) := m2.cell_of c1 (fun hm => Hbx.out (by simp [Blk.all] at hm ⊢; omega))
  have P2 := Lib.hid p2
  have M2 := Lib.hid m2
  clear p2 m2
  go_wp2_with fail
  go_ret
  have q1 := (Hq.out.prog P1.out M1.out (by simp)).ref P2.out M2.out (by simp)
  have m1 := Hmm.out.trans ((M1.out.mono (by simp [Blk.all])).trans (M2.out.mono (by simp [Blk.all])))
  exact ⟨rfl, q1, m1⟩

theorem does_7_ne_false_false (w : World) (K : Blk) (s r s1 r1 : St) (h : Pair w K s r) (kd : Nat) (i : Int) (i1 i2 : Nat) (hk : kd < 256) (hj : kd % 8 = 7) (hne : i1 ≠ i2)
   (hP : PickP s s1 i1 false) (hR : PickR r r1 i2 false) : Calls Try.prog 10 #[.pointer (some ⟨K.bc, 0, none⟩), .pointer (some ⟨K.br, 0, none⟩), .agg #[.int .u8 (kd : Int), .int .i64 i]] w (DidP w K s1 r1 false) := by
  have hne' : ((i1 : Int) == (i2 : Int)) = false := by simp; omega
  have hlt := h.lt
  have e0 : ((kd : Int) % 8 == 0) = false := by simp; omega
  have e1 : ((kd : Int) % 8 == 1) = false := by simp; omega
  have e2 : ((kd : Int) % 8 == 2) = false := by simp; omega
  have e3 : ((kd : Int) % 8 == 3) = false := by simp; omega
  have e4 : ((kd : Int) % 8 == 4) = false := by simp; omega
  have e5 : ((kd : Int) % 8 == 5) = false := by simp; omega
  have e6 : ((kd : Int) % 8 == 6) = false := by simp; omega
  have e7 : ((kd : Int) % 8 == 7) = true := by simp; omega
  have Hlt := Lib.hid hlt
  have Hp := Lib.hid h
  clear h hlt hj
  go_enter Try.func10, Try.ntmps10
  go_wp2_with fail
  have hq : Pair (w.alloc (.cells #[.int .u8 (kd : Int), .int .i64 i] 30)) K s r := Hp.out.alloc _
  have hbx : w.heap.size ∉ K.all := fun hm => by have := Hlt.out _ hm; omega
  have hcb : (w.alloc (.cells #[.int .u8 (kd : Int), .int .i64 i] 30)).cell? ⟨w.heap.size, 0, none⟩ = some (.int .u8 (kd : Int)) := by rw [cell_alloc]; rfl
  have hmm : Mod w (w.alloc (.cells #[.int .u8 (kd : Int), .int .i64 i] 30)) K.all := (Mod.refl _ _).alloc _
  have Hq := Lib.hid hq
  have Hbx := Lib.hid hbx
  have Hmm := Lib.hid hmm
  clear hq hbx hmm Hlt Hp
  generalize w.alloc (.cells #[.int .u8 (kd : Int), .int .i64 i] 30) = W at *
  generalize w.heap.size = bx at *
  refine (hP _ K.bc K.bf Hq.out.pc).mono ?_
  rintro e w1 ⟨rfl, p1, m1⟩
  have c1 : w1.cell? ⟨bx, 0, none⟩ = some (.int .u8 (kd : Int)) := m1.cell_of hcb (fun hm => Hbx.out (by simp [Blk.all] at hm ⊢; omega))
  have P1 := Lib.hid p1
  have M1 := Lib.hid m1
  clear p1 m1
  go_wp2_with fail
  refine (hR _ K.br K.bt K.bu K.bp (Hq.out.prog P1.out M1.out (by simp)).rc).mono ?_
  rintro e w2 ⟨rfl, p2, m2⟩
  have c2 : w2.cell? ⟨bx, 0, none⟩ = some (.int .u8 (kd : Int)) := m2.cell_of c1 (fun hm => Hbx.out (by simp [Blk.all] at hm ⊢; omega))
  have P2 := Lib.hid p2
  have M2 := Lib.hid m2
  clear p2 m2
  go_wp2_with fail
  go_ret
  have q1 := (Hq.out.prog P1.out M1.out (by simp)).ref P2.out M2.out (by simp)
  have m1 := Hmm.out.trans ((M1.out.mono (by simp [Blk.all])).trans (M2.out.mono (by simp [Blk.all])))
  exact ⟨rfl, q1, m1⟩

theorem does_7_eq_true_false (w : World) (K : Blk) (s r s1 r1 : St) (h : Pair w K s r) (kd : Nat) (i : Int) (i1 : Nat) (hk : kd < 256) (hj : kd % 8 = 7)
   (hP : PickP s s1 i1 true) (hR : PickR r r1 i1 false) : Calls Try.prog 10 #[.pointer (some ⟨K.bc, 0, none⟩), .pointer (some ⟨K.br, 0, none⟩), .agg #[.int .u8 (kd : Int), .int .i64 i]] w (DidP w K s1 r1 false) := by
  have hlt := h.lt
  have e0 : ((kd : Int) % 8 == 0) = false := by simp; omega
  have e1 : ((kd : Int) % 8 == 1) = false := by simp; omega
  have e2 : ((kd : Int) % 8 == 2) = false := by simp; omega
  have e3 : ((kd : Int) % 8 == 3) = false := by simp; omega
  have e4 : ((kd : Int) % 8 == 4) = false := by simp; omega
  have e5 : ((kd : Int) % 8 == 5) = false := by simp; omega
  have e6 : ((kd : Int) % 8 == 6) = false := by simp; omega
  have e7 : ((kd : Int) % 8 == 7) = true := by simp; omega
  have Hlt := Lib.hid hlt
  have Hp := Lib.hid h
  clear h hlt hj
  go_enter Try.func10, Try.ntmps10
  go_wp2_with fail
  have hq : Pair (w.alloc (.cells #[.int .u8 (kd : Int), .int .i64 i] 30)) K s r := Hp.out.alloc _
  have hbx : w.heap.size ∉ K.all := fun hm => by have := Hlt.out _ hm; omega
  have hcb : (w.alloc (.cells #[.int .u8 (kd : Int), .int .i64 i] 30)).cell? ⟨w.heap.size, 0, none⟩ = some (.int .u8 (kd : Int)) := by rw [cell_alloc]; rfl
  have hmm : Mod w (w.alloc (.cells #[.int .u8 (kd : Int), .int .i64 i] 30)) K.all := (Mod.refl _ _).alloc _
  have Hq := Lib.hid hq
  have Hbx := Lib.hid hbx
  have Hmm := Lib.hid hmm
  clear hq hbx hmm Hlt Hp
  generalize w.alloc (.cells #[.int .u8 (kd : Int), .int .i64 i] 30) = W at *
  generalize w.heap.size = bx at *
  refine (hP _ K.bc K.bf Hq.out.pc).mono ?_
  rintro e w1 ⟨rfl, p1, m1⟩
  have c1 : w1.cell? ⟨bx, 0, none⟩ = some (.int .u8 (kd : Int)) := m1.cell_of hcb (fun hm => Hbx.out (by simp [Blk.all] at hm ⊢; omega))
  have P1 := Lib.hid p1
  have M1 := Lib.hid m1
  clear p1 m1
  go_wp2_with fail
  refine (hR _ K.br K.bt K.bu K.bp (Hq.out.prog P1.out M1.out (by simp)).rc).mono ?_
  rintro e w2 ⟨rfl, p2, m2⟩
  have c2 : w2.cell? ⟨bx, 0, none⟩ = some (.int .u8 (kd : Int)) := m2.cell_of c1 (fun hm => Hbx.out (by simp [Blk.all] at hm ⊢; omega))
  have P2 := Lib.hid p2
  have M2 := Lib.hid m2
  clear p2 m2
  go_wp2_with fail
  go_ret
  have q1 := (Hq.out.prog P1.out M1.out (by simp)).ref P2.out M2.out (by simp)
  have m1 := Hmm.out.trans ((M1.out.mono (by simp [Blk.all])).trans (M2.out.mono (by simp [Blk.all])))
  exact ⟨rfl, q1, m1⟩
end Go.Proofs.Ytffophgdjkpilaa
