/-
  A call on both clocks, kind 7, where the frame is left and taken.
-/
import Derived.Test.YtffophgdjkpilaaDoesB
namespace Go.Proofs.Ytffophgdjkpilaa
open Go.RowKit Clk
set_option linter.unusedVariables false

def LeaveP (s s1 : St) (i : Nat) (b : Bool) : Prop := ∀ (w : World) (bc bf : Nat), PC w bc bf s →
  Calls Try.prog 18 #[.pointer (some ⟨bc, 0, none⟩), .int .i64 (i : Int)] w (Did w (.bool b) bc bf s1 [bf])
def LeaveR (s s1 : St) (i : Nat) (b : Bool) : Prop := ∀ (w : World) (br bt bu bp : Nat), RC w br bt bu bp s →
  Calls Try.prog 20 #[.pointer (some ⟨br, 0, none⟩), .int .i64 (i : Int)] w (DidR w (.bool b) br bt bu bp s1 [bt, bu])
theorem leaveP (s : St) (i : Nat) : LeaveP s (leaveS s i) i (leaveB s i) := fun w bc bf h => leave_any w bc bf s h i
theorem leaveR (s : St) (i : Nat) : LeaveR s (leaveS s i) i (leaveB s i) := fun w br bt bu bp h => rleave_any w br bt bu bp s h i

theorem does_7_part_true (w : World) (K : Blk) (s r s1 r1 s2 r2 : St) (h : Pair w K s r) (kd : Nat) (i : Int) (i1 : Nat) (hk : kd < 256) (hj : kd % 8 = 7)
   (hP : PickP s s1 i1 true) (hR : PickR r r1 i1 true) (hL : LeaveP s1 s2 i1 true) (hM : LeaveR r1 r2 i1 false) : Calls Try.prog 10 #[.pointer (some ⟨K.bc, 0, none⟩), .pointer (some ⟨K.br, 0, none⟩), .agg #[.int .u8 (kd : Int), .int .i64 i]] w (DidP w K s2 r2 false) := by
  have hlt := h.lt
  have e0 : ((kd : Int) % 8 == 0) = false := by simp; omega
  have e1 : ((kd : Int) % 8 == 1) = false := by simp; omega
  have e2 : ((kd : Int) % 8 == 2) = false := by simp; omega
  have e3 : ((kd : Int) % 8 == 3) = false := by simp; omega
  have e4 : ((kd : Int) % 8 == 4) = false := by simp; omega
  have e5 : ((kd : Int) % 8 == 5) = false := by simp; omega
  have e6 : ((kd : Int) % 8 == 6) = false := by simp; omega
  have e7 : ((kd : Int) % 8 == 7) = true := by simp; omega
  have Hlt := Lib.hid hlt
  have Hp := Lib.hid h
  clear h hlt hj
  go_enter Try.func10, Try.ntmps10
  go_wp2_with fail
  have hq : Pair (w.alloc (.cells #[.int .u8 (kd : Int), .int .i64 i] 30)) K s r := Hp.out.alloc _
  have hbx : w.heap.size ∉ K.all := fun hm => by have := Hlt.out _ hm; omega
  have hcb : (w.alloc (.cells #[.int .u8 (kd : Int), .int .i64 i] 30)).cell? ⟨w.heap.size, 0, none⟩ = some (.int .u8 (kd : Int)) := by rw [cell_alloc]; rfl
  have hmm : Mod w (w.alloc (.cells #[.int .u8 (kd : Int), .int .i64 i] 30)) K.all := (Mod.refl _ _).alloc _
  have Hq := Lib.hid hq
  have Hbx := Lib.hid hbx
  have Hmm := Lib.hid hmm
  clear hq hbx hmm Hlt Hp
  generalize w.alloc (.cells #[.int .u8 (kd : Int), .int .i64 i] 30) = W at *
  generalize w.heap.size = bx at *
  refine (hP _ K.bc K.bf Hq.out.pc).mono ?_
  rintro e w1 ⟨rfl, p1, m1⟩
  have c1 : w1.cell? ⟨bx, 0, none⟩ = some (.int .u8 (kd : Int)) := m1.cell_of hcb (fun hm => Hbx.out (by simp [Blk.all] at hm ⊢; omega))
  have P1 := Lib.hid p1
  have M1 := Lib.hid m1
  clear p1 m1
  go_wp2_with fail
  refine (hR _ K.br K.bt K.bu K.bp (Hq.out.prog P1.out M1.out (by simp)).rc).mono ?_
  rintro e w2 ⟨rfl, p2, m2⟩
  have c2 : w2.cell? ⟨bx, 0, none⟩ = some (.int .u8 (kd : Int)) := m2.cell_of c1 (fun hm => Hbx.out (by simp [Blk.all] at hm ⊢; omega))
  have P2 := Lib.hid p2
  have M2 := Lib.hid m2
  clear p2 m2
  go_wp2_with fail
  refine (hL _ K.bc K.bf ((Hq.out.prog P1.out M1.out (by simp)).ref P2.out M2.out (by simp)).pc).mono ?_
  rintro e w3 ⟨rfl, p3, m3⟩
  have c3 : w3.cell? ⟨bx, 0, none⟩ = some (.int .u8 (kd : Int)) := m3.cell_of c2 (fun hm => Hbx.out (by simp [Blk.all] at hm ⊢; omega))
  have Q3 := Lib.hid (((Hq.out.prog P1.out M1.out (by simp)).ref P2.out M2.out (by simp)).prog p3 m3 (by simp))
  have M3 := Lib.hid m3
  clear p3 m3
  go_wp2_with fail
  refine (hM _ K.br K.bt K.bu K.bp Q3.out.rc).mono ?_
  rintro e w4 ⟨rfl, p4, m4⟩
  have Q4 := Lib.hid (Q3.out.ref p4 m4 (by simp))
  have M4 := Lib.hid m4
  clear p4 m4
  go_wp2_with fail
  go_ret
  exact ⟨rfl, Q4.out, Hmm.out.trans ((M1.out.mono (by simp [Blk.all])).trans ((M2.out.mono (by simp [Blk.all])).trans ((M3.out.mono (by simp [Blk.all])).trans (M4.out.mono (by simp [Blk.all])))))⟩

theorem does_7_take_true (w : World) (K : Blk) (s r s1 r1 s2 r2 : St) (h : Pair w K s r) (kd : Nat) (i : Int) (i1 : Nat) (hk : kd < 256) (hj : kd % 8 = 7)
   (hP : PickP s s1 i1 true) (hR : PickR r r1 i1 true) (hL : LeaveP s1 s2 i1 true) (hM : LeaveR r1 r2 i1 true) : Calls Try.prog 10 #[.pointer (some ⟨K.bc, 0, none⟩), .pointer (some ⟨K.br, 0, none⟩), .agg #[.int .u8 (kd : Int), .int .i64 i]] w (DidP w K (takeS s2 i1) (takeS r2 i1) (takeB s2 i1 == takeB r2 i1)) := by
  have hlt := h.lt
  have e0 : ((kd : Int) % 8 == 0) = false := by simp; omega
  have e1 : ((kd : Int) % 8 == 1) = false := by simp; omega
  have e2 : ((kd : Int) % 8 == 2) = false := by simp; omega
  have e3 : ((kd : Int) % 8 == 3) = false := by simp; omega
  have e4 : ((kd : Int) % 8 == 4) = false := by simp; omega
  have e5 : ((kd : Int) % 8 == 5) = false := by simp; omega
  have e6 : ((kd : Int) % 8 == 6) = false := by simp; omega
  have e7 : ((kd : Int) % 8 == 7) = true := by simp; omega
  have Hlt := Lib.hid hlt
  have Hp := Lib.hid h
  clear h hlt hj
  go_enter Try.func10, Try.ntmps10
  go_wp2_with fail
  have hq : Pair (w.alloc (.cells #[.int .u8 (kd : Int), .int .i64 i] 30)) K s r := Hp.out.alloc _
  have hbx : w.heap.size ∉ K.all := fun hm => by have := Hlt.out _ hm; omega
  have hcb : (w.alloc (.cells #[.int .u8 (kd : Int), .int .i64 i] 30)).cell? ⟨w.heap.size, 0, none⟩ = some (.int .u8 (kd : Int)) := by rw [cell_alloc]; rfl
  have hmm : Mod w (w.alloc (.cells #[.int .u8 (kd : Int), .int .i64 i] 30)) K.all := (Mod.refl _ _).alloc _
  have Hq := Lib.hid hq
  have Hbx := Lib.hid hbx
  have Hmm := Lib.hid hmm
  clear hq hbx hmm Hlt Hp
  generalize w.alloc (.cells #[.int .u8 (kd : Int), .int .i64 i] 30) = W at *
  generalize w.heap.size = bx at *
  refine (hP _ K.bc K.bf Hq.out.pc).mono ?_
  rintro e w1 ⟨rfl, p1, m1⟩
  have c1 : w1.cell? ⟨bx, 0, none⟩ = some (.int .u8 (kd : Int)) := m1.cell_of hcb (fun hm => Hbx.out (by simp [Blk.all] at hm ⊢; omega))
  have P1 := Lib.hid p1
  have M1 := Lib.hid m1
  clear p1 m1
  go_wp2_with fail
  refine (hR _ K.br K.bt K.bu K.bp (Hq.out.prog P1.out M1.out (by simp)).rc).mono ?_
  rintro e w2 ⟨rfl, p2, m2⟩
  have c2 : w2.cell? ⟨bx, 0, none⟩ = some (.int .u8 (kd : Int)) := m2.cell_of c1 (fun hm => Hbx.out (by simp [Blk.all] at hm ⊢; omega))
  have P2 := Lib.hid p2
  have M2 := Lib.hid m2
  clear p2 m2
  go_wp2_with fail
  refine (hL _ K.bc K.bf ((Hq.out.prog P1.out M1.out (by simp)).ref P2.out M2.out (by simp)).pc).mono ?_
  rintro e w3 ⟨rfl, p3, m3⟩
  have c3 : w3.cell? ⟨bx, 0, none⟩ = some (.int .u8 (kd : Int)) := m3.cell_of c2 (fun hm => Hbx.out (by simp [Blk.all] at hm ⊢; omega))
  have Q3 := Lib.hid (((Hq.out.prog P1.out M1.out (by simp)).ref P2.out M2.out (by simp)).prog p3 m3 (by simp))
  have M3 := Lib.hid m3
  clear p3 m3
  go_wp2_with fail
  refine (hM _ K.br K.bt K.bu K.bp Q3.out.rc).mono ?_
  rintro e w4 ⟨rfl, p4, m4⟩
  have Q4 := Lib.hid (Q3.out.ref p4 m4 (by simp))
  have M4 := Lib.hid m4
  clear p4 m4
  go_wp2_with fail
  refine (take_any _ K.bc K.bf s2 Q4.out.pc i1).mono ?_
  rintro e w5 ⟨rfl, p5, m5⟩
  have Q5 := Lib.hid (Q4.out.prog p5 m5 (by simp))
  have M5 := Lib.hid m5
  clear p5 m5
  go_wp2_with fail
  refine (rtake_any _ K.br K.bt K.bu K.bp r2 Q5.out.rc i1).mono ?_
  rintro e w6 ⟨rfl, p6, m6⟩
  have Q6 := Lib.hid (Q5.out.ref p6 m6 (by simp))
  have M6 := Lib.hid m6
  clear p6 m6
  go_wp2_with fail
  go_ret
  exact ⟨rfl, Q6.out, Hmm.out.trans ((M1.out.mono (by simp [Blk.all])).trans ((M2.out.mono (by simp [Blk.all])).trans ((M3.out.mono (by simp [Blk.all])).trans ((M4.out.mono (by simp [Blk.all])).trans ((M5.out.mono (by simp [Blk.all])).trans (M6.out.mono (by simp [Blk.all])))))))⟩

theorem does_7_part_false (w : World) (K : Blk) (s r s1 r1 s2 r2 : St) (h : Pair w K s r) (kd : Nat) (i : Int) (i1 : Nat) (hk : kd < 256) (hj : kd % 8 = 7)
   (hP : PickP s s1 i1 true) (hR : PickR r r1 i1 true) (hL : LeaveP s1 s2 i1 false) (hM : LeaveR r1 r2 i1 true) : Calls Try.prog 10 #[.pointer (some ⟨K.bc, 0, none⟩), .pointer (some ⟨K.br, 0, none⟩), .agg #[.int .u8 (kd : Int), .int .i64 i]] w (DidP w K s2 r2 false) := by
  have hlt := h.lt
  have e0 : ((kd : Int) % 8 == 0) = false := by simp; omega
  have e1 : ((kd : Int) % 8 == 1) = false := by simp; omega
  have e2 : ((kd : Int) % 8 == 2) = false := by simp; omega
  have e3 : ((kd : Int) % 8 == 3) = false := by simp; omega
  have e4 : ((kd : Int) % 8 == 4) = false := by simp; omega
  have e5 : ((kd : Int) % 8 == 5) = false := by simp; omega
  have e6 : ((kd : Int) % 8 == 6) = false := by simp; omega
  have e7 : ((kd : Int) % 8 == 7) = true := by simp; omega
  have Hlt := Lib.hid hlt
  have Hp := Lib.hid h
  clear h hlt hj
  go_enter Try.func10, Try.ntmps10
  go_wp2_with fail
  have hq : Pair (w.alloc (.cells #[.int .u8 (kd : Int), .int .i64 i] 30)) K s r := Hp.out.alloc _
  have hbx : w.heap.size ∉ K.all := fun hm => by have := Hlt.out _ hm; omega
  have hcb : (w.alloc (.cells #[.int .u8 (kd : Int), .int .i64 i] 30)).cell? ⟨w.heap.size, 0, none⟩ = some (.int .u8 (kd : Int)) := by rw [cell_alloc]; rfl
  have hmm : Mod w (w.alloc (.cells #[.int .u8 (kd : Int), .int .i64 i] 30)) K.all := (Mod.refl _ _).alloc _
  have Hq := Lib.hid hq
  have Hbx := Lib.hid hbx
  have Hmm := Lib.hid hmm
  clear hq hbx hmm Hlt Hp
  generalize w.alloc (.cells #[.int .u8 (kd : Int), .int .i64 i] 30) = W at *
  generalize w.heap.size = bx at *
  refine (hP _ K.bc K.bf Hq.out.pc).mono ?_
  rintro e w1 ⟨rfl, p1, m1⟩
  have c1 : w1.cell? ⟨bx, 0, none⟩ = some (.int .u8 (kd : Int)) := m1.cell_of hcb (fun hm => Hbx.out (by simp [Blk.all] at hm ⊢; omega))
  have P1 := Lib.hid p1
  have M1 := Lib.hid m1
  clear p1 m1
  go_wp2_with fail
  refine (hR _ K.br K.bt K.bu K.bp (Hq.out.prog P1.out M1.out (by simp)).rc).mono ?_
  rintro e w2 ⟨rfl, p2, m2⟩
  have c2 : w2.cell? ⟨bx, 0, none⟩ = some (.int .u8 (kd : Int)) := m2.cell_of c1 (fun hm => Hbx.out (by simp [Blk.all] at hm ⊢; omega))
  have P2 := Lib.hid p2
  have M2 := Lib.hid m2
  clear p2 m2
  go_wp2_with fail
  refine (hL _ K.bc K.bf ((Hq.out.prog P1.out M1.out (by simp)).ref P2.out M2.out (by simp)).pc).mono ?_
  rintro e w3 ⟨rfl, p3, m3⟩
  have c3 : w3.cell? ⟨bx, 0, none⟩ = some (.int .u8 (kd : Int)) := m3.cell_of c2 (fun hm => Hbx.out (by simp [Blk.all] at hm ⊢; omega))
  have Q3 := Lib.hid (((Hq.out.prog P1.out M1.out (by simp)).ref P2.out M2.out (by simp)).prog p3 m3 (by simp))
  have M3 := Lib.hid m3
  clear p3 m3
  go_wp2_with fail
  refine (hM _ K.br K.bt K.bu K.bp Q3.out.rc).mono ?_
  rintro e w4 ⟨rfl, p4, m4⟩
  have Q4 := Lib.hid (Q3.out.ref p4 m4 (by simp))
  have M4 := Lib.hid m4
  clear p4 m4
  go_wp2_with fail
  go_ret
  exact ⟨rfl, Q4.out, Hmm.out.trans ((M1.out.mono (by simp [Blk.all])).trans ((M2.out.mono (by simp [Blk.all])).trans ((M3.out.mono (by simp [Blk.all])).trans (M4.out.mono (by simp [Blk.all])))))⟩

theorem does_7_take_false (w : World) (K : Blk) (s r s1 r1 s2 r2 : St) (h : Pair w K s r) (kd : Nat) (i : Int) (i1 : Nat) (hk : kd < 256) (hj : kd % 8 = 7)
   (hP : PickP s s1 i1 true) (hR : PickR r r1 i1 true) (hL : LeaveP s1 s2 i1 false) (hM : LeaveR r1 r2 i1 false) : Calls Try.prog 10 #[.pointer (some ⟨K.bc, 0, none⟩), .pointer (some ⟨K.br, 0, none⟩), .agg #[.int .u8 (kd : Int), .int .i64 i]] w (DidP w K (takeS s2 i1) (takeS r2 i1) (takeB s2 i1 == takeB r2 i1)) := by
  have hlt := h.lt
  have e0 : ((kd : Int) % 8 == 0) = false := by simp; omega
  have e1 : ((kd : Int) % 8 == 1) = false := by simp; omega
  have e2 : ((kd : Int) % 8 == 2) = false := by simp; omega
  have e3 : ((kd : Int) % 8 == 3) = false := by simp; omega
  have e4 : ((kd : Int) % 8 == 4) = false := by simp; omega
  have e5 : ((kd : Int) % 8 == 5) = false := by simp; omega
  have e6 : ((kd : Int) % 8 == 6) = false := by simp; omega
  have e7 : ((kd : Int) % 8 == 7) = true := by simp; omega
  have Hlt := Lib.hid hlt
  have Hp := Lib.hid h
  clear h hlt hj
  go_enter Try.func10, Try.ntmps10
  go_wp2_with fail
  have hq : Pair (w.alloc (.cells #[.int .u8 (kd : Int), .int .i64 i] 30)) K s r := Hp.out.alloc _
  have hbx : w.heap.size ∉ K.all := fun hm => by have := Hlt.out _ hm; omega
  have hcb : (w.alloc (.cells #[.int .u8 (kd : Int), .int .i64 i] 30)).cell? ⟨w.heap.size, 0, none⟩ = some (.int .u8 (kd : Int)) := by rw [cell_alloc]; rfl
  have hmm : Mod w (w.alloc (.cells #[.int .u8 (kd : Int), .int .i64 i] 30)) K.all := (Mod.refl _ _).alloc _
  have Hq := Lib.hid hq
  have Hbx := Lib.hid hbx
  have Hmm := Lib.hid hmm
  clear hq hbx hmm Hlt Hp
  generalize w.alloc (.cells #[.int .u8 (kd : Int), .int .i64 i] 30) = W at *
  generalize w.heap.size = bx at *
  refine (hP _ K.bc K.bf Hq.out.pc).mono ?_
  rintro e w1 ⟨rfl, p1, m1⟩
  have c1 : w1.cell? ⟨bx, 0, none⟩ = some (.int .u8 (kd : Int)) := m1.cell_of hcb (fun hm => Hbx.out (by simp [Blk.all] at hm ⊢; omega))
  have P1 := Lib.hid p1
  have M1 := Lib.hid m1
  clear p1 m1
  go_wp2_with fail
  refine (hR _ K.br K.bt K.bu K.bp (Hq.out.prog P1.out M1.out (by simp)).rc).mono ?_
  rintro e w2 ⟨rfl, p2, m2⟩
  have c2 : w2.cell? ⟨bx, 0, none⟩ = some (.int .u8 (kd : Int)) := m2.cell_of c1 (fun hm => Hbx.out (by simp [Blk.all] at hm ⊢; omega))
  have P2 := Lib.hid p2
  have M2 := Lib.hid m2
  clear p2 m2
  go_wp2_with fail
  refine (hL _ K.bc K.bf ((Hq.out.prog P1.out M1.out (by simp)).ref P2.out M2.out (by simp)).pc).mono ?_
  rintro e w3 ⟨rfl, p3, m3⟩
  have c3 : w3.cell? ⟨bx, 0, none⟩ = some (.int .u8 (kd : Int)) := m3.cell_of c2 (fun hm => Hbx.out (by simp [Blk.all] at hm ⊢; omega))
  have Q3 := Lib.hid (((Hq.out.prog P1.out M1.out (by simp)).ref P2.out M2.out (by simp)).prog p3 m3 (by simp))
  have M3 := Lib.hid m3
  clear p3 m3
  go_wp2_with fail
  refine (hM _ K.br K.bt K.bu K.bp Q3.out.rc).mono ?_
  rintro e w4 ⟨rfl, p4, m4⟩
  have Q4 := Lib.hid (Q3.out.ref p4 m4 (by simp))
  have M4 := Lib.hid m4
  clear p4 m4
  go_wp2_with fail
  refine (take_any _ K.bc K.bf s2 Q4.out.pc i1).mono ?_
  rintro e w5 ⟨rfl, p5, m5⟩
  have Q5 := Lib.hid (Q4.out.prog p5 m5 (by simp))
  have M5 := Lib.hid m5
  clear p5 m5
  go_wp2_with fail
  refine (rtake_any _ K.br K.bt K.bu K.bp r2 Q5.out.rc i1).mono ?_
  rintro e w6 ⟨rfl, p6, m6⟩
  have Q6 := Lib.hid (Q5.out.ref p6 m6 (by simp))
  have M6 := Lib.hid m6
  clear p6 m6
  go_wp2_with fail
  go_ret
  exact ⟨rfl, Q6.out, Hmm.out.trans ((M1.out.mono (by simp [Blk.all])).trans ((M2.out.mono (by simp [Blk.all])).trans ((M3.out.mono (by simp [Blk.all])).trans ((M4.out.mono (by simp [Blk.all])).trans ((M5.out.mono (by simp [Blk.all])).trans (M6.out.mono (by simp [Blk.all])))))))⟩
end Go.Proofs.Ytffophgdjkpilaa
