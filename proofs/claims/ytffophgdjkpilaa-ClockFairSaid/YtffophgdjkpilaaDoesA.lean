/-
  A call on both clocks, kinds 0 to 5: what each of the clocks is then, and whether they answered the same.
-/
import Derived.Test.YtffophgdjkpilaaRefD
import Derived.Deep.RegionHeld3
namespace Go.Proofs.Ytffophgdjkpilaa
open Go.RowKit Clk
set_option linter.unusedVariables false

structure Blk where
  bc : Nat
  bf : Nat
  br : Nat
  bt : Nat
  bu : Nat
  bp : Nat
def Blk.all (K : Blk) : List Nat := [K.bc, K.bf, K.br, K.bt, K.bu, K.bp]

/-- a clock of the program and one of the reference, apart in memory -/
structure Pair (w : World) (K : Blk) (s r : St) : Prop where
  pc : PC w K.bc K.bf s
  rc : RC w K.br K.bt K.bu K.bp r
  a1 : K.bc ∉ [K.br, K.bt, K.bu, K.bp]
  a2 : K.bf ∉ [K.br, K.bt, K.bu, K.bp]

theorem Pair.alloc {w : World} {K : Blk} {s r : St} (h : Pair w K s r) (o : Obj) : Pair (w.alloc o) K s r :=
  ⟨h.pc.mod ((Mod.refl _ []).alloc o) (by simp) (by simp), h.rc.mod ((Mod.refl _ []).alloc o) (by simp) (by simp) (by simp) (by simp), h.a1, h.a2⟩
theorem Pair.drew {w : World} {K : Blk} {s r : St} (h : Pair w K s r) : Pair w.drew K s r :=
  ⟨h.pc.mod (Mod.refl _ []).drew (by simp) (by simp), h.rc.mod (Mod.refl _ []).drew (by simp) (by simp) (by simp) (by simp), h.a1, h.a2⟩
theorem Pair.mod {w w' : World} {K : Blk} {s r : St} (h : Pair w K s r) (m : Mod w w' []) : Pair w' K s r :=
  ⟨h.pc.mod m (by simp) (by simp), h.rc.mod m (by simp) (by simp) (by simp) (by simp), h.a1, h.a2⟩
/-- the program's clock turns -/
theorem Pair.prog {w w' : World} {K : Blk} {s s' r : St} {bs : List Nat} (h : Pair w K s r) (p : PC w' K.bc K.bf s') (m : Mod w w' bs) (hb : ∀ k, k ∈ bs → k = K.bc ∨ k = K.bf) : Pair w' K s' r := by
  have a1 := h.a1
  have a2 := h.a2
  simp only [List.mem_cons, List.not_mem_nil, or_false, not_or] at a1 a2
  refine ⟨p, h.rc.mod m ?_ ?_ ?_ ?_, h.a1, h.a2⟩ <;> (intro hm; rcases hb _ hm with e | e <;> simp_all)
theorem Pair.ref {w w' : World} {K : Blk} {s r r' : St} {bs : List Nat} (h : Pair w K s r) (p : RC w' K.br K.bt K.bu K.bp r') (m : Mod w w' bs) (hb : ∀ k, k ∈ bs → k ∈ [K.br, K.bt, K.bu, K.bp]) : Pair w' K s r' :=
  ⟨h.pc.mod m (fun hm => h.a1 (hb _ hm)) (fun hm => h.a2 (hb _ hm)), p, h.a1, h.a2⟩

/-- the blocks lie below a bound -/
theorem Pair.lt {w : World} {K : Blk} {s r : St} (h : Pair w K s r) : ∀ k, k ∈ K.all → k < w.heap.size := by
  intro k hk
  have l1 := cell_lt h.pc.c0
  have l2 := cell_lt (h.pc.ct 0 h.pc.n1)
  have l3 := cell_lt h.rc.c0
  have l4 := cell_lt (h.rc.ct 0 h.rc.n1)
  have l5 := cell_lt (h.rc.cu 0 h.rc.n1)
  have l6 := cell_lt (h.rc.cp 0 h.rc.n1)
  simp only [Blk.all, List.mem_cons, List.not_mem_nil, or_false] at hk
  rcases hk with e | e | e | e | e | e <;> (subst e; assumption)

def DidP (w : World) (K : Blk) (s r : St) (b : Bool) (e : Ending) (w' : World) : Prop := e = .returned (.bool b) ∧ Pair w' K s r ∧ Mod w w' K.all


theorem does_0 (w : World) (K : Blk) (s r : St) (h : Pair w K s r) (kd : Nat) (i : Int) (hk : kd < 256) (hj : kd % 8 = 0) :
   Calls Try.prog 10 #[.pointer (some ⟨K.bc, 0, none⟩), .pointer (some ⟨K.br, 0, none⟩), .agg #[.int .u8 (kd : Int), .int .i64 i]] w (DidP w K (takeS s i) (takeS r i) (takeB s i == takeB r i)) := by
  have hlt := h.lt
  have e0 : ((kd : Int) % 8 == 0) = true := by simp; omega
  have Hlt := Lib.hid hlt
  have Hp := Lib.hid h


  clear h hlt hj
  go_enter Try.func10, Try.ntmps10
  go_wp2
  have hq : Pair (w.alloc (.cells #[.int .u8 (kd : Int), .int .i64 i] 30)).drew K s r := (Hp.out.alloc _).drew
  have hbx : w.heap.size ∉ K.all := fun hm => by have := Hlt.out _ hm; omega
  have hcb : (w.alloc (.cells #[.int .u8 (kd : Int), .int .i64 i] 30)).cell? ⟨w.heap.size, 1, none⟩ = some (.int .i64 i) := by rw [cell_alloc]; rfl
  have hmm : Mod w (w.alloc (.cells #[.int .u8 (kd : Int), .int .i64 i] 30)).drew K.all := ((Mod.refl _ _).alloc _).drew
  have Hq := Lib.hid hq
  have Hbx := Lib.hid hbx
  have Hmm := Lib.hid hmm
  clear hq hbx hmm Hlt Hp
  generalize w.alloc (.cells #[.int .u8 (kd : Int), .int .i64 i] 30) = W at *
  generalize w.heap.size = bx at *
  go_region_held3 (fun w' => w'.cell? ⟨bx, 1, none⟩ = some (.int .i64 i)) (go_keep)
    (first
      | (go_at_call 16; refine (take_any _ K.bc K.bf s ?_ i).mono ?_; exact Hq.out.pc; rintro e w1 ⟨rfl, p1, m1⟩; have c1 : w1.cell? ⟨bx, 1, none⟩ = some (.int .i64 i) := m1.cell_of hcb (fun hm => Hbx.out (by simp [Blk.all] at hm ⊢; omega)); have P1 := Lib.hid p1; have M1 := Lib.hid m1; clear p1 m1)
      | (go_at_call 19; refine (rtake_any _ K.br K.bt K.bu K.bp r ?_ i).mono ?_; exact (Hq.out.prog P1.out M1.out (by simp)).rc; rintro e w2 ⟨rfl, p2, m2⟩; have c2 : w2.cell? ⟨bx, 1, none⟩ = some (.int .i64 i) := m2.cell_of c1 (fun hm => Hbx.out (by simp [Blk.all] at hm ⊢; omega)); have P2 := Lib.hid p2; have M2 := Lib.hid m2; clear p2 m2))
  go_wp2
  go_ret
  exact ⟨rfl, (Hq.out.prog P1.out M1.out (by simp)).ref P2.out M2.out (by simp), Hmm.out.trans ((M1.out.mono (by simp [Blk.all])).trans (M2.out.mono (by simp [Blk.all])))⟩

theorem does_1 (w : World) (K : Blk) (s r : St) (h : Pair w K s r) (kd : Nat) (i : Int) (hk : kd < 256) (hj : kd % 8 = 1) :
   Calls Try.prog 10 #[.pointer (some ⟨K.bc, 0, none⟩), .pointer (some ⟨K.br, 0, none⟩), .agg #[.int .u8 (kd : Int), .int .i64 i]] w (DidP w K (leaveS s i) (leaveS r i) (leaveB s i == leaveB r i)) := by
  have hlt := h.lt
  have e0 : ((kd : Int) % 8 == 0) = false := by simp; omega
  have e1 : ((kd : Int) % 8 == 1) = true := by simp; omega
  have Hlt := Lib.hid hlt
  have Hp := Lib.hid h


  clear h hlt hj
  go_enter Try.func10, Try.ntmps10
  go_wp2
  have hq : Pair (w.alloc (.cells #[.int .u8 (kd : Int), .int .i64 i] 30)).drew K s r := (Hp.out.alloc _).drew
  have hbx : w.heap.size ∉ K.all := fun hm => by have := Hlt.out _ hm; omega
  have hcb : (w.alloc (.cells #[.int .u8 (kd : Int), .int .i64 i] 30)).cell? ⟨w.heap.size, 1, none⟩ = some (.int .i64 i) := by rw [cell_alloc]; rfl
  have hmm : Mod w (w.alloc (.cells #[.int .u8 (kd : Int), .int .i64 i] 30)).drew K.all := ((Mod.refl _ _).alloc _).drew
  have Hq := Lib.hid hq
  have Hbx := Lib.hid hbx
  have Hmm := Lib.hid hmm
  clear hq hbx hmm Hlt Hp
  generalize w.alloc (.cells #[.int .u8 (kd : Int), .int .i64 i] 30) = W at *
  generalize w.heap.size = bx at *
  go_region_held3 (fun w' => w'.cell? ⟨bx, 1, none⟩ = some (.int .i64 i)) (go_keep)
    (first
      | (go_at_call 18; refine (leave_any _ K.bc K.bf s ?_ i).mono ?_; exact Hq.out.pc; rintro e w1 ⟨rfl, p1, m1⟩; have c1 : w1.cell? ⟨bx, 1, none⟩ = some (.int .i64 i) := m1.cell_of hcb (fun hm => Hbx.out (by simp [Blk.all] at hm ⊢; omega)); have P1 := Lib.hid p1; have M1 := Lib.hid m1; clear p1 m1)
      | (go_at_call 20; refine (rleave_any _ K.br K.bt K.bu K.bp r ?_ i).mono ?_; exact (Hq.out.prog P1.out M1.out (by simp)).rc; rintro e w2 ⟨rfl, p2, m2⟩; have c2 : w2.cell? ⟨bx, 1, none⟩ = some (.int .i64 i) := m2.cell_of c1 (fun hm => Hbx.out (by simp [Blk.all] at hm ⊢; omega)); have P2 := Lib.hid p2; have M2 := Lib.hid m2; clear p2 m2))
  go_wp2
  go_ret
  exact ⟨rfl, (Hq.out.prog P1.out M1.out (by simp)).ref P2.out M2.out (by simp), Hmm.out.trans ((M1.out.mono (by simp [Blk.all])).trans (M2.out.mono (by simp [Blk.all])))⟩

theorem does_2 (w : World) (K : Blk) (s r : St) (h : Pair w K s r) (kd : Nat) (i : Int) (hk : kd < 256) (hj : kd % 8 = 2) :
   Calls Try.prog 10 #[.pointer (some ⟨K.bc, 0, none⟩), .pointer (some ⟨K.br, 0, none⟩), .agg #[.int .u8 (kd : Int), .int .i64 i]] w (DidP w K (touchS s i) (touchS r i) (isT s i == isT r i)) := by
  have hlt := h.lt
  have e0 : ((kd : Int) % 8 == 0) = false := by simp; omega
  have e1 : ((kd : Int) % 8 == 1) = false := by simp; omega
  have e2 : ((kd : Int) % 8 == 2) = true := by simp; omega
  have Hlt := Lib.hid hlt
  have Hp := Lib.hid h


  clear h hlt hj
  go_enter Try.func10, Try.ntmps10
  go_wp2
  have hq : Pair (w.alloc (.cells #[.int .u8 (kd : Int), .int .i64 i] 30)).drew K s r := (Hp.out.alloc _).drew
  have hbx : w.heap.size ∉ K.all := fun hm => by have := Hlt.out _ hm; omega
  have hcb : (w.alloc (.cells #[.int .u8 (kd : Int), .int .i64 i] 30)).cell? ⟨w.heap.size, 1, none⟩ = some (.int .i64 i) := by rw [cell_alloc]; rfl
  have hmm : Mod w (w.alloc (.cells #[.int .u8 (kd : Int), .int .i64 i] 30)).drew K.all := ((Mod.refl _ _).alloc _).drew
  have Hq := Lib.hid hq
  have Hbx := Lib.hid hbx
  have Hmm := Lib.hid hmm
  clear hq hbx hmm Hlt Hp
  generalize w.alloc (.cells #[.int .u8 (kd : Int), .int .i64 i] 30) = W at *
  generalize w.heap.size = bx at *
  go_region_held3 (fun w' => w'.cell? ⟨bx, 1, none⟩ = some (.int .i64 i)) (go_keep)
    (first
      | (go_at_call 17; refine (touch_any _ K.bc K.bf s ?_ i).mono ?_; exact Hq.out.pc; rintro e w1 ⟨rfl, p1, m1⟩; have c1 : w1.cell? ⟨bx, 1, none⟩ = some (.int .i64 i) := m1.cell_of hcb (fun hm => Hbx.out (by simp [Blk.all] at hm ⊢; omega)); have P1 := Lib.hid p1; have M1 := Lib.hid m1; clear p1 m1)
      | (go_at_call 21; refine (rtouch_any _ K.br K.bt K.bu K.bp r ?_ i).mono ?_; exact (Hq.out.prog P1.out M1.out (by simp)).rc; rintro e w2 ⟨rfl, p2, m2⟩; have c2 : w2.cell? ⟨bx, 1, none⟩ = some (.int .i64 i) := m2.cell_of c1 (fun hm => Hbx.out (by simp [Blk.all] at hm ⊢; omega)); have P2 := Lib.hid p2; have M2 := Lib.hid m2; clear p2 m2))
  go_wp2
  go_ret
  exact ⟨rfl, (Hq.out.prog P1.out M1.out (by simp)).ref P2.out M2.out (by simp), Hmm.out.trans ((M1.out.mono (by simp [Blk.all])).trans (M2.out.mono (by simp [Blk.all])))⟩

theorem does_3 (w : World) (K : Blk) (s r : St) (h : Pair w K s r) (kd : Nat) (i : Int) (hk : kd < 256) (hj : kd % 8 = 3) (hs : ∀ k, s.p k ≤ 1000000) (hr : ∀ k, r.p k ≤ 1000000) :
   Calls Try.prog 10 #[.pointer (some ⟨K.bc, 0, none⟩), .pointer (some ⟨K.br, 0, none⟩), .agg #[.int .u8 (kd : Int), .int .i64 i]] w (DidP w K (pinS s i) (pinS r i) (isT s i == isT r i)) := by
  have hlt := h.lt
  have e0 : ((kd : Int) % 8 == 0) = false := by simp; omega
  have e1 : ((kd : Int) % 8 == 1) = false := by simp; omega
  have e2 : ((kd : Int) % 8 == 2) = false := by simp; omega
  have e3 : ((kd : Int) % 8 == 3) = true := by simp; omega
  have Hlt := Lib.hid hlt
  have Hp := Lib.hid h
  have Hs := Lib.hid hs
  have Hr := Lib.hid hr
  clear h hlt hj hs hr
  go_enter Try.func10, Try.ntmps10
  go_wp2
  have hq : Pair (w.alloc (.cells #[.int .u8 (kd : Int), .int .i64 i] 30)).drew K s r := (Hp.out.alloc _).drew
  have hbx : w.heap.size ∉ K.all := fun hm => by have := Hlt.out _ hm; omega
  have hcb : (w.alloc (.cells #[.int .u8 (kd : Int), .int .i64 i] 30)).cell? ⟨w.heap.size, 1, none⟩ = some (.int .i64 i) := by rw [cell_alloc]; rfl
  have hmm : Mod w (w.alloc (.cells #[.int .u8 (kd : Int), .int .i64 i] 30)).drew K.all := ((Mod.refl _ _).alloc _).drew
  have Hq := Lib.hid hq
  have Hbx := Lib.hid hbx
  have Hmm := Lib.hid hmm
  clear hq hbx hmm Hlt Hp
  generalize w.alloc (.cells #[.int .u8 (kd : Int), .int .i64 i] 30) = W at *
  generalize w.heap.size = bx at *
  go_region_held3 (fun w' => w'.cell? ⟨bx, 1, none⟩ = some (.int .i64 i)) (go_keep)
    (first
      | (go_at_call 22; refine (pin_any _ K.bc K.bf s ?_ i Hs.out).mono ?_; exact Hq.out.pc; rintro e w1 ⟨rfl, p1, m1⟩; have c1 : w1.cell? ⟨bx, 1, none⟩ = some (.int .i64 i) := m1.cell_of hcb (fun hm => Hbx.out (by simp [Blk.all] at hm ⊢; omega)); have P1 := Lib.hid p1; have M1 := Lib.hid m1; clear p1 m1)
      | (go_at_call 23; refine (rpin_any _ K.br K.bt K.bu K.bp r ?_ i Hr.out).mono ?_; exact (Hq.out.prog P1.out M1.out (by simp)).rc; rintro e w2 ⟨rfl, p2, m2⟩; have c2 : w2.cell? ⟨bx, 1, none⟩ = some (.int .i64 i) := m2.cell_of c1 (fun hm => Hbx.out (by simp [Blk.all] at hm ⊢; omega)); have P2 := Lib.hid p2; have M2 := Lib.hid m2; clear p2 m2))
  go_wp2
  go_ret
  exact ⟨rfl, (Hq.out.prog P1.out M1.out (by simp)).ref P2.out M2.out (by simp), Hmm.out.trans ((M1.out.mono (by simp [Blk.all])).trans (M2.out.mono (by simp [Blk.all])))⟩

theorem does_4 (w : World) (K : Blk) (s r : St) (h : Pair w K s r) (kd : Nat) (i : Int) (hk : kd < 256) (hj : kd % 8 = 4) (hs : ∀ k, s.p k ≤ 1000000) (hr : ∀ k, r.p k ≤ 1000000) :
   Calls Try.prog 10 #[.pointer (some ⟨K.bc, 0, none⟩), .pointer (some ⟨K.br, 0, none⟩), .agg #[.int .u8 (kd : Int), .int .i64 i]] w (DidP w K (unpinS s i) (unpinS r i) (unpinB s i == unpinB r i)) := by
  have hlt := h.lt
  have e0 : ((kd : Int) % 8 == 0) = false := by simp; omega
  have e1 : ((kd : Int) % 8 == 1) = false := by simp; omega
  have e2 : ((kd : Int) % 8 == 2) = false := by simp; omega
  have e3 : ((kd : Int) % 8 == 3) = false := by simp; omega
  have e4 : ((kd : Int) % 8 == 4) = true := by simp; omega
  have Hlt := Lib.hid hlt
  have Hp := Lib.hid h
  have Hs := Lib.hid hs
  have Hr := Lib.hid hr
  clear h hlt hj hs hr
  go_enter Try.func10, Try.ntmps10
  go_wp2
  have hq : Pair (w.alloc (.cells #[.int .u8 (kd : Int), .int .i64 i] 30)).drew K s r := (Hp.out.alloc _).drew
  have hbx : w.heap.size ∉ K.all := fun hm => by have := Hlt.out _ hm; omega
  have hcb : (w.alloc (.cells #[.int .u8 (kd : Int), .int .i64 i] 30)).cell? ⟨w.heap.size, 1, none⟩ = some (.int .i64 i) := by rw [cell_alloc]; rfl
  have hmm : Mod w (w.alloc (.cells #[.int .u8 (kd : Int), .int .i64 i] 30)).drew K.all := ((Mod.refl _ _).alloc _).drew
  have Hq := Lib.hid hq
  have Hbx := Lib.hid hbx
  have Hmm := Lib.hid hmm
  clear hq hbx hmm Hlt Hp
  generalize w.alloc (.cells #[.int .u8 (kd : Int), .int .i64 i] 30) = W at *
  generalize w.heap.size = bx at *
  go_region_held3 (fun w' => w'.cell? ⟨bx, 1, none⟩ = some (.int .i64 i)) (go_keep)
    (first
      | (go_at_call 15; refine (unpin_any _ K.bc K.bf s ?_ i Hs.out).mono ?_; exact Hq.out.pc; rintro e w1 ⟨rfl, p1, m1⟩; have c1 : w1.cell? ⟨bx, 1, none⟩ = some (.int .i64 i) := m1.cell_of hcb (fun hm => Hbx.out (by simp [Blk.all] at hm ⊢; omega)); have P1 := Lib.hid p1; have M1 := Lib.hid m1; clear p1 m1)
      | (go_at_call 24; refine (runpin_any _ K.br K.bt K.bu K.bp r ?_ i Hr.out).mono ?_; exact (Hq.out.prog P1.out M1.out (by simp)).rc; rintro e w2 ⟨rfl, p2, m2⟩; have c2 : w2.cell? ⟨bx, 1, none⟩ = some (.int .i64 i) := m2.cell_of c1 (fun hm => Hbx.out (by simp [Blk.all] at hm ⊢; omega)); have P2 := Lib.hid p2; have M2 := Lib.hid m2; clear p2 m2))
  go_wp2
  go_ret
  exact ⟨rfl, (Hq.out.prog P1.out M1.out (by simp)).ref P2.out M2.out (by simp), Hmm.out.trans ((M1.out.mono (by simp [Blk.all])).trans (M2.out.mono (by simp [Blk.all])))⟩

theorem does_5 (w : World) (K : Blk) (s r : St) (h : Pair w K s r) (kd : Nat) (i : Int) (hk : kd < 256) (hj : kd % 8 = 5) :
   Calls Try.prog 10 #[.pointer (some ⟨K.bc, 0, none⟩), .pointer (some ⟨K.br, 0, none⟩), .agg #[.int .u8 (kd : Int), .int .i64 i]] w (DidP w K s r ((pinsV s i : Int) == (pinsV r i : Int))) := by
  have hlt := h.lt
  have e0 : ((kd : Int) % 8 == 0) = false := by simp; omega
  have e1 : ((kd : Int) % 8 == 1) = false := by simp; omega
  have e2 : ((kd : Int) % 8 == 2) = false := by simp; omega
  have e3 : ((kd : Int) % 8 == 3) = false := by simp; omega
  have e4 : ((kd : Int) % 8 == 4) = false := by simp; omega
  have e5 : ((kd : Int) % 8 == 5) = true := by simp; omega
  have Hlt := Lib.hid hlt
  have Hp := Lib.hid h
  clear h hlt hj
  go_enter Try.func10, Try.ntmps10
  go_wp2
  have hq : Pair (w.alloc (.cells #[.int .u8 (kd : Int), .int .i64 i] 30)).drew K s r := (Hp.out.alloc _).drew
  have hcb : (w.alloc (.cells #[.int .u8 (kd : Int), .int .i64 i] 30)).cell? ⟨w.heap.size, 1, none⟩ = some (.int .i64 i) := by rw [cell_alloc]; rfl
  have hmm : Mod w (w.alloc (.cells #[.int .u8 (kd : Int), .int .i64 i] 30)).drew K.all := ((Mod.refl _ _).alloc _).drew
  have Hq := Lib.hid hq
  have Hmm := Lib.hid hmm
  clear hq hmm Hlt Hp
  generalize w.alloc (.cells #[.int .u8 (kd : Int), .int .i64 i] 30) = W at *
  generalize w.heap.size = bx at *
  go_region_held3 (fun w' => w'.cell? ⟨bx, 1, none⟩ = some (.int .i64 i)) (go_keep)
    (first
      | (go_at_call 11; refine (pins_any _ K.bc K.bf s ?_ i).mono ?_; exact Hq.out.pc; rintro e w1 ⟨rfl, rfl⟩)
      | (go_at_call 12; refine (rpins_any _ K.br K.bt K.bu K.bp r ?_ i).mono ?_; exact Hq.out.rc; rintro e w2 ⟨rfl, rfl⟩))
  go_wp2
  go_ret
  exact ⟨rfl, Hq.out, Hmm.out⟩
end Go.Proofs.Ytffophgdjkpilaa
