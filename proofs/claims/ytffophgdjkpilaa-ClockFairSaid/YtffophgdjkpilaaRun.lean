/-
  A clock that was played is one of which the plain model's invariant holds.
-/
import Derived.Test.YtffophgdjkpilaaKnown
namespace Go.Proofs.Ytffophgdjkpilaa
open Go.RowKit Clk
set_option linter.unusedVariables false

def Ran (w : World) (many len : Nat) (e : Ending) (w' : World) : Prop :=
  ∃ bc bf s, e = .returned (.pointer (some ⟨bc, 0, none⟩)) ∧ w.heap.size ≤ bc ∧ w.heap.size ≤ bf ∧ PC w' bc bf s ∧ Ok s len ∧ s.n = many ∧ Mod w w' []

def manyOf (n : Int) : Nat := 1 + n.toNat % 64
theorem many_eq (n : Int) : (1 : Int) + max n 0 % 64 = (manyOf n : Int) := by unfold manyOf; omega

theorem run_pos (w : World) (n : Int) (b : Option Addr) (len cap : Nat) (hlen : len ≤ 200) (hL : Ops w b len) (h0 : 0 ≤ n) :
   Calls Try.prog 13 #[.int .i64 n, .slice b len cap] w (Ran w (manyOf n) len) := by
  have HL := Lib.hid hL
  have hm1 : 1 ≤ manyOf n := by unfold manyOf; omega
  have hm2 : manyOf n ≤ 64 := by unfold manyOf; omega
  clear hL
  have hx : (1 : Int) + n % 64 = (manyOf n : Int) := by unfold manyOf; omega
  have h0' : max n 0 = n := by omega
  go_enter Try.func13, Try.ntmps13
  go_wp2_with fail
  clear hx
  refine (new_ok _ (manyOf n) hm1 hm2).mono ?_
  rintro e w1 ⟨rfl, p1, m1⟩
  generalize hbc : w.heap.size + 1 = bc at *
  generalize hbf : w.heap.size = bf at *
  have l1 := Lib.hid (show w.heap.size ≤ bc by omega)
  have l2 := Lib.hid (show w.heap.size ≤ bf by omega)
  have P1 := Lib.hid p1
  have M1 := Lib.hid m1
  have hokn := Lib.hid (Ok.new hm1 hm2)
  clear p1 m1 hbc hbf
  go_wp2_with fail
  go_loopw [6] (fun v wr => ∃ (k : Nat) (s : St), k ≤ len ∧ v = .int .i64 (k : Int) ∧ PC wr bc bf s ∧ Ok s k ∧ Hid (s.n = manyOf n) ∧ Mod w wr []) (fun v _ => len - (intOf v).toNat)
  case atStart => exact ⟨0, newS (manyOf n), Nat.zero_le _, rfl, P1.out, hokn.out, Lib.hid rfl, M1.out⟩
  case round =>
    clear P1 M1 hokn
    obtain ⟨k, s, hk, rfl, p, ok, hn, m⟩ := hrel
    have P := Lib.hid p
    have OK := Lib.hid ok
    have M := Lib.hid m
    clear p ok m
    by_cases hlt : k < len
    · obtain ⟨bl, ol, kd, i, rfl, hkd, h1w, h2w⟩ := HL.out k hlt
      have g5 := cell_lt h1w
      have h1 := M.out.cell_of h1w (by simp)
      have h2 := M.out.cell_of h2w (by simp)
      clear h1w h2w
      have Pd := Lib.hid (P.out.mod (Mod.refl _ []).drew (by simp) (by simp))
      have g1 := cell_lt Pd.out.c0
      have g2 := cell_lt (Pd.out.ct 0 Pd.out.n1)
      have g3 : wr.heap.size = wr.drew.heap.size := rfl
      have g4 : w.heap.size ≤ wr.heap.size := M.out.size
      go_wp2
      go_region_held3 (fun w' => w'.cell? ⟨bl, ol + k * 2, none⟩ = some (.int .u8 (kd : Int)) ∧ w'.cell? ⟨bl, ol + k * 2 + 1, none⟩ = some (.int .i64 i)) (go_keep)
        (first
          | (go_at_call 9; refine (rnew_ok _ 1 (by omega) (by omega)).mono ?_; rintro e w2 ⟨br, bt, bu, bp, rfl, q1, q2, q3, q4, rc, m2⟩; have c1 := m2.cell_of h1 (by simp); have c2 := m2.cell_of h2 (by simp); have RC2 := Lib.hid rc; have M2 := Lib.hid m2; clear rc m2)
          | (go_at_call 10; refine (does_any _ ⟨bc, bf, br, bt, bu, bp⟩ s (newS 1) ?_ kd i hkd ?_ ?_).mono ?_; exact ⟨Pd.out.mod M2.out (by simp) (by simp), RC2.out, by simp; omega, by simp; omega⟩; exact fun j => Nat.le_trans (OK.out.pins j) (by omega); exact fun j => Nat.zero_le _; rintro e w3 ⟨rfl, q, m3⟩; have d1 := m3.cell_of c1 (by have := l1.out; have := l2.out; simp [Blk.all]; omega); have d2 := m3.cell_of c2 (by have := l1.out; have := l2.out; simp [Blk.all]; omega); have Q3 := Lib.hid q; have M3 := Lib.hid m3; clear q m3))
      go_wp2
      go_roundw
      case rel =>
        have mw : Mod w w2 [] := (M.out.drew).trans M2.out
        exact ⟨k + 1, (doesF kd s (newS 1) i).1, by omega, by go_num, Q3.out.pc, OK.out.does kd _ i, Lib.hid (by rw [doesF_n]; exact hn.out), mw.fresh M3.out (by have := l1.out; have := l2.out; simp [Blk.all]; omega)⟩
      case measure => simp [intOf]; omega
    · have e : k = len := by omega
      have E := Lib.hid e
      clear e
      go_wp2
      go_ret
      exact ⟨bc, bf, s, rfl, l1.out, l2.out, P.out, by rw [← E.out]; exact OK.out, hn.out, M.out⟩

theorem run_neg (w : World) (n : Int) (b : Option Addr) (len cap : Nat) (hlen : len ≤ 200) (hL : Ops w b len) (h0 : n < 0) :
   Calls Try.prog 13 #[.int .i64 n, .slice b len cap] w (Ran w 1 len) := by
  have HL := Lib.hid hL
  have hm1 : 1 ≤ 1 := by omega
  have hm2 : 1 ≤ 64 := by omega
  clear hL
  have h0' : max n 0 = 0 := by omega
  go_enter Try.func13, Try.ntmps13
  go_wp2_with fail
  refine (new_ok _ 1 hm1 hm2).mono ?_
  rintro e w1 ⟨rfl, p1, m1⟩
  generalize hbc : w.heap.size + 1 = bc at *
  generalize hbf : w.heap.size = bf at *
  have l1 := Lib.hid (show w.heap.size ≤ bc by omega)
  have l2 := Lib.hid (show w.heap.size ≤ bf by omega)
  have P1 := Lib.hid p1
  have M1 := Lib.hid m1
  have hokn := Lib.hid (Ok.new hm1 hm2)
  clear p1 m1 hbc hbf
  go_wp2_with fail
  go_loopw [6] (fun v wr => ∃ (k : Nat) (s : St), k ≤ len ∧ v = .int .i64 (k : Int) ∧ PC wr bc bf s ∧ Ok s k ∧ Hid (s.n = 1) ∧ Mod w wr []) (fun v _ => len - (intOf v).toNat)
  case atStart => exact ⟨0, newS 1, Nat.zero_le _, rfl, P1.out, hokn.out, Lib.hid rfl, M1.out⟩
  case round =>
    clear P1 M1 hokn
    obtain ⟨k, s, hk, rfl, p, ok, hn, m⟩ := hrel
    have P := Lib.hid p
    have OK := Lib.hid ok
    have M := Lib.hid m
    clear p ok m
    by_cases hlt : k < len
    · obtain ⟨bl, ol, kd, i, rfl, hkd, h1w, h2w⟩ := HL.out k hlt
      have g5 := cell_lt h1w
      have h1 := M.out.cell_of h1w (by simp)
      have h2 := M.out.cell_of h2w (by simp)
      clear h1w h2w
      have Pd := Lib.hid (P.out.mod (Mod.refl _ []).drew (by simp) (by simp))
      have g1 := cell_lt Pd.out.c0
      have g2 := cell_lt (Pd.out.ct 0 Pd.out.n1)
      have g3 : wr.heap.size = wr.drew.heap.size := rfl
      have g4 : w.heap.size ≤ wr.heap.size := M.out.size
      go_wp2
      go_region_held3 (fun w' => w'.cell? ⟨bl, ol + k * 2, none⟩ = some (.int .u8 (kd : Int)) ∧ w'.cell? ⟨bl, ol + k * 2 + 1, none⟩ = some (.int .i64 i)) (go_keep)
        (first
          | (go_at_call 9; refine (rnew_ok _ 1 (by omega) (by omega)).mono ?_; rintro e w2 ⟨br, bt, bu, bp, rfl, q1, q2, q3, q4, rc, m2⟩; have c1 := m2.cell_of h1 (by simp); have c2 := m2.cell_of h2 (by simp); have RC2 := Lib.hid rc; have M2 := Lib.hid m2; clear rc m2)
          | (go_at_call 10; refine (does_any _ ⟨bc, bf, br, bt, bu, bp⟩ s (newS 1) ?_ kd i hkd ?_ ?_).mono ?_; exact ⟨Pd.out.mod M2.out (by simp) (by simp), RC2.out, by simp; omega, by simp; omega⟩; exact fun j => Nat.le_trans (OK.out.pins j) (by omega); exact fun j => Nat.zero_le _; rintro e w3 ⟨rfl, q, m3⟩; have d1 := m3.cell_of c1 (by have := l1.out; have := l2.out; simp [Blk.all]; omega); have d2 := m3.cell_of c2 (by have := l1.out; have := l2.out; simp [Blk.all]; omega); have Q3 := Lib.hid q; have M3 := Lib.hid m3; clear q m3))
      go_wp2
      go_roundw
      case rel =>
        have mw : Mod w w2 [] := (M.out.drew).trans M2.out
        exact ⟨k + 1, (doesF kd s (newS 1) i).1, by omega, by go_num, Q3.out.pc, OK.out.does kd _ i, Lib.hid (by rw [doesF_n]; exact hn.out), mw.fresh M3.out (by have := l1.out; have := l2.out; simp [Blk.all]; omega)⟩
      case measure => simp [intOf]; omega
    · have e : k = len := by omega
      have E := Lib.hid e
      clear e
      go_wp2
      go_ret
      exact ⟨bc, bf, s, rfl, l1.out, l2.out, P.out, by rw [← E.out]; exact OK.out, hn.out, M.out⟩

theorem run_any (w : World) (n : Int) (b : Option Addr) (len cap : Nat) (hlen : len ≤ 200) (hL : Ops w b len) :
   Calls Try.prog 13 #[.int .i64 n, .slice b len cap] w (Ran w (manyOf n) len) := by
  by_cases h0 : 0 ≤ n
  · exact run_pos w n b len cap hlen hL h0
  · have : manyOf n = 1 := by unfold manyOf; omega
    rw [this]
    exact run_neg w n b len cap hlen hL (by omega)
end Go.Proofs.Ytffophgdjkpilaa
