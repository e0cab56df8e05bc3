/-
  ClockDoes returns true, whatever the arguments.
-/
import Derived.Test.YtffophgdjkpilaaRun
namespace Go.Proofs.Ytffophgdjkpilaa
open Go.RowKit Clk
set_option linter.unusedVariables false

theorem law_does (w : World) (n : Int) (b : Option Addr) (len cap : Nat) (hmax : len ≤ maxLen) (hL : Ops w b len) (hn1 : -9223372036854775808 ≤ n) (hn2 : n ≤ 9223372036854775807) :
   Calls Try.prog 3 #[.int .i64 n, .slice b len cap] w (DidV w (.bool true)) := by
  unfold maxLen at hmax
  by_cases hlen : 200 < len
  · have a0 : decide ((200 : Int) < (len : Int)) = true := by simp; omega
    clear hL
    go_enter Try.func3, Try.ntmps3
    go_wp2_with fail
    refine (known_any _).mono ?_
    rintro e w1 ⟨rfl, m1⟩
    have M1 := Lib.hid m1
    clear m1
    go_wp2_with fail
    go_ret
    exact ⟨rfl, M1.out⟩
  have a0 : decide ((200 : Int) < (len : Int)) = false := by simp; omega
  by_cases hin : n < 1 ∨ 64 < n
  · clear hL
    go_enter Try.func3, Try.ntmps3
    go_wp2_with fail
    refine (known_any _).mono ?_
    rintro e w1 ⟨rfl, m1⟩
    have M1 := Lib.hid m1
    clear m1
    go_wp2_with fail
    refine (new_no _ n hin).mono ?_
    rintro e w2 ⟨rfl, rfl⟩
    go_wp2_with fail
    refine (rnew_no _ n hin).mono ?_
    rintro e w2 ⟨rfl, rfl⟩
    go_wp2_with fail
    go_ret
    exact ⟨rfl, M1.out⟩
  obtain ⟨N, rfl⟩ := Int.eq_ofNat_of_zero_le (show 0 ≤ n by omega)
  have h1 : 1 ≤ N := by omega
  have h64 : N ≤ 64 := by omega
  have HL := Lib.hid hL
  clear hL hin
  go_enter Try.func3, Try.ntmps3
  go_wp2_with fail
  refine (known_any _).mono ?_
  rintro e w0 ⟨rfl, m0⟩
  have M0 := Lib.hid m0
  clear m0
  go_wp2_with fail
  refine (new_ok _ N h1 h64).mono ?_
  rintro e w1 ⟨rfl, p1, m1⟩
  have z0 := M0.out.size
  generalize hbc : w0.heap.size + 1 = bc at *
  generalize hbf : w0.heap.size = bf at *
  have l1 := Lib.hid (show w.heap.size ≤ bc by omega)
  have l2 := Lib.hid (show w.heap.size ≤ bf by omega)
  have P1 := Lib.hid p1
  have M1 := Lib.hid (M0.out.trans m1)
  have hokn := Lib.hid (Ok.new h1 h64)
  clear p1 m1 hbc hbf z0 M0
  go_wp2_with fail
  refine (rnew_ok _ N h1 h64).mono ?_
  rintro e w2 ⟨br, bt, bu, bp, rfl, q1, q2, q3, q4, rc, m2⟩
  have g1 := cell_lt P1.out.c0
  have g2 := cell_lt (P1.out.ct 0 P1.out.n1)
  have P2 : Hid (Pair w2 ⟨bc, bf, br, bt, bu, bp⟩ (newS N) (newS N)) := Lib.hid ⟨P1.out.mod m2 (by simp) (by simp), rc, by simp; omega, by simp; omega⟩
  have M2 := Lib.hid (M1.out.trans m2)
  have z1 := M1.out.size
  have hK : Hid (∀ k, k ∈ (⟨bc, bf, br, bt, bu, bp⟩ : Blk).all → w.heap.size ≤ k) := Lib.hid (by have := l1.out; have := l2.out; simp [Blk.all]; omega)
  clear rc m2 P1 M1 l1 l2 q1 q2 q3 q4 g1 g2 z1
  go_wp2_with fail
  go_loopw [7] (fun v wr => ∃ (k : Nat) (s : St), k ≤ len ∧ v = .int .i64 (k : Int) ∧ Pair wr ⟨bc, bf, br, bt, bu, bp⟩ s s ∧ Ok s k ∧ Hid (s.n = N) ∧ Mod w wr []) (fun v _ => len - (intOf v).toNat)
  case atStart => exact ⟨0, newS N, Nat.zero_le _, rfl, P2.out, hokn.out, Lib.hid rfl, M2.out⟩
  case round =>
    clear P2 M2 hokn
    obtain ⟨k, s, hk, rfl, p, ok, hn, m⟩ := hrel
    have P := Lib.hid p
    have OK := Lib.hid ok
    have M := Lib.hid m
    clear p ok m
    by_cases hlt : k < len
    · obtain ⟨bl, ol, kd, i, rfl, hkd, h1w, h2w⟩ := HL.out k hlt
      have c1 := M.out.cell_of h1w (by simp)
      have c2 := M.out.cell_of h2w (by simp)
      have hd := does_any wr ⟨bc, bf, br, bt, bu, bp⟩ s s P.out kd i hkd (fun j => Nat.le_trans (OK.out.pins j) (by omega)) (fun j => Nat.le_trans (OK.out.pins j) (by omega))
      rw [(doesF_same kd s i).1, (doesF_same kd s i).2] at hd
      have ok' := OK.out.does kd s i
      have hn' : (doesF kd s s i).1.n = N := by rw [doesF_n]; exact hn.out
      generalize (doesF kd s s i).1 = s' at *
      have Hd := Lib.hid hd
      have OK' := Lib.hid ok'
      have Hn' := Lib.hid hn'
      clear h1w h2w hd ok' hn'
      go_wp2_with fail
      refine Hd.out.mono ?_
      rintro e w3 ⟨rfl, q, m3⟩
      have Q3 := Lib.hid q
      have M3 := Lib.hid (M.out.fresh m3 hK.out)
      clear q m3
      go_wp2_with fail
      go_roundw
      case rel => exact ⟨k + 1, s', by omega, by go_num, Q3.out, OK'.out, Hn', M3.out⟩
      case measure => simp [intOf]; omega
    · go_wp2_with fail
      go_loop [9] (fun v => ∃ i : Int, -1 ≤ i ∧ i ≤ (N : Int) + 1 ∧ v = .int .i64 i) (fun v => ((N : Int) + 1 - intOf v).toNat)
      case atStart => exact ⟨-1, by omega, by omega, rfl⟩
      case round =>
        obtain ⟨i, hi1, hi2, rfl⟩ := hrel
        by_cases hlt : i < (N : Int) + 1
        · go_wp2_with fail
          refine (pins_any _ bc bf s P.out.pc i).mono ?_
          rintro e w4 ⟨rfl, rfl⟩
          go_wp2_with fail
          refine (rpins_any _ br bt bu bp s P.out.rc i).mono ?_
          rintro e w4 ⟨rfl, rfl⟩
          go_wp2_with fail
          go_round
          case rel => exact ⟨i + 1, by omega, by omega, rfl⟩
          case measure => simp [intOf]; omega
        · go_wp2_with fail
          go_ret
          exact ⟨rfl, M.out⟩
end Go.Proofs.Ytffophgdjkpilaa
