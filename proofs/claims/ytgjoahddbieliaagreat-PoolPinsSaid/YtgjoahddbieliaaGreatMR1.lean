/-
  The reference's numbers as bytes: power, Put, Get.
-/
import Derived.Test.YtgjoahddbieliaaGreatMStrip
namespace Go.Proofs.YtgjoahddbieliaaGreat
open Go.RowKit
set_option linter.unusedVariables false

def pw (k : Nat) : Nat := 2 ^ k
theorem pw_succ (k : Nat) : pw (k + 1) = pw k + pw k := by unfold pw; rw [Nat.pow_succ]; omega
theorem pw_pos (k : Nat) : 0 < pw k := Nat.pow_pos (by omega)
theorem pw_lt (k : Nat) (h : k < 64) : pw k < 18446744073709551616 := by
  have : pw k ≤ 2 ^ 63 := Nat.pow_le_pow_right (by omega) (by omega)
  have e : (2 : Nat) ^ 63 = 9223372036854775808 := by decide
  omega
theorem r1power (w : World) (n : Nat) (hn : n < 64) : Calls Tryz.prog 256 #[.int .u64 (n : Int)] w fun e w' => e = .returned (.int .u64 (pw n : Int)) ∧ w' = w := by
  have h0 : (1 : Int) = (pw 0 : Int) := rfl
  have H0 := Lib.hid h0
  clear h0
  go_enter Tryz.func256, Tryz.ntmps256
  go_wp2_with fail
  go_loop [3, 4] (fun p v => ∃ (i : Nat), i ≤ n ∧ v = .int .u64 (i : Int) ∧ p = .int .u64 (pw i : Int)) (fun _ v => n - (intOf v).toNat)
  case atStart => exact ⟨0, Nat.zero_le _, rfl, by rw [← H0.out]⟩
  case round =>
    obtain ⟨i, hi, rfl, rfl⟩ := hrel
    have hp := pw_pos i
    have hs := pw_succ i
    have hw1 : i < n → IntKind.u64.wrap ((pw i : Int) + (pw i : Int)) = (pw (i + 1) : Int) := fun hlt => by
      rw [← Int.natCast_add, ← hs]; exact u64_wrap _ (pw_lt _ (by omega))
    have hw2 : i < n → IntKind.u64.wrap ((i : Int) + 1) = ((i + 1 : Nat) : Int) := fun hlt => u64_wrap (i + 1) (by omega)
    generalize hpi : pw i = q at *
    have Hs := Lib.hid hs
    have Hpi := Lib.hid hpi
    clear hs hpi
    by_cases hlt : i < n
    · have e1 := hw1 hlt
      have e2 := hw2 hlt
      clear hw1 hw2
      go_wp2_with fail
      go_round
      case rel => exact ⟨i + 1, by omega, rfl, rfl⟩
      case measure => simp [intOf]; omega
    · clear hw1 hw2
      obtain rfl : i = n := by omega
      go_wp2_with fail
      go_returns
      exact ⟨by rw [Hpi.out]; rfl, rfl⟩
/-- one byte more, its block just made -/
theorem wpList_append_nb1 {w0 w : World} {τ0 τ : Tags} {S : Tag → Prop} (hst : Step w0 τ0 w τ S) {g : Tag} {v : Value} {l : List Int} (hown : NB w0.heap.size w τ g v l) (x : Int) (hx : 0 ≤ x ∧ x ≤ 255) (hsz : l.length ≤ 1000000000) {kb : Nat} (hkb : kb = w.heap.size)
    {ops : Array Oper} {rest : List Oper} {o : Oper} {a : Act} {Q : Exit → Act → World → Prop} (hgd : o.guard = none) (s y : Operand)
    (ho : o.op = .call { callee := .builtin .append, args := #[s, y], argTypes := #[43, 43] }) (hs : a.eval s = v) (hy : a.eval y = .slice (some ⟨kb, 0, none⟩) 1 1)
    (h : ∀ v' w' τ', NB w0.heap.size w' τ' g v' (l ++ [x]) → Step w0 τ0 w' τ' S → Step w τ w' τ' (fun t => t = g) → wpList Tryz.prog ops Q rest (a.put o.dst v') w') : wpList Tryz.prog ops Q (o :: rest) a (w.alloc (.cells #[.int .u8 x] 5)) := by
  subst hkb
  have hb : Bytes (w.alloc (.cells #[.int .u8 x] 5)) (τ.put w.heap.size tBox) tBox (.slice (some ⟨w.heap.size, 0, none⟩) 1 1) [x] :=
    ⟨fun z hz => by rw [List.mem_singleton.1 hz]; exact hx, _, 1, rfl, Nat.le_refl _, by unfold maxLen; omega, fun _ => ⟨_, 0, rfl, Tags.put_same _ _ _, fun i hi => by
      have hi : i < 1 := hi
      obtain rfl : i = 0 := by omega
      exact (Own.new w τ tBox 5 [.int .u8 x]).at 0 rfl⟩⟩
  refine wpList_append_nb (hst.alloc (.cells #[.int .u8 x] 5) tBox) (hown.step ((Step.refl w τ nil).alloc _ tBox) (fun h => h)) hb (by simp; omega) hgd s y ho hs hy (fun v' w' τ' h1 h2 h3 => h v' w' τ' h1 h2 ?_)
  exact ((Step.refl w τ _).alloc _ tBox).trans h3
theorem leB_succ (n k : Nat) : leB n (k + 1) = leB n k ++ [byteAt n k] := by simp [leB, List.range_succ]
theorem byteAt_div (n i : Nat) : byteAt n i = (((n / 2 ^ (8 * i)) % 256 : Nat) : Int) := by
  unfold byteAt
  rw [Int.natCast_emod, Int.natCast_ediv, Int.natCast_pow]; rfl
theorem div_step (n i : Nat) : n / 2 ^ (8 * i) / 256 = n / 2 ^ (8 * (i + 1)) := by
  rw [pow_step, Nat.div_div_eq_div_mul, Nat.mul_comm]
set_option maxRecDepth 100000 in
theorem r1put (w : World) (τ : Tags) (g : Tag) (n k : Nat) (hn : n < 18446744073709551616) (h1 : 1 ≤ k) (h8 : k ≤ 8) :
    Calls Tryz.prog 156 #[.int .u64 (n : Int), .int .i64 (k : Int)] w fun e w' => ∃ v τ', e = .returned v ∧ NB w.heap.size w' τ' g v (leB n k) ∧ Step w τ w' τ' nil := by
  have a0 : decide ((k : Int) < 1) = false := by simp; omega
  have a1 : decide ((8 : Int) < (k : Int)) = false := by simp; omega
  have hnn : (n : Int) = ((n / 2 ^ (8 * 0) : Nat) : Int) := by simp
  have Hn := Lib.hid hn
  have Hnn := Lib.hid hnn
  clear hn hnn
  go_enter Tryz.func156, Tryz.ntmps156
  go_wp2_with fail
  go_loopw [0, 5, 6] (fun nv ov iv wr => ∃ (i : Nat) (τr : Tags), i ≤ k ∧ iv = .int .i64 (i : Int) ∧ nv = .int .u64 ((n / 2 ^ (8 * i) : Nat) : Int) ∧ NB w.heap.size wr τr g ov (leB n i) ∧ Step w τ wr τr nil) (fun _ _ iv _ => k - (intOf iv).toNat)
  case atStart => exact ⟨0, τ, Nat.zero_le _, rfl, by rw [← Hnn.out], NB.nil _ _ _ _, Step.refl _ _ _⟩
  case round =>
    obtain ⟨i, τr, hi, rfl, rfl, hnb, hst⟩ := hrel
    by_cases hlt : i < k
    · have hby := byteAt_div n i
      have hdv := div_step n i
      have hls := leB_succ n i
      have hlen := leB_length n i
      have hq : n / 2 ^ (8 * i) < 18446744073709551616 := Nat.lt_of_le_of_lt (Nat.div_le_self _ _) Hn.out
      generalize n / 2 ^ (8 * i) = q at *
      have e1 : IntKind.u8.wrap ((q : Int) % 256) = (q : Int) % 256 := by
        have : IntKind.u8.wrap ((q : Int) % 256) = ((q : Int) % 256) % 256 := by simp [IntKind.wrap, IntKind.bits, IntKind.signed]
        rw [this]; omega
      have e2 : IntKind.u64.wrap ((q : Int) / 256) = (q : Int) / 256 := by have := u64_wrap (q / 256) (by omega); rw [Int.natCast_ediv] at this; exact this
      have hby2 : byteAt n i = (q : Int) % 256 := by rw [hby]; omega
      obtain ⟨pv, cv, rfl⟩ := hnb.val
      have Hby2 := Lib.hid hby2
      have Hdv := Lib.hid hdv
      have Hls := Lib.hid hls
      have Hlen := Lib.hid hlen
      have Hnb := Lib.hid hnb
      have Hst := Lib.hid hst
      have Hq := Lib.hid hq
      clear hby2 hdv hls hlen hnb hst hq
      clear hby
      go_wp2_with (at_builtin; refine wpList_append_nb1 Hst.out Hnb.out ((q : Int) % 256) (by omega) (by rw [Hlen.out]; omega) rfl rfl _ _ rfl rfl rfl ?_; intro v' w' τ' hb he hmo; have Hb := Lib.hid hb; have He := Lib.hid he; have Hmo := Lib.hid hmo; clear hb he hmo)
      go_round
      case rel => exact ⟨i + 1, τ', by omega, by simp, by rw [← Hdv.out]; exact congrArg (Value.int .u64) (by omega), by rw [Hls.out, Hby2.out]; exact Hb.out, He.out⟩
      case measure => simp [intOf]; omega
    · obtain rfl : i = k := by omega
      have Hnb := Lib.hid hnb
      have Hst := Lib.hid hst
      clear hnb hst
      go_wp2_with fail
      go_returns
      exact ⟨_, τr, rfl, Hnb.out, Hst.out⟩
theorem leN_step {l : List Int} (h : IsB l) (i : Nat) (hi : i < 8) : ∃ x : Nat, l.getD i 0 = (x : Int) ∧ x ≤ 255 ∧ x * pw (8 * i) < 18446744073709551616 ∧ leN l i + x * pw (8 * i) = leN l (i + 1) ∧ leN l (i + 1) < 18446744073709551616 := by
  have hx := h.at i
  obtain ⟨x, hx'⟩ := Int.eq_ofNat_of_zero_le hx.1
  have hs : leN l (i + 1) = leN l i + x * pw (8 * i) := by
    show leN l i + (l.getD i 0).toNat * 2 ^ (8 * i) = _
    rw [hx']; rfl
  have hlt := leN_64 h (i + 1) (by omega)
  exact ⟨x, hx', by omega, by omega, hs.symm, hlt⟩
theorem leN_take (l : List Int) (k i : Nat) (h : i ≤ k) : leN (l.take k) i = leN l i := by
  induction i with
  | zero => rfl
  | succ i ih =>
    show leN (l.take k) i + ((l.take k).getD i 0).toNat * 2 ^ (8 * i) = leN l i + (l.getD i 0).toNat * 2 ^ (8 * i)
    rw [ih (by omega), List.getD_eq_getElem?_getD, List.getD_eq_getElem?_getD, List.getElem?_take, if_pos (by omega)]
set_option maxRecDepth 100000 in
theorem r1get {w : World} {τ : Tags} {g : Tag} {v : Value} {l : List Int} (h : Bytes w τ g v l) (h8 : 8 ≤ l.length) :
    Calls Tryz.prog 214 #[v] w fun e w' => e = .returned (.int .u64 (leN l 8 : Int)) ∧ ∃ n, w' = w.drewN n := by
  obtain ⟨b, o, c, rfl, hc1, hc2, ht, hlt, hcell⟩ := h.pos (by omega)
  have hB := h.isB
  have hpw := fun (W : World) (i : Nat) (hi : i < 8) => r1power W (8 * i) (by omega)
  generalize hm : l.length = m at *
  have Hcell := Lib.hid hcell
  have HB := Lib.hid hB
  have Hpw := Lib.hid hpw
  have Hm := Lib.hid hm
  clear hcell hB hpw hm
  clear h
  go_enter Tryz.func214, Tryz.ntmps214
  go_wp2_with fail
  go_loopw [3, 4] (fun nv iv wr => ∃ (i q : Nat), i ≤ 8 ∧ iv = .int .i64 (i : Int) ∧ nv = .int .u64 (leN l i : Int) ∧ wr = w.drewN q) (fun _ iv _ => 8 - (intOf iv).toNat)
  case atStart => exact ⟨0, 0, Nat.zero_le _, rfl, rfl, rfl⟩
  case round =>
    obtain ⟨i, q, hi, rfl, rfl, hwr⟩ := hrel
    by_cases hlt : i < 8
    · have c0 := Hcell.out i (by omega)
      obtain ⟨x, hx, hx255, hxp, hsum, hs64⟩ := leN_step HB.out i hlt
      rw [hx] at c0
      have c1 : wr.cell? ⟨b, o + i, none⟩ = some (.int .u8 (x : Int)) := by rw [hwr]; exact c0
      clear c0
      have hp := fun W => Hpw.out W i hlt
      generalize hpi : pw (8 * i) = P at *
      generalize hli : leN l i = L at *
      generalize hls : leN l (i + 1) = L1 at *
      rw [show ((8 * i : Nat) : Int) = 8 * (i : Int) by omega] at hp
      have e1 : IntKind.u64.wrap (8 * (i : Int)) = 8 * (i : Int) := by have := u64_wrap (8 * i) (by omega); push_cast at this; exact this
      have e2 : IntKind.u64.wrap (x : Int) = (x : Int) := u64_wrap x (by omega)
      have e3 : IntKind.u64.wrap ((x : Int) * (P : Int)) = (x : Int) * (P : Int) := by rw [← Int.natCast_mul]; exact u64_wrap _ hxp
      have e4 : IntKind.u64.wrap ((L : Int) + (x : Int) * (P : Int)) = (L1 : Int) := by rw [← Int.natCast_mul, ← Int.natCast_add, hsum]; exact u64_wrap _ hs64
      have Hp := Lib.hid hp
      have Hx := Lib.hid hx
      have Hxp := Lib.hid hxp
      have Hsum := Lib.hid hsum
      have Hs64 := Lib.hid hs64
      have Hpi := Lib.hid hpi
      have Hli := Lib.hid hli
      have Hls := Lib.hid hls
      have Hwr := Lib.hid hwr
      clear hp hx hxp hsum hs64 hpi hli hls hwr
      go_wp2_with fail
      go_quiet ((go_at_call 256; exact Calls.quiet_of_same (Hp.out _)))
      go_wp2_with fail
      go_round
      case rel => exact ⟨i + 1, q + nq, by omega, by simp, by rw [Hls.out], by rw [Hwr.out, World.drewN_drewN]⟩
      case measure => simp [intOf]; omega
    · obtain rfl : i = 8 := by omega
      have Hwr := Lib.hid hwr
      clear hwr
      go_wp2_with fail
      all_goals go_ret
      all_goals exact ⟨rfl, q, Hwr.out⟩
end Go.Proofs.YtgjoahddbieliaaGreat
