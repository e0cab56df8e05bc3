/-
  The reference's numbers as bytes: power, Put, Get.
-/
import Derived.Test.YtgjoahddbieliaaGreatMStrip
import Derived.Test.YtgjoahddbieliaaGreatMGrow
namespace Go.Proofs.YtgjoahddbieliaaGreat
open Go.RowKit
set_option linter.unusedVariables false

def pw (k : Nat) : Nat := 2 ^ k
theorem pw_succ (k : Nat) : pw (k + 1) = pw k + pw k := by unfold pw; rw [Nat.pow_succ]; omega
theorem pw_pos (k : Nat) : 0 < pw k := Nat.pow_pos (by omega)
theorem pw_lt (k : Nat) (h : k < 64) : pw k < 18446744073709551616 := by
  have : pw k ≤ 2 ^ 63 := Nat.pow_le_pow_right (by omega) (by omega)
  have e : (2 : Nat) ^ 63 = 9223372036854775808 := by decide
  omega
theorem r1power (w : World) (n : Nat) (hn : n < 64) : Calls Tryz.prog 256 #[.int .u64 (n : Int)] w fun e w' => e = .returned (.int .u64 (pw n : Int)) ∧ w' = w := by
  have h0 : (1 : Int) = (pw 0 : Int) := rfl
  have H0 := Lib.hid h0
  clear h0
  go_enter Tryz.func256, Tryz.ntmps256
  go_wp2_with fail
  go_loop [3, 4] (fun p v => ∃ (i : Nat), i ≤ n ∧ v = .int .u64 (i : Int) ∧ p = .int .u64 (pw i : Int)) (fun _ v => n - (intOf v).toNat)
  case atStart => exact ⟨0, Nat.zero_le _, rfl, by rw [← H0.out]⟩
  case round =>
    obtain ⟨i, hi, rfl, rfl⟩ := hrel
    have hp := pw_pos i
    have hs := pw_succ i
    have hw1 : i < n → IntKind.u64.wrap ((pw i : Int) + (pw i : Int)) = (pw (i + 1) : Int) := fun hlt => by
      rw [← Int.natCast_add, ← hs]; exact u64_wrap _ (pw_lt _ (by omega))
    have hw2 : i < n → IntKind.u64.wrap ((i : Int) + 1) = ((i + 1 : Nat) : Int) := fun hlt => u64_wrap (i + 1) (by omega)
    generalize hpi : pw i = q at *
    have Hs := Lib.hid hs
    have Hpi := Lib.hid hpi
    clear hs hpi
    by_cases hlt : i < n
    · have e1 := hw1 hlt
      have e2 := hw2 hlt
      clear hw1 hw2
      go_wp2_with fail
      go_round
      case rel => exact ⟨i + 1, by omega, rfl, rfl⟩
      case measure => simp [intOf]; omega
    · clear hw1 hw2
      obtain rfl : i = n := by omega
      go_wp2_with fail
      go_returns
      exact ⟨by rw [Hpi.out]; rfl, rfl⟩
/-- one byte more, its block just made -/
theorem wpList_append_nb1 {w0 w : World} {τ0 τ : Tags} {S : Tag → Prop} (hst : Step w0 τ0 w τ S) {g : Tag} {v : Value} {l : List Int} (hown : NB w0.heap.size w τ g v l) (x : Int) (hx : 0 ≤ x ∧ x ≤ 255) (hsz : l.length ≤ 1000000000) {kb : Nat} (hkb : kb = w.heap.size)
    {ops : Array Oper} {rest : List Oper} {o : Oper} {a : Act} {Q : Exit → Act → World → Prop} (hgd : o.guard = none) (s y : Operand)
    (ho : o.op = .call { callee := .builtin .append, args := #[s, y], argTypes := #[43, 43] }) (hs : a.eval s = v) (hy : a.eval y = .slice (some ⟨kb, 0, none⟩) 1 1)
    (h : ∀ v' w' τ', NB w0.heap.size w' τ' g v' (l ++ [x]) → Step w0 τ0 w' τ' S → Step w τ w' τ' (fun t => t = g) → wpList Tryz.prog ops Q rest (a.put o.dst v') w') : wpList Tryz.prog ops Q (o :: rest) a (w.alloc (.cells #[.int .u8 x] 5)) := by
  subst hkb
  have hb : Bytes (w.alloc (.cells #[.int .u8 x] 5)) (τ.put w.heap.size tBox) tBox (.slice (some ⟨w.heap.size, 0, none⟩) 1 1) [x] :=
    ⟨fun z hz => by rw [List.mem_singleton.1 hz]; exact hx, _, 1, rfl, Nat.le_refl _, by unfold maxLen; omega, fun _ => ⟨_, 0, rfl, Tags.put_same _ _ _, fun i hi => by
      have hi : i < 1 := hi
      obtain rfl : i = 0 := by omega
      exact (Own.new w τ tBox 5 [.int .u8 x]).at 0 rfl⟩⟩
  refine wpList_append_nb (hst.alloc (.cells #[.int .u8 x] 5) tBox) (hown.step ((Step.refl w τ nil).alloc _ tBox) (fun h => h)) hb (by simp; omega) hgd s y ho hs hy (fun v' w' τ' h1 h2 h3 => h v' w' τ' h1 h2 ?_)
  exact ((Step.refl w τ _).alloc _ tBox).trans h3
theorem leB_succ (n k : Nat) : leB n (k + 1) = leB n k ++ [byteAt n k] := by simp [leB, List.range_succ]
theorem byteAt_div (n i : Nat) : byteAt n i = (((n / 2 ^ (8 * i)) % 256 : Nat) : Int) := by
  unfold byteAt
  rw [Int.natCast_emod, Int.natCast_ediv, Int.natCast_pow]; rfl
theorem div_step (n i : Nat) : n / 2 ^ (8 * i) / 256 = n / 2 ^ (8 * (i + 1)) := by
  rw [pow_step, Nat.div_div_eq_div_mul, Nat.mul_comm]
set_option maxRecDepth 100000 in
theorem r1put (w : World) (τ : Tags) (g : Tag) (n k : Nat) (hn : n < 18446744073709551616) (h1 : 1 ≤ k) (h8 : k ≤ 8) :
    Calls Tryz.prog 156 #[.int .u64 (n : Int), .int .i64 (k : Int)] w fun e w' => ∃ v τ', e = .returned v ∧ NB w.heap.size w' τ' g v (leB n k) ∧ Step w τ w' τ' nil := by
  have a0 : decide ((k : Int) < 1) = false := by simp; omega
  have a1 : decide ((8 : Int) < (k : Int)) = false := by simp; omega
  have hnn : (n : Int) = ((n / 2 ^ (8 * 0) : Nat) : Int) := by simp
  have Hn := Lib.hid hn
  have Hnn := Lib.hid hnn
  clear hn hnn
  go_enter Tryz.func156, Tryz.ntmps156
  go_wp2_with fail
  go_loopw [0, 5, 6] (fun nv ov iv wr => ∃ (i : Nat) (τr : Tags), i ≤ k ∧ iv = .int .i64 (i : Int) ∧ nv = .int .u64 ((n / 2 ^ (8 * i) : Nat) : Int) ∧ NB w.heap.size wr τr g ov (leB n i) ∧ Step w τ wr τr nil) (fun _ _ iv _ => k - (intOf iv).toNat)
  case atStart => exact ⟨0, τ, Nat.zero_le _, rfl, by rw [← Hnn.out], NB.nil _ _ _ _, Step.refl _ _ _⟩
  case round =>
    obtain ⟨i, τr, hi, rfl, rfl, hnb, hst⟩ := hrel
    by_cases hlt : i < k
    · have hby := byteAt_div n i
      have hdv := div_step n i
      have hls := leB_succ n i
      have hlen := leB_length n i
      have hq : n / 2 ^ (8 * i) < 18446744073709551616 := Nat.lt_of_le_of_lt (Nat.div_le_self _ _) Hn.out
      generalize n / 2 ^ (8 * i) = q at *
      have e1 : IntKind.u8.wrap ((q : Int) % 256) = (q : Int) % 256 := by
        have : IntKind.u8.wrap ((q : Int) % 256) = ((q : Int) % 256) % 256 := by simp [IntKind.wrap, IntKind.bits, IntKind.signed]
        rw [this]; omega
      have e2 : IntKind.u64.wrap ((q : Int) / 256) = (q : Int) / 256 := by have := u64_wrap (q / 256) (by omega); rw [Int.natCast_ediv] at this; exact this
      have hby2 : byteAt n i = (q : Int) % 256 := by rw [hby]; omega
      obtain ⟨pv, cv, rfl⟩ := hnb.val
      have Hby2 := Lib.hid hby2
      have Hdv := Lib.hid hdv
      have Hls := Lib.hid hls
      have Hlen := Lib.hid hlen
      have Hnb := Lib.hid hnb
      have Hst := Lib.hid hst
      have Hq := Lib.hid hq
      clear hby2 hdv hls hlen hnb hst hq
      clear hby
      go_wp2_with (at_builtin; refine wpList_append_nb1 Hst.out Hnb.out ((q : Int) % 256) (by omega) (by rw [Hlen.out]; omega) rfl rfl _ _ rfl rfl rfl ?_; intro v' w' τ' hb he hmo; have Hb := Lib.hid hb; have He := Lib.hid he; have Hmo := Lib.hid hmo; clear hb he hmo)
      go_round
      case rel => exact ⟨i + 1, τ', by omega, by simp, by rw [← Hdv.out]; exact congrArg (Value.int .u64) (by omega), by rw [Hls.out, Hby2.out]; exact Hb.out, He.out⟩
      case measure => simp [intOf]; omega
    · obtain rfl : i = k := by omega
      have Hnb := Lib.hid hnb
      have Hst := Lib.hid hst
      clear hnb hst
      go_wp2_with fail
      go_returns
      exact ⟨_, τr, rfl, Hnb.out, Hst.out⟩
theorem leN_step {l : List Int} (h : IsB l) (i : Nat) (hi : i < 8) : ∃ x : Nat, l.getD i 0 = (x : Int) ∧ x ≤ 255 ∧ x * pw (8 * i) < 18446744073709551616 ∧ leN l i + x * pw (8 * i) = leN l (i + 1) ∧ leN l (i + 1) < 18446744073709551616 := by
  have hx := h.at i
  obtain ⟨x, hx'⟩ := Int.eq_ofNat_of_zero_le hx.1
  have hs : leN l (i + 1) = leN l i + x * pw (8 * i) := by
    show leN l i + (l.getD i 0).toNat * 2 ^ (8 * i) = _
    rw [hx']; rfl
  have hlt := leN_64 h (i + 1) (by omega)
  exact ⟨x, hx', by omega, by omega, hs.symm, hlt⟩
theorem leN_take (l : List Int) (k i : Nat) (h : i ≤ k) : leN (l.take k) i = leN l i := by
  induction i with
  | zero => rfl
  | succ i ih =>
    show leN (l.take k) i + ((l.take k).getD i 0).toNat * 2 ^ (8 * i) = leN l i + (l.getD i 0).toNat * 2 ^ (8 * i)
    rw [ih (by omega), List.getD_eq_getElem?_getD, List.getD_eq_getElem?_getD, List.getElem?_take, if_pos (by omega)]
set_option maxRecDepth 100000 in
theorem r1get {w : World} {τ : Tags} {g : Tag} {v : Value} {l : List Int} (h : Bytes w τ g v l) (h8 : 8 ≤ l.length) :
    Calls Tryz.prog 214 #[v] w fun e w' => e = .returned (.int .u64 (leN l 8 : Int)) ∧ ∃ n, w' = w.drewN n := by
  obtain ⟨b, o, c, rfl, hc1, hc2, ht, hlt, hcell⟩ := h.pos (by omega)
  have hB := h.isB
  have hpw := fun (W : World) (i : Nat) (hi : i < 8) => r1power W (8 * i) (by omega)
  generalize hm : l.length = m at *
  have Hcell := Lib.hid hcell
  have HB := Lib.hid hB
  have Hpw := Lib.hid hpw
  have Hm := Lib.hid hm
  clear hcell hB hpw hm
  clear h
  go_enter Tryz.func214, Tryz.ntmps214
  go_wp2_with fail
  go_loopw [3, 4] (fun nv iv wr => ∃ (i q : Nat), i ≤ 8 ∧ iv = .int .i64 (i : Int) ∧ nv = .int .u64 (leN l i : Int) ∧ wr = w.drewN q) (fun _ iv _ => 8 - (intOf iv).toNat)
  case atStart => exact ⟨0, 0, Nat.zero_le _, rfl, rfl, rfl⟩
  case round =>
    obtain ⟨i, q, hi, rfl, rfl, hwr⟩ := hrel
    by_cases hlt : i < 8
    · have c0 := Hcell.out i (by omega)
      obtain ⟨x, hx, hx255, hxp, hsum, hs64⟩ := leN_step HB.out i hlt
      rw [hx] at c0
      have c1 : wr.cell? ⟨b, o + i, none⟩ = some (.int .u8 (x : Int)) := by rw [hwr]; exact c0
      clear c0
      have hp := fun W => Hpw.out W i hlt
      generalize hpi : pw (8 * i) = P at *
      generalize hli : leN l i = L at *
      generalize hls : leN l (i + 1) = L1 at *
      rw [show ((8 * i : Nat) : Int) = 8 * (i : Int) by omega] at hp
      have e1 : IntKind.u64.wrap (8 * (i : Int)) = 8 * (i : Int) := by have := u64_wrap (8 * i) (by omega); push_cast at this; exact this
      have e2 : IntKind.u64.wrap (x : Int) = (x : Int) := u64_wrap x (by omega)
      have e3 : IntKind.u64.wrap ((x : Int) * (P : Int)) = (x : Int) * (P : Int) := by rw [← Int.natCast_mul]; exact u64_wrap _ hxp
      have e4 : IntKind.u64.wrap ((L : Int) + (x : Int) * (P : Int)) = (L1 : Int) := by rw [← Int.natCast_mul, ← Int.natCast_add, hsum]; exact u64_wrap _ hs64
      have Hp := Lib.hid hp
      have Hx := Lib.hid hx
      have Hxp := Lib.hid hxp
      have Hsum := Lib.hid hsum
      have Hs64 := Lib.hid hs64
      have Hpi := Lib.hid hpi
      have Hli := Lib.hid hli
      have Hls := Lib.hid hls
      have Hwr := Lib.hid hwr
      clear hp hx hxp hsum hs64 hpi hli hls hwr
      go_wp2_with fail
      go_quiet ((go_at_call 256; exact Calls.quiet_of_same (Hp.out _)))
      go_wp2_with fail
      go_round
      case rel => exact ⟨i + 1, q + nq, by omega, by simp, by rw [Hls.out], by rw [Hwr.out, World.drewN_drewN]⟩
      case measure => simp [intOf]; omega
    · obtain rfl : i = 8 := by omega
      have Hwr := Lib.hid hwr
      clear hwr
      go_wp2_with fail
      all_goals go_ret
      all_goals exact ⟨rfl, q, Hwr.out⟩
end Go.Proofs.YtgjoahddbieliaaGreat

/-
  The reference's seals: Greatest, Open.
-/
namespace Go.Proofs.YtgjoahddbieliaaGreat
open Go.RowKit
set_option linter.unusedVariables false

theorem Bytes.tail {w : World} {τ : Tags} {g : Tag} {b o c n : Nat} {l : List Int} (h : Bytes w τ g (.slice (some ⟨b, o, none⟩) n c) l) (k : Nat) (hk : k < l.length) : Bytes w τ g (.slice (some ⟨b, o + k, none⟩) (l.length - k) (c - k)) (l.drop k) := by
  obtain ⟨p', c', hv, h1, h2, hc⟩ := h.is
  simp only [Value.slice.injEq] at hv
  obtain ⟨rfl, rfl, rfl⟩ := hv
  obtain ⟨b', o', hb, ht, hcell⟩ := hc (by omega)
  cases hb
  refine ⟨fun x hx => h.isB x (List.mem_of_mem_drop hx), _, _, by rw [List.length_drop], by rw [List.length_drop]; omega, by omega, fun _ => ⟨b, o + k, rfl, ht, fun i hi => ?_⟩⟩
  rw [List.length_drop] at hi
  have := hcell (k + i) (by omega)
  rw [show o + k + i = o + (k + i) by omega, this, List.getD_eq_getElem?_getD, List.getD_eq_getElem?_getD, List.getElem?_drop]
theorem lowMark_get (l : List Int) : leN l 8 = lowMark l := by
  unfold lowMark
  rw [List.drop_zero, Nat.sub_zero, leN_take l 8 8 (Nat.le_refl _)]
theorem highMark_get (l : List Int) : leN (l.drop 120) 8 = highMark l := by
  unfold highMark
  rw [show 128 - 120 = 8 from rfl, leN_take _ 8 8 (Nat.le_refl _)]
/-- a sector's two marks -/
theorem r10marks {w : World} {τ : Tags} {g : Tag} {b o c : Nat} {l : List Int} (h : Bytes w τ g (.slice (some ⟨b, o, none⟩) 128 c) l) (h128 : l.length = 128) :
    (∀ W, Step w τ W τ nil → Calls Tryz.prog 214 #[.slice (some ⟨b, o, none⟩) 128 c] W fun e w' => e = .returned (.int .u64 (lowMark l : Int)) ∧ ∃ n, w' = W.drewN n) ∧
    (∀ W, Step w τ W τ nil → Calls Tryz.prog 214 #[.slice (some ⟨b, o + 120, none⟩) 8 (c - 120)] W fun e w' => e = .returned (.int .u64 (highMark l : Int)) ∧ ∃ n, w' = W.drewN n) := by
  refine ⟨fun W hs => ?_, fun W hs => ?_⟩
  · rw [← lowMark_get]
    exact r1get (h.step hs (fun h => h)) (by omega)
  · rw [← highMark_get]
    have := (h.step hs (fun h => h)).tail 120 (by omega)
    rw [h128] at this
    exact r1get this (by rw [List.length_drop]; omega)
set_option maxRecDepth 100000 in
theorem r10greatest {w : World} {τ : Tags} {g : Tag} {v : Value} {ls : List (List Int)} (h : Waits w τ g v ls) :
    Calls Tryz.prog 144 #[v] w fun e w' => e = .returned (.int .u64 (greatTo ls ls.length : Int)) ∧ Step w τ w' τ nil := by
  obtain ⟨pv, cv, rfl, hm, hr⟩ := h.read
  generalize hn : ls.length = n at *
  have Hr := Lib.hid hr
  have Hn := Lib.hid hn
  clear hr hn
  clear h
  go_enter Tryz.func144, Tryz.ntmps144
  go_wp2_with fail
  go_loopw [3, 4] (fun nv iv wr => ∃ (i : Nat), i ≤ n ∧ iv = .int .i64 (i : Int) ∧ nv = .int .u64 (greatTo ls i : Int) ∧ Step w τ wr τ nil) (fun _ iv _ => n - (intOf iv).toNat)
  case atStart => exact ⟨0, Nat.zero_le _, rfl, rfl, Step.refl _ _ _⟩
  case round =>
    obtain ⟨i, hi, rfl, rfl, hst⟩ := hrel
    have hmx : n ≤ 9223372036854775807 := by unfold maxLen at hm; omega
    by_cases hlt : i < n
    · obtain ⟨x, hx⟩ : ∃ x, ls[i]? = some x := ⟨_, List.getElem?_eq_getElem (by rw [Hn.out]; exact hlt)⟩
      obtain ⟨h128, b, u, rfl, hc, hb⟩ := Hr.out i x hx
      obtain ⟨bu, ou, cu, rfl, hu1, hu2, -, -, -⟩ := hb.pos (by omega)
      rw [h128] at hb hc hu1
      have cc := (Mod.cell hst.mod b i (cell_lt hc) (fun h => h)).trans hc
      obtain ⟨h1, h2⟩ := r10marks (hb.step hst (fun h => h)) h128
      have hgd : ls.getD i [] = x := by rw [List.getD_eq_getElem?_getD, hx]; rfl
      have hmax : greatTo ls (i + 1) = max (max (greatTo ls i) (lowMark x)) (highMark x) := by
        show max (max (greatTo ls i) (lowMark (ls.getD i []))) (highMark (ls.getD i [])) = _
        rw [hgd]
      have hmx3 := fun (W : World) (ts : Array TypeId) (t : TypeId) => run_max3 (P := Tryz.prog) W ts t _ _ _ _ hmax
      generalize greatTo ls i = G at *
      generalize hG1 : greatTo ls (i + 1) = G1 at *
      generalize lowMark x = lo at *
      generalize highMark x = hi' at *
      have h1' := fun q => h1 (wr.drewN q) ((Step.refl wr τ nil).drews q)
      have h2' := fun q => h2 (wr.drewN q) ((Step.refl wr τ nil).drews q)
      have H1' := Lib.hid h1'
      have H2' := Lib.hid h2'
      have Hst := Lib.hid hst
      have HG1 := Lib.hid hG1
      have Hmax := Lib.hid hmax
      clear h1' h2' hst hG1 hmax
      clear h1 h2 hb hgd hx hc
      go_wp2_with fail
      go_quiet ((first | (go_at_call 214; with_reducible exact Calls.quiet_of (H1'.out _)) | (go_at_call 214; with_reducible exact Calls.quiet_of (H2'.out _))))
      go_wp2_with fail
      go_round
      case rel => exact ⟨i + 1, by omega, by simp, by rw [HG1.out], Hst.out.drews _⟩
      case measure => simp [intOf]; omega
    · obtain rfl : i = n := by omega
      have Hst := Lib.hid hst
      clear hst
      go_wp2_with fail
      go_returns
      exact ⟨rfl, Hst.out⟩
set_option maxRecDepth 100000 in
theorem r10open {w : World} {τ : Tags} {g : Tag} {v : Value} {ls : List (List Int)} (h : Waits w τ g v ls) (g' : Tag) (h4 : ls.length = 4) :
    Calls Tryz.prog 152 #[v] w (OpenD w τ g' ls) := by
  obtain ⟨p, c, rfl, hm, hr⟩ := h.read
  have Hr := Lib.hid hr
  rw [h4]
  obtain ⟨x0, hx0⟩ : ∃ x, ls[0]? = some x := ⟨_, List.getElem?_eq_getElem (by omega)⟩
  obtain ⟨h128, b, u0, rfl, hc0, hb0⟩ := hr 0 x0 hx0
  have lb := cell_lt hc0
  obtain ⟨bu, ou, cu0, rfl, -, -, -, -, -⟩ := hb0.pos (by omega)
  rw [h128] at hb0 hc0
  have hm0 := (r10marks hb0 h128).1 w (Step.refl _ _ _)
  have hst : lowMark x0 = sealStamp ls := by unfold sealStamp; rw [List.getD_eq_getElem?_getD, hx0]; rfl
  have hlen : ∀ (k : Nat) (x : List Int), ls[k]? = some x → x.length = 128 := fun k x hx => (hr k x hx).1
  rw [hst] at hm0
  generalize hs : sealStamp ls = s at *
  have Hm0 := Lib.hid hm0
  have H4 := Lib.hid h4
  have Hlen := Lib.hid hlen
  have Hs := Lib.hid hs
  clear hm0 h4 hlen hs
  clear hr hb0 hx0 hm h h128 hst
  go_enter Tryz.func152, Tryz.ntmps152
  go_wp2_with fail
  refine Hm0.out.mono ?_
  rintro e w0 ⟨rfl, q0, hw0⟩
  have hs0 : Step w τ w0 τ nil := by rw [hw0]; exact (Step.refl w τ nil).drews q0
  have Hs0 := Lib.hid hs0
  clear hs0
  clear hw0 Hm0
  go_wp2_with fail
  go_loopw [5, 7] (fun m v wr => ∃ (i : Nat) (τr : Tags), i ≤ 4 ∧ v = .int .i64 (i : Int) ∧ NB w.heap.size wr τr g' m (bodyTo ls i) ∧ Step w τ wr τr nil ∧ Hid (okTo ls s i = true)) (fun _ v _ => 4 - (intOf v).toNat)
  case atStart => exact ⟨0, τ, Nat.zero_le _, rfl, NB.nil _ _ _ _, Hs0.out, Lib.hid rfl⟩
  case round =>
    obtain ⟨i, τr, hi, rfl, hbuf, hst, HO⟩ := hrel
    by_cases hlt : i < 4
    · obtain ⟨x, hx⟩ : ∃ x, ls[i]? = some x := ⟨_, List.getElem?_eq_getElem (by rw [H4.out]; exact hlt)⟩
      obtain ⟨h128, b', u, hpe, hc, hb⟩ := Hr.out i x hx
      cases hpe
      have c1 := (hst.no.cell b i lb (fun h => h)).trans hc
      have hb1 := hb.step hst (fun h => h)
      obtain ⟨bb, oo, cu, rfl, h1c, h2c, -⟩ := hb1.pos (by omega)
      rw [h128] at hb1 c1
      obtain ⟨hmk1, hmk2⟩ := r10marks hb1 h128
      have hgx : ls.getD i [] = x := by rw [List.getD_eq_getElem?_getD, hx]; rfl
      have hok : okTo ls s (i + 1) = (lowMark x == s && highMark x == s) := by
        rw [okTo_succ, HO.out, hgx, Bool.true_and]
      have hbd : bodyTo ls (i + 1) = bodyTo ls i ++ ((x.drop 8).take (120 - 8)) := by
        show bodyTo ls i ++ (((ls.getD i []).drop 8).take (120 - 8)) = _
        rw [hgx]
      have hsb := hb1.sub 8 120 (cu - 8) (by omega) (by omega) (by omega) (by omega)
      have hlen2 : ((x.drop 8).take (120 - 8)).length = 112 := by rw [List.length_take, List.length_drop]; omega
      have hlb := bodyTo_length Hlen.out i (by rw [H4.out]; omega)
      have e1 : 112 ≤ cu := by omega
      have e2 : 120 ≤ cu := by omega
      have e3 : (120 : Int) ≤ (cu : Int) := by omega
      have e4 : ¬ cu = 8 := by omega
      have e5 : ¬ cu = 120 := by omega
      have e6 : 128 ≤ cu := by omega
      generalize hp : (x.drop 8).take (120 - 8) = part at *
      generalize lowMark x = m1 at *
      generalize highMark x = m2 at *
      have hsz : (bodyTo ls i).length + part.length ≤ 100000000000 := by omega
      obtain ⟨pm, cm, rfl⟩ := hbuf.val
      rw [h128] at h1c
      have hmk1' := hmk1 wr (Step.refl _ _ _)
      by_cases h1 : m1 = s
      · subst h1
        by_cases h2 : m2 = m1
        · subst h2
          have hok2 : okTo ls m2 (i + 1) = true := by rw [hok]; simp
          rw [hlb] at hbuf
          have Hmk1' := Lib.hid hmk1'
          have Hmk2 := Lib.hid hmk2
          have Hbuf := Lib.hid hbuf
          have Hst := Lib.hid hst
          have Hsb := Lib.hid hsb
          have Hok2 := Lib.hid hok2
          have Hbd := Lib.hid hbd
          have Hsz := Lib.hid hsz
          have Hlb := Lib.hid hlb
          have Hlen2 := Lib.hid hlen2
          have Hp := Lib.hid hp
          clear hmk1' hmk2 hbuf hst hsb hok2 hbd hsz hlb hlen2 hp
          clear hb1 hb hc hx h128 hok hgx hmk1
          rw [Hlb.out]
          go_wp2_with fail
          refine Hmk1'.out.mono ?_
          rintro e w1 ⟨rfl, q1, hw1⟩
          have hs1 : Step wr τr w1 τr nil := by rw [hw1]; exact (Step.refl wr τr nil).drews q1
          have hmk2' := Hmk2.out w1 hs1
          have Hmk2' := Lib.hid hmk2'
          have Hs1 := Lib.hid hs1
          clear hmk2' hs1
          clear hw1
          go_wp2_with fail
          refine Hmk2'.out.mono ?_
          rintro e w2 ⟨rfl, q2, hw2⟩
          have hs2 : Step wr τr w2 τr nil := by rw [hw2]; exact Hs1.out.drews q2
          have hst2 := Hst.out.trans hs2
          have hbuf2 := Hbuf.out.step hs2 (fun h => h)
          have hsb2 := Hsb.out.step hs2 (fun h => h)
          have Hst2 := Lib.hid hst2
          have Hbuf2 := Lib.hid hbuf2
          have Hsb2 := Lib.hid hsb2
          clear hst2 hbuf2 hsb2
          clear hw2 hs2
          go_wp2_with (at_builtin; refine wpList_append_nb Hst2.out Hbuf2.out Hsb2.out Hsz.out rfl _ _ rfl rfl rfl ?_; intro v' w' τ' hb he hmo; have Hb := Lib.hid hb; have He := Lib.hid he; have Hmo := Lib.hid hmo; clear hb he hmo)
          go_round
          case rel => exact ⟨i + 1, τ', by omega, by simp, by rw [Hbd.out]; exact Hb.out, He.out, Lib.hid Hok2.out⟩
          case measure => simp [intOf]; omega
        · have hok2 : okTo ls m1 (i + 1) = false := by rw [hok]; simp [h2]
          have hno := okTo_no hok2 4 (by omega)
          have hno2 : sealOk ls = false := by unfold sealOk; rw [Hs.out]; exact hno
          have b1 : ((m2 : Int) != (m1 : Int)) = true := by rw [bne_iff_ne]; omega
          have Hmk1' := Lib.hid hmk1'
          have Hmk2 := Lib.hid hmk2
          have Hst := Lib.hid hst
          have Hno2 := Lib.hid hno2
          clear hmk1' hmk2 hst hno2
          clear hbuf hb1 hb hc hx h128 hok hgx hok2 hbd hsz hlb hlen2 hsb hno hp hmk1 h2
          go_wp2_with fail
          refine Hmk1'.out.mono ?_
          rintro e w1 ⟨rfl, q1, hw1⟩
          have hs1 : Step wr τr w1 τr nil := by rw [hw1]; exact (Step.refl wr τr nil).drews q1
          have hmk2' := Hmk2.out w1 hs1
          have Hmk2' := Lib.hid hmk2'
          have Hs1 := Lib.hid hs1
          clear hmk2' hs1
          clear hw1
          go_wp2_with fail
          refine Hmk2'.out.mono ?_
          rintro e w2 ⟨rfl, q2, hw2⟩
          have hst2 := Hst.out.trans (show Step wr τr w2 τr nil by rw [hw2]; exact Hs1.out.drews q2)
          have Hst2 := Lib.hid hst2
          clear hst2
          clear hw2
          go_wp2_with fail
          go_returns
          exact ⟨τr, Hst2.out, .inr ⟨Hno2.out, rfl⟩⟩
      · have hok2 : okTo ls s (i + 1) = false := by rw [hok]; simp [h1]
        have hno := okTo_no hok2 4 (by omega)
        have hno2 : sealOk ls = false := by unfold sealOk; rw [Hs.out]; exact hno
        have b1 : ((m1 : Int) != (s : Int)) = true := by rw [bne_iff_ne]; omega
        have Hmk1' := Lib.hid hmk1'
        have Hst := Lib.hid hst
        have Hno2 := Lib.hid hno2
        clear hmk1' hst hno2
        clear hbuf hb1 hb hc hx h128 hok hgx hok2 hbd hsz hlb hlen2 hsb hno hp hmk1 hmk2 h1
        go_wp2_with fail
        refine Hmk1'.out.mono ?_
        rintro e w1 ⟨rfl, q1, hw1⟩
        have hst2 := Hst.out.trans (show Step wr τr w1 τr nil by rw [hw1]; exact (Step.refl wr τr nil).drews q1)
        have Hst2 := Lib.hid hst2
        clear hst2
        clear hw1
        go_wp2_with fail
        go_returns
        exact ⟨τr, Hst2.out, .inr ⟨Hno2.out, rfl⟩⟩
    · obtain rfl : i = 4 := by omega
      have hok : sealOk ls = true := by unfold sealOk; rw [Hs.out]; exact HO.out
      have Hbuf := Lib.hid hbuf
      have Hst := Lib.hid hst
      have Hok := Lib.hid hok
      clear hbuf hst hok
      go_wp2_with fail
      go_returns
      exact ⟨τr, Hst.out, .inl ⟨Hok.out, _, by rw [Hs.out]; rfl, Hbuf.out.bytes⟩⟩
end Go.Proofs.YtgjoahddbieliaaGreat
