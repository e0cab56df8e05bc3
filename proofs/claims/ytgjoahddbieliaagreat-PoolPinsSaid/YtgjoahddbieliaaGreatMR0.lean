/-
  What is compared: rows of ints, of dirty pages, of blocks.
-/
import Derived.Test.YtgjoahddbieliaaGreatMPoolL
import Derived.Test.YtgjoahddbieliaaGreatMR5
namespace Go.Proofs.YtgjoahddbieliaaGreat
open Go.RowKit
set_option linter.unusedVariables false

/-- ints in a row, with signs -/
def IntsZ (w : World) (τ : Tags) (g : Tag) (v : Value) (l : List Int) : Prop := Buf w τ g 3 1 v l.length (i64z l)
theorem i64z_at (l : List Int) (i : Nat) (h : i < l.length) : (i64z l)[i]? = some (.int .i64 (l.getD i 0)) := by
  simp [i64z, List.getD, List.getElem?_eq_getElem h]
theorem IntsZ.step {w w' : World} {τ τ' : Tags} {S : Tag → Prop} {g : Tag} {v : Value} {l : List Int} (h : IntsZ w τ g v l) (m : Step w τ w' τ' S) (hs : ¬ S g) : IntsZ w' τ' g v l := Buf.step h m hs
theorem IntsZ.read {w : World} {τ : Tags} {g : Tag} {v : Value} {l : List Int} (h : IntsZ w τ g v l) : ∃ p c, v = .slice p l.length c ∧ l.length ≤ maxLen ∧ ∀ i, i < l.length → ∃ b, p = some ⟨b, 0, none⟩ ∧ w.cell? ⟨b, i, none⟩ = some (.int .i64 (l.getD i 0)) := by
  obtain ⟨h1, ⟨rfl, h2⟩ | ⟨b, cap, ys, rfl, ho, h3, h4, h5⟩⟩ := h
  · exact ⟨none, 0, by rw [h2], by omega, fun i hi => by omega⟩
  · refine ⟨_, _, rfl, by omega, fun i hi => ⟨b, rfl, ho.at i ?_⟩⟩
    rw [List.getElem?_append_left (by rw [i64z_length]; exact hi), i64z_at l i hi]
theorem list_ext_getD {l m : List Int} (h1 : l.length = m.length) (h : ∀ i, i < l.length → l.getD i 0 = m.getD i 0) : l = m := by
  apply List.ext_getElem h1
  intro i h2 h3
  have := h i h2
  simpa [List.getD, List.getElem?_eq_getElem h2, List.getElem?_eq_getElem h3] using this
theorem sameints_any {w : World} {τ : Tags} {g g2 : Tag} {v u : Value} {l m : List Int} (h : IntsZ w τ g v l) (k : IntsZ w τ g2 u m) :
    Calls Tryz.prog 94 #[v, u] w fun e w' => e = .returned (.bool (decide (l = m))) ∧ ∃ q, w' = w.drewN q := by
  obtain ⟨p, c, rfl, h1, hr⟩ := h.read
  obtain ⟨q, d, rfl, k1, kr⟩ := k.read
  clear h k
  by_cases hlen : l.length = m.length
  · have hne := @list_ext_getD l m hlen
    have hno : ∀ i, i < l.length → l.getD i 0 ≠ m.getD i 0 → ¬ l = m := fun i _ hi e => hi (by rw [e])
    rw [← hlen] at kr ⊢
    generalize hn : l.length = n at *
    have hmx : n ≤ 9223372036854775807 := by unfold maxLen at h1; omega
    have Hr := Lib.hid hr
    have H_kr := Lib.hid kr
    have Hne := Lib.hid hne
    have Hno := Lib.hid hno
    have Hn := Lib.hid hn
    have Hlen := Lib.hid hlen
    clear hr kr hne hno hn hlen
    clear h1 k1
    go_enter Tryz.func94, Tryz.ntmps94
    go_wp2_with fail
    go_loopw [5] (fun v wr => ∃ i q : Nat, i ≤ n ∧ v = .int .i64 (i : Int) ∧ wr = w.drewN q ∧ Hid (∀ j, j < i → l.getD j 0 = m.getD j 0)) (fun v _ => n - (intOf v).toNat)
    case atStart => exact ⟨0, 0, Nat.zero_le _, rfl, rfl, Lib.hid (fun j hj => absurd hj (by omega))⟩
    case round =>
      obtain ⟨i, q, hi, rfl, hwr, HE⟩ := hrel
      by_cases hlt : i < n
      · obtain ⟨b, rfl, ci⟩ := Hr.out i hlt
        obtain ⟨b2, hb2, di⟩ := H_kr.out i hlt
        cases hb2
        have ci' : wr.cell? ⟨b, i, none⟩ = some (.int .i64 (l.getD i 0)) := by rw [hwr]; exact ci
        have di' : wr.cell? ⟨b2, i, none⟩ = some (.int .i64 (m.getD i 0)) := by rw [hwr]; exact di
        clear ci di
        have hin : (i : Int) < (n : Int) := by omega
        generalize hx : l.getD i 0 = x at *
        generalize hy : m.getD i 0 = y at *
        by_cases heq : x = y
        · subst heq
          have Hx := Lib.hid hx
          have Hy := Lib.hid hy
          have Hwr := Lib.hid hwr
          clear hx hy hwr
          go_wp2_with fail
          go_quiet (fail)
          go_wp2_with fail
          go_round
          case rel =>
            refine ⟨i + 1, q + nq, by omega, by simp, by rw [Hwr.out, World.drewN_drewN], Lib.hid (fun j hj => ?_)⟩
            by_cases e : j = i
            · subst e; rw [Hx.out, Hy.out]
            · exact HE.out j (by omega)
          case measure => simp [intOf]; omega
        · have b1 : (x != y) = true := by rw [bne_iff_ne]; exact heq
          have hlm := Hno.out i hlt (by rw [hx, hy]; exact heq)
          have Hlm := Lib.hid hlm
          have Hx := Lib.hid hx
          have Hy := Lib.hid hy
          have Heq := Lib.hid heq
          have Hwr := Lib.hid hwr
          clear hlm hx hy heq hwr
          go_wp2_with fail
          go_quiet (fail)
          go_wp2_with fail
          go_ret
          exact ⟨by rw [decide_eq_false Hlm.out]; rfl, q + nq, by rw [Hwr.out, World.drewN_drewN]⟩
      · obtain rfl : i = n := by omega
        have hlm := Hne.out HE.out
        have Hlm := Lib.hid hlm
        have Hwr := Lib.hid hwr
        clear hlm hwr
        go_wp2_with fail
        go_ret
        exact ⟨by rw [decide_eq_true Hlm.out]; rfl, q, Hwr.out⟩
  · rw [decide_eq_false (fun e => hlen (by rw [e]))]
    have b1 : ((l.length : Int) != (m.length : Int)) = true := by rw [bne_iff_ne]; omega
    generalize l.length = n at *
    generalize m.length = k at *
    clear hr kr h1 k1 hlen
    go_enter Tryz.func94, Tryz.ntmps94
    go_wp2_with fail
    go_ret
    exact ⟨rfl, 0, rfl⟩
/-- rows of nothing are alike -/
theorem samedirty_nil (w : World) : Calls Tryz.prog 96 #[.slice none 0 0, .slice none 0 0] w fun e w' => e = .returned (.bool true) ∧ w = w' := by
  go_enter Tryz.func96, Tryz.ntmps96
  go_wp2_with fail
  go_loopw [5] (fun v wr => v = .int .i64 0 ∧ wr = w) (fun _ _ => 0)
  case atStart => exact ⟨rfl, rfl⟩
  case round =>
    obtain ⟨rfl, rfl⟩ := hrel
    go_wp2_with fail
    go_ret
    exact ⟨rfl, rfl⟩
end Go.Proofs.YtgjoahddbieliaaGreat
