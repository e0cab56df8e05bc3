/-
  Seals: Open: what four sectors hold, if all marks are one.
-/
import Derived.Test.YtgjoahddbieliaaGreatMGrow
namespace Go.Proofs.YtgjoahddbieliaaGreat
open Go.RowKit
set_option linter.unusedVariables false

/-- what the first i sectors hold -/
def bodyTo (ls : List (List Int)) : Nat → List Int
  | 0 => []
  | i + 1 => bodyTo ls i ++ (((ls.getD i []).drop 8).take (120 - 8))
/-- are the first i sectors' marks all the same one? -/
def okTo (ls : List (List Int)) (s : Nat) : Nat → Bool
  | 0 => true
  | i + 1 => okTo ls s i && (lowMark (ls.getD i []) == s && highMark (ls.getD i []) == s)
def sealStamp (ls : List (List Int)) : Nat := lowMark (ls.getD 0 [])
def sealOk (ls : List (List Int)) : Bool := okTo ls (sealStamp ls) 4
def sealBody (ls : List (List Int)) : List Int := bodyTo ls 4
/-- what Open answers -/
def OpenD (w : World) (τ : Tags) (g : Tag) (ls : List (List Int)) (e : Ending) (w' : World) : Prop :=
  ∃ τ', Step w τ w' τ' nil ∧ ((sealOk ls = true ∧ ∃ u, e = .returned (.tuple #[u, .int .u64 (sealStamp ls : Int), .bool true]) ∧ Bytes w' τ' g u (sealBody ls)) ∨
    (sealOk ls = false ∧ e = .returned (.tuple #[.slice none 0 0, .int .u64 0, .bool false])))
theorem okTo_succ (ls : List (List Int)) (s i : Nat) : okTo ls s (i + 1) = (okTo ls s i && (lowMark (ls.getD i []) == s && highMark (ls.getD i []) == s)) := rfl
theorem okTo_no {ls : List (List Int)} {s i : Nat} (h : okTo ls s i = false) : ∀ n, i ≤ n → okTo ls s n = false := by
  intro n hn
  induction n with
  | zero => obtain rfl : i = 0 := by omega
            exact h
  | succ n ih =>
    by_cases e : i = n + 1
    · subst e; exact h
    · rw [okTo_succ, ih (by omega), Bool.false_and]

theorem bodyTo_length {ls : List (List Int)} (h : ∀ (k : Nat) (x : List Int), ls[k]? = some x → x.length = 128) (i : Nat) (hi : i ≤ ls.length) : (bodyTo ls i).length = 112 * i := by
  induction i with
  | zero => rfl
  | succ i ih =>
    have hx : ls[i]? = some (ls.getD i []) := by rw [List.getD_eq_getElem?_getD, List.getElem?_eq_getElem (by omega)]; rfl
    have := h i _ hx
    show (bodyTo ls i ++ _).length = _
    rw [List.length_append, ih (by omega), List.length_take, List.length_drop, this]
    omega

theorem open_any {w : World} {τ : Tags} {g : Tag} {v : Value} {ls : List (List Int)} (h : Waits w τ g v ls) (g' : Tag) (h4 : ls.length = 4) :
    Calls Tryz.prog 17 #[v] w (OpenD w τ g' ls) := by
  obtain ⟨p, c, rfl, hm, hr⟩ := h.read
  have Hr := Lib.hid hr
  rw [h4]
  obtain ⟨x0, hx0⟩ : ∃ x, ls[0]? = some x := ⟨_, List.getElem?_eq_getElem (by omega)⟩
  obtain ⟨h128, b, u0, rfl, hc0, hb0⟩ := hr 0 x0 hx0
  have lb := cell_lt hc0
  obtain ⟨pu, cu, rfl, -, -⟩ := hb0.any
  rw [h128] at hb0 hc0
  have hm0 := marks_any hb0
  have hst : lowMark x0 = sealStamp ls := by unfold sealStamp; rw [List.getD_eq_getElem?_getD, hx0]; rfl
  have hlen : ∀ (k : Nat) (x : List Int), ls[k]? = some x → x.length = 128 := fun k x hx => (hr k x hx).1
  rw [hst] at hm0
  generalize highMark x0 = hm2 at hm0
  generalize hs : sealStamp ls = s at *
  have Hm0 := Lib.hid hm0
  have H4 := Lib.hid h4
  have Hlen := Lib.hid hlen
  have Hs := Lib.hid hs
  clear hm0 h4 hlen hs
  clear hr hb0 hx0 hm h h128 hst
  go_enter Tryz.func17, Tryz.ntmps17
  go_wp2_with fail
  refine Hm0.out.mono ?_
  rintro e w' ⟨rfl, rfl⟩
  go_wp2_with fail
  go_loopw [8, 27] (fun m v wr => ∃ (i : Nat) (τr : Tags), i ≤ 4 ∧ v = .int .i64 (i : Int) ∧ NB w.heap.size wr τr g' m (bodyTo ls i) ∧ Step w τ wr τr nil ∧ Hid (okTo ls s i = true)) (fun _ v _ => 4 - (intOf v).toNat)
  case atStart => exact ⟨0, τ, Nat.zero_le _, rfl, NB.nil _ _ _ _, (Step.refl _ _ _).drew, Lib.hid rfl⟩
  case round =>
    obtain ⟨i, τr, hi, rfl, hbuf, hst, HO⟩ := hrel
    by_cases hlt : i < 4
    · obtain ⟨x, hx⟩ : ∃ x, ls[i]? = some x := ⟨_, List.getElem?_eq_getElem (by rw [H4.out]; exact hlt)⟩
      obtain ⟨h128, b', u, hpe, hc, hb⟩ := Hr.out i x hx
      cases hpe
      have c1 := (hst.no.cell b i lb (fun h => h)).trans hc
      have hb1 := hb.step hst (fun h => h)
      obtain ⟨bb, oo, cu, rfl, h1c, h2c, -⟩ := hb1.pos (by omega)
      rw [h128] at hb1 c1
      have hmk := marks_any hb1
      have hgx : ls.getD i [] = x := by rw [List.getD_eq_getElem?_getD, hx]; rfl
      have hok : okTo ls s (i + 1) = (lowMark x == s && highMark x == s) := by
        rw [okTo_succ, HO.out, hgx, Bool.true_and]
      have hbd : bodyTo ls (i + 1) = bodyTo ls i ++ ((x.drop 8).take (120 - 8)) := by
        show bodyTo ls i ++ (((ls.getD i []).drop 8).take (120 - 8)) = _
        rw [hgx]
      have hsb := hb1.drew.sub 8 120 (cu - 8) (by omega) (by omega) (by omega) (by omega)
      have hlen2 : ((x.drop 8).take (120 - 8)).length = 112 := by rw [List.length_take, List.length_drop]; omega
      have hlb := bodyTo_length Hlen.out i (by rw [H4.out]; omega)
      have e1 : 112 ≤ cu := by omega
      have e2 : 120 ≤ cu := by omega
      have e3 : (120 : Int) ≤ (cu : Int) := by omega
      have e4 : ¬ cu = 8 := by omega
      generalize hp : (x.drop 8).take (120 - 8) = part at *
      generalize lowMark x = m1 at *
      generalize highMark x = m2 at *
      have hsz : (bodyTo ls i).length + part.length ≤ 100000000000 := by omega
      have hbuf' := hbuf.drew
      have hst' := hst.drew
      obtain ⟨pm, cm, rfl⟩ := hbuf.val
      rw [h128] at h1c
      by_cases hall : m1 = s ∧ m2 = s
      · obtain ⟨rfl, h2s⟩ := hall
        subst h2s
        have hok2 : okTo ls m2 (i + 1) = true := by rw [hok]; simp
        rw [hlb] at hbuf hbuf'
        have Hmk := Lib.hid hmk
        have Hbuf' := Lib.hid hbuf'
        have Hst' := Lib.hid hst'
        have Hsb := Lib.hid hsb
        have Hok2 := Lib.hid hok2
        have Hbd := Lib.hid hbd
        have Hsz := Lib.hid hsz
        have Hlb := Lib.hid hlb
        have Hlen2 := Lib.hid hlen2
        have Hp := Lib.hid hp
        clear hmk hbuf' hst' hsb hok2 hbd hsz hlb hlen2 hp
        clear hbuf hst hb1 hb hc hx h128 hok hgx
        rw [Hlb.out]
        go_wp2_with fail
        refine Hmk.out.mono ?_
        rintro e w' ⟨rfl, rfl⟩
        go_wp2_with (at_builtin; refine wpList_append_nb Hst'.out Hbuf'.out Hsb.out Hsz.out rfl _ _ rfl rfl rfl ?_; intro v' w' τ' hb he hmo; have Hb := Lib.hid hb; have He := Lib.hid he; have Hmo := Lib.hid hmo; clear hb he hmo)
        go_round
        case rel => exact ⟨i + 1, τ', by omega, by simp, by rw [Hbd.out]; exact Hb.out, He.out, Lib.hid Hok2.out⟩
        case measure => simp [intOf]; omega
      · have hok2 : okTo ls s (i + 1) = false := by
          rw [hok]
          by_cases h1 : m1 = s
          · have h2 : ¬ m2 = s := fun h => hall ⟨h1, h⟩
            simp [h2]
          · simp [h1]
        have hno := okTo_no hok2 4 (by omega)
        have hno2 : sealOk ls = false := by unfold sealOk; rw [Hs.out]; exact hno
        have Hmk := Lib.hid hmk
        have Hst' := Lib.hid hst'
        have Hno2 := Lib.hid hno2
        clear hmk hst' hno2
        clear hbuf hbuf' hst hb1 hb hc hx h128 hok hgx hok2 hbd hsz hlb hlen2 hsb hno hp
        by_cases h1 : m1 = s
        · have h2 : ¬ m2 = s := fun h => hall ⟨h1, h⟩
          subst h1
          have b1 : ((m2 : Int) != (m1 : Int)) = true := by rw [bne_iff_ne]; omega
          clear hall h2
          go_wp2_with fail
          refine Hmk.out.mono ?_
          rintro e w' ⟨rfl, rfl⟩
          go_wp2_with fail
          go_returns
          exact ⟨τr, Hst'.out, .inr ⟨Hno2.out, rfl⟩⟩
        · have b1 : ((m1 : Int) != (s : Int)) = true := by rw [bne_iff_ne]; omega
          clear hall h1
          go_wp2_with fail
          refine Hmk.out.mono ?_
          rintro e w' ⟨rfl, rfl⟩
          go_wp2_with fail
          go_returns
          exact ⟨τr, Hst'.out, .inr ⟨Hno2.out, rfl⟩⟩
    · have hik : i = 4 := by omega
      subst hik
      have hok : sealOk ls = true := by unfold sealOk; rw [Hs.out]; exact HO.out
      have Hbuf := Lib.hid hbuf
      have Hst := Lib.hid hst
      have Hok := Lib.hid hok
      clear hbuf hst hok
      go_wp2_with fail
      go_returns
      exact ⟨τr, Hst.out, .inl ⟨Hok.out, _, by rw [Hs.out]; rfl, Hbuf.out.bytes⟩⟩
end Go.Proofs.YtgjoahddbieliaaGreat
