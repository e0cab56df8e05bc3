/-
  Pages: Set.
-/
import Derived.Test.YtgjoahddbieliaaGreatMPageS
namespace Go.Proofs.YtgjoahddbieliaaGreat
open Go.RowKit
set_option linter.unusedVariables false

theorem pageend_any (w : World) (c : Nat) (hc : c ≤ 1000) : Calls Tryz.prog 127 #[.int .i64 (c : Int)] w fun e w' => e = .returned (.int .i64 (16 + 4 * (c : Int))) ∧ w = w' := by
  go_enter Tryz.func127, Tryz.ntmps127
  go_wp2_with fail
  go_ret
  exact ⟨rfl, rfl⟩
/-- what Set leaves of a page -/
structure SetR (P Q : List Int) (er : Nat) : Prop where
  ok : er = 0 → Sound Q ∧ pageNumber Q = pageNumber P ∧ pageLSN Q = pageLSN P
  no : er ≠ 0 → Q = P
  le : er < 65536
def SetD (w : World) (τ : Tags) (g : Tag) (b : Nat) (P : List Int) (e : Ending) (w' : World) : Prop := ∃ er Q τ', e = .returned (.int .u16 ((er : Nat) : Int)) ∧ SetR P Q er ∧ PageAt w' τ' g b Q ∧ Step w τ w' τ' (fun t => t = g)
theorem SetR.bad (P : List Int) (er : Nat) (h : er ≠ 0) (hl : er < 65536) : SetR P P er := ⟨fun e => absurd e h, fun _ => rfl, hl⟩
/-- no slot of that number, or data of no length that may be -/
theorem pageset_bad {w : World} {τ : Tags} {g : Tag} {b : Nat} {P : List Int} (h : PageAt w τ g b P) (i : Int) (p : Option Addr) (k c : Nat) (hbad : i < 0 ∨ 40 ≤ i ∨ k = 0 ∨ 64 < k) (hk : k ≤ maxLen) :
    Calls Tryz.prog 121 #[.pointer (some ⟨b, 0, none⟩), .int .i64 i, .slice p k c] w (SetD w τ g b P) := by
  have H_h := Lib.hid h
  clear h
  by_cases h1 : i < 0
  · go_enter Tryz.func121, Tryz.ntmps121
    go_wp2_with fail
    go_ret
    exact ⟨91, P, τ, rfl, SetR.bad P 91 (by omega) (by omega), H_h.out, Step.refl _ _ _⟩
  · by_cases h2 : 40 ≤ i
    · go_enter Tryz.func121, Tryz.ntmps121
      go_wp2_with fail
      go_ret
      exact ⟨91, P, τ, rfl, SetR.bad P 91 (by omega) (by omega), H_h.out, Step.refl _ _ _⟩
    · by_cases h3 : k = 0
      · subst h3
        go_enter Tryz.func121, Tryz.ntmps121
        go_wp2_with fail
        go_ret
        exact ⟨91, P, τ, rfl, SetR.bad P 91 (by omega) (by omega), H_h.out, Step.refl _ _ _⟩
      · have h4 : (64 : Int) < (k : Int) := by omega
        have h5 : ¬ (k : Int) = 0 := by omega
        go_enter Tryz.func121, Tryz.ntmps121
        go_wp2_with fail
        go_ret
        exact ⟨91, P, τ, rfl, SetR.bad P 91 (by omega) (by omega), H_h.out, Step.refl _ _ _⟩
/-- where there is room -/
structure Room (P P2 : List Int) (s k : Nat) : Prop where
  sound : Sound P2
  plen : pLen P2 s = 0
  num : pageNumber P2 = pageNumber P
  lsn : pageLSN P2 = pageLSN P
  room : 16 + 4 * max (pageCount P2) (s + 1) + k ≤ pageLow P2
theorem Room.done {P P2 m : List Int} {s : Nat} (h : Room P P2 s m.length) (hs : s < 40) (h0 : 0 < m.length) (h64 : m.length ≤ 64) (hB : IsB m) : SetR P (pSettle (pLaid P2 s m)) 0 ∧ Tidy (pLaid P2 s m) := by
  obtain ⟨ht, hn, hl⟩ := h.sound.laid hs h.plen h0 h64 hB h.room
  have hh := pSettle_head ht.len ht.isB ht.lies.fit.count ht.none
  exact ⟨⟨fun _ => ⟨ht.settle, hh.num.trans (hn.trans h.num), hh.lsn.trans (hl.trans h.lsn)⟩, fun e => absurd rfl e, by omega⟩, ht⟩
/-- the slot's own data gone -/
structure Gone (P P1 : List Int) (s : Nat) : Prop where
  sound : Sound P1
  plen : pLen P1 s = 0
  num : pageNumber P1 = pageNumber P
  lsn : pageLSN P1 = pageLSN P
  count : pageCount P1 ≤ pageCount P
  used : pUsed P1 + pLen P s = pUsed P
theorem Sound.gone {P : List Int} (h : Sound P) (s : Nat) : Gone P (if 0 < pLen P s then pClear P s else P) s := by
  by_cases hp : 0 < pLen P s
  · rw [if_pos hp]
    have hc := h.tidy.clear hp
    exact ⟨hc.sound, by rw [hc.plen, if_pos rfl], hc.num, hc.lsn, hc.count, pUsed_clear hc hp⟩
  · rw [if_neg hp]
    exact ⟨h, by omega, rfl, rfl, Nat.le_refl _, by omega⟩
theorem Gone.room {P P1 : List Int} {s k : Nat} (h : Gone P P1 s) (hlow : 16 + 4 * max (pageCount P) (s + 1) + k ≤ pageLow P1) : Room P P1 s k := ⟨h.sound, h.plen, h.num, h.lsn, by have := h.count; omega⟩
theorem Gone.packed {P P1 P2 : List Int} {s k : Nat} (h : Gone P P1 s) (hp : Packed P1 P2) (hfit : 16 + 4 * max (pageCount P) (s + 1) + pUsed P1 + k ≤ 448) : Room P P2 s k :=
  ⟨hp.sound, by rw [hp.plen]; exact h.plen, hp.num.trans h.num, hp.lsn.trans h.lsn, by rw [hp.low]; have := h.count; have := hp.count; omega⟩
theorem max_int (a b c : Nat) (h : max a b = c) : (max (a : Int) (b : Int)) = (c : Int) := by omega
set_option maxHeartbeats 4000000 in
set_option maxRecDepth 100000 in
theorem pageset_good {w : World} {τ : Tags} {g : Tag} {b : Nat} {P : List Int} (hg : g ≠ tOut ∧ g ≠ tData ∧ g ≠ tAll) (h : PageAt w τ g b P) (ht : Sound P) (s : Nat) (hs : s < 40) {v : Value} {g2 : Tag} {m : List Int} (hb : Bytes w τ g2 v m) (hg2 : g2 ≠ g) (h0 : 0 < m.length) (h64 : m.length ≤ 64) :
    Calls Tryz.prog 121 #[.pointer (some ⟨b, 0, none⟩), .int .i64 (s : Int), v] w (SetD w τ g b P) := by
  obtain ⟨hg1, hgd, hga⟩ := hg
  obtain ⟨p, c, rfl, -, -⟩ := hb.any
  have hBm := hb.isB
  have hfit := ht.tidy.lies.fit
  have hc40 := hfit.count
  have hdat := pagedata_any h hfit s (by omega)
  have hcnt := pagecount_any h
  have husd := pageused_any h hfit
  have hend := pageend_any w (max (pageCount P) (s + 1)) (by omega)
  have hmx := max_int (pageCount P) (s + 1) _ rfl
  rw [show ((s + 1 : Nat) : Int) = (s : Int) + 1 by omega] at hmx
  have hover := fun (hp : 0 < pLen P s) (hm : m.length = pLen P s) => ht.over hp hm hBm
  have hclr := pageclear_any (Step.refl w τ (fun t => t = g)) (.inl rfl) hg1 h ht.tidy.lies s (by omega)
  have hgone := ht.gone s
  have hends := hfit.ends s
  have h448 := h.len
  have husl : pUsed P ≤ 18000 := by
    have hle : ∀ i, usedTo P i ≤ i * 448 := by
      intro i
      induction i with
      | zero => simp [usedTo]
      | succ i ih => have := hfit.ends i; unfold usedTo; omega
    have := hle (pageCount P)
    unfold pUsed
    omega
  have hlu : pLen P s ≤ pUsed P := by have := hgone.used; omega
  generalize hP1 : (if 0 < pLen P s then pClear P s else P) = P1 at *
  generalize hcm : max (pageCount P) (s + 1) = cm at *
  have hcm100 : cm ≤ 40 := by omega
  have hcmc : pageCount P ≤ cm := by omega
  have hcms : s + 1 ≤ cm := by omega
  generalize hus : pUsed P = us at *
  generalize hpo : pOff P s = o at *
  generalize hpl : pLen P s = len at *
  generalize hk : m.length = k at *
  generalize hpc : pageCount P = pc at *
  have hk0 : ¬ k = 0 := by omega
  have hk1 : ¬ (64 : Int) < (k : Int) := by omega
  have hs1 : ¬ (s : Int) < 0 := by omega
  have hs2 : ¬ (40 : Int) ≤ (s : Int) := by omega
  have hk2 : ¬ (k : Int) = 0 := by omega
  have Hdat := Lib.hid hdat
  have Hcnt := Lib.hid hcnt
  have Husd := Lib.hid husd
  have Hend := Lib.hid hend
  have Hover := Lib.hid hover
  have Hclr := Lib.hid hclr
  have Hgone := Lib.hid hgone
  have HBm := Lib.hid hBm
  have Hcm := Lib.hid hcm
  have Hus := Lib.hid hus
  have Hpo := Lib.hid hpo
  have Hpl := Lib.hid hpl
  have Hk := Lib.hid hk
  have Hpc := Lib.hid hpc
  have HP1 := Lib.hid hP1
  clear hdat hcnt husd hend hover hclr hgone hBm hcm hus hpo hpl hk hpc hP1
  have H_h := Lib.hid h
  have Ht := Lib.hid ht
  have Hb := Lib.hid hb
  clear h ht hb hfit
  by_cases hful : 448 < 16 + 4 * cm + us - len + k
  · have a1 : (448 : Int) < 16 + 4 * (cm : Int) + (us : Int) - (len : Int) + (k : Int) := by omega
    go_enter Tryz.func121, Tryz.ntmps121
    go_wp2_with fail
    refine Hdat.out.mono ?_
    rintro e w' ⟨o', rfl, ho', rfl⟩
    go_wp2_with fail
    refine Hcnt.out.mono ?_
    rintro e w' ⟨rfl, rfl⟩
    go_wp2_with fail
    refine Hend.out.mono ?_
    rintro e w' ⟨rfl, rfl⟩
    go_wp2_with fail
    refine Husd.out.mono ?_
    rintro e w' ⟨rfl, rfl⟩
    go_wp2_with fail
    go_ret
    exact ⟨92, P, τ, rfl, SetR.bad P 92 (by omega) (by omega), H_h.out, Step.refl _ _ _⟩
  · have a1 : ¬ (448 : Int) < 16 + 4 * (cm : Int) + (us : Int) - (len : Int) + (k : Int) := by omega
    by_cases hsame : len = k
    · subst hsame
      have hmin : len = Nat.min m.length len := by rw [Hk.out]; exact (Nat.min_self _).symm
      have hft : o + len ≤ (u8s P).length := by rw [u8s_length, h448]; exact hends
      have hrun := fun (ty : TypeId) => run_copy_own H_h.out.own (off := o) (dLen := len) (dCap := 448 - o) Hb.out len hmin hft ty
      rw [over_layN _ _ _ _ Hk.out.symm] at hrun
      have hq := Hover.out h0 rfl
      have ho3 := H_h.out.own.row' (u8s (layN P o m))
      have hs3 := (Step.refl w τ (fun t => t = g)).row H_h.out.own.tag (.inl rfl) (u8s (layN P o m)).toArray
      have Ho3 := Lib.hid ho3
      have Hs3 := Lib.hid hs3
      have Hq := Lib.hid hq
      clear ho3 hs3 hq
      clear hmin hft
      go_enter Tryz.func121, Tryz.ntmps121
      go_wp2_with fail
      refine Hdat.out.mono ?_
      rintro e w' ⟨o', rfl, ho', rfl⟩
      obtain rfl := ho' h0
      go_wp2_with fail
      refine Hcnt.out.mono ?_
      rintro e w' ⟨rfl, rfl⟩
      go_wp2_with fail
      refine Hend.out.mono ?_
      rintro e w' ⟨rfl, rfl⟩
      go_wp2_with fail
      refine Husd.out.mono ?_
      rintro e w' ⟨rfl, rfl⟩
      go_wp2_with fail
      go_ret
      exact ⟨0, layN P o' m, τ, rfl, ⟨fun _ => ⟨Hq.out.1, Hq.out.2.1, Hq.out.2.2⟩, fun e => absurd rfl e, by omega⟩, ⟨Ho3.out, layN_isB H_h.out.isB HBm.out _, Hq.out.1.tidy.len⟩, Hs3.out⟩
    · have hsame' : ¬ (len : Int) = (k : Int) := by omega
      go_enter Tryz.func121, Tryz.ntmps121
      go_wp2_with fail
      refine Hdat.out.mono ?_
      rintro e w' ⟨o', rfl, ho', rfl⟩
      clear ho'
      go_wp2_with fail
      refine Hcnt.out.mono ?_
      rintro e w' ⟨rfl, rfl⟩
      go_wp2_with fail
      refine Hend.out.mono ?_
      rintro e w' ⟨rfl, rfl⟩
      go_wp2_with fail
      refine Husd.out.mono ?_
      rintro e w' ⟨rfl, rfl⟩
      go_wp2_with fail
      refine Hclr.out.mono ?_
      rintro e w1 ⟨rfl, τ1, hp1, hs1, -⟩
      have hgs := Hgone.out.sound
      have hlw := pagelow_any hp1
      have hen2 := pageend_any w1 cm (by omega)
      have htop := hgs.top
      have hcount := Hgone.out.count
      have hused := Hgone.out.used
      have hb1 := Hb.out.step hs1 (fun e => hg2 e)
      generalize hlo : pageLow P1 = lo at *
      have Hp1 := Lib.hid hp1
      have Hs1 := Lib.hid hs1
      have Hlw := Lib.hid hlw
      have Hen2 := Lib.hid hen2
      have Hb1 := Lib.hid hb1
      have Hlo := Lib.hid hlo
      clear hp1 hs1 hlw hen2 hb1 hlo
      clear Hclr hgs
      go_wp2_with fail
      refine Hlw.out.mono ?_
      rintro e w' ⟨rfl, rfl⟩
      go_wp2_with fail
      refine Hen2.out.mono ?_
      rintro e w' ⟨rfl, rfl⟩
      by_cases hcomp : (lo : Int) - (16 + 4 * (cm : Int)) < (k : Int)
      · have hpk := pagecompact_any ⟨hg1, hgd, hga⟩ Hp1.out Hgone.out.sound.tidy (by rw [Hpc.out] at hcount; rw [Hus.out, Hpl.out] at hused; omega)
        have Hpk := Lib.hid hpk
        clear hpk
        go_wp2_with fail
        refine Hpk.out.mono ?_
        rintro e w2 ⟨rfl, P2, τ2, hp2, hpk2, hs2⟩
        have hroom := Hgone.out.packed hpk2 (k := k) (by rw [Hpc.out, Hcm.out]; rw [Hus.out, Hpl.out] at hused; omega)
        clear hpk2 hcomp Hpk
        have hlw2 := pagelow_any hp2
        have hcn2 := pagecount_any hp2
        have htop2 := hroom.sound.top
        have hr2 := hroom.room
        have hc402 := hroom.sound.tidy.lies.fit.count
        obtain ⟨hdone, htidy⟩ := (show Room P _ s m.length by rw [Hk.out]; exact hroom).done hs (by rw [Hk.out]; exact h0) (by rw [Hk.out]; exact h64) HBm.out
        have hput := pageput_any (Step.refl _ _ (fun t => t = g)) (.inl rfl) hp2 12 2 (max (pageCount P2) (s + 1)) (by omega) (by omega) (by omega) (by omega)
        change Calls _ _ _ _ (fun e w' => e = .returned (.tuple #[]) ∧ ∃ τ', PageAt w' τ' g b (pMore P2 s) ∧ _ ∧ _) at hput
        have hmx2 := max_int (pageCount P2) (s + 1) _ rfl
        rw [show ((s + 1 : Nat) : Int) = (s : Int) + 1 by omega] at hmx2
        have hu2 := u64_wrap (max (pageCount P2) (s + 1)) (by omega)
        have hlaid : pLaid P2 s m = pList (layN (pMore P2 s) (pageLow P2 - k) m) s (pageLow P2 - k) k := by unfold pLaid; rw [Hk.out]
        have hak : ((pageLow P2 : Nat) : Int) - (k : Int) = ((pageLow P2 - k : Nat) : Int) := by omega
        have ha448 : pageLow P2 - k + k ≤ 448 := by omega
        generalize pLaid P2 s m = Z at *
        generalize pMore P2 s = M at *
        generalize hlo2 : pageLow P2 - k = a at *
        generalize pageLow P2 = lo2 at *
        generalize max (pageCount P2) (s + 1) = c2 at *
        generalize pageCount P2 = pc2 at *
        have Hp2 := Lib.hid hp2
        have Hs2 := Lib.hid hs2
        have Hroom := Lib.hid hroom
        have Hlw2 := Lib.hid hlw2
        have Hcn2 := Lib.hid hcn2
        have Hdone := Lib.hid hdone
        have Htidy := Lib.hid htidy
        have Hput := Lib.hid hput
        have Hlaid := Lib.hid hlaid
        clear hp2 hs2 hroom hlw2 hcn2 hdone htidy hput hlaid
        clear hr2 hc402 htop2 hlo2
        go_wp2_with fail
        refine Hlw2.out.mono ?_
        rintro e w' ⟨rfl, rfl⟩
        go_wp2_with fail
        refine Hcn2.out.mono ?_
        rintro e w' ⟨rfl, rfl⟩
        go_wp2_with fail
        refine Hput.out.mono ?_
        rintro e w3 ⟨rfl, τ3, hp3, hs3, -⟩
        have hle : a ≤ 448 := by omega
        have hlei : (a : Int) ≤ 448 := by omega
        have hne : ¬ a = 448 := by omega
        have hne' : ¬ 448 = a := by omega
        have hmin : k = Nat.min m.length (448 - a) := by rw [Hk.out]; exact (Nat.min_eq_left (by omega)).symm
        have hft : a + k ≤ (u8s M).length := by rw [u8s_length, hp3.len]; exact ha448
        have hrun := fun (ty : TypeId) => run_copy_own hp3.own (off := a) (dLen := 448 - a) (dCap := 448 - a) ((Hb1.out.step Hs2.out (fun e => hg2 e)).step hs3 (fun e => hg2 e)) k hmin hft ty
        rw [over_layN _ _ _ _ Hk.out.symm] at hrun
        have hs4 := (Step.refl w3 τ3 (fun t => t = g)).row hp3.own.tag (.inl rfl) (u8s (layN M a m)).toArray
        have hl4 := pagelist_any hs4 (.inl rfl) ⟨hp3.own.row' (u8s (layN M a m)), layN_isB hp3.isB HBm.out a, by rw [layN_length _ _ _ (by rw [Hk.out, hp3.len]; exact ha448)]; exact hp3.len⟩ s a k (by omega) (by omega) (by omega)
        have Hp3 := Lib.hid hp3
        have Hs3 := Lib.hid hs3
        have Hl4 := Lib.hid hl4
        clear hp3 hs3 hl4
        clear hmin hft hs4
        go_wp2_with fail
        refine Hl4.out.mono ?_
        rintro e w5 ⟨rfl, τ5, hp5, hs5, -⟩
        rw [← Hlaid.out] at hp5
        have hse := pagesettle_any (Step.refl w5 τ5 (fun t => t = g)) (.inl rfl) hg1 hp5 Htidy.out.lies.fit
        have Hp5 := Lib.hid hp5
        have Hs5 := Lib.hid hs5
        have Hse := Lib.hid hse
        clear hp5 hs5 hse
        all_goals go_wp2_with fail
        all_goals refine Hse.out.mono ?_
        all_goals rintro e w6 ⟨rfl, τ6, hp6, hs6, -⟩
        all_goals (have Hp6 := Lib.hid hp6; have Hs6 := Lib.hid hs6; clear hp6 hs6)
        all_goals go_wp2_with fail
        all_goals go_returns
        all_goals exact ⟨0, _, τ6, rfl, Hdone.out, Hp6.out, ((Hs1.out.trans Hs2.out).trans Hs3.out).trans (Hs5.out.trans Hs6.out)⟩
      · have hroom := Hgone.out.room (k := k) (by rw [Hpc.out, Hcm.out, Hlo.out]; omega)
        have hp2 := Hp1.out
        have hs2 := Step.refl w1 τ1 (fun t => t = g)
        have hlw2 := pagelow_any hp2
        have hcn2 := pagecount_any hp2
        have htop2 := hroom.sound.top
        have hr2 := hroom.room
        have hc402 := hroom.sound.tidy.lies.fit.count
        obtain ⟨hdone, htidy⟩ := (show Room P _ s m.length by rw [Hk.out]; exact hroom).done hs (by rw [Hk.out]; exact h0) (by rw [Hk.out]; exact h64) HBm.out
        have hput := pageput_any (Step.refl _ _ (fun t => t = g)) (.inl rfl) hp2 12 2 (max (pageCount P1) (s + 1)) (by omega) (by omega) (by omega) (by omega)
        change Calls _ _ _ _ (fun e w' => e = .returned (.tuple #[]) ∧ ∃ τ', PageAt w' τ' g b (pMore P1 s) ∧ _ ∧ _) at hput
        have hmx2 := max_int (pageCount P1) (s + 1) _ rfl
        rw [show ((s + 1 : Nat) : Int) = (s : Int) + 1 by omega] at hmx2
        have hu2 := u64_wrap (max (pageCount P1) (s + 1)) (by omega)
        have hlaid : pLaid P1 s m = pList (layN (pMore P1 s) (pageLow P1 - k) m) s (pageLow P1 - k) k := by unfold pLaid; rw [Hk.out]
        have hak : ((pageLow P1 : Nat) : Int) - (k : Int) = ((pageLow P1 - k : Nat) : Int) := by omega
        have ha448 : pageLow P1 - k + k ≤ 448 := by omega
        generalize pLaid P1 s m = Z at *
        generalize pMore P1 s = M at *
        generalize hlo2 : pageLow P1 - k = a at *
        generalize pageLow P1 = lo2 at *
        generalize max (pageCount P1) (s + 1) = c2 at *
        generalize pageCount P1 = pc2 at *
        have Hp2 := Lib.hid hp2
        have Hs2 := Lib.hid hs2
        have Hroom := Lib.hid hroom
        have Hlw2 := Lib.hid hlw2
        have Hcn2 := Lib.hid hcn2
        have Hdone := Lib.hid hdone
        have Htidy := Lib.hid htidy
        have Hput := Lib.hid hput
        have Hlaid := Lib.hid hlaid
        clear hp2 hs2 hroom hlw2 hcn2 hdone htidy hput hlaid
        clear hr2 hc402 htop2 hlo2
        go_wp2_with fail
        refine Hlw2.out.mono ?_
        rintro e w' ⟨rfl, rfl⟩
        go_wp2_with fail
        refine Hcn2.out.mono ?_
        rintro e w' ⟨rfl, rfl⟩
        go_wp2_with fail
        refine Hput.out.mono ?_
        rintro e w3 ⟨rfl, τ3, hp3, hs3, -⟩
        have hle : a ≤ 448 := by omega
        have hlei : (a : Int) ≤ 448 := by omega
        have hne : ¬ a = 448 := by omega
        have hne' : ¬ 448 = a := by omega
        have hmin : k = Nat.min m.length (448 - a) := by rw [Hk.out]; exact (Nat.min_eq_left (by omega)).symm
        have hft : a + k ≤ (u8s M).length := by rw [u8s_length, hp3.len]; exact ha448
        have hrun := fun (ty : TypeId) => run_copy_own hp3.own (off := a) (dLen := 448 - a) (dCap := 448 - a) ((Hb1.out.step Hs2.out (fun e => hg2 e)).step hs3 (fun e => hg2 e)) k hmin hft ty
        rw [over_layN _ _ _ _ Hk.out.symm] at hrun
        have hs4 := (Step.refl w3 τ3 (fun t => t = g)).row hp3.own.tag (.inl rfl) (u8s (layN M a m)).toArray
        have hl4 := pagelist_any hs4 (.inl rfl) ⟨hp3.own.row' (u8s (layN M a m)), layN_isB hp3.isB HBm.out a, by rw [layN_length _ _ _ (by rw [Hk.out, hp3.len]; exact ha448)]; exact hp3.len⟩ s a k (by omega) (by omega) (by omega)
        have Hp3 := Lib.hid hp3
        have Hs3 := Lib.hid hs3
        have Hl4 := Lib.hid hl4
        clear hp3 hs3 hl4
        clear hmin hft hs4
        go_wp2_with fail
        refine Hl4.out.mono ?_
        rintro e w5 ⟨rfl, τ5, hp5, hs5, -⟩
        rw [← Hlaid.out] at hp5
        have hse := pagesettle_any (Step.refl w5 τ5 (fun t => t = g)) (.inl rfl) hg1 hp5 Htidy.out.lies.fit
        have Hp5 := Lib.hid hp5
        have Hs5 := Lib.hid hs5
        have Hse := Lib.hid hse
        clear hp5 hs5 hse
        all_goals go_wp2_with fail
        all_goals refine Hse.out.mono ?_
        all_goals rintro e w6 ⟨rfl, τ6, hp6, hs6, -⟩
        all_goals (have Hp6 := Lib.hid hp6; have Hs6 := Lib.hid hs6; clear hp6 hs6)
        all_goals go_wp2_with fail
        all_goals go_returns
        all_goals exact ⟨0, _, τ6, rfl, Hdone.out, Hp6.out, ((Hs1.out.trans Hs2.out).trans Hs3.out).trans (Hs5.out.trans Hs6.out)⟩
theorem pageset_any {w : World} {τ : Tags} {g : Tag} {b : Nat} {P : List Int} (hg : g ≠ tOut ∧ g ≠ tData ∧ g ≠ tAll) (h : PageAt w τ g b P) (ht : Sound P) (i : Int) {v : Value} {g2 : Tag} {m : List Int} (hb : Bytes w τ g2 v m) (hg2 : g2 ≠ g) :
    Calls Tryz.prog 121 #[.pointer (some ⟨b, 0, none⟩), .int .i64 i, v] w (SetD w τ g b P) := by
  by_cases hbad : i < 0 ∨ 40 ≤ i ∨ m.length = 0 ∨ 64 < m.length
  · obtain ⟨p, c, rfl, h1, h2⟩ := hb.any
    exact pageset_bad h i p m.length c hbad (by omega)
  · obtain ⟨s, rfl⟩ : ∃ s : Nat, i = (s : Int) := ⟨i.toNat, by omega⟩
    exact pageset_good hg h ht s (by omega) hb hg2 (by omega) (by omega)
end Go.Proofs.YtgjoahddbieliaaGreat

/-
  Rows of bools; which bytes of a page are taken: what sound looks for.
-/
namespace Go.Proofs.YtgjoahddbieliaaGreat
open Go.RowKit
set_option linter.unusedVariables false

def bools (T : Nat → Bool) (n : Nat) : List Value := (List.range n).map (fun i => Value.bool (T i))
theorem bools_length (T : Nat → Bool) (n : Nat) : (bools T n).length = n := by simp [bools]
theorem bools_at (T : Nat → Bool) (n i : Nat) (h : i < n) : (bools T n)[i]? = some (.bool (T i)) := by
  unfold bools
  rw [List.getElem?_map, List.getElem?_range h]; rfl
def anyTo (T : Nat → Bool) (o : Nat) : Nat → Bool
  | 0 => false
  | n + 1 => anyTo T o n || T (o + n)
theorem bindex_any {w : World} {b o n c : Nat} {T : Nat → Bool} (hc : ∀ i, i < n → w.cell? ⟨b, o + i, none⟩ = some (.bool (T (o + i)))) (hn : n ≤ 1000) :
    Calls Tryz.prog 197 #[.slice (some ⟨b, o, none⟩) n c, .bool true] w fun e w' => (∃ r : Int, e = .returned (.int .i64 r) ∧ decide (0 ≤ r) = anyTo T o n) ∧ w = w' := by
  have Hc := Lib.hid hc
  clear hc
  go_enter Tryz.func197, Tryz.ntmps197
  go_wp2_with fail
  go_loopw [8] (fun v wr => ∃ (i : Nat), i ≤ n ∧ v = .int .i64 (i : Int) ∧ anyTo T o i = false ∧ wr = w) (fun v _ => n - (intOf v).toNat)
  case atStart => exact ⟨0, Nat.zero_le _, rfl, rfl, rfl⟩
  case round =>
    obtain ⟨i, hi, rfl, hno, rfl⟩ := hrel
    by_cases hlt : i < n
    · have hcell := Hc.out i hlt
      have hs : anyTo T o (i + 1) = (anyTo T o i || T (o + i)) := rfl
      rw [hno, Bool.false_or] at hs
      cases hT : T (o + i) with
      | true =>
        rw [hT] at hcell hs
        have hall : ∀ d, anyTo T o (i + 1 + d) = true := by
          intro d
          induction d with
          | zero => exact hs
          | succ d ih => show (anyTo T o (i + 1 + d) || _) = true; rw [ih]; rfl
        have hq := hall (n - (i + 1))
        rw [show i + 1 + (n - (i + 1)) = n by omega] at hq
        have Hs := Lib.hid hs
        have Hq := Lib.hid hq
        have Hno := Lib.hid hno
        have HT := Lib.hid hT
        clear hs hq hno hT
        clear hall
        go_wp2_with fail
        go_returns
        exact ⟨⟨(i : Int), rfl, by rw [Hq.out]; simp⟩, rfl⟩
      | false =>
        rw [hT] at hcell hs
        have Hs := Lib.hid hs
        have Hno := Lib.hid hno
        have HT := Lib.hid hT
        clear hs hno hT
        go_wp2_with fail
        go_round
        case rel => exact ⟨i + 1, by omega, by simp, Hs.out, trivial⟩
        case measure => simp [intOf]; omega
    · have hin : i = n := by omega
      subst hin
      have Hno := Lib.hid hno
      clear hno
      go_wp2_with fail
      go_returns
      exact ⟨⟨-1, rfl, by rw [Hno.out]; rfl⟩, rfl⟩
theorem bcontains_any {w : World} {b o n c : Nat} {T : Nat → Bool} (hc : ∀ i, i < n → w.cell? ⟨b, o + i, none⟩ = some (.bool (T (o + i)))) (hn : n ≤ 1000) :
    Calls Tryz.prog 128 #[.slice (some ⟨b, o, none⟩) n c, .bool true] w fun e w' => e = .returned (.bool (anyTo T o n)) ∧ w = w' := by
  have h1 := bindex_any (c := c) hc hn
  generalize anyTo T o n = a at *
  have H1 := Lib.hid h1
  clear h1
  clear hc
  go_enter Tryz.func128, Tryz.ntmps128
  go_wp2_with fail
  refine H1.out.mono ?_
  rintro e w' ⟨⟨r, rfl, hr⟩, rfl⟩
  go_wp2_with fail
  go_ret
  exact ⟨by rw [← hr]; rfl, rfl⟩

/-! ### what sound looks for -/
def markT (T : Nat → Bool) (a n : Nat) : Nat → Bool := fun i => T i || (decide (a ≤ i) && decide (i < a + n))
theorem markT_zero (T : Nat → Bool) (a : Nat) : markT T a 0 = T := by
  funext i
  unfold markT
  have : (decide (a ≤ i) && decide (i < a + 0)) = false := by
    rw [Bool.and_eq_false_iff]
    by_cases h : a ≤ i
    · exact .inr (by simp; omega)
    · exact .inl (by simpa using h)
  rw [this, Bool.or_false]
theorem bools_mark (T : Nat → Bool) (a j n : Nat) (h : a + j < n) : (bools (markT T a j) n).set (a + j) (.bool true) = bools (markT T a (j + 1)) n := by
  apply List.ext_getElem?
  intro i
  by_cases hi : i < n
  · by_cases e : i = a + j
    · subst e
      rw [List.getElem?_set_self (by rw [bools_length]; exact h), bools_at _ _ _ hi]
      congr 2
      unfold markT
      rw [decide_eq_true (show a ≤ a + j by omega), decide_eq_true (show a + j < a + (j + 1) by omega)]; simp
    · rw [List.getElem?_set_ne (fun q => e q.symm), bools_at _ _ _ hi, bools_at _ _ _ hi]
      congr 2
      unfold markT
      congr 2
      by_cases h2 : i < a + j
      · rw [decide_eq_true h2, decide_eq_true (by omega)]
      · rw [decide_eq_false h2, decide_eq_false (by omega)]
  · rw [List.getElem?_eq_none (by rw [List.length_set, bools_length]; omega), List.getElem?_eq_none (by rw [bools_length]; omega)]
def soundStep (P : List Int) (st : Option ((Nat → Bool) × Nat)) (s : Nat) : Option ((Nat → Bool) × Nat) :=
  match st with
  | none => none
  | some (T, low) =>
    if pLen P s = 0 ∧ pOff P s = 0 then some (T, low)
    else if pLen P s = 0 ∨ 64 < pLen P s ∨ pOff P s < 16 + 4 * pageCount P ∨ 448 < pOff P s + pLen P s then none
    else if anyTo T (pOff P s) (pLen P s) = true then none
    else some (markT T (pOff P s) (pLen P s), min low (pOff P s))
def soundTo (P : List Int) : Nat → Option ((Nat → Bool) × Nat)
  | 0 => some (fun _ => false, 448)
  | s + 1 => soundStep P (soundTo P s) s
def zerosTo (P : List Int) (T : Nat → Bool) (a : Nat) : Nat → Bool
  | 0 => true
  | n + 1 => zerosTo P T a n && (T (a + n) || decide (P.getD (a + n) 0 = 0))
def soundEnd (P : List Int) (low : Nat) : Bool := decide (low = pageLow P) && (decide (pageCount P = 0) || decide (0 < pLen P (pageCount P - 1)))
def soundB (P : List Int) : Bool :=
  if 40 < pageCount P then false else
  match soundTo P (pageCount P) with
  | none => false
  | some (T, low) => zerosTo P T (16 + 4 * pageCount P) (448 - (16 + 4 * pageCount P)) && soundEnd P low
theorem soundTo_none {P : List Int} {s : Nat} (h : soundTo P s = none) (d : Nat) : soundTo P (s + d) = none := by
  induction d with
  | zero => exact h
  | succ d ih => show soundStep P (soundTo P (s + d)) _ = none; rw [ih]; rfl
theorem soundB_none {P : List Int} {s : Nat} (h : soundTo P s = none) (hs : s ≤ pageCount P) : soundB P = false := by
  unfold soundB
  split
  · rfl
  · have := soundTo_none h (pageCount P - s)
    rw [show s + (pageCount P - s) = pageCount P by omega] at this
    rw [this]
theorem zerosTo_false {P : List Int} {T : Nat → Bool} {a n : Nat} (h : zerosTo P T a n = false) (d : Nat) : zerosTo P T a (n + d) = false := by
  induction d with
  | zero => exact h
  | succ d ih => show (zerosTo P T a (n + d) && _) = false; rw [ih]; rfl
theorem soundB_zeros {P : List Int} {T : Nat → Bool} {low n : Nat} (hs : soundTo P (pageCount P) = some (T, low)) (h : zerosTo P T (16 + 4 * pageCount P) n = false) (hn : n ≤ 448 - (16 + 4 * pageCount P)) : soundB P = false := by
  unfold soundB
  split
  · rfl
  · rw [hs]
    have := zerosTo_false h (448 - (16 + 4 * pageCount P) - n)
    rw [show n + (448 - (16 + 4 * pageCount P) - n) = 448 - (16 + 4 * pageCount P) by omega] at this
    show (zerosTo P T _ _ && _) = false
    rw [this]; rfl
theorem soundB_end {P : List Int} {T : Nat → Bool} {low : Nat} (h40 : pageCount P ≤ 40) (hs : soundTo P (pageCount P) = some (T, low)) (h : zerosTo P T (16 + 4 * pageCount P) (448 - (16 + 4 * pageCount P)) = true) : soundB P = soundEnd P low := by
  unfold soundB
  rw [if_neg (by omega), hs]
  show (zerosTo P T _ _ && _) = _
  rw [h, Bool.true_and]
/-- a sound page is found sound -/
theorem Sound.soundTo {P : List Int} (h : Sound P) (q : Nat) (hq : q ≤ pageCount P) : soundTo P q = some (fun i => (List.range q).any (fun s => decide (pOff P s ≤ i) && decide (i < pOff P s + pLen P s)), (headTo P q).2) := by
  induction q with
  | zero => rfl
  | succ q ih =>
    show soundStep P (Go.Proofs.YtgjoahddbieliaaGreat.soundTo P q) q = _
    rw [ih (by omega)]
    have e : headTo P (q + 1) = if 0 < pLen P q then (q + 1, min (headTo P q).2 (pOff P q)) else headTo P q := rfl
    have hany : ∀ i, (List.range (q + 1)).any (fun s => decide (pOff P s ≤ i) && decide (i < pOff P s + pLen P s)) = ((List.range q).any (fun s => decide (pOff P s ≤ i) && decide (i < pOff P s + pLen P s)) || (decide (pOff P q ≤ i) && decide (i < pOff P q + pLen P q))) := fun i => by
      rw [List.range_succ, List.any_append]; simp
    simp only [hany]
    unfold soundStep
    dsimp only
    by_cases h0 : pLen P q = 0
    · have ho := h.tidy.none q h0
      rw [if_pos ⟨h0, ho⟩, e, if_neg (by omega)]
      congr 2
      funext i
      rw [h0, Nat.add_zero]
      have : (decide (pOff P q ≤ i) && decide (i < pOff P q)) = false := by
        rw [Bool.and_eq_false_iff]
        by_cases hh : pOff P q ≤ i
        · exact .inr (by simp; omega)
        · exact .inl (by simpa using hh)
      rw [this, Bool.or_false]
    · have hb := h.tidy.lies.behind q (by omega)
      have hen := h.tidy.lies.fit.ends q
      have h64 := h.tidy.small q
      rw [if_neg (by omega), if_neg (by omega)]
      have hno : anyTo (fun i => (List.range q).any (fun s => decide (pOff P s ≤ i) && decide (i < pOff P s + pLen P s))) (pOff P q) (pLen P q) = false := by
        have key : ∀ n, n ≤ pLen P q → anyTo (fun i => (List.range q).any (fun s => decide (pOff P s ≤ i) && decide (i < pOff P s + pLen P s))) (pOff P q) n = false := by
          intro n
          induction n with
          | zero => intro _; rfl
          | succ n ihn =>
            intro hn
            show (anyTo _ _ n || _) = false
            rw [ihn (by omega), Bool.false_or, List.any_eq_false]
            intro s hs
            have hsq := List.mem_range.1 hs
            simp only [Bool.and_eq_true, decide_eq_true_eq, not_and]
            intro h1 h2
            have := h.tidy.apart s q (by omega) (by omega) (by omega)
            omega
        exact key _ (Nat.le_refl _)
      rw [if_neg (by rw [hno]; simp), e, if_pos (show 0 < pLen P q by omega)]
      rfl
theorem Sound.yes {P : List Int} (h : Sound P) : soundB P = true := by
  have hs := h.soundTo (pageCount P) (Nat.le_refl _)
  have hc := h.tidy.lies.fit.count
  rw [soundB_end hc hs]
  · unfold soundEnd
    have hh := h.head
    rw [hh]
    have hi := headTo_is P (pageCount P)
    rw [hh] at hi
    rw [decide_eq_true rfl, Bool.true_and]
    rcases hi.last with h1 | h1
    · rw [decide_eq_true h1]; rfl
    · rw [decide_eq_true h1, Bool.or_true]
  · have key : ∀ n, n ≤ 448 - (16 + 4 * pageCount P) → zerosTo P (fun i => (List.range (pageCount P)).any (fun s => decide (pOff P s ≤ i) && decide (i < pOff P s + pLen P s))) (16 + 4 * pageCount P) n = true := by
      intro n
      induction n with
      | zero => intro _; rfl
      | succ n ih =>
        intro hn
        show (zerosTo _ _ _ n && _) = true
        rw [ih (by omega), Bool.true_and]
        cases ht : (List.range (pageCount P)).any (fun s => decide (pOff P s ≤ 16 + 4 * pageCount P + n) && decide (16 + 4 * pageCount P + n < pOff P s + pLen P s)) with
        | true =>
          show ((List.range (pageCount P)).any (fun s => decide (pOff P s ≤ 16 + 4 * pageCount P + n) && decide (16 + 4 * pageCount P + n < pOff P s + pLen P s)) || _) = true
          rw [ht]; rfl
        | false =>
          show ((List.range (pageCount P)).any (fun s => decide (pOff P s ≤ 16 + 4 * pageCount P + n) && decide (16 + 4 * pageCount P + n < pOff P s + pLen P s)) || _) = true
          rw [ht, Bool.false_or]
          rw [List.any_eq_false] at ht
          have hz := h.tidy.zero (16 + 4 * pageCount P + n) (by omega) (by omega) (fun s => by
            rcases Nat.lt_or_ge s (pageCount P) with h1 | h1
            · have := ht s (List.mem_range.2 h1)
              simp only [Bool.and_eq_true, decide_eq_true_eq, not_and] at this
              omega
            · rw [pOff_out h1, pLen_out h1]; omega)
          rw [List.getD_eq_getElem?_getD, hz]; rfl
    exact key _ (Nat.le_refl _)
end Go.Proofs.YtgjoahddbieliaaGreat
