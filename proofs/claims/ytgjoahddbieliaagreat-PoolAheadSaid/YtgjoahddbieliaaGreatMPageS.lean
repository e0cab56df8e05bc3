/-
  Pages: an empty page is sound; a stamp leaves a page sound (plain).
-/
import Derived.Test.YtgjoahddbieliaaGreatMPageP
import Derived.Test.YtgjoahddbieliaaGreatMPoolD
namespace Go.Proofs.YtgjoahddbieliaaGreat
open Go.RowKit
set_option linter.unusedVariables false

theorem zeros448_len : zeros448.length = 448 := List.length_replicate
theorem emptyPage_len (n : Nat) : (emptyPage n).length = 448 := by
  unfold emptyPage
  have h1 : 8 + (leB n 4).length ≤ zeros448.length := by rw [leB_length, zeros448_len]; omega
  rw [layN_length _ _ _ (by rw [layN_length _ _ _ h1, leB_length, zeros448_len]; omega), layN_length _ _ _ h1, zeros448_len]
theorem emptyPage_isB (n : Nat) : IsB (emptyPage n) := layN_isB (layN_isB zeros448_isB (leB_isB _ _) _) (leB_isB _ _) _
theorem emptyPage_get (n i : Nat) (hi : 16 ≤ i) (h2 : i < 448) : (emptyPage n)[i]? = some 0 := by
  unfold emptyPage
  have h1 : 8 + (leB n 4).length ≤ zeros448.length := by rw [leB_length, zeros448_len]; omega
  have h3 : 14 + (leB 448 2).length ≤ (layN zeros448 8 (leB n 4)).length := by rw [layN_length _ _ _ h1, leB_length, zeros448_len]; omega
  rw [layN_get h3, if_neg (by rw [leB_length]; omega), layN_get h1, if_neg (by rw [leB_length]; omega)]
  unfold zeros448
  rw [List.getElem?_replicate, if_pos h2]
theorem emptyPage_low (n : Nat) : pageLow (emptyPage n) = 448 := by
  unfold emptyPage
  have h1 : 8 + (leB n 4).length ≤ zeros448.length := by rw [leB_length, zeros448_len]; omega
  have h3 : 14 + (leB 448 2).length ≤ (layN zeros448 8 (leB n 4)).length := by rw [layN_length _ _ _ h1, leB_length, zeros448_len]; omega
  unfold pageLow pageN
  rw [layN_same h3 rfl (by rw [leB_length]), leN_leB 448 2 2 (Nat.le_refl _)]
theorem emptyPage_number (n : Nat) (hn : n < 4294967296) : pageNumber (emptyPage n) = n := by
  unfold emptyPage
  have h1 : 8 + (leB n 4).length ≤ zeros448.length := by rw [leB_length, zeros448_len]; omega
  have h3 : 14 + (leB 448 2).length ≤ (layN zeros448 8 (leB n 4)).length := by rw [layN_length _ _ _ h1, leB_length, zeros448_len]; omega
  unfold pageNumber
  rw [pageN_apart h3 (.inl (by omega))]
  unfold pageN
  rw [layN_same h1 rfl (by rw [leB_length]), leN_leB n 4 4 (Nat.le_refl _)]
  exact Nat.mod_eq_of_lt hn
theorem emptyPage_lsn (n : Nat) : pageLSN (emptyPage n) = 0 := by
  unfold emptyPage
  have h1 : 8 + (leB n 4).length ≤ zeros448.length := by rw [leB_length, zeros448_len]; omega
  have h3 : 14 + (leB 448 2).length ≤ (layN zeros448 8 (leB n 4)).length := by rw [layN_length _ _ _ h1, leB_length, zeros448_len]; omega
  unfold pageLSN
  rw [pageN_apart h3 (.inl (by omega)), pageN_apart h1 (.inl (by omega))]
  decide +kernel
theorem emptyPage_sound (n : Nat) (hn : n < 4294967296) : Sound (emptyPage n) := by
  have hc := empty_count n hn
  have hl : ∀ t, pLen (emptyPage n) t = 0 := fun t => pLen_out (by rw [hc]; exact Nat.zero_le _)
  have ho : ∀ t, pOff (emptyPage n) t = 0 := fun t => pOff_out (by rw [hc]; exact Nat.zero_le _)
  refine ⟨⟨emptyPage_len n, emptyPage_isB n, ⟨empty_fit n hn, fun s hs => by rw [hl] at hs; omega⟩, fun s _ => ho s, fun s => by rw [hl]; omega, fun s t _ hs => by rw [hl] at hs; omega, fun i h1 h2 _ => emptyPage_get n i (by omega) h2⟩, ?_⟩
  rw [hc, emptyPage_low]; rfl
/-- the place in the log written into the head -/
theorem Sound.stamp {P : List Int} (h : Sound P) (n : Nat) (hn : n < 2 ^ 64) : Sound (layN P 0 (leB n 8)) ∧ pageNumber (layN P 0 (leB n 8)) = pageNumber P ∧ pageLSN (layN P 0 (leB n 8)) = n := by
  have hlen := h.tidy.len
  have h1 : 0 + (leB n 8).length ≤ P.length := by rw [leB_length]; omega
  have hap : ∀ a k, 8 ≤ a → pageN (layN P 0 (leB n 8)) a k = pageN P a k := fun a k h => pageN_apart h1 (.inr (by rw [leB_length]; omega))
  have hc : pageCount (layN P 0 (leB n 8)) = pageCount P := hap _ _ (by omega)
  have ho : ∀ t, pOff (layN P 0 (leB n 8)) t = pOff P t := fun t => by
    unfold pOff; rw [hc, hap _ _ (by omega)]
  have hl : ∀ t, pLen (layN P 0 (leB n 8)) t = pLen P t := fun t => by
    unfold pLen; rw [hc, hap _ _ (by omega)]
  refine ⟨⟨⟨by rw [layN_length _ _ _ h1, hlen], layN_isB h.tidy.isB (leB_isB _ _) _, ⟨⟨by rw [hc]; exact h.tidy.lies.fit.count, fun t => by rw [ho, hl]; exact h.tidy.lies.fit.ends t⟩, fun t => by rw [ho, hl, hc]; exact h.tidy.lies.behind t⟩, fun t => by rw [ho, hl]; exact h.tidy.none t, fun t => by rw [hl]; exact h.tidy.small t, fun t u htu => by rw [hl, hl, ho, ho]; exact h.tidy.apart t u htu, fun i h2 h3 hz => ?_⟩, ?_⟩, hap _ _ (by omega), ?_⟩
  · rw [hc] at h2
    rw [layN_get h1, if_neg (by rw [leB_length]; omega)]
    exact h.tidy.zero i h2 h3 (fun t => by have := hz t; rw [ho, hl] at this; exact this)
  · rw [headTo_congr hl ho, hc, h.head]
    have : pageLow (layN P 0 (leB n 8)) = pageLow P := hap _ _ (by omega)
    rw [this]
  · unfold pageLSN pageN
    rw [layN_same h1 rfl (by rw [leB_length]), leN_leB n 8 8 (Nat.le_refl _)]
    exact Nat.mod_eq_of_lt hn
/-! ### how much is used -/
theorem usedTo_congr {P Q : List Int} (hl : ∀ s, pLen Q s = pLen P s) (q : Nat) : usedTo Q q = usedTo P q := by
  induction q with
  | zero => rfl
  | succ q ih => show usedTo Q q + pLen Q q = usedTo P q + pLen P q; rw [ih, hl]
theorem usedTo_more {P : List Int} {c : Nat} (h : ∀ s, c ≤ s → pLen P s = 0) (d : Nat) : usedTo P (c + d) = usedTo P c := by
  induction d with
  | zero => rfl
  | succ d ih => show usedTo P (c + d) + pLen P (c + d) = _; rw [ih, h _ (by omega)]; omega
theorem usedTo_one {P Q : List Int} {s : Nat} (hl : ∀ t, pLen Q t = if t = s then 0 else pLen P t) (q : Nat) : usedTo Q q + (if s < q then pLen P s else 0) = usedTo P q := by
  induction q with
  | zero => rfl
  | succ q ih =>
    show usedTo Q q + pLen Q q + _ = usedTo P q + pLen P q
    rw [hl]
    by_cases e : q = s
    · subst e
      rw [if_pos rfl, if_pos (by omega)]
      rw [if_neg (by omega)] at ih
      omega
    · rw [if_neg e]
      by_cases e2 : s < q
      · rw [if_pos e2] at ih
        rw [if_pos (by omega)]; omega
      · rw [if_neg e2] at ih
        rw [if_neg (by omega)]; omega
theorem pUsed_clear {P Q : List Int} {s : Nat} (h : Cleared P Q s) (hs : 0 < pLen P s) : pUsed Q + pLen P s = pUsed P := by
  have hsc : s < pageCount P := by
    rcases Nat.lt_or_ge s (pageCount P) with h1 | h1
    · exact h1
    · rw [pLen_out h1] at hs; omega
  have h1 := usedTo_one h.plen (pageCount P)
  rw [if_pos hsc] at h1
  have h2 := usedTo_more (P := Q) (c := pageCount Q) (fun t ht => pLen_out ht) (pageCount P - pageCount Q)
  rw [show pageCount Q + (pageCount P - pageCount Q) = pageCount P by have := h.count; omega] at h2
  unfold pUsed
  omega
end Go.Proofs.YtgjoahddbieliaaGreat

/-
  Pages: compact.
-/
namespace Go.Proofs.YtgjoahddbieliaaGreat
open Go.RowKit
set_option linter.unusedVariables false

def tAll : Tag := (93, 0)
theorem over_zeros (P : List Int) (o n : Nat) : over (u8s P) o (u8s (List.replicate n 0)) = u8s (layN P o (List.replicate n 0)) := by
  have := over_layN P (List.replicate n 0) o n (by rw [List.length_replicate])
  rw [List.take_of_length_le (by rw [List.length_replicate]; exact Nat.le_refl _)] at this
  exact this
theorem getD_append_lt {l : List (List Int)} {x : List Int} {j : Nat} (h : j < l.length) : (l ++ [x]).getD j [] = l.getD j [] := by
  rw [List.getD_eq_getElem?_getD, List.getD_eq_getElem?_getD, List.getElem?_append_left h]
theorem getD_append_eq {l : List (List Int)} {x : List Int} {j : Nat} (h : j = l.length) : (l ++ [x]).getD j [] = x := by
  subst h
  rw [List.getD_eq_getElem?_getD, List.getElem?_append_right (Nat.le_refl _), Nat.sub_self]; rfl
set_option maxHeartbeats 2000000 in
set_option maxRecDepth 100000 in
theorem pagecompact_any {w : World} {τ : Tags} {g : Tag} {b : Nat} {P : List Int} (hg : g ≠ tOut ∧ g ≠ tData ∧ g ≠ tAll) (h : PageAt w τ g b P) (ht : Tidy P) (hroom : 16 + 4 * pageCount P + pUsed P ≤ 448) :
    Calls Tryz.prog 191 #[.pointer (some ⟨b, 0, none⟩)] w fun e w' => e = .returned (.tuple #[]) ∧ ∃ Q τ', PageAt w' τ' g b Q ∧ Packed P Q ∧ Step w τ w' τ' (fun t => t = g) := by
  have h1 := pageslots_any h ht.lies.fit
  have hc := ht.lies.fit.count
  have hmem : ∀ i, i < (pSlots P).length → (pSlots P).getD i 0 < pageCount P ∧ 0 < pLen P ((pSlots P).getD i 0) := fun i hi => by
    have hm : (pSlots P).getD i 0 ∈ pSlots P := by
      rw [List.getD_eq_getElem?_getD, List.getElem?_eq_getElem hi]
      exact List.getElem_mem _
    exact slotsTo_mem hm
  have hwp : ∀ i, i ≤ (pSlots P).length → Wipes P (wipeTo P (pSlots P) i) := fun i hi => wipeTo_is ht pSlots_pos i hi
  have hws : ∀ i, wipeTo P (pSlots P) (i + 1) = layN (wipeTo P (pSlots P) i) (pOff P ((pSlots P).getD i 0)) (List.replicate (pLen P ((pSlots P).getD i 0)) 0) := fun i => rfl
  have hw0 : wipeTo P (pSlots P) 0 = P := rfl
  have hends := ht.lies.fit.ends
  have hpk0 := Packs.start ht
  have hpkn : ∀ (R m : List Int) (i : Nat), i < (pSlots P).length → Packs P R (pSlots P) i → m.length = pLen P ((pSlots P).getD i 0) → IsB m → Packs P (pList (layN R (448 - sumTo P (pSlots P) (i + 1)) m) ((pSlots P).getD i 0) (448 - sumTo P (pSlots P) (i + 1)) m.length) (pSlots P) (i + 1) :=
    fun R m i hi hr hm hB => hr.next ht hroom hi rfl rfl hm hB
  have hpkd : ∀ R, Packs P R (pSlots P) (pSlots P).length → Tidy R ∧ Packed P (pSettle R) := fun R hr => ⟨hr.tidy ht hroom, hr.done ht hroom⟩
  have hsum : ∀ i, i < (pSlots P).length → sumTo P (pSlots P) (i + 1) = sumTo P (pSlots P) i + pLen P ((pSlots P).getD i 0) ∧ 16 + 4 * pageCount P + sumTo P (pSlots P) (i + 1) ≤ 448 := fun i hi => by
    refine ⟨rfl, ?_⟩
    have h1 : sumTo P (pSlots P) (i + 1) ≤ sumTo P (pSlots P) (pSlots P).length := sumTo_mono P _ hi
    have h2 : sumTo P (pSlots P) (pSlots P).length = pUsed P := sumTo_used P _
    omega
  have hsl := slotsTo_length P (pageCount P)
  have hsl2 : (pSlots P).length ≤ 40 := Nat.le_trans hsl hc
  generalize hl : pSlots P = l at *
  generalize hn : l.length = n at *
  have H1 := Lib.hid h1
  have Hmem := Lib.hid hmem
  have Hwp := Lib.hid hwp
  have Hws := Lib.hid hws
  have Hends := Lib.hid hends
  have Hpk0 := Lib.hid hpk0
  have Hpkn := Lib.hid hpkn
  have Hpkd := Lib.hid hpkd
  have Hsum := Lib.hid hsum
  have Hn := Lib.hid hn
  have Hl := Lib.hid hl
  have Hw0 := Lib.hid hw0
  clear h1 hmem hwp hws hends hpk0 hpkn hpkd hsum hn hl hw0
  have H_h := Lib.hid h
  have Ht := Lib.hid ht
  clear h ht hroom hsl
  obtain ⟨hg1, hg2, hg3⟩ := hg
  go_enter Tryz.func191, Tryz.ntmps191
  go_wp2_with fail
  refine H1.out.mono ?_
  rintro e w1 ⟨v1, τ1, rfl, hni, hs1⟩
  obtain ⟨p1, c1, hv1, hmx, -⟩ := hni.buf.read
  subst hv1
  rw [Hn.out] at hmx
  have hnl := Hn.out
  have Hni := Lib.hid hni
  have Hs1 := Lib.hid hs1
  clear hni hs1
  clear H1
  rw [hnl]
  clear hnl
  go_wp2_with fail
  go_loopw [3, 15] (fun m v wr => ∃ (i : Nat) (τr : Tags) (ds : List (List Int)), i ≤ n ∧ v = .int .i64 (i : Int) ∧ ds.length = i ∧ (∀ j, j < i → (ds.getD j []).length = pLen P (l.getD j 0)) ∧ NV w1.heap.size wr τr tAll m ds ∧ PageAt wr τr g b (wipeTo P l i) ∧ Step w1 τ1 wr τr (fun t => t = g)) (fun _ v _ => n - (intOf v).toNat)
  case atStart => exact ⟨0, τ1, [], Nat.zero_le _, rfl, rfl, fun j hj => by omega, NV.nil _ _ _ _, by rw [Hw0.out]; exact H_h.out.step Hs1.out (fun h => h), Step.refl _ _ _⟩
  case round =>
    obtain ⟨i, τr, ds, hi, rfl, hdl, hdn, hnv, hpg, hst⟩ := hrel
    by_cases hlt : i < n
    · obtain ⟨p', c', hv', _, hrd⟩ := (Hni.out.step hst (fun e => hg1 e.symm)).buf.read
      rw [Hn.out] at hv'
      cases hv'
      obtain ⟨br, rfl, hcell⟩ := hrd i (by rw [Hn.out]; exact hlt)
      clear hrd
      obtain ⟨hs1', hs2'⟩ := Hmem.out i hlt
      have hw := Hwp.out i hi
      have hwn := Hws.out i
      have hen := Hends.out (l.getD i 0)
      have hget := pageslot_get hpg hw.lies.fit (l.getD i 0) (by omega) tData
      have hdlen := pData_length hw.lies.fit hw.len (l.getD i 0)
      have hpl := hw.plen (l.getD i 0)
      have hpo := hw.off (l.getD i 0)
      have hdat := fun (W : World) (T : Tags) (hp : PageAt W T g b (wipeTo P l i)) => pagedata_any hp hw.lies.fit (l.getD i 0) (by omega)
      rw [hpl] at hget hdlen
      simp only [hpl, hpo] at hdat
      have hnx := Hwp.out (i + 1) hlt
      generalize hQ : wipeTo P l i = Q at *
      generalize hQn : wipeTo P l (i + 1) = Qn at *
      generalize hs : l.getD i 0 = s at *
      generalize pData Q s = x at *
      generalize hln : pLen P s = len at *
      generalize pOff P s = o at *
      have hsz : ds.length ≤ 1000000000 := by omega
      have hov := over_zeros Q o len
      rw [← hwn] at hov
      obtain ⟨pm, cm, rfl⟩ := hnv.val
      have hln0 : ¬ len = 0 := by omega
      have hln1 : ¬ (len : Int) = 0 := by omega
      have Hget := Lib.hid hget
      have Hdat := Lib.hid hdat
      have Hnv := Lib.hid hnv
      have Hpg := Lib.hid hpg
      have Hst := Lib.hid hst
      have Hdlen := Lib.hid hdlen
      have Hsz := Lib.hid hsz
      have Hov := Lib.hid hov
      have Hnx := Lib.hid hnx
      have Hdn := Lib.hid hdn
      have Hdl := Lib.hid hdl
      clear hget hdat hnv hpg hst hdlen hsz hov hnx hdn hdl
      clear hw hwn hpl hpo
      go_wp2_with fail
      refine Hget.out.mono ?_
      rintro e w2 ⟨u, τ2, rfl, hbu, hs2⟩
      obtain ⟨pu, cu, rfl, -, -⟩ := hbu.any
      have hst2 := Hst.out.trans (hs2.mono (T := fun t => t = g) (fun _ h => h.elim))
      have hnv2 := Hnv.out.step hs2 (fun h => h) (fun h => h)
      have hpg2 := Hpg.out.step hs2 (fun h => h)
      have Hbu := Lib.hid hbu
      have Hst2 := Lib.hid hst2
      have Hnv2 := Lib.hid hnv2
      have Hpg2 := Lib.hid hpg2
      clear hbu hst2 hnv2 hpg2
      clear hs2 Hget
      go_wp2_with (at_builtin; refine wpList_append_nv1 Hst2.out (by decide) Hnv2.out Hbu.out Hsz.out rfl rfl _ _ rfl rfl rfl ?_; intro v3 w3 τ3 hnv3 hst3 hs3; have hpg3 := Hpg2.out.step hs3 (fun h => hg3 h); have hd3 := Hdat.out _ _ hpg3; have Hnv3 := Lib.hid hnv3; have Hst3 := Lib.hid hst3; have Hpg3 := Lib.hid hpg3; have Hd3 := Lib.hid hd3; clear hnv3 hst3 hpg3 hd3; clear hs3)
      refine Hd3.out.mono ?_
      rintro e w4 ⟨o', rfl, ho', rfl⟩
      obtain rfl := ho' hs2'
      have hown3 := Hpg3.out.own
      have hrun := fun (c : Nat) (ty : TypeId) => run_clear_own hown3 hs2' (off := o') (by rw [u8s_length, Hpg3.out.len]; exact hen) (c := c) ty
      rw [Hov.out] at hrun
      have Hown3 := Lib.hid hown3
      clear hown3
      go_wp2_with fail
      go_round
      case rel =>
        have hq := (Step.refl w3 τ3 (fun t => t = g)).row Hown3.out.tag (.inl rfl) (u8s Qn).toArray
        refine ⟨i + 1, τ3, ds ++ [x], by omega, by simp, by rw [List.length_append, Hdl.out]; rfl, fun j hj => ?_, Hnv3.out.step hq (fun h => hg3 h.symm) (fun h => hg2 h.symm), ?_, Hst3.out.trans hq⟩
        · by_cases e : j < ds.length
          · rw [getD_append_lt e]; exact Hdn.out j (by rw [← Hdl.out]; exact e)
          · have ej : j = i := by have := Hdl.out; omega
            rw [getD_append_eq (by have := Hdl.out; omega), ej, hs, hln]; exact Hdlen.out
        · rw [hQn]
          exact ⟨Hown3.out.row' _, Hnx.out.isB, Hnx.out.len⟩
      case measure => simp [intOf]; omega
    · have hin : i = n := by omega
      subst hin
      have Hnv := Lib.hid hnv
      have Hpg := Lib.hid hpg
      have Hst := Lib.hid hst
      have Hdn := Lib.hid hdn
      have Hdl := Lib.hid hdl
      clear hnv hpg hst hdn hdl
      generalize hwr : wr = w2 at *
      generalize hτr : τr = τ2 at *
      obtain ⟨pm, cm, rfl⟩ := Hnv.out.val
      rw [Hdl.out]
      go_wp2_with fail
      go_loopw [8, 35] (fun a v wr => ∃ (k : Nat) (τr : Tags) (R : List Int), k ≤ i ∧ v = .int .i64 (k : Int) ∧ a = .int .i64 ((448 - sumTo P l k : Nat) : Int) ∧ Packs P R l k ∧ PageAt wr τr g b R ∧ Step w2 τ2 wr τr (fun t => t = g)) (fun _ v _ => i - (intOf v).toNat)
      case atStart => exact ⟨0, τ2, _, Nat.zero_le _, rfl, rfl, Hpk0.out, Hpg.out, Step.refl _ _ _⟩
      case round =>
        obtain ⟨k, τr, R, hk, rfl, rfl, hpk, hpg, hst2⟩ := hrel
        by_cases hlt : k < i
        · obtain ⟨p', c', hv', _, hrd⟩ := ((Hni.out.step Hst.out (fun e => hg1 e.symm)).step hst2 (fun e => hg1 e.symm)).buf.read
          rw [Hn.out] at hv'
          cases hv'
          obtain ⟨br, rfl, hcell⟩ := hrd k (by rw [Hn.out]; exact hlt)
          clear hrd
          obtain ⟨pa, ca, hva, -, hra⟩ := (Hnv.out.step hst2 (fun e => hg3 e.symm) (fun e => hg2 e.symm)).read
          cases hva
          obtain ⟨ba, u, rfl, hcu, hbu⟩ := hra k (by rw [Hdl.out]; exact hlt)
          clear hra
          obtain ⟨pu, cu, rfl, -, -⟩ := hbu.any
          have hml := Hdn.out k hlt
          have hBm := hbu.isB
          obtain ⟨hs1', hs2'⟩ := Hmem.out k hlt
          obtain ⟨hsm1, hsm2⟩ := Hsum.out k hlt
          have hpkn := Hpkn.out R (ds.getD k []) k hlt hpk hml hBm
          rw [hml] at hcu hbu hpkn
          generalize hm : ds.getD k [] = m at *
          generalize hs : l.getD k 0 = s at *
          have hlen1 := hpk.len
          have hsml : pLen P s ≤ 64 := Ht.out.small s
          generalize hln : pLen P s = len at *
          generalize hx0 : 448 - sumTo P l k = x at *
          generalize ha0 : 448 - sumTo P l (k + 1) = a at *
          have hax : ((x : Nat) : Int) - (len : Int) = ((a : Nat) : Int) := by omega
          have ha448 : a + len ≤ 448 := by omega
          have hle : a ≤ 448 := by omega
          have hlei : (a : Int) ≤ 448 := by omega
          have hne : ¬ a = 448 := by omega
          have hne' : ¬ 448 = a := by omega
          have hmin : len = Nat.min m.length (448 - a) := by rw [hml]; exact (Nat.min_eq_left (by omega)).symm
          have hft : a + len ≤ (u8s R).length := by rw [u8s_length, hpg.len]; exact ha448
          have hst0 := (Step.refl wr τr (fun t => t = g)).drew
          have ho0 := hpg.own.drew
          have hb0 := hbu.drew
          have hs40 : s ≤ 107 := by omega
          have hdl := Hdl.out
          have Hpkn := Lib.hid hpkn
          have Hml := Lib.hid hml
          have HBm := Lib.hid hBm
          have Hpg := Lib.hid hpg
          have Hst2 := Lib.hid hst2
          have Hmin := Lib.hid hmin
          have Hft := Lib.hid hft
          have Hst0 := Lib.hid hst0
          have Ho0 := Lib.hid ho0
          have Hb0 := Lib.hid hb0
          have Hlen1 := Lib.hid hlen1
          have Hm := Lib.hid hm
          have Hs := Lib.hid hs
          have Hln := Lib.hid hln
          have Hx0 := Lib.hid hx0
          have Ha0 := Lib.hid ha0
          clear hpkn hml hBm hpg hst2 hmin hft hst0 ho0 hb0 hlen1 hm hs hln hx0 ha0
          clear hpk hsm1 hsm2 hs1' hs2' hbu
          go_wp2_with fail
          go_region_law (first
            | (refine step_copy_ob Hst0.out Ho0.out (.inl rfl) Hb0.out len Hmin.out Hft.out rfl _ _ rfl rfl rfl ?_
               intro w3 ho3 hs3 hW3
               rw [over_layN _ _ _ _ Hml.out.symm] at ho3
               have hl3 := pagelist_any hs3 (.inl rfl) ⟨ho3, layN_isB Hpg.out.isB HBm.out a, by rw [layN_length _ _ _ (by rw [Hml.out, Hlen1.out]; exact ha448)]; exact Hlen1.out⟩ s a len hs40 (by omega) (by omega)
               have Hl3 := Lib.hid hl3
               clear hl3
               clear ho3 hs3 hW3)
            | (go_simp
               go_at_call 192
               refine Hl3.out.mono ?_
               rintro e w4 ⟨rfl, τ4, hp4, hs4, -⟩
               have Hp4 := Lib.hid hp4
               have Hs4 := Lib.hid hs4
               clear hp4 hs4))
          go_wp2_with fail
          go_round
          case rel => exact ⟨k + 1, τ4, _, by omega, by simp, by rw [Ha0.out], Hpkn.out, Hp4.out, Hst2.out.trans Hs4.out⟩
          case measure => simp [intOf]; omega
        · have hki : k = i := by omega
          subst hki
          obtain ⟨htr, hpd⟩ := Hpkd.out R hpk
          have hp3 := pagesettle_any (Step.refl wr τr (fun t => t = g)) (.inl rfl) hg1 hpg htr.lies.fit
          clear htr
          have Hp3 := Lib.hid hp3
          have Hpd := Lib.hid hpd
          have Hst2 := Lib.hid hst2
          clear hp3 hpd hst2
          go_wp2_with fail
          refine Hp3.out.mono ?_
          rintro e w4 ⟨rfl, τ4, hp4, hs4, -⟩
          have Hp4 := Lib.hid hp4
          have Hs4 := Lib.hid hs4
          clear hp4 hs4
          go_wp2_with fail
          go_returns
          exact ⟨rfl, _, τ4, Hp4.out, Hpd.out, ((Hs1.out.mono (T := fun t => t = g) (fun _ h => h.elim)).trans Hst.out).trans (Hst2.out.trans Hs4.out)⟩
end Go.Proofs.YtgjoahddbieliaaGreat
