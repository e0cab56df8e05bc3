/-
  Pages: data that lie apart; the head that fits them; settle makes it (plain).
-/
import Derived.Test.YtgjoahddbieliaaGreatMInts
namespace Go.Proofs.YtgjoahddbieliaaGreat
open Go.RowKit
set_option linter.unusedVariables false

/-- count and low, as the first q slots give them -/
def headTo (P : List Int) : Nat → Nat × Nat
  | 0 => (0, 448)
  | q + 1 => if 0 < pLen P q then (q + 1, min (headTo P q).2 (pOff P q)) else headTo P q
theorem headTo_congr {P Q : List Int} (hl : ∀ s, pLen Q s = pLen P s) (ho : ∀ s, pOff Q s = pOff P s) (q : Nat) : headTo Q q = headTo P q := by
  induction q with
  | zero => rfl
  | succ q ih =>
    show (if 0 < pLen Q q then (q + 1, min (headTo Q q).2 (pOff Q q)) else headTo Q q) = (if 0 < pLen P q then (q + 1, min (headTo P q).2 (pOff P q)) else headTo P q)
    rw [ih, hl, ho]
theorem setTo_append (P : List Int) (l m : List Nat) (i : Nat) (hi : i ≤ l.length) : setTo P (l ++ m) i = setTo P l i := by
  induction i with
  | zero => rfl
  | succ i ih =>
    have e : (l ++ m).getD i 0 = l.getD i 0 := by
      rw [List.getD_eq_getElem?_getD, List.getD_eq_getElem?_getD, List.getElem?_append_left (by omega)]
    show ((l ++ m).getD i 0 + 1, min (setTo P (l ++ m) i).2 (pOff P ((l ++ m).getD i 0))) = (l.getD i 0 + 1, min (setTo P l i).2 (pOff P (l.getD i 0)))
    rw [e, ih (by omega)]
theorem setTo_head (P : List Int) (q : Nat) : setTo P (slotsTo P q) (slotsTo P q).length = headTo P q := by
  induction q with
  | zero => rfl
  | succ q ih =>
    rw [slotsTo_succ]
    by_cases h : 0 < pLen P q
    · rw [if_pos h, List.length_append]
      show ((slotsTo P q ++ [q]).getD (slotsTo P q).length 0 + 1, min (setTo P (slotsTo P q ++ [q]) (slotsTo P q).length).2 (pOff P ((slotsTo P q ++ [q]).getD (slotsTo P q).length 0))) = if 0 < pLen P q then (q + 1, min (headTo P q).2 (pOff P q)) else headTo P q
      have e : (slotsTo P q ++ [q]).getD (slotsTo P q).length 0 = q := by
        rw [List.getD_eq_getElem?_getD, List.getElem?_append_right (Nat.le_refl _)]; simp
      rw [e, setTo_append _ _ _ _ (Nat.le_refl _), ih, if_pos h]
    · rw [if_neg h, List.append_nil, ih]
      show _ = if 0 < pLen P q then (q + 1, min (headTo P q).2 (pOff P q)) else headTo P q
      rw [if_neg h]
structure HeadIs (P : List Int) (q : Nat) (c m : Nat) : Prop where
  le : c ≤ q
  all : ∀ s, s < q → 0 < pLen P s → s < c
  last : c = 0 ∨ 0 < pLen P (c - 1)
  low : ∀ s, s < q → 0 < pLen P s → m ≤ pOff P s
  is : m = 448 ∨ ∃ s, s < q ∧ 0 < pLen P s ∧ m = pOff P s
  top : m ≤ 448
theorem headTo_is (P : List Int) (q : Nat) : HeadIs P q (headTo P q).1 (headTo P q).2 := by
  induction q with
  | zero => exact ⟨Nat.le_refl _, fun s h => by omega, .inl rfl, fun s h => by omega, .inl rfl, Nat.le_refl _⟩
  | succ q ih =>
    have e : headTo P (q + 1) = if 0 < pLen P q then (q + 1, min (headTo P q).2 (pOff P q)) else headTo P q := rfl
    by_cases h : 0 < pLen P q
    · rw [e, if_pos h]
      refine ⟨Nat.le_refl _, fun s hs _ => hs, .inr (by simpa using h), fun s hs hp => ?_, ?_, ?_⟩
      · show min (headTo P q).2 (pOff P q) ≤ _
        by_cases hq : s = q
        · subst hq; exact Nat.min_le_right _ _
        · exact Nat.le_trans (Nat.min_le_left _ _) (ih.low s (by omega) hp)
      · show min (headTo P q).2 (pOff P q) = 448 ∨ _
        rcases Nat.le_total (headTo P q).2 (pOff P q) with hm | hm
        · rw [Nat.min_eq_left hm]
          rcases ih.is with h1 | ⟨s, h1, h2, h3⟩
          · exact .inl h1
          · exact .inr ⟨s, by omega, h2, h3⟩
        · rw [Nat.min_eq_right hm]
          exact .inr ⟨q, by omega, h, rfl⟩
      · exact Nat.le_trans (Nat.min_le_left _ _) ih.top
    · rw [e, if_neg h]
      refine ⟨Nat.le_succ_of_le ih.le, fun s hs hp => ?_, ih.last, fun s hs hp => ?_, ?_, ih.top⟩
      · have : s ≠ q := fun e => h (e ▸ hp)
        exact ih.all s (by omega) hp
      · have : s ≠ q := fun e => h (e ▸ hp)
        exact ih.low s (by omega) hp
      · rcases ih.is with h1 | ⟨s, h1, h2, h3⟩
        · exact .inl h1
        · exact .inr ⟨s, by omega, h2, h3⟩
theorem headTo_more (P : List Int) (c : Nat) (h : ∀ s, c ≤ s → ¬ 0 < pLen P s) (d : Nat) : headTo P (c + d) = headTo P c := by
  induction d with
  | zero => rfl
  | succ d ih =>
    show (if 0 < pLen P (c + d) then (c + d + 1, min (headTo P (c + d)).2 (pOff P (c + d))) else headTo P (c + d)) = _
    rw [if_neg (h _ (by omega)), ih]
theorem pLen_out {P : List Int} {s : Nat} (h : pageCount P ≤ s) : pLen P s = 0 := if_neg (by omega)
theorem pOff_out {P : List Int} {s : Nat} (h : pageCount P ≤ s) : pOff P s = 0 := if_neg (by omega)

/-- data that lie apart, noughts elsewhere behind the list -/
structure Tidy (P : List Int) : Prop where
  len : P.length = 448
  isB : IsB P
  lies : Lies P
  none : ∀ s, pLen P s = 0 → pOff P s = 0
  small : ∀ s, pLen P s ≤ 64
  apart : ∀ s t, s ≠ t → 0 < pLen P s → 0 < pLen P t → pOff P s + pLen P s ≤ pOff P t ∨ pOff P t + pLen P t ≤ pOff P s
  zero : ∀ i, 16 + 4 * pageCount P ≤ i → i < 448 → (∀ s, i < pOff P s ∨ pOff P s + pLen P s ≤ i) → P[i]? = some 0
/-- and the head fits them -/
structure Sound (P : List Int) : Prop where
  tidy : Tidy P
  head : headTo P (pageCount P) = (pageCount P, pageLow P)
theorem pSettle_eq (P : List Int) : pSettle P = layN (layN P 12 (leB (headTo P (pageCount P)).1 2)) 14 (leB (headTo P (pageCount P)).2 2) := by
  unfold pSettle pSlots
  rw [setTo_head]
theorem leN_zero {l : List Int} (h : IsB l) (k : Nat) (hz : leN l k = 0) (j : Nat) (hj : j < k) : l.getD j 0 = 0 := by
  induction k with
  | zero => omega
  | succ k ih =>
    have e : leN l (k + 1) = leN l k + (l.getD k 0).toNat * 2 ^ (8 * k) := rfl
    by_cases hk : j = k
    · subst hk
      have h1 : (l.getD j 0).toNat * 2 ^ (8 * j) = 0 := by omega
      have h2 : 0 < 2 ^ (8 * j) := Nat.pow_pos (by decide)
      have h3 : (l.getD j 0).toNat = 0 := by
        rcases Nat.mul_eq_zero.1 h1 with h | h
        · exact h
        · omega
      have := h.at j
      omega
    · exact ih (by omega) (by omega)
theorem pageN_zero {P : List Int} (h : IsB P) {a k : Nat} (hz : pageN P a k = 0) (j : Nat) (hj : j < k) (hl : a + j < P.length) : P[a + j]? = some 0 := by
  have h1 := leN_zero (l := (P.drop a).take k) (fun x hx => h x (List.mem_of_mem_drop (List.mem_of_mem_take hx))) k hz j hj
  rw [List.getD_eq_getElem?_getD, List.getElem?_take, if_pos hj, List.getElem?_drop, List.getElem?_eq_getElem hl] at h1
  rw [List.getElem?_eq_getElem hl]
  exact congrArg some h1
/-- what settle leaves as it was -/
structure Settled (P Q : List Int) : Prop where
  len : Q.length = 448
  isB : IsB Q
  off : ∀ s, pOff Q s = pOff P s
  plen : ∀ s, pLen Q s = pLen P s
  num : pageNumber Q = pageNumber P
  lsn : pageLSN Q = pageLSN P
  count : pageCount Q = (headTo P (pageCount P)).1
  low : pageLow Q = (headTo P (pageCount P)).2
  get : ∀ i, 16 ≤ i → Q[i]? = P[i]?
theorem pSettle_head {P : List Int} (hl : P.length = 448) (hB : IsB P) (hc : pageCount P ≤ 40) (hn : ∀ s, pLen P s = 0 → pOff P s = 0) : Settled P (pSettle P) := by
  have hi := headTo_is P (pageCount P)
  rw [pSettle_eq]
  generalize hce : (headTo P (pageCount P)).1 = c at *
  generalize hme : (headTo P (pageCount P)).2 = m at *
  have h1 : 12 + (leB c 2).length ≤ P.length := by rw [leB_length]; omega
  have h2 : 14 + (leB m 2).length ≤ (layN P 12 (leB c 2)).length := by rw [layN_length _ _ _ h1, leB_length]; omega
  have hap : ∀ a k, a + k ≤ 12 ∨ 16 ≤ a → pageN (layN (layN P 12 (leB c 2)) 14 (leB m 2)) a k = pageN P a k := fun a k h => by
    rw [pageN_apart h2 (by rw [leB_length]; omega), pageN_apart h1 (by rw [leB_length]; omega)]
  have hcl := hi.le
  have hct : pageCount (layN (layN P 12 (leB c 2)) 14 (leB m 2)) = c := by
    unfold pageCount
    rw [pageN_apart h2 (.inl (Nat.le_refl _))]
    unfold pageN
    rw [layN_same h1 rfl (by rw [leB_length]), leN_leB c 2 2 (Nat.le_refl _)]
    exact Nat.mod_eq_of_lt (by omega)
  refine ⟨by rw [layN_length _ _ _ h2, layN_length _ _ _ h1, hl], layN_isB (layN_isB hB (leB_isB _ _) _) (leB_isB _ _) _, fun s => ?_, fun s => ?_, hap _ _ (.inl (by omega)), hap _ _ (.inl (by omega)), hct.trans hce.symm, ?_, fun i hi => ?_⟩
  · unfold pOff
    rw [hct]
    by_cases hs : s < c
    · rw [if_pos hs, if_pos (by omega)]
      exact hap _ _ (.inr (by omega))
    · rw [if_neg hs]
      by_cases hq : s < pageCount P
      · rw [if_pos hq]
        have h0 : pLen P s = 0 := by
          rcases Nat.eq_zero_or_pos (pLen P s) with h | h
          · exact h
          · exact absurd (hi.all s hq h) hs
        have := hn s h0
        unfold pOff at this
        rw [if_pos hq] at this
        exact this.symm
      · rw [if_neg hq]
  · have e : pLen P s = if s < pageCount P then pageN P (18 + 4 * s) 2 else 0 := rfl
    by_cases hs : s < c
    · rw [e, if_pos (by omega)]
      unfold pLen
      rw [hct, if_pos hs]
      exact hap _ _ (.inr (by omega))
    · unfold pLen
      rw [hct, if_neg hs]
      by_cases hq : s < pageCount P
      · rcases Nat.eq_zero_or_pos (pLen P s) with h | h
        · exact h.symm
        · exact absurd (hi.all s hq h) hs
      · rw [if_neg hq]
  · rw [hme]
    unfold pageLow pageN
    rw [layN_same h2 rfl (by rw [leB_length]), leN_leB m 2 2 (Nat.le_refl _)]
    have := hi.top
    exact Nat.mod_eq_of_lt (by omega)
  · rw [layN_get h2, if_neg (by rw [leB_length]; omega), layN_get h1, if_neg (by rw [leB_length]; omega)]
theorem Tidy.settle {P : List Int} (h : Tidy P) : Sound (pSettle P) := by
  have hs := pSettle_head h.len h.isB h.lies.fit.count h.none
  have hi := headTo_is P (pageCount P)
  generalize pSettle P = Q at *
  have hcl : pageCount Q ≤ pageCount P := by rw [hs.count]; exact hi.le
  refine ⟨⟨hs.len, hs.isB, ⟨⟨Nat.le_trans hcl h.lies.fit.count, fun s => by rw [hs.off, hs.plen]; exact h.lies.fit.ends s⟩, fun s hp => ?_⟩, fun s => by rw [hs.off, hs.plen]; exact h.none s, fun s => by rw [hs.plen]; exact h.small s, fun s t hst => by rw [hs.off, hs.plen, hs.off, hs.plen]; exact h.apart s t hst, fun i hi1 hi2 hz => ?_⟩, ?_⟩
  · rw [hs.plen] at hp
    rw [hs.off]
    have := h.lies.behind s hp
    omega
  · rw [hs.get i (by omega)]
    by_cases hb : 16 + 4 * pageCount P ≤ i
    · exact h.zero i hb hi2 (fun s => by have := hz s; rw [hs.off, hs.plen] at this; exact this)
    · have hlt : (i - 16) / 4 < pageCount P := by omega
      have hcq : pageCount Q ≤ (i - 16) / 4 := by omega
      have h0 : pLen P ((i - 16) / 4) = 0 := by
        rw [← hs.plen]; exact pLen_out hcq
      have h1 := h.none _ h0
      have e1 : pageN P (16 + 4 * ((i - 16) / 4)) 2 = 0 := by
        unfold pOff at h1; rw [if_pos hlt] at h1; exact h1
      have e2 : pageN P (18 + 4 * ((i - 16) / 4)) 2 = 0 := by
        unfold pLen at h0; rw [if_pos hlt] at h0; exact h0
      have hl := h.len
      by_cases hm : i % 4 < 2
      · have := pageN_zero h.isB e1 (i % 4) hm (by omega)
        rw [show 16 + 4 * ((i - 16) / 4) + i % 4 = i by omega] at this
        exact this
      · have := pageN_zero h.isB e2 (i % 4 - 2) (by omega) (by omega)
        rw [show 18 + 4 * ((i - 16) / 4) + (i % 4 - 2) = i by omega] at this
        exact this
  · rw [headTo_congr hs.plen hs.off, hs.low]
    have hmore := headTo_more P (pageCount Q) (fun s hc => by rw [← hs.plen, pLen_out hc]; omega) (pageCount P - pageCount Q)
    rw [show pageCount Q + (pageCount P - pageCount Q) = pageCount P by omega] at hmore
    rw [← hmore, hs.count]
end Go.Proofs.YtgjoahddbieliaaGreat

/-
  Pages: what the parts of Set leave of a sound page (plain).
-/
namespace Go.Proofs.YtgjoahddbieliaaGreat
open Go.RowKit
set_option linter.unusedVariables false

theorem pList_get {P : List Int} (h : P.length = 448) (s o n : Nat) (hs : s ≤ 107) (i : Nat) (hi : i < 16 + 4 * s ∨ 20 + 4 * s ≤ i) : (pList P s o n)[i]? = P[i]? := by
  have h1 : 16 + 4 * s + (leB o 2).length ≤ P.length := by rw [leB_length]; omega
  have h2 : 18 + 4 * s + (leB n 2).length ≤ (layN P (16 + 4 * s) (leB o 2)).length := by rw [layN_length _ _ _ h1, leB_length]; omega
  unfold pList
  rw [layN_get h2, if_neg (by rw [leB_length]; omega), layN_get h1, if_neg (by rw [leB_length]; omega)]
theorem pList_isB {P : List Int} (h : IsB P) (s o n : Nat) : IsB (pList P s o n) := layN_isB (layN_isB h (leB_isB _ _) _) (leB_isB _ _) _
theorem zeros_isB (n : Nat) : IsB (List.replicate n 0) := fun x hx => by rw [List.eq_of_mem_replicate hx]; exact ⟨by decide, by decide⟩
/-- a slot's data noughts, its entry too -/
def pWipe (P : List Int) (s : Nat) : List Int := pList (layN P (pOff P s) (List.replicate (pLen P s) 0)) s 0 0
theorem pClear_eq (P : List Int) (s : Nat) : pClear P s = pSettle (pWipe P s) := rfl
structure Wiped (P Q : List Int) (s : Nat) : Prop where
  len : Q.length = 448
  isB : IsB Q
  count : pageCount Q = pageCount P
  off : ∀ t, pOff Q t = if t = s then 0 else pOff P t
  plen : ∀ t, pLen Q t = if t = s then 0 else pLen P t
  num : pageNumber Q = pageNumber P
  lsn : pageLSN Q = pageLSN P
  get : ∀ i, 16 + 4 * pageCount P ≤ i → Q[i]? = if pOff P s ≤ i ∧ i < pOff P s + pLen P s then some 0 else P[i]?
theorem Tidy.wipe {P : List Int} (h : Tidy P) {s : Nat} (hp : 0 < pLen P s) : Wiped P (pWipe P s) s := by
  have hsc : s < pageCount P := by
    rcases Nat.lt_or_ge s (pageCount P) with h1 | h1
    · exact h1
    · rw [pLen_out h1] at hp; omega
  have hc := h.lies.fit.count
  have hlay : pOff P s + (List.replicate (pLen P s) (0 : Int)).length ≤ P.length := by rw [List.length_replicate, h.len]; exact h.lies.fit.ends s
  have hb := h.lies.behind s hp
  have hlen := layN_length P (pOff P s) (List.replicate (pLen P s) 0) hlay
  rw [h.len] at hlen
  refine ⟨pList_length hlen s 0 0 (by omega), pList_isB (layN_isB h.isB (zeros_isB _) _) _ _ _, ?_, fun t => ?_, fun t => ?_, ?_, ?_, fun i hi => ?_⟩
  · unfold pWipe; rw [pList_count hlen s 0 0 (by omega), layN_count hlay hb]
  · unfold pWipe
    rw [pList_off hlen s 0 0 (by omega) (by omega), layN_off hlay hb, layN_count hlay hb]
    by_cases e : t = s
    · rw [if_pos ⟨e, hsc⟩, if_pos e]
    · rw [if_neg (fun h => e h.1), if_neg e]
  · unfold pWipe
    rw [pList_len hlen s 0 0 (by omega) (by omega), layN_len hlay hb, layN_count hlay hb]
    by_cases e : t = s
    · rw [if_pos ⟨e, hsc⟩, if_pos e]
    · rw [if_neg (fun h => e h.1), if_neg e]
  · unfold pWipe pageNumber
    rw [pList_apart hlen s 0 0 (by omega) (.inl (by omega)), pageN_apart hlay (.inl (by omega))]
  · unfold pWipe pageLSN
    rw [pList_apart hlen s 0 0 (by omega) (.inl (by omega)), pageN_apart hlay (.inl (by omega))]
  · unfold pWipe
    rw [pList_get hlen s 0 0 (by omega) i (.inr (by omega)), layN_get hlay, List.length_replicate]
    by_cases e : pOff P s ≤ i ∧ i < pOff P s + pLen P s
    · rw [if_pos e, if_pos e, List.getElem?_replicate, if_pos (by omega)]
    · rw [if_neg e, if_neg e]
theorem Tidy.wiped {P : List Int} (h : Tidy P) {s : Nat} (hp : 0 < pLen P s) : Tidy (pWipe P s) := by
  have hw := h.wipe hp
  generalize pWipe P s = Q at *
  refine ⟨hw.len, hw.isB, ⟨⟨by rw [hw.count]; exact h.lies.fit.count, fun t => ?_⟩, fun t ht => ?_⟩, fun t ht => ?_, fun t => ?_, fun t u htu h1 h2 => ?_, fun i h1 h2 hz => ?_⟩
  · rw [hw.off, hw.plen]
    by_cases e : t = s
    · rw [if_pos e, if_pos e]; omega
    · rw [if_neg e, if_neg e]; exact h.lies.fit.ends t
  · rw [hw.plen] at ht
    rw [hw.count, hw.off]
    by_cases e : t = s
    · rw [if_pos e] at ht; omega
    · rw [if_neg e] at ht
      rw [if_neg e]; exact h.lies.behind t ht
  · rw [hw.plen] at ht
    rw [hw.off]
    by_cases e : t = s
    · rw [if_pos e]
    · rw [if_neg e] at ht
      rw [if_neg e]; exact h.none t ht
  · rw [hw.plen]
    by_cases e : t = s
    · rw [if_pos e]; omega
    · rw [if_neg e]; exact h.small t
  · rw [hw.plen] at h1 h2
    by_cases e : t = s
    · rw [if_pos e] at h1; omega
    · by_cases e2 : u = s
      · rw [if_pos e2] at h2; omega
      · rw [if_neg e] at h1
        rw [if_neg e2] at h2
        rw [hw.off, hw.off, hw.plen, hw.plen, if_neg e, if_neg e, if_neg e2, if_neg e2]
        exact h.apart t u htu h1 h2
  · rw [hw.count] at h1
    rw [hw.get i h1]
    by_cases e : pOff P s ≤ i ∧ i < pOff P s + pLen P s
    · rw [if_pos e]
    · rw [if_neg e]
      refine h.zero i h1 h2 (fun t => ?_)
      by_cases et : t = s
      · subst et; omega
      · have := hz t
        rw [hw.off, hw.plen, if_neg et, if_neg et] at this
        exact this
/-- a slot emptied -/
structure Cleared (P Q : List Int) (s : Nat) : Prop where
  sound : Sound Q
  plen : ∀ t, pLen Q t = if t = s then 0 else pLen P t
  count : pageCount Q ≤ pageCount P
  num : pageNumber Q = pageNumber P
  lsn : pageLSN Q = pageLSN P
theorem Tidy.clear {P : List Int} (h : Tidy P) {s : Nat} (hp : 0 < pLen P s) : Cleared P (pClear P s) s := by
  have hw := h.wipe hp
  have ht := h.wiped hp
  rw [pClear_eq]
  have hs := pSettle_head ht.len ht.isB ht.lies.fit.count ht.none
  refine ⟨ht.settle, fun t => by rw [hs.plen, hw.plen], ?_, hs.num.trans hw.num, hs.lsn.trans hw.lsn⟩
  rw [hs.count, ← hw.count]
  exact (headTo_is _ _).le
/-- bytes within a slot's data laid anew -/
theorem Sound.over {P m : List Int} (h : Sound P) {s : Nat} (hp : 0 < pLen P s) (hm : m.length = pLen P s) (hB : IsB m) : Sound (layN P (pOff P s) m) ∧ pageNumber (layN P (pOff P s) m) = pageNumber P ∧ pageLSN (layN P (pOff P s) m) = pageLSN P := by
  have hlay : pOff P s + m.length ≤ P.length := by rw [hm, h.tidy.len]; exact h.tidy.lies.fit.ends s
  have hb := h.tidy.lies.behind s hp
  have ho := layN_off hlay hb
  have hl := layN_len hlay hb
  have hc := layN_count hlay hb
  refine ⟨⟨⟨by rw [layN_length _ _ _ hlay]; exact h.tidy.len, layN_isB h.tidy.isB hB _, h.tidy.lies.laid hlay hb, fun t => by rw [ho, hl]; exact h.tidy.none t, fun t => by rw [hl]; exact h.tidy.small t, fun t u htu => by rw [hl, hl, ho, ho]; exact h.tidy.apart t u htu, fun i h1 h2 hz => ?_⟩, ?_⟩, pageN_apart hlay (.inl (by omega)), pageN_apart hlay (.inl (by omega))⟩
  · rw [hc] at h1
    have h3 := hz s
    rw [ho, hl] at h3
    rw [layN_get hlay, if_neg (by omega)]
    exact h.tidy.zero i h1 h2 (fun t => by have := hz t; rw [ho, hl] at this; exact this)
  · rw [headTo_congr hl ho, hc]
    have : pageLow (layN P (pOff P s) m) = pageLow P := pageN_apart hlay (.inl (by omega))
    rw [this]; exact h.head
/-! ### the last step of Set: a slot that has nothing gets data, below all others -/
def pMore (P : List Int) (s : Nat) : List Int := layN P 12 (leB (max (pageCount P) (s + 1)) 2)
def pLaid (P : List Int) (s : Nat) (m : List Int) : List Int := pList (layN (pMore P s) (pageLow P - m.length) m) s (pageLow P - m.length) m.length
theorem Sound.low {P : List Int} (h : Sound P) (s : Nat) (hs : 0 < pLen P s) : pageLow P ≤ pOff P s := by
  have hi := headTo_is P (pageCount P)
  rw [h.head] at hi
  refine hi.low s ?_ hs
  rcases Nat.lt_or_ge s (pageCount P) with h1 | h1
  · exact h1
  · rw [pLen_out h1] at hs; omega
theorem Sound.top {P : List Int} (h : Sound P) : pageLow P ≤ 448 := by
  have hi := headTo_is P (pageCount P)
  rw [h.head] at hi
  exact hi.top
theorem Sound.more {P : List Int} (h : Sound P) {s : Nat} (hs : s < 40) (hroom : 16 + 4 * max (pageCount P) (s + 1) ≤ pageLow P) :
    Tidy (pMore P s) ∧ pageCount (pMore P s) = max (pageCount P) (s + 1) ∧ (∀ t, pOff (pMore P s) t = pOff P t) ∧ (∀ t, pLen (pMore P s) t = pLen P t) ∧ pageNumber (pMore P s) = pageNumber P ∧ pageLSN (pMore P s) = pageLSN P ∧ (∀ i, 16 ≤ i → (pMore P s)[i]? = P[i]?) := by
  have hc40 := h.tidy.lies.fit.count
  have hlen := h.tidy.len
  have htop := h.top
  have h1 : 12 + (leB (max (pageCount P) (s + 1)) 2).length ≤ P.length := by rw [leB_length]; omega
  have hap : ∀ a k, a + k ≤ 12 ∨ 14 ≤ a → pageN (pMore P s) a k = pageN P a k := fun a k h => by
    unfold pMore
    rw [pageN_apart h1 (by rw [leB_length]; omega)]
  have hct : pageCount (pMore P s) = max (pageCount P) (s + 1) := by
    unfold pMore
    show pageN _ _ _ = _
    unfold pageN
    rw [layN_same h1 rfl (by rw [leB_length]), leN_leB _ 2 2 (Nat.le_refl _)]
    exact Nat.mod_eq_of_lt (by omega)
  have hgt : ∀ i, 14 ≤ i → (pMore P s)[i]? = P[i]? := fun i hi => by
    unfold pMore
    rw [layN_get h1, if_neg (by rw [leB_length]; omega)]
  -- entries behind the list's end are noughts
  have hz : ∀ i, 16 + 4 * pageCount P ≤ i → i < pageLow P → P[i]? = some 0 := fun i h1 h2 => h.tidy.zero i h1 (by omega) (fun t => by
    rcases Nat.eq_zero_or_pos (pLen P t) with h0 | h0
    · have := h.tidy.none t h0; omega
    · have := h.low t h0; omega)
  have hzn : ∀ a, 16 + 4 * pageCount P ≤ a → a + 2 ≤ pageLow P → pageN P a 2 = 0 := fun a h1 h2 => by
    have e0 := hz a h1 (by omega)
    have e1 := hz (a + 1) (by omega) (by omega)
    unfold pageN
    show (0 + (((P.drop a).take 2).getD 0 0).toNat * 2 ^ (8 * 0)) + (((P.drop a).take 2).getD 1 0).toNat * 2 ^ (8 * 1) = 0
    rw [List.getD_eq_getElem?_getD, List.getD_eq_getElem?_getD, List.getElem?_take, List.getElem?_take, if_pos (by omega), if_pos (by omega), List.getElem?_drop, List.getElem?_drop, Nat.add_zero, e0, e1]
    rfl
  have hoff : ∀ t, pOff (pMore P s) t = pOff P t := fun t => by
    unfold pOff
    rw [hct]
    by_cases h2 : t < pageCount P
    · rw [if_pos (by omega), if_pos h2]; exact hap _ _ (.inr (by omega))
    · rw [if_neg h2]
      by_cases h3 : t < max (pageCount P) (s + 1)
      · rw [if_pos h3, hap _ _ (.inr (by omega))]; exact hzn _ (by omega) (by omega)
      · rw [if_neg h3]
  have hpl : ∀ t, pLen (pMore P s) t = pLen P t := fun t => by
    unfold pLen
    rw [hct]
    by_cases h2 : t < pageCount P
    · rw [if_pos (by omega), if_pos h2]; exact hap _ _ (.inr (by omega))
    · rw [if_neg h2]
      by_cases h3 : t < max (pageCount P) (s + 1)
      · rw [if_pos h3, hap _ _ (.inr (by omega))]; exact hzn _ (by omega) (by omega)
      · rw [if_neg h3]
  refine ⟨⟨by unfold pMore; rw [layN_length _ _ _ h1, hlen], layN_isB h.tidy.isB (leB_isB _ _) _, ⟨⟨by rw [hct]; omega, fun t => by rw [hoff, hpl]; exact h.tidy.lies.fit.ends t⟩, fun t ht => ?_⟩, fun t => by rw [hoff, hpl]; exact h.tidy.none t, fun t => by rw [hpl]; exact h.tidy.small t, fun t u htu => by rw [hpl, hpl, hoff, hoff]; exact h.tidy.apart t u htu, fun i h2 h3 hz2 => ?_⟩, hct, hoff, hpl, hap _ _ (.inl (by omega)), hap _ _ (.inl (by omega)), fun i hi => hgt i (by omega)⟩
  · rw [hpl] at ht
    rw [hct, hoff]
    have := h.low t ht; omega
  · rw [hct] at h2
    rw [hgt i (by omega)]
    exact h.tidy.zero i (by omega) h3 (fun t => by have := hz2 t; rw [hoff, hpl] at this; exact this)
theorem Sound.laid {P m : List Int} (h : Sound P) {s : Nat} (hs : s < 40) (h0 : pLen P s = 0) (hm0 : 0 < m.length) (hm : m.length ≤ 64) (hB : IsB m) (hroom : 16 + 4 * max (pageCount P) (s + 1) + m.length ≤ pageLow P) :
    Tidy (pLaid P s m) ∧ pageNumber (pLaid P s m) = pageNumber P ∧ pageLSN (pLaid P s m) = pageLSN P := by
  obtain ⟨ht, hc, ho, hl, hnum, hlsn, hget⟩ := h.more hs (by omega)
  have htop := h.top
  have hlow := h.low
  unfold pLaid
  generalize pMore P s = Q at *
  generalize hat : pageLow P - m.length = a at *
  have hlay : a + m.length ≤ Q.length := by rw [ht.len]; omega
  have hb : 16 + 4 * pageCount Q ≤ a := by rw [hc]; omega
  have hlen := layN_length Q a m hlay
  rw [ht.len] at hlen
  have e1 := layN_off hlay hb
  have e2 := layN_len hlay hb
  have e3 := layN_count hlay hb
  have f1 : ∀ t, pOff (pList (layN Q a m) s a m.length) t = if t = s then a else pOff P t := fun t => by
    rw [pList_off hlen s a m.length (by omega) (by omega), e1, e3, ho]
    by_cases e : t = s
    · rw [if_pos ⟨e, by omega⟩, if_pos e]
    · rw [if_neg (fun h => e h.1), if_neg e]
  have f2 : ∀ t, pLen (pList (layN Q a m) s a m.length) t = if t = s then m.length else pLen P t := fun t => by
    rw [pList_len hlen s a m.length (by omega) (by omega), e2, e3, hl]
    by_cases e : t = s
    · rw [if_pos ⟨e, by omega⟩, if_pos e]
    · rw [if_neg (fun h => e h.1), if_neg e]
  have f3 : pageCount (pList (layN Q a m) s a m.length) = max (pageCount P) (s + 1) := by rw [pList_count hlen s a m.length (by omega), e3, hc]
  have f4 : ∀ i, 16 + 4 * max (pageCount P) (s + 1) ≤ i → (pList (layN Q a m) s a m.length)[i]? = if a ≤ i ∧ i < a + m.length then m[i - a]? else P[i]? := fun i hi => by
    rw [pList_get hlen s a m.length (by omega) i (.inr (by omega)), layN_get hlay, hget i (by omega)]
  have f5 : pageNumber (pList (layN Q a m) s a m.length) = pageNumber P := by
    rw [← hnum]
    unfold pageNumber
    rw [pList_apart hlen s a m.length (by omega) (.inl (by omega)), pageN_apart hlay (.inl (by omega))]
  have f6 : pageLSN (pList (layN Q a m) s a m.length) = pageLSN P := by
    rw [← hlsn]
    unfold pageLSN
    rw [pList_apart hlen s a m.length (by omega) (.inl (by omega)), pageN_apart hlay (.inl (by omega))]
  refine ⟨⟨pList_length hlen s a m.length (by omega), pList_isB (layN_isB ht.isB hB _) _ _ _, ⟨⟨by rw [f3]; have := h.tidy.lies.fit.count; omega, fun t => ?_⟩, fun t ht1 => ?_⟩, fun t ht1 => ?_, fun t => ?_, fun t u htu h1 h2 => ?_, fun i h1 h2 hz => ?_⟩, f5, f6⟩
  · rw [f1, f2]
    by_cases e : t = s
    · rw [if_pos e, if_pos e]; omega
    · rw [if_neg e, if_neg e]; exact h.tidy.lies.fit.ends t
  · rw [f2] at ht1
    rw [f3, f1]
    by_cases e : t = s
    · rw [if_pos e]; omega
    · rw [if_neg e] at ht1
      rw [if_neg e]
      have := hlow t ht1; omega
  · rw [f2] at ht1
    rw [f1]
    by_cases e : t = s
    · rw [if_pos e] at ht1; omega
    · rw [if_neg e] at ht1
      rw [if_neg e]; exact h.tidy.none t ht1
  · rw [f2]
    by_cases e : t = s
    · rw [if_pos e]; exact hm
    · rw [if_neg e]; exact h.tidy.small t
  · rw [f2] at h1 h2
    rw [f1, f1, f2, f2]
    by_cases e : t = s
    · subst e
      rw [if_neg (fun e => htu e.symm)] at h2
      rw [if_pos rfl, if_pos rfl, if_neg (fun e => htu e.symm), if_neg (fun e => htu e.symm)]
      have := hlow u h2; omega
    · rw [if_neg e] at h1
      rw [if_neg e, if_neg e]
      by_cases e2 : u = s
      · subst e2
        rw [if_pos rfl, if_pos rfl]
        have := hlow t h1; omega
      · rw [if_neg e2] at h2
        rw [if_neg e2, if_neg e2]
        exact h.tidy.apart t u htu h1 h2
  · rw [f3] at h1
    have hzs := hz s
    rw [f1, f2, if_pos rfl, if_pos rfl] at hzs
    rw [f4 i h1, if_neg (by omega)]
    refine h.tidy.zero i (by omega) h2 (fun t => ?_)
    by_cases et : t = s
    · subst et
      have := h.tidy.none t h0; omega
    · have := hz t
      rw [f1, f2, if_neg et, if_neg et] at this
      exact this
end Go.Proofs.YtgjoahddbieliaaGreat
