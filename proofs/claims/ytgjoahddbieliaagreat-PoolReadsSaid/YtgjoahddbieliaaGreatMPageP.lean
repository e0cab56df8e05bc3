/-
  Pages: what compact makes of a page (plain).
-/
import Derived.Test.YtgjoahddbieliaaGreatMPageN
namespace Go.Proofs.YtgjoahddbieliaaGreat
open Go.RowKit
set_option linter.unusedVariables false

/-- the first i slots' data noughts -/
def wipeTo (P : List Int) (l : List Nat) : Nat → List Int
  | 0 => P
  | i + 1 => layN (wipeTo P l i) (pOff P (l.getD i 0)) (List.replicate (pLen P (l.getD i 0)) 0)
structure Wipes (P Q : List Int) : Prop where
  len : Q.length = 448
  isB : IsB Q
  lies : Lies Q
  count : pageCount Q = pageCount P
  off : ∀ t, pOff Q t = pOff P t
  plen : ∀ t, pLen Q t = pLen P t
  num : pageNumber Q = pageNumber P
  lsn : pageLSN Q = pageLSN P
theorem Wipes.refl {P : List Int} (h : Tidy P) : Wipes P P := ⟨h.len, h.isB, h.lies, rfl, fun _ => rfl, fun _ => rfl, rfl, rfl⟩
theorem Wipes.one {P Q : List Int} (h : Wipes P Q) {s : Nat} (hp : 0 < pLen P s) : Wipes P (layN Q (pOff P s) (List.replicate (pLen P s) 0)) := by
  have hp' : 0 < pLen Q s := by rw [h.plen]; exact hp
  rw [← h.off, ← h.plen]
  have hlay : pOff Q s + (List.replicate (pLen Q s) (0 : Int)).length ≤ Q.length := by rw [List.length_replicate, h.len]; exact h.lies.fit.ends s
  have hb := h.lies.behind s hp'
  exact ⟨by rw [layN_length _ _ _ hlay]; exact h.len, layN_isB h.isB (zeros_isB _) _, h.lies.laid hlay hb, (layN_count hlay hb).trans h.count, fun t => (layN_off hlay hb t).trans (h.off t), fun t => (layN_len hlay hb t).trans (h.plen t), (pageN_apart hlay (.inl (by omega))).trans h.num, (pageN_apart hlay (.inl (by omega))).trans h.lsn⟩
theorem wipeTo_is {P : List Int} (h : Tidy P) {l : List Nat} (hl : ∀ s ∈ l, 0 < pLen P s) (i : Nat) (hi : i ≤ l.length) : Wipes P (wipeTo P l i) := by
  induction i with
  | zero => exact Wipes.refl h
  | succ i ih =>
    refine (ih (by omega)).one (hl _ ?_)
    rw [List.getD_eq_getElem?_getD, List.getElem?_eq_getElem (by omega)]
    exact List.getElem_mem _
/-- a byte is a nought, or in the data of one of the slots left -/
theorem wipeTo_get {P : List Int} (h : Tidy P) {l : List Nat} (hl : ∀ s ∈ l, 0 < pLen P s) (k : Nat) (h1 : 16 + 4 * pageCount P ≤ k) (h2 : k < 448) (i : Nat) (hi : i ≤ l.length) (hk : ∀ t, (∀ j, j < i → l.getD j 0 ≠ t) → k < pOff P t ∨ pOff P t + pLen P t ≤ k) : (wipeTo P l i)[k]? = some 0 := by
  induction i with
  | zero => exact h.zero k h1 h2 (fun t => hk t (fun j hj => by omega))
  | succ i ih =>
    have hw := wipeTo_is h hl i (by omega)
    have hp : 0 < pLen P (l.getD i 0) := hl _ (by
      rw [List.getD_eq_getElem?_getD, List.getElem?_eq_getElem (by omega)]
      exact List.getElem_mem _)
    have hlay : pOff P (l.getD i 0) + (List.replicate (pLen P (l.getD i 0)) (0 : Int)).length ≤ (wipeTo P l i).length := by rw [List.length_replicate, hw.len]; exact h.lies.fit.ends _
    show (layN (wipeTo P l i) _ _)[k]? = _
    rw [layN_get hlay, List.length_replicate]
    by_cases e : pOff P (l.getD i 0) ≤ k ∧ k < pOff P (l.getD i 0) + pLen P (l.getD i 0)
    · rw [if_pos e, List.getElem?_replicate, if_pos (by omega)]
    · rw [if_neg e]
      refine ih (by omega) (fun t ht => ?_)
      by_cases et : l.getD i 0 = t
      · subst et; omega
      · refine hk t (fun j hj => ?_)
        by_cases ej : j = i
        · subst ej; exact et
        · exact ht j (by omega)
/-- the lengths of the first i of some slots -/
def sumTo (P : List Int) (l : List Nat) : Nat → Nat
  | 0 => 0
  | i + 1 => sumTo P l i + pLen P (l.getD i 0)
theorem sumTo_append (P : List Int) (l m : List Nat) (i : Nat) (hi : i ≤ l.length) : sumTo P (l ++ m) i = sumTo P l i := by
  induction i with
  | zero => rfl
  | succ i ih =>
    have e : (l ++ m).getD i 0 = l.getD i 0 := by
      rw [List.getD_eq_getElem?_getD, List.getD_eq_getElem?_getD, List.getElem?_append_left (by omega)]
    show sumTo P (l ++ m) i + pLen P ((l ++ m).getD i 0) = sumTo P l i + pLen P (l.getD i 0)
    rw [e, ih (by omega)]
theorem sumTo_used (P : List Int) (q : Nat) : sumTo P (slotsTo P q) (slotsTo P q).length = usedTo P q := by
  induction q with
  | zero => rfl
  | succ q ih =>
    rw [slotsTo_succ]
    by_cases h : 0 < pLen P q
    · rw [if_pos h, List.length_append]
      show sumTo P (slotsTo P q ++ [q]) (slotsTo P q).length + pLen P ((slotsTo P q ++ [q]).getD (slotsTo P q).length 0) = usedTo P q + pLen P q
      have e : (slotsTo P q ++ [q]).getD (slotsTo P q).length 0 = q := by
        rw [List.getD_eq_getElem?_getD, List.getElem?_append_right (Nat.le_refl _)]; simp
      rw [e, sumTo_append _ _ _ _ (Nat.le_refl _), ih]
    · rw [if_neg h, List.append_nil, ih]
      show usedTo P q = usedTo P q + pLen P q
      omega
theorem sumTo_mono (P : List Int) (l : List Nat) {i j : Nat} (h : i ≤ j) : sumTo P l i ≤ sumTo P l j := by
  induction j with
  | zero => obtain rfl : i = 0 := by omega
            exact Nat.le_refl _
  | succ j ih =>
    by_cases e : i = j + 1
    · rw [e]; exact Nat.le_refl _
    · exact Nat.le_trans (ih (by omega)) (Nat.le_add_right _ _)
/-- where a slot's data are behind i steps -/
def offTo (P : List Int) (l : List Nat) : Nat → Nat → Nat
  | 0, t => pOff P t
  | i + 1, t => if t = l.getD i 0 then 448 - sumTo P l (i + 1) else offTo P l i t
/-- some slots, each once, by rising numbers -/
def Rising (l : List Nat) : Prop := ∀ i j, i < j → j < l.length → l.getD i 0 < l.getD j 0
theorem slotsTo_rising (P : List Int) (q : Nat) : Rising (slotsTo P q) := by
  intro i j hij hj
  have h1 : List.Pairwise (· < ·) (slotsTo P q) := List.pairwise_lt_range.filter _
  have := List.pairwise_iff_getElem.1 h1 i j (by omega) hj hij
  rw [List.getD_eq_getElem?_getD, List.getD_eq_getElem?_getD, List.getElem?_eq_getElem (by omega), List.getElem?_eq_getElem hj]
  exact this
theorem offTo_at (P : List Int) {l : List Nat} (hr : Rising l) (i j : Nat) (hj : j < i) (hi : i ≤ l.length) : offTo P l i (l.getD j 0) = 448 - sumTo P l (j + 1) := by
  induction i with
  | zero => omega
  | succ i ih =>
    show (if l.getD j 0 = l.getD i 0 then 448 - sumTo P l (i + 1) else offTo P l i (l.getD j 0)) = _
    by_cases e : j = i
    · subst e; rw [if_pos rfl]
    · have := hr j i (by omega) (by omega)
      rw [if_neg (by omega)]
      exact ih (by omega) (by omega)
theorem offTo_out (P : List Int) {l : List Nat} (t : Nat) (ht : t ∉ l) (i : Nat) (hi : i ≤ l.length) : offTo P l i t = pOff P t := by
  induction i with
  | zero => rfl
  | succ i ih =>
    show (if t = l.getD i 0 then 448 - sumTo P l (i + 1) else offTo P l i t) = _
    rw [if_neg (fun e => ht (by
      rw [e, List.getD_eq_getElem?_getD, List.getElem?_eq_getElem (by omega)]
      exact List.getElem_mem _))]
    exact ih (by omega)
/-- the data of the first i slots are laid -/
structure Packs (P R : List Int) (l : List Nat) (i : Nat) : Prop where
  len : R.length = 448
  isB : IsB R
  count : pageCount R = pageCount P
  plen : ∀ t, pLen R t = pLen P t
  off : ∀ t, pOff R t = offTo P l i t
  get : ∀ k, 16 + 4 * pageCount P ≤ k → k < 448 - sumTo P l i → R[k]? = some 0
  num : pageNumber R = pageNumber P
  lsn : pageLSN R = pageLSN P
theorem slotsTo_get {P : List Int} {q t : Nat} (ht : t < q) (hp : 0 < pLen P t) : ∃ j, j < (slotsTo P q).length ∧ (slotsTo P q).getD j 0 = t := by
  have hm : t ∈ slotsTo P q := List.mem_filter.2 ⟨List.mem_range.2 ht, by simpa using hp⟩
  obtain ⟨j, hj, he⟩ := List.mem_iff_getElem.1 hm
  exact ⟨j, hj, by rw [List.getD_eq_getElem?_getD, List.getElem?_eq_getElem hj]; exact he⟩
theorem pSlots_pos {P : List Int} : ∀ s ∈ pSlots P, 0 < pLen P s := fun s hs => (slotsTo_mem hs).2
theorem Packs.start {P : List Int} (h : Tidy P) : Packs P (wipeTo P (pSlots P) (pSlots P).length) (pSlots P) 0 := by
  have hw := wipeTo_is h (l := pSlots P) pSlots_pos _ (Nat.le_refl _)
  refine ⟨hw.len, hw.isB, hw.count, hw.plen, hw.off, fun k h1 h2 => wipeTo_get h pSlots_pos k h1 h2 _ (Nat.le_refl _) (fun t ht => ?_), hw.num, hw.lsn⟩
  rcases Nat.eq_zero_or_pos (pLen P t) with h0 | h0
  · have := h.none t h0; omega
  · have htc : t < pageCount P := by
      rcases Nat.lt_or_ge t (pageCount P) with h3 | h3
      · exact h3
      · rw [pLen_out h3] at h0; omega
    obtain ⟨j, hj, he⟩ := slotsTo_get (P := P) htc h0
    exact absurd he (ht j hj)
theorem Packs.next {P R m : List Int} (h : Tidy P) (hroom : 16 + 4 * pageCount P + pUsed P ≤ 448) {i : Nat} (hi : i < (pSlots P).length) (hr : Packs P R (pSlots P) i) {s a : Nat} (hs : s = (pSlots P).getD i 0) (ha : a = 448 - sumTo P (pSlots P) (i + 1)) (hm : m.length = pLen P s) (hB : IsB m) :
    Packs P (pList (layN R a m) s a m.length) (pSlots P) (i + 1) := by
  have hmem : s ∈ pSlots P := by
    rw [hs, List.getD_eq_getElem?_getD, List.getElem?_eq_getElem hi]
    exact List.getElem_mem _
  obtain ⟨hsc, hsp⟩ := slotsTo_mem hmem
  have hc40 := h.lies.fit.count
  have hsum : sumTo P (pSlots P) (i + 1) = sumTo P (pSlots P) i + pLen P s := by rw [hs]; rfl
  have hle : sumTo P (pSlots P) (i + 1) ≤ pUsed P := by
    unfold pUsed
    rw [← sumTo_used]
    exact sumTo_mono P _ hi
  have hlay : a + m.length ≤ R.length := by rw [hr.len, hm]; omega
  have hb : 16 + 4 * pageCount R ≤ a := by rw [hr.count]; omega
  have hlen := layN_length R a m hlay
  rw [hr.len] at hlen
  have hsc' : s < pageCount (layN R a m) := by rw [layN_count hlay hb, hr.count]; exact hsc
  have hpl : pLen P s ≤ 64 := h.small s
  refine ⟨pList_length hlen s a _ (by omega), pList_isB (layN_isB hr.isB hB _) _ _ _, by rw [pList_count hlen s a _ (by omega), layN_count hlay hb, hr.count], fun t => ?_, fun t => ?_, fun k h1 h2 => ?_, ?_, ?_⟩
  · rw [pList_len hlen s a _ (by omega) (by omega), layN_len hlay hb, hr.plen]
    by_cases e : t = s
    · rw [if_pos ⟨e, hsc'⟩, e, hm]
    · rw [if_neg (fun h => e h.1)]
  · rw [pList_off hlen s a _ (by omega) (by omega), layN_off hlay hb, hr.off]
    show _ = if t = (pSlots P).getD i 0 then 448 - sumTo P (pSlots P) (i + 1) else offTo P (pSlots P) i t
    rw [← hs, ← ha]
    by_cases e : t = s
    · rw [if_pos ⟨e, hsc'⟩, if_pos e]
    · rw [if_neg (fun h => e h.1), if_neg e]
  · rw [pList_get hlen s a _ (by omega) k (.inr (by omega)), layN_get hlay, if_neg (by omega)]
    exact hr.get k h1 (by omega)
  · rw [← hr.num]
    unfold pageNumber
    rw [pList_apart hlen s a _ (by omega) (.inl (by omega)), pageN_apart hlay (.inl (by omega))]
  · rw [← hr.lsn]
    unfold pageLSN
    rw [pList_apart hlen s a _ (by omega) (.inl (by omega)), pageN_apart hlay (.inl (by omega))]
theorem Packs.tidy {P R : List Int} (h : Tidy P) (hroom : 16 + 4 * pageCount P + pUsed P ≤ 448) (hr : Packs P R (pSlots P) (pSlots P).length) : Tidy R := by
  have hrise : Rising (pSlots P) := slotsTo_rising P _
  have hsumU : sumTo P (pSlots P) (pSlots P).length = pUsed P := sumTo_used P _
  have hget : ∀ t, 0 < pLen P t → ∃ j, j < (pSlots P).length ∧ (pSlots P).getD j 0 = t := fun t hp => by
    refine slotsTo_get ?_ hp
    rcases Nat.lt_or_ge t (pageCount P) with h3 | h3
    · exact h3
    · rw [pLen_out h3] at hp; omega
  have hoff : ∀ j, j < (pSlots P).length → pOff R ((pSlots P).getD j 0) = 448 - sumTo P (pSlots P) (j + 1) := fun j hj => by
    rw [hr.off]; exact offTo_at P hrise _ j hj (Nat.le_refl _)
  have hsum : ∀ j, j < (pSlots P).length → sumTo P (pSlots P) (j + 1) = sumTo P (pSlots P) j + pLen P ((pSlots P).getD j 0) ∧ sumTo P (pSlots P) (j + 1) ≤ pUsed P := fun j hj => ⟨rfl, by rw [← hsumU]; exact sumTo_mono P _ hj⟩
  have hnone : ∀ t, pLen R t = 0 → pOff R t = 0 := fun t ht => by
    rw [hr.plen] at ht
    rw [hr.off, offTo_out P t (fun hm => by have := pSlots_pos t hm; omega) _ (Nat.le_refl _)]
    exact h.none t ht
  refine ⟨hr.len, hr.isB, ⟨⟨by rw [hr.count]; exact h.lies.fit.count, fun t => ?_⟩, fun t ht => ?_⟩, hnone, fun t => by rw [hr.plen]; exact h.small t, fun t u htu h1 h2 => ?_, fun k h1 h2 hz => ?_⟩
  · rcases Nat.eq_zero_or_pos (pLen R t) with h0 | h0
    · rw [hnone t h0, h0]; omega
    · rw [hr.plen] at h0 ⊢
      obtain ⟨j, hj, rfl⟩ := hget t h0
      rw [hoff j hj]
      have := hsum j hj; omega
  · rw [hr.plen] at ht
    obtain ⟨j, hj, rfl⟩ := hget t ht
    rw [hr.count, hoff j hj]
    have := hsum j hj; omega
  · rw [hr.plen] at h1 h2 ⊢
    rw [hr.plen]
    obtain ⟨j, hj, rfl⟩ := hget t h1
    obtain ⟨k, hk, rfl⟩ := hget u h2
    rw [hoff j hj, hoff k hk]
    have a1 := hsum j hj
    have a2 := hsum k hk
    rcases Nat.lt_trichotomy j k with hjk | hjk | hjk
    · have := sumTo_mono P (pSlots P) (show j + 1 ≤ k from hjk); omega
    · subst hjk; exact absurd rfl htu
    · have := sumTo_mono P (pSlots P) (show k + 1 ≤ j from hjk); omega
  · rw [hr.count] at h1
    rcases Nat.lt_or_ge k (448 - sumTo P (pSlots P) (pSlots P).length) with h3 | h3
    · exact hr.get k h1 h3
    · exfalso
      have key : ∀ i, i ≤ (pSlots P).length → ¬ (448 - sumTo P (pSlots P) i ≤ k) := by
        intro i
        induction i with
        | zero => intro _ hk; exact absurd hk (by show ¬ (448 - 0 ≤ k); omega)
        | succ i ih =>
          intro hi hk
          have h4 := ih (by omega)
          have h5 := hz ((pSlots P).getD i 0)
          rw [hoff i (by omega), hr.plen] at h5
          have := hsum i (by omega); omega
      exact key _ (Nat.le_refl _) h3
/-- what compact leaves -/
structure Packed (P Q : List Int) : Prop where
  sound : Sound Q
  plen : ∀ t, pLen Q t = pLen P t
  count : pageCount Q ≤ pageCount P
  low : pageLow Q = 448 - pUsed P
  num : pageNumber Q = pageNumber P
  lsn : pageLSN Q = pageLSN P
theorem Packs.done {P R : List Int} (h : Tidy P) (hroom : 16 + 4 * pageCount P + pUsed P ≤ 448) (hr : Packs P R (pSlots P) (pSlots P).length) : Packed P (pSettle R) := by
  have hrise : Rising (pSlots P) := slotsTo_rising P _
  have hsumU : sumTo P (pSlots P) (pSlots P).length = pUsed P := sumTo_used P _
  have hget : ∀ t, 0 < pLen P t → ∃ j, j < (pSlots P).length ∧ (pSlots P).getD j 0 = t := fun t hp => by
    refine slotsTo_get ?_ hp
    rcases Nat.lt_or_ge t (pageCount P) with h3 | h3
    · exact h3
    · rw [pLen_out h3] at hp; omega
  have hoff : ∀ j, j < (pSlots P).length → pOff R ((pSlots P).getD j 0) = 448 - sumTo P (pSlots P) (j + 1) := fun j hj => by
    rw [hr.off]; exact offTo_at P hrise _ j hj (Nat.le_refl _)
  have hsum : ∀ j, j < (pSlots P).length → sumTo P (pSlots P) (j + 1) = sumTo P (pSlots P) j + pLen P ((pSlots P).getD j 0) ∧ sumTo P (pSlots P) (j + 1) ≤ pUsed P := fun j hj => ⟨rfl, by rw [← hsumU]; exact sumTo_mono P _ hj⟩
  have hnone : ∀ t, pLen R t = 0 → pOff R t = 0 := fun t ht => by
    rw [hr.plen] at ht
    rw [hr.off, offTo_out P t (fun hm => by have := pSlots_pos t hm; omega) _ (Nat.le_refl _)]
    exact h.none t ht
  have htidy := hr.tidy h hroom
  have hs := pSettle_head htidy.len htidy.isB htidy.lies.fit.count htidy.none
  refine ⟨htidy.settle, fun t => (hs.plen t).trans (hr.plen t), by rw [hs.count, ← hr.count]; exact (headTo_is _ _).le, ?_, hs.num.trans hr.num, hs.lsn.trans hr.lsn⟩
  rw [hs.low, hr.count]
  have hi := headTo_is R (pageCount P)
  generalize (headTo R (pageCount P)).2 = m at *
  generalize (headTo R (pageCount P)).1 = c at *
  rw [← hsumU]
  have hU : sumTo P (pSlots P) (pSlots P).length ≤ 448 := by rw [hsumU]; omega
  by_cases hl0 : (pSlots P).length = 0
  · rw [hl0]
    show m = 448 - 0
    rcases hi.is with h1 | ⟨s, h1, h2, h3⟩
    · omega
    · rw [hr.plen] at h2
      obtain ⟨j, hj, _⟩ := hget s h2
      omega
  · have hj : (pSlots P).length - 1 < (pSlots P).length := by omega
    have hm : (pSlots P).getD ((pSlots P).length - 1) 0 ∈ pSlots P := by
      rw [List.getD_eq_getElem?_getD, List.getElem?_eq_getElem hj]
      exact List.getElem_mem _
    have h1 := hi.low _ (slotsTo_mem hm).1 (by rw [hr.plen]; exact (slotsTo_mem hm).2)
    rw [hoff _ hj, show (pSlots P).length - 1 + 1 = (pSlots P).length by omega] at h1
    rcases hi.is with h2 | ⟨s, h2, h3, h4⟩
    · omega
    · rw [hr.plen] at h3
      obtain ⟨j, hj, rfl⟩ := hget s h3
      rw [hoff j hj] at h4
      have := sumTo_mono P (pSlots P) (show j + 1 ≤ (pSlots P).length from hj)
      omega
end Go.Proofs.YtgjoahddbieliaaGreat

/-
  Rows of byte slices of any length, of a call's own, that grow.
-/
namespace Go.Proofs.YtgjoahddbieliaaGreat
open Go.RowKit
set_option linter.unusedVariables false

structure NV (n0 : Nat) (w : World) (τ : Tags) (g : Tag) (v : Value) (ls : List (List Int)) : Prop where
  row : ∃ xs, Buf w τ g 43 1 v ls.length xs ∧ ∀ (k : Nat) (x : List Int), ls[k]? = some x → ∃ u, xs[k]? = some u ∧ Bytes w τ tData u x
  low : ∀ k, v.ownBlock = some k → n0 ≤ k
theorem NV.nil (n0 : Nat) (w : World) (τ : Tags) (g : Tag) : NV n0 w τ g (.slice none 0 0) [] := ⟨⟨[], Buf.nil _ _ _ _ _, fun k x h => by simp at h⟩, fun k hk => by simp [Value.ownBlock] at hk⟩
theorem NV.step {n0 : Nat} {w w' : World} {τ τ' : Tags} {S : Tag → Prop} {g : Tag} {v : Value} {ls : List (List Int)} (h : NV n0 w τ g v ls) (m : Step w τ w' τ' S) (hs : ¬ S g) (hd : ¬ S tData) : NV n0 w' τ' g v ls := by
  obtain ⟨xs, hb, hx⟩ := h.row
  exact ⟨⟨xs, hb.step m hs, fun k x hk => by
    obtain ⟨u, h1, h2⟩ := hx k x hk
    exact ⟨u, h1, h2.step m hd⟩⟩, h.low⟩
theorem NV.alloc {n0 : Nat} {w : World} {τ : Tags} {g : Tag} {v : Value} {ls : List (List Int)} (h : NV n0 w τ g v ls) (o : Obj) : NV n0 (w.alloc o) τ g v ls := h.step ((Step.refl w τ Go.Proofs.YtgjoahddbieliaaGreat.nil).alloc' o) (fun h => h) (fun h => h)
theorem NV.val {n0 : Nat} {w : World} {τ : Tags} {g : Tag} {v : Value} {ls : List (List Int)} (h : NV n0 w τ g v ls) : ∃ p c, v = .slice p ls.length c := by
  obtain ⟨xs, hb, -⟩ := h.row
  exact Buf.len hb
/-- one element of it -/
theorem NV.read {n0 : Nat} {w : World} {τ : Tags} {g : Tag} {v : Value} {ls : List (List Int)} (h : NV n0 w τ g v ls) : ∃ p c, v = .slice p ls.length c ∧ ls.length ≤ maxLen ∧ ∀ i, i < ls.length → ∃ b u, p = some ⟨b, 0, none⟩ ∧ w.cell? ⟨b, i, none⟩ = some u ∧ Bytes w τ tData u (ls.getD i []) := by
  obtain ⟨xs, ⟨h1, ⟨rfl, h2⟩ | ⟨b, cap, ys, rfl, ho, h3, h4, h5⟩⟩, hx⟩ := h.row
  · refine ⟨none, 0, by rw [h2], by rw [h2]; exact Nat.zero_le _, fun i hi => by omega⟩
  · refine ⟨_, cap, rfl, by omega, fun i hi => ?_⟩
    obtain ⟨u, e1, e2⟩ := hx i (ls.getD i []) (by rw [List.getD_eq_getElem?_getD, List.getElem?_eq_getElem hi]; rfl)
    refine ⟨b, u, rfl, ho.at i ?_, e2⟩
    rw [List.getElem?_append_left (List.getElem?_eq_some_iff.1 e1).1]
    exact e1
theorem run_append_nv {w0 w : World} {τ0 τ : Tags} {S : Tag → Prop} (hst : Step w0 τ0 w τ S) {g : Tag} (hg : g ≠ tData) {v u : Value} {ls : List (List Int)} {x : List Int} (hown : NV w0.heap.size w τ g v ls) (hb : Bytes w τ tData u x) (hsz : ls.length ≤ 1000000000) {k : Nat}
    (hk : w.heap[k]? = some (.cells #[u] 43 (0, 0))) (ty : TypeId) :
    ∃ v' w' τ', (Builtin.append_ #[47, 47] ty #[v, .slice (some ⟨k, 0, none⟩) 1 1]).run Tryz.prog w = .ok v' w' ∧ NV w0.heap.size w' τ' g v' (ls ++ [x]) ∧ Step w0 τ0 w' τ' S ∧ Step w τ w' τ' (fun t => t = g) := by
  obtain ⟨i0, hi, hz0, hz1, hz2⟩ := info_parts Tryz.infoU8s
  obtain ⟨xs, hbuf, hxs⟩ := hown.row
  obtain ⟨p, c, rfl, _⟩ := hb.any
  obtain ⟨v', w', τ', hr, hb', he, hm, hnw⟩ := run_append_buf (P := Tryz.prog) w τ g 47 ty 43 i0 (.slice none 0 0) 1 24 Tryz.underlying47 hi hz0 hz1 hz2 rfl (by decide) v ls.length xs hbuf
    (some ⟨k, 0, none⟩) 1 1 [.slice p x.length c] rfl (fun h => by cases h) (by
      intro ad had; cases had; exact World.news_of_block (cs := #[.slice p x.length c]) (t := 43) (fr := (0, 0)) hk) (by simp [Value.oneCell']) (by unfold maxLen; omega) (by omega)
  have hmd : Step w τ w' τ' (fun t => t = g) := ⟨hm.mono (fun k hk hS => (hbuf.own k hS).1), he⟩
  have hxl : xs.length = ls.length := by have := hbuf.1; omega
  refine ⟨v', w', τ', hr, ⟨⟨xs ++ [.slice p x.length c], by rw [List.length_append]; exact hb', fun j y hj => ?_⟩, fun k hk => ?_⟩, ⟨hst.mod.seq hm (fun k hk hS => absurd (hown.low k hS) (by omega)), hst.ext.trans he hst.size⟩, hmd⟩
  · by_cases hlt : j < ls.length
    · rw [List.getElem?_append_left hlt] at hj
      obtain ⟨u, hu, hbu⟩ := hxs j y hj
      exact ⟨u, by rw [List.getElem?_append_left (by omega)]; exact hu, hbu.step hmd (fun e => hg e.symm)⟩
    · rw [List.getElem?_append_right (by omega)] at hj
      have hj0 : j - ls.length = 0 := by
        have := (List.getElem?_eq_some_iff.1 hj).1
        simp at this; omega
      rw [hj0] at hj
      have hxy : x = y := by simpa using hj
      subst hxy
      exact ⟨_, by rw [List.getElem?_append_right (by omega), show j - xs.length = 0 by omega]; rfl, hb.step hmd (fun e => hg e.symm)⟩
  · rcases hnw k hk with h | h
    · exact hown.low k h
    · have := hst.size; omega
theorem wpList_append_nv1 {w0 w : World} {τ0 τ : Tags} {S : Tag → Prop} (hst : Step w0 τ0 w τ S) {g : Tag} (hg : g ≠ tData) {v u : Value} {ls : List (List Int)} {x : List Int} (hown : NV w0.heap.size w τ g v ls) (hb : Bytes w τ tData u x) (hsz : ls.length ≤ 1000000000) {kb : Nat} (hkb : kb = w.heap.size)
    {ops : Array Oper} {rest : List Oper} {o : Oper} {a : Act} {Q : Exit → Act → World → Prop} (hgd : o.guard = none) (s y : Operand)
    (ho : o.op = .call { callee := .builtin .append, args := #[s, y], argTypes := #[47, 47] }) (hs : a.eval s = v) (hy : a.eval y = .slice (some ⟨kb, 0, none⟩) 1 1)
    (h : ∀ v' w' τ', NV w0.heap.size w' τ' g v' (ls ++ [x]) → Step w0 τ0 w' τ' S → Step w τ w' τ' (fun t => t = g) → wpList Tryz.prog ops Q rest (a.put o.dst v') w') : wpList Tryz.prog ops Q (o :: rest) a (w.alloc (.cells #[u] 43)) := by
  subst hkb
  refine wpList_plain hgd fun K hK => ?_
  obtain ⟨v', w', τ', hr, h2, h3, h4⟩ := run_append_nv (hst.alloc' (.cells #[u] 43)) hg (hown.alloc _) (hb.alloc _) hsz (heap_alloc_new w _) o.type
  unfold Oper.wp execOp
  simp only [ho, resolve, invoke, builtin, Sem.run_bind, Sem.run_pure, Result.andThen_ok, List.map_toArray, List.map_cons, List.map_nil, hs, hy, hr]
  exact hK _ _ (h v' w' τ' h2 h3 (((Step.refl w τ _).alloc' _).trans h4))
end Go.Proofs.YtgjoahddbieliaaGreat
