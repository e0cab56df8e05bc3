/-
  Pools: a pool, its log and its device; Get of a blank page, whatever the frame that goes holds.
-/
import Derived.Test.YtgjoahddbieliaaGreatMPoolL
namespace Go.Proofs.YtgjoahddbieliaaGreat
open Go.RowKit
set_option linter.unusedVariables false

structure PoolW (w : World) (τ : Tags) (bp bf bd : Nat) (H : PoolH) (L : LogM) (D : Dev) (F : List Fr) (s : Ck.Clk.St) : Prop where
  pool : PoolAt w τ bp bf H F s
  log : LogAt w τ H.bl bd L
  dev : DevAt w τ bd D
theorem PoolW.step {w w' : World} {τ τ' : Tags} {S : Tag → Prop} {bp bf bd : Nat} {H : PoolH} {L : LogM} {D : Dev} {F : List Fr} {s : Ck.Clk.St} (h : PoolW w τ bp bf bd H L D F s) (m : Step w τ w' τ' S) (hs : ∀ g, S g → ¬ PoolTag g ∧ ¬ LogTag g ∧ ¬ DevTag g ∧ g ≠ tData) : PoolW w' τ' bp bf bd H L D F s :=
  ⟨h.pool.step m (fun g hg hS => (hs g hS).1 hg), h.log.step m (fun g hg hS => (hs g hS).2.1 hg), h.dev.step m (fun g hS => (hs g hS).2.2)⟩
theorem PoolW.turn {w w' : World} {τ τ' : Tags} {bp bf bd : Nat} {H : PoolH} {L : LogM} {D : Dev} {F F' : List Fr} {s s' : Ck.Clk.St} (h : PoolW w τ bp bf bd H L D F s) (hp : PoolAt w' τ' bp bf H F' s') (m : Step w τ w' τ' PoolTag) : PoolW w' τ' bp bf bd H L D F' s' :=
  ⟨hp, h.log.step m (fun g hg => pooltag_log hg), h.dev.step m (fun g hg => pooltag_dev hg)⟩
def fillS (s : Ck.Clk.St) (i : Nat) (had : Bool) : Ck.Clk.St := Ck.Clk.pinS (Ck.Clk.touchS (Ck.Clk.takeS (if had then Ck.Clk.leaveS (Ck.Clk.pickS s) i else Ck.Clk.pickS s) i) i) i
theorem pins_le {s : Ck.Clk.St} (i : Int) (h : ∀ k, s.p k ≤ 1000000) : (∀ k, (Ck.Clk.takeS s i).p k ≤ 1000000) ∧ (∀ k, (Ck.Clk.leaveS s i).p k ≤ 1000000) ∧ (∀ k, (Ck.Clk.pickS s).p k ≤ 1000000) ∧ (∀ k, (Ck.Clk.touchS s i).p k ≤ 1000000) := by
  refine ⟨fun k => ?_, fun k => ?_, fun k => ?_, fun k => ?_⟩
  · unfold Ck.Clk.takeS
    split
    · simp only [Ck.Clk.upd]; split
      · omega
      · exact h k
    · exact h k
  · unfold Ck.Clk.leaveS
    split <;> exact h k
  · unfold Ck.Clk.pickS
    split
    · exact h k
    · split <;> exact h k
  · unfold Ck.Clk.touchS
    split <;> exact h k
theorem get_blank {w : World} {τ : Tags} {bp bf bd : Nat} {H : PoolH} {L : LogM} {D : Dev} {F : List Fr} {s : Ck.Clk.St} (h : PoolW w τ bp bf bd H L D F s) (n : Nat) (hn : n < H.n) (hfit : 4 * n + 4 ≤ D.f1.length) (hz : lastTo D n 4 = blank) (hyes : Ck.Clk.pickB s = true) {i : Nat} (hi : Ck.Clk.pickI s = i) {f : Fr} (hf : F[i]? = some f) (hc : f.pg.isSome = true → f.first = 0 ∧ f.n < 4294967296) (hno : whereOf F n = none) (hs : ∀ k, s.p k ≤ 1000000) :
    Calls Tryz.prog 12 #[.pointer (some ⟨bp, 0, none⟩), .int .u32 (n : Int)] w fun e w' => ∃ b τ', e = .returned (.tuple #[.pointer (some ⟨b, 0, none⟩), .int .u16 0]) ∧ PoolW w' τ' bp bf bd H L D (F.set i ⟨some (b, emptyPage n), n, 0⟩) (fillS s i f.pg.isSome) ∧ Step w τ w' τ' PoolTag := by
  have hil := (List.getElem?_eq_some_iff.1 hf).1
  cases hpg : f.pg with
  | none =>
    have hb := bring_new h.pool h.log h.dev n hn hfit hz hyes hi hf hpg hno
    have := get_miss h.pool n hn hno hil hb ((pins_le i ((pins_le i hs).2.2.1)).1)
    refine this.mono ?_
    rintro e w' ⟨b, τ', rfl, hp, hst⟩
    exact ⟨b, τ', rfl, h.turn hp hst, hst⟩
  | some x =>
    obtain ⟨h0, h32⟩ := hc (by rw [hpg]; rfl)
    have hb := bring_over h.pool h.log h.dev n hn hfit hz hyes hi hf hpg h0 h32 hno
    have := get_miss h.pool n hn hno hil hb ((pins_le i (pins_le i ((pins_le i hs).2.2.1)).2.1).1)
    refine this.mono ?_
    rintro e w' ⟨b, τ', rfl, hp, hst⟩
    exact ⟨b, τ', rfl, h.turn hp hst, hst⟩
end Go.Proofs.YtgjoahddbieliaaGreat

/-
  Pools that are filled page by page, in plain Lean: which frame goes, in the chapter's example and where all frames are got.
-/
namespace Go.Proofs.YtgjoahddbieliaaGreat
open Go.RowKit
set_option linter.unusedVariables false

/-- the first i of k frames hold a page each, as they were counted -/
structure FirstF (k i : Nat) (F : List Fr) : Prop where
  len : F.length = k
  has : ∀ j, j < i → ∃ b, F[j]? = some ⟨some (b, emptyPage j), j, 0⟩
  no : ∀ j, i ≤ j → j < k → F[j]? = some Fr.no
theorem FirstF.start (k : Nat) : FirstF k 0 (List.replicate k Fr.no) :=
  ⟨List.length_replicate, fun j hj => absurd hj (by omega), fun j _ hj => by rw [List.getElem?_replicate, if_pos hj]⟩
theorem FirstF.next {k i : Nat} {F : List Fr} (h : FirstF k i F) (hi : i < k) (b : Nat) : FirstF k (i + 1) (F.set i ⟨some (b, emptyPage i), i, 0⟩) := by
  refine ⟨by rw [List.length_set]; exact h.len, fun j hj => ?_, fun j hj hk => ?_⟩
  · by_cases e : i = j
    · subst e
      exact ⟨b, by rw [List.getElem?_set_self (by rw [h.len]; exact hi)]⟩
    · obtain ⟨c, hc⟩ := h.has j (by omega)
      exact ⟨c, by rw [List.getElem?_set_ne e]; exact hc⟩
  · rw [List.getElem?_set_ne (by omega)]; exact h.no j (by omega) hk
theorem FirstF.clean {k i : Nat} {F : List Fr} (h : FirstF k i F) : ∀ f ∈ F, f.first = 0 := by
  intro f hf
  obtain ⟨j, hj, rfl⟩ := List.getElem_of_mem hf
  by_cases e : j < i
  · obtain ⟨b, hb⟩ := h.has j e
    rw [List.getElem?_eq_getElem hj] at hb
    rw [Option.some.inj hb]
  · have := h.no j (by omega) (by rw [← h.len]; exact hj)
    rw [List.getElem?_eq_getElem hj] at this
    rw [Option.some.inj this]; rfl
theorem FirstF.yes {k i : Nat} {F : List Fr} (h : FirstF k i F) (one : OneHas F) (n : Nat) (hn : n < i) : whereOf F n = some n := by
  obtain ⟨b, hb⟩ := h.has n hn
  exact (whereOf_iff one n n).2 ⟨_, hb, by simp [Fr.has]⟩
theorem FirstF.not {k i : Nat} {F : List Fr} (h : FirstF k i F) (one : OneHas F) (n : Nat) (hn : i ≤ n) : whereOf F n = none := by
  cases hw : whereOf F n with
  | none => rfl
  | some j =>
    obtain ⟨f, hf, hh⟩ := (whereOf_iff one n j).1 hw
    by_cases e : j < i
    · obtain ⟨b, hb⟩ := h.has j e
      rw [hf] at hb; cases hb
      simp only [Fr.has, Bool.and_eq_true, beq_iff_eq] at hh
      omega
    · have := h.no j (by omega) (by rw [← h.len]; exact (List.getElem?_eq_some_iff.1 hf).1)
      rw [hf] at this; cases this
      simp [Fr.has, Fr.no] at hh

open Ck.Clk
def putS (s : St) (i : Nat) : St := if pinsV s i = 0 then s else unpinS s i
/-- the chapter's example: page after page is got and put -/
def knS : Nat → St
  | 0 => newS 3
  | i + 1 => putS (fillS (knS i) i false) i
theorem knS_pick : ∀ i, i < 3 → pickB (knS i) = true ∧ pickI (knS i) = i := by decide +kernel
theorem knS_put : ∀ i, i < 3 → pinsV (fillS (knS i) i false) i ≠ 0 ∧ unpinB (fillS (knS i) i false) i = true := by decide +kernel
theorem knS_3 : pickB (knS 3) = true ∧ pickI (knS 3) = 0 := by decide +kernel
def hitS (s : St) (i : Nat) : St := pinS (touchS s i) i
theorem knS_full : pickB (hitS (hitS (fillS (knS 3) 0 true) 1) 2) = false := by decide +kernel
/-- all frames are got -/
def allS (k : Nat) : Nat → St
  | 0 => newS k
  | i + 1 => fillS (allS k i) i false
theorem allS_pick : ∀ k, k < 8 → ∀ i, i < k → pickB (allS k i) = true ∧ pickI (allS k i) = i := by decide +kernel
theorem allS_full : ∀ k, k < 8 → pickB (allS k k) = false := by decide +kernel
theorem allS_put : ∀ k, k < 8 → 2 ≤ k → pinsV (pickS (allS k k)) 1 ≠ 0 ∧ unpinB (pickS (allS k k)) 1 = true := by decide +kernel
theorem allS_again : ∀ k, k < 8 → 2 ≤ k → pickB (unpinS (pickS (allS k k)) 1) = true ∧ pickI (unpinS (pickS (allS k k)) 1) = 1 := by decide +kernel
theorem pins_bound (s : St) (c : Nat) (h : ∀ k, s.p k ≤ c) (i : Nat) : (∀ b k, (fillS s i b).p k ≤ c + 1) ∧ (∀ k, (putS s i).p k ≤ c) ∧ (∀ k, (hitS s i).p k ≤ c + 1) ∧ (∀ k, (pickS s).p k ≤ c) ∧ (∀ k, (unpinS s i).p k ≤ c) := by
  have hpick : ∀ (s : St), (∀ k, s.p k ≤ c) → ∀ k, (pickS s).p k ≤ c := fun s h k => by
    unfold pickS
    split
    · exact h k
    · split <;> exact h k
  have htouch : ∀ (s : St) (i : Int), (∀ k, s.p k ≤ c) → ∀ k, (touchS s i).p k ≤ c := fun s i h k => by unfold touchS; split <;> exact h k
  have hleave : ∀ (s : St) (i : Int), (∀ k, s.p k ≤ c) → ∀ k, (leaveS s i).p k ≤ c := fun s i h k => by unfold leaveS; split <;> exact h k
  have htake : ∀ (s : St) (i : Int), (∀ k, s.p k ≤ c) → ∀ k, (takeS s i).p k ≤ c := fun s i h k => by
    unfold takeS
    split
    · simp only [upd]; split
      · omega
      · exact h k
    · exact h k
  have hpin : ∀ (s : St) (i : Int), (∀ k, s.p k ≤ c) → ∀ k, (pinS s i).p k ≤ c + 1 := fun s i h k => by
    unfold pinS
    split
    · simp only [upd]; split
      · have := h i.toNat; omega
      · have := h k; omega
    · have := h k; omega
  have hunpin : ∀ (s : St) (i : Int), (∀ k, s.p k ≤ c) → ∀ k, (unpinS s i).p k ≤ c := fun s i h k => by
    unfold unpinS
    split
    · simp only [upd]; split
      · have := h i.toNat; omega
      · exact h k
    · exact h k
  refine ⟨fun b => ?_, ?_, hpin _ _ (htouch _ _ h), hpick _ h, hunpin _ _ h⟩
  · unfold fillS
    refine hpin _ _ (htouch _ _ (htake _ _ ?_))
    split
    · exact hleave _ _ (hpick _ h)
    · exact hpick _ h
  · unfold putS
    split
    · exact h
    · exact hunpin _ _ h
theorem knS_bound : ∀ i, ∀ k, (knS i).p k ≤ i := by
  intro i
  induction i with
  | zero => intro k; exact Nat.le_refl _
  | succ i ih => exact (pins_bound _ _ ((pins_bound _ _ ih i).1 false) i).2.1
theorem allS_bound (m : Nat) : ∀ i, ∀ k, (allS m i).p k ≤ i := by
  intro i
  induction i with
  | zero => intro k; exact Nat.le_refl _
  | succ i ih => exact (pins_bound _ _ ih i).1 false
end Go.Proofs.YtgjoahddbieliaaGreat
