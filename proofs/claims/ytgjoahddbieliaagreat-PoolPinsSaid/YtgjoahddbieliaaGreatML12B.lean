/-
  A log and a pool, and the document's: Make of the chapter's example.
-/
import Derived.Test.YtgjoahddbieliaaGreatML05
import Derived.Test.YtgjoahddbieliaaGreatMR12C
import Derived.Test.YtgjoahddbieliaaGreatMPoolP
namespace Go.Proofs.YtgjoahddbieliaaGreat
open Go.RowKit
set_option linter.unusedVariables false

/-! ### the tags of the parts are apart -/
theorem LogTag.fst {g : Tag} (h : LogTag g) : 10 ≤ g.1 ∧ g.1 ≤ 12 := by rcases h with rfl | rfl | rfl <;> simp [tLog, tStream, tStarts]
theorem DevTag.fst {g : Tag} (h : DevTag g) : 2 ≤ g.1 ∧ g.1 ≤ 5 := by rcases h with h | h | h | h <;> omega
theorem RDevTag.fst {g : Tag} (h : RDevTag g) : 40 ≤ g.1 ∧ g.1 ≤ 42 := by rcases h with h | h | h <;> omega
theorem RLogTag.fst {g : Tag} (h : RLogTag g) : 50 ≤ g.1 ∧ g.1 ≤ 52 := by rcases h with rfl | rfl | rfl <;> simp [tRLog, tRStream, tRStarts]
theorem RPoolTag.fst {g : Tag} (h : RPoolTag g) : 60 ≤ g.1 ∧ g.1 ≤ 62 := by rcases h with rfl | rfl | rfl <;> simp [tRPool, tRFr, tRClk]
theorem PoolTag.fst {g : Tag} (h : PoolTag g) : g.1 = 20 ∨ (30 ≤ g.1 ∧ g.1 ≤ 33) := by rcases h with rfl | rfl | rfl | rfl | ⟨i, rfl⟩ <;> simp [tPool, tFr, tWhere, tClk, tPg]
theorem WalTag.fst {g : Tag} (h : WalTag g) : 2 ≤ g.1 ∧ g.1 ≤ 12 := by
  rcases h with h | h
  · have := h.fst; omega
  · have := h.fst; omega
theorem RWalTag.fst {g : Tag} (h : RWalTag g) : 40 ≤ g.1 ∧ g.1 ≤ 52 := by
  rcases h with h | h
  · have := h.fst; omega
  · have := h.fst; omega
theorem tData_fst : tData.1 = 1 := rfl
/-- whatever is not a box -/
def AnyTag (g : Tag) : Prop := g.1 ≠ 90
theorem any_mod {w w' : World} {τ' : Tags} (h : Step w (fun _ => tBox) w' τ' AnyTag) : Mod w w' no :=
  ⟨h.mod.os, h.mod.tape, h.mod.output, h.mod.size, fun k hk _ => h.mod.block k hk (fun hS => hS rfl)⟩

/-! ### a new log leaves the pages as they were -/
theorem write_f1 (D : Dev) (k : Nat) (l : List Int) : (D.write 0 k l).f1 = D.f1 := by
  unfold Dev.write
  have hg : D.go.2.f1 = D.f1 := Dev.go_file D 1
  split
  · split
    · exact hg
    · rfl
  · exact hg
theorem sync_f1 (D : Dev) : (D.sync 0).f1 = D.f1 := by
  unfold Dev.sync
  have hg : D.go.2.f1 = D.f1 := Dev.go_file D 1
  split <;> exact hg
theorem makeTo_f1 (D : Dev) (a : Nat) (want : List (List Int)) (i : Nat) : (makeTo D a want i).1.f1 = D.f1 := by
  induction i with
  | zero => rfl
  | succ i ih =>
    show (if _ then makeTo D a want i else _).1.f1 = _
    split
    · exact ih
    · rw [write_f1, ih]
theorem walNew_f1 (D : Dev) : (walNewDev D).f1 = D.f1 := by
  unfold walNewDev sayDev
  rw [sync_f1, write_f1]
  unfold Dev.make
  split
  · rw [sync_f1, makeTo_f1]
  · rw [makeTo_f1]
theorem blank_of {D : Dev} {m : Nat} (h : D.f1 = List.replicate m zsec) (i : Nat) (hi : 4 * i + 4 ≤ m) : lastTo D i 4 = blank := by
  apply List.ext_getElem?
  intro j
  unfold lastTo blank
  rw [List.getElem?_map, List.getElem?_replicate]
  by_cases hj : j < 4
  · rw [List.getElem?_range hj, if_pos hj]
    show some (D.last 1 (4 * i + j)) = some zeros128
    unfold Dev.last
    have : D.file 1 = D.f1 := rfl
    rw [this, h, List.getElem?_replicate, if_pos (by omega)]
    rfl
  · rw [List.getElem?_eq_none (by simp; omega), if_neg hj]; rfl
theorem new_lim (a b : Nat) : (⟨List.replicate a zsec, List.replicate b zsec, none, false⟩ : Dev).lim 0 := by
  intro f k s hk
  unfold Dev.file at hk
  split at hk
  · rw [List.getElem?_replicate] at hk
    split at hk
    · cases hk; exact Nat.le_refl _
    · cases hk
  · split at hk
    · rw [List.getElem?_replicate] at hk
      split at hk
      · cases hk; exact Nat.le_refl _
      · cases hk
    · simp at hk
def knD0 : Dev := ⟨List.replicate 18 zsec, List.replicate 20 zsec, none, false⟩
def knD : Dev := walNewDev knD0
theorem knD_f1 : knD.f1 = List.replicate 20 zsec := walNew_f1 knD0
theorem knD_f1len : knD.f1.length = 20 := by rw [knD_f1, List.length_replicate]
theorem knD_blank (i : Nat) (hi : i < 5) : lastTo knD i 4 = blank := blank_of knD_f1 i (by omega)
end Go.Proofs.YtgjoahddbieliaaGreat
