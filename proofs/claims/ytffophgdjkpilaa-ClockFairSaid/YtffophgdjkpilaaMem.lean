/-
  What a call leaves as it was in memory, and how the program's clock lies in it.
-/
import Derived.Test.YtffophgdjkpilaaRows
import Derived.Test.YtffophgdjkpilaaModel
import Derived.WalkKit
import Derived.ProofKit
import Derived.BigQuiet
import Derived.Deep.QuietTactic
import Derived.RegionTactic
import Derived.ChangeAlike
import Derived.Outline
import Derived.Lib.Hide
namespace Go.Proofs.Ytffophgdjkpilaa
open Go.RowKit Clk
set_option linter.unusedVariables false

/-- all but the blocks of the list is as it was -/
structure Mod (w w' : World) (bs : List Nat) : Prop where
  os : w'.os = w.os
  tape : w'.tape = w.tape
  output : w'.output = w.output
  size : w.heap.size ≤ w'.heap.size
  block : ∀ k, k < w.heap.size → k ∉ bs → w'.heap[k]? = w.heap[k]?

theorem Mod.refl (w : World) (bs : List Nat) : Mod w w bs := ⟨rfl, rfl, rfl, Nat.le_refl _, fun _ _ _ => rfl⟩
theorem Mod.trans {a b c : World} {bs : List Nat} (h : Mod a b bs) (k : Mod b c bs) : Mod a c bs :=
  ⟨k.os.trans h.os, k.tape.trans h.tape, k.output.trans h.output, Nat.le_trans h.size k.size, fun i hi hn => (k.block i (Nat.lt_of_lt_of_le hi h.size) hn).trans (h.block i hi hn)⟩
theorem Mod.mono {a b : World} {bs cs : List Nat} (h : Mod a b bs) (hs : ∀ k, k ∈ bs → k ∈ cs) : Mod a b cs :=
  ⟨h.os, h.tape, h.output, h.size, fun i hi hn => h.block i hi (fun m => hn (hs i m))⟩
theorem Mod.drew {a w : World} {bs : List Nat} (h : Mod a w bs) : Mod a w.drew bs := ⟨h.os, h.tape, h.output, h.size, h.block⟩
theorem Mod.alloc {a w : World} {bs : List Nat} (h : Mod a w bs) (o : Obj) : Mod a (w.alloc o) bs :=
  h.trans ⟨rfl, rfl, rfl, by simp, fun k hk _ => Below.heap_alloc _ _ _ hk⟩
theorem Mod.setCell {a w : World} {bs : List Nat} (h : Mod a w bs) {p : Addr} (hp : p.block ∈ bs) (v : Value) : Mod a (w.setCell p v) bs :=
  h.trans ⟨rfl, rfl, rfl, by simp [World.setCell], fun k hk hn => Below.heap_setCell _ _ _ _ (fun e => hn (e ▸ hp))⟩
theorem Mod.cell {w w' : World} {bs : List Nat} (h : Mod w w' bs) (b o : Nat) (hb : b < w.heap.size) (hn : b ∉ bs) : w'.cell? ⟨b, o, none⟩ = w.cell? ⟨b, o, none⟩ := by
  simp only [World.cell?, h.block b hb hn]
theorem Mod.frozen {w w' : World} {bs : List Nat} (h : Mod w w' bs) (b o : Nat) (hb : b < w.heap.size) (hn : b ∉ bs) : w'.frozen? ⟨b, o, none⟩ = w.frozen? ⟨b, o, none⟩ := by
  simp only [World.frozen?, h.block b hb hn]
theorem cell_lt {w : World} {b o : Nat} {v : Value} (h : w.cell? ⟨b, o, none⟩ = some v) : b < w.heap.size := by
  unfold World.cell? at h
  by_cases hb : b < w.heap.size
  · exact hb
  · simp [Array.getElem?_eq_none (Nat.le_of_not_lt hb)] at h
theorem Mod.cell_of {w w' : World} {bs : List Nat} (h : Mod w w' bs) {b o : Nat} {v : Value} (hc : w.cell? ⟨b, o, none⟩ = some v) (hn : b ∉ bs) : w'.cell? ⟨b, o, none⟩ = some v := by
  rw [h.cell b o (cell_lt hc) hn]; exact hc

/-- the program's clock: its struct in block bc, its frames' row in block bf -/
structure PC (w : World) (bc bf : Nat) (s : St) : Prop where
  n1 : 1 ≤ s.n
  n64 : s.n ≤ 64
  hh : s.h < s.n
  ne : bc ≠ bf
  c0 : w.cell? ⟨bc, 0, none⟩ = some (.slice (some ⟨bf, 0, none⟩) s.n s.n)
  c1 : w.cell? ⟨bc, 1, none⟩ = some (.int .i64 (s.h : Int))
  fc : ∀ o, w.frozen? ⟨bc, o, none⟩ = false
  ct : ∀ k, k < s.n → w.cell? ⟨bf, k * 3, none⟩ = some (.bool (s.t k))
  cu : ∀ k, k < s.n → w.cell? ⟨bf, k * 3 + 1, none⟩ = some (.bool (s.u k))
  cp : ∀ k, k < s.n → w.cell? ⟨bf, k * 3 + 2, none⟩ = some (.int .i64 (s.p k : Int))
  ff : ∀ o, w.frozen? ⟨bf, o, none⟩ = false

theorem PC.mod {w w' : World} {bc bf : Nat} {s : St} (h : PC w bc bf s) {bs : List Nat} (m : Mod w w' bs) (h1 : bc ∉ bs) (h2 : bf ∉ bs) : PC w' bc bf s := by
  have l1 := cell_lt h.c0
  have l2 := cell_lt (h.ct 0 h.n1)
  refine ⟨h.n1, h.n64, h.hh, h.ne, m.cell_of h.c0 h1, m.cell_of h.c1 h1, ?_, ?_, ?_, ?_, ?_⟩
  · intro o; rw [m.frozen _ _ l1 h1]; exact h.fc o
  · intro k hk; exact m.cell_of (h.ct k hk) h2
  · intro k hk; exact m.cell_of (h.cu k hk) h2
  · intro k hk; exact m.cell_of (h.cp k hk) h2
  · intro o; rw [m.frozen _ _ l2 h2]; exact h.ff o

/-- a cell behind a store -/
theorem cell_set (w : World) (b o b' o' : Nat) (v x : Value) (h : w.cell? ⟨b, o, none⟩ = some x) :
    (w.setCell ⟨b', o', none⟩ v).cell? ⟨b, o, none⟩ = some (if b = b' ∧ o = o' then v else x) := by
  unfold World.cell? World.setCell at *
  simp only [Array.getElem?_modify]
  by_cases e : b' = b
  · subst e
    simp only [if_true]
    cases hx : w.heap[b']? with
    | none => simp [hx] at h
    | some ob =>
      simp only [hx] at h ⊢
      cases ob <;> simp_all
      rw [Array.getElem?_setIfInBounds]
      by_cases e2 : o' = o
      · subst e2
        have : o' < _ := (Array.getElem?_eq_some_iff.1 h).1
        simp [this]
      · simp only [e2, if_false, h]
        have : ¬ o = o' := fun q => e2 q.symm
        simp [this]
  · have : ¬ b = b' := fun q => e q.symm
    simp only [if_neg e, this, false_and, if_false]
    exact h
theorem frozen_set (w : World) (p q : Addr) (v : Value) : (w.setCell p v).frozen? q = w.frozen? q := by
  unfold World.frozen? World.setCell
  simp only [Array.getElem?_modify]
  by_cases e : p.block = q.block
  · simp only [e, if_true]
    cases hx : w.heap[q.block]? with
    | none => rfl
    | some ob => cases ob <;> simp
  · simp only [if_neg e]
end Go.Proofs.Ytffophgdjkpilaa
