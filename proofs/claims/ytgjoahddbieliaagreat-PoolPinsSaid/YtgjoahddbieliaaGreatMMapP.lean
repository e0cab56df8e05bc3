/-
  A map[uint32]int whose block is known: look-up, store, delete, make.
-/
import Derived.Test.YtgjoahddbieliaaGreatMNum
import Derived.Maps.Keyed
import Derived.Maps.Own
import Derived.Maps.OwnOps
import Derived.Maps.OwnSet
namespace Go.Proofs.YtgjoahddbieliaaGreat
open Go.RowKit Go.Maps
set_option linter.unusedVariables false

theorem keyU32 : Keyed Tryz.prog 25 := int_keyed Tryz.underlying25
abbrev litK (k : Nat) : Lit := .int .u32 (k : Int)
theorem wf_u32 (k : Nat) (h : k < 4294967296) : (litK k).wf = true := by
  have e1 : IntKind.u32.min = 0 := by decide
  have e2 : IntKind.u32.max = 4294967295 := by decide
  simp only [Lit.wf, e1, e2, Bool.and_eq_true, decide_eq_true_eq]; omega
theorem keyOf_u32 (k : Nat) (h : k < 4294967296) : keyOf Tryz.prog 25 (.int .u32 (k : Int)) = some (litK k) :=
  keyOf_int_mk Tryz.underlying25 (wf_u32 k h)
theorem litK_ne {j k : Nat} (h : j ≠ k) : litK j ≠ litK k := fun e => by injection e with _ e; omega
theorem isKey_litK (k : Nat) (h : k < 4294967296) : WideAt.IsKeyLit (litK k) := keyU32.key (keyOf_u32 k h)
noncomputable abbrev rdInt : Value → Option (DataW Unit × List MemPlace) := plainElem Tryz.prog 3
def updO (f : Nat → Option Nat) (k : Nat) (v : Option Nat) : Nat → Option Nat := fun j => if j = k then v else f j
structure MapIs (w : World) (τ : Tags) (b : Nat) (g : Tag) (N : Nat) (f : Nat → Option Nat) : Prop where
  tag : τ b = g
  is : ∃ n D, w.ownsMap Tryz.prog 25 rdInt b n D ∧ (∀ kl, has D kl = true → ∃ k, k < N ∧ kl = litK k) ∧ (∀ k, has D (litK k) = (f k).isSome) ∧ (∀ k v, f k = some v → ∀ z, D.atKey (litK k) z = .lit (.int .i64 (v : Int)))
theorem MapIs.step {w w' : World} {τ τ' : Tags} {S : Tag → Prop} {b : Nat} {g : Tag} {n : Nat} {f : Nat → Option Nat} (h : MapIs w τ b g n f) (m : Step w τ w' τ' S) (hs : ¬ S g) : MapIs w' τ' b g n f := by
  obtain ⟨n, D, ⟨es, c, hb, r1⟩, r⟩ := h.is
  have hl : b < w.heap.size := (Array.getElem?_eq_some_iff.1 hb).1
  exact ⟨(m.ext b hl).trans h.tag, n, D, ⟨es, c, by rw [m.mod.block b hl (by rw [h.tag]; exact hs)]; exact hb, r1⟩, r⟩
theorem MapIs.lt {w : World} {τ : Tags} {b : Nat} {g : Tag} {n : Nat} {f : Nat → Option Nat} (h : MapIs w τ b g n f) : b < w.heap.size := by
  obtain ⟨n, D, ho, r⟩ := h.is
  exact ho.lt
theorem MapIs.made (w : World) (τ : Tags) (g : Tag) (N : Nat) : MapIs (w.alloc (.map #[] 0)) (τ.put w.heap.size g) w.heap.size g N (fun _ => none) :=
  ⟨Tags.put_same _ _ _, 0, _, World.ownsMap_made w _ _ _, fun kl h => by simp [has] at h, fun k => by simp [has], fun k v h => by simp at h⟩
theorem nodup_below : ∀ (n : Nat) (l : List Nat), l.Nodup → (∀ x ∈ l, x < n) → l.length ≤ n := by
  intro n
  induction n with
  | zero =>
    intro l _ h
    cases l with
    | nil => exact Nat.le_refl _
    | cons x l => exact absurd (h x (by simp)) (by omega)
  | succ n ih =>
    intro l hn h
    have h1 := ih (l.erase n) (hn.erase n) (fun x hx => by
      have h2 := h x (List.mem_of_mem_erase hx)
      have h3 : x ≠ n := fun e => by subst e; exact (List.Nodup.not_mem_erase hn) hx
      omega)
    have h2 : l.length - 1 ≤ (l.erase n).length := List.le_length_erase
    omega
def litNat : Lit → Nat
  | .int _ k => k.toNat
  | _ => 0
theorem owns_keys {w : World} {b n : Nat} {es : List (Lit × DataW Unit)} (ho : w.ownsMap Tryz.prog 25 rdInt b n (.map es)) : ∀ p ∈ es, WideAt.IsKeyLit p.1 := by
  obtain ⟨ms, c, a1, F, a3, a4⟩ := ho
  injection a4 with a4
  subst a4
  intro p hp
  have hp2 := (WideShapes.sorted_perm _).mem_iff.1 hp
  obtain ⟨v, hv⟩ := fit_keys F p hp2
  exact keyU32.key hv
theorem tidy_room {D : DataW Unit} {N : Nat} (h : Tidy D) {w : World} {b n : Nat} (ho : w.ownsMap Tryz.prog 25 rdInt b n D) (hk : ∀ kl, has D kl = true → ∃ k, k < N ∧ kl = litK k) : Maps.size D ≤ N := by
  obtain ⟨es, rfl, hp⟩ := h
  have hin : ∀ p ∈ es, ∃ k, k < N ∧ p.1 = litK k := fun p hm => hk p.1 (by rw [has_eq, List.any_eq_true]; exact ⟨p, hm, WideAt.sameKey_self (owns_keys ho p hm)⟩)
  have hn : (es.map (fun p => litNat p.1)).Nodup := by
    rw [List.nodup_iff_pairwise_ne, List.pairwise_map]
    have : es.Pairwise (fun x y => x ∈ es ∧ y ∈ es ∧ x.1 ≠ y.1) := List.Pairwise.imp_of_mem (fun ha hb h => ⟨ha, hb, h⟩) hp
    refine this.imp ?_
    rintro x y ⟨hx, hy, hne⟩ e
    obtain ⟨k1, -, a1⟩ := hin x hx
    obtain ⟨k2, -, a2⟩ := hin y hy
    rw [a1, a2] at e
    simp only [litNat, Int.toNat_natCast] at e
    exact hne (by rw [a1, a2, e])
  have := nodup_below N _ hn (fun k hk => by
    obtain ⟨x, hx, rfl⟩ := List.mem_map.1 hk
    obtain ⟨k1, a3, a1⟩ := hin x hx
    rw [a1]
    simpa [litNat, litK] using a3)
  simpa [Maps.size] using this
theorem Step.turned {w w' : World} {τ : Tags} {b : Nat} {g : Tag} (hb : τ b = g) (h : w.mapTurned w' b) : Step w τ w' τ (fun t => t = g) := by
  obtain ⟨es, c, es', c', h1, rfl⟩ := h
  exact ⟨⟨rfl, rfl, rfl, by simp [ChangeMaps.setBlock], fun k hk hn => by
    have : b ≠ k := fun e => hn (by rw [← e]; exact hb)
    simp [ChangeMaps.setBlock, this]⟩, Ext.refl _ _⟩
theorem MapIs.look {w : World} {τ : Tags} {b : Nat} {g : Tag} {N : Nat} {f : Nat → Option Nat} (h : MapIs w τ b g N f) (k : Nat) (hk : k < 4294967296) :
    (Instr.lookup 89 (.map (some b)) (.int .u32 (k : Int)) true).run Tryz.prog w = .ok (.tuple #[.int .i64 (((f k).getD 0 : Nat) : Int), .bool (f k).isSome]) w := by
  obtain ⟨n, D, ho, h1, h2, h3⟩ := h.is
  obtain ⟨v, ps, hr, hv⟩ := ho.look_ok keyU32 Tryz.underlying89 (Tryz.zeroValue3 w) (plainElem_int Tryz.underlying3 (a := 0) (by decide)) (keyOf_u32 k hk)
  rw [hr, h2 k]
  obtain ⟨a, rfl, e, -⟩ := plainElem_int_inv Tryz.underlying3 hv
  have e1 := congrArg Prod.fst e
  simp only at e1
  cases hf : f k with
  | none =>
    rw [atKey_of_not_has (by rw [h2 k, hf]; rfl)] at e1
    simp only [DataW.lit.injEq, Lit.int.injEq, true_and] at e1
    rw [← e1]; simp
  | some v =>
    rw [h3 k v hf] at e1
    simp only [DataW.lit.injEq, Lit.int.injEq, true_and] at e1
    rw [← e1]; simp
theorem wf_i64n (v : Nat) (h : v < 1000000000) : (Lit.int .i64 (v : Int)).wf = true := by
  have e1 : IntKind.i64.min = -9223372036854775808 := by decide
  have e2 : IntKind.i64.max = 9223372036854775807 := by decide
  simp only [Lit.wf, e1, e2, Bool.and_eq_true, decide_eq_true_eq]; omega
theorem MapIs.store {w : World} {τ : Tags} {b : Nat} {g : Tag} {N : Nat} {f : Nat → Option Nat} (h : MapIs w τ b g N f) (k v : Nat) (hn : N ≤ 100000) (hk : k < N) (hv : v < 1000000000) :
    ∃ w', (Instr.mapUpdate 89 (.map (some b)) (.int .u32 (k : Int)) (.int .i64 (v : Int))).run Tryz.prog w = .ok () w' ∧ MapIs w' τ b g N (updO f k (some v)) ∧ Step w τ w' τ (fun t => t = g) := by
  obtain ⟨n, D, ho, h1, h2, h3⟩ := h.is
  have hsz := tidy_room (ho.tidy keyU32) ho h1
  have ho' : w.ownsMap Tryz.prog 25 rdInt b (Maps.size D) D := by
    obtain ⟨es, c, a1, a2, a3, rfl⟩ := ho
    exact ⟨es, c, a1, a2, by simp [Maps.size, length_sorted], rfl⟩
  obtain ⟨w', hr, hown, ht⟩ := ho'.store keyU32 Tryz.underlying89 (by unfold maxLen; omega) (keyOf_u32 k (by omega)) (plainElem_int Tryz.underlying3 (wf_i64n v hv))
  refine ⟨w', hr, ⟨h.tag, _, _, hown, ?_, ?_, ?_⟩, Step.turned h.tag ht⟩
  · intro kl hh
    by_cases e : kl = litK k
    · exact ⟨k, hk, e⟩
    · rw [has_put_other e] at hh; exact h1 kl hh
  · intro j
    by_cases e : j = k
    · subst e; rw [has_put_same ho.isMap (isKey_litK j (by omega))]; simp [updO]
    · rw [has_put_other (litK_ne e), h2 j]; simp [updO, e]
  · intro j u hj z
    by_cases e : j = k
    · subst e
      simp [updO] at hj; subst hj
      exact atKey_put_same ho.isMap (isKey_litK j (by omega)) _ _
    · rw [atKey_put_other (litK_ne e)]
      simp [updO, e] at hj
      exact h3 j u hj z
theorem MapIs.drop {w : World} {τ : Tags} {b : Nat} {g : Tag} {n : Nat} {f : Nat → Option Nat} (h : MapIs w τ b g n f) (k : Nat) (hk : k < 4294967296) (ty : TypeId) :
    ∃ w', (Builtin.delete_ #[89, 25] ty #[.map (some b), .int .u32 (k : Int)]).run Tryz.prog w = .ok (.tuple #[]) w' ∧ MapIs w' τ b g n (updO f k none) ∧ Step w τ w' τ (fun t => t = g) := by
  obtain ⟨n, D, ho, h1, h2, h3⟩ := h.is
  obtain ⟨w', hr, hown, ht⟩ := ho.drop keyU32 Tryz.underlying89 (keyOf_u32 k hk) ty
  refine ⟨w', hr, ⟨h.tag, _, _, hown, ?_, ?_, ?_⟩, Step.turned h.tag ht⟩
  · intro kl hh
    by_cases e : kl = litK k
    · subst e; rw [has_del_same] at hh; cases hh
    · rw [has_del_other e] at hh; exact h1 kl hh
  · intro j
    by_cases e : j = k
    · subst e; rw [has_del_same]; simp [updO]
    · rw [has_del_other (litK_ne e), h2 j]; simp [updO, e]
  · intro j u hj z
    by_cases e : j = k
    · subst e; simp [updO] at hj
    · rw [atKey_del_other (litK_ne e)]
      simp [updO, e] at hj
      exact h3 j u hj z
end Go.Proofs.YtgjoahddbieliaaGreat
