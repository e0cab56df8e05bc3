/-
  How the arguments of the laws (an integer, a slice of calls) are read, and that they read as they did.
-/
import Derived.Test.YtffophgdjkpilaaLawDoes
import Derived.Deep.Slices
import Derived.Deep.Fields
import Derived.ChangeSame
import Derived.Carry
namespace Go.Proofs.Ytffophgdjkpilaa.Args
open Go.ChangeShapes Go.WideShapes Go.Deep Go.RowKit
set_option linter.unusedVariables false

section
variable {H : Type} {enc : TypeId × Value → H} {P : Program} {w : World} {base : Nat} {spare : Nat → Bool} {held : Bool}
theorem open_slice_fields {t e : TypeId} {fs : Array Field} {fuel : Nat} {cs : List Value} {x : DataW H × List MemPlace} (ht : P.underlying t = some (.slice e)) (he : P.underlying e = some (.struct fs))
    (hone : oneCellFields P fs = true) (hC : P.cellsOf e = fs.size) (h : DataW.trod enc P w base spare held fuel t cs = some x) :
    (cs = [.slice none 0 0] ∧ x = (.nil, [])) ∨
    ∃ (a : Addr) (len cap m : Nat) (D : Nat → DataW H) (Pl : Nat → List MemPlace), cs = [.slice (some a) len cap] ∧ base ≤ a.block ∧ len ≤ cap ∧ cap ≤ maxLen ∧ m = (if spare a.block then cap else len) ∧
      x = (.slice ((List.range len).map D) ((List.range (m - len)).map fun j => D (len + j)), MemPlace.row a (m * fs.size) ++ (List.range m).flatMap Pl) ∧
      ∀ i, i < m → ∃ (ys : List (DataW H × List MemPlace)) (n : Nat), D i = .agg (ys.map (·.1)) ∧ Pl i = ys.flatMap (·.2) ∧ ys.length = fs.size ∧
        ∀ (j : Nat) (f : Field), fs[j]? = some f → ∃ (v : Value) (y : DataW H × List MemPlace), w.cell? (a.add (i * fs.size + j)) = some v ∧ ys[j]? = some y ∧ DataW.trod enc P w base spare held n f.type [v] = some y := by
  rcases open_slice ht h with h0 | ⟨a, len, cap, m, n, D, Pl, hcs, hb, hl, hm, hmm, hx, hi⟩
  · exact .inl h0
  · refine .inr ⟨a, len, cap, m, D, Pl, hcs, hb, hl, hm, hmm, by rw [hC] at hx; exact hx, fun i him => ?_⟩
    obtain ⟨cs', hc, ht'⟩ := hi i him
    rw [hC] at hc
    obtain ⟨ys, n', hn', hy, hlen, hyl, hf⟩ := DataW.trod_struct he ht'
    obtain ⟨_, hcl, hat⟩ := World.cells?_some hc
    simp only [Prod.mk.injEq] at hy
    refine ⟨ys, n', hy.1, hy.2, hyl, fun j f hj => ?_⟩
    obtain ⟨ho, hk⟩ := hone_of hone j f hj
    have hjl : j < fs.size := (Array.getElem?_eq_some_iff.1 hj).1
    have hcell := hat j hjl
    have hv : cs'[j]? = some (cs'[j]'(by omega)) := List.getElem?_eq_getElem (by omega)
    have h1 := hf j f hj
    rw [ho, hk] at h1
    have hone' : (cs'.drop j).take 1 = [cs'[j]'(by omega)] := by
      rw [List.drop_eq_getElem_cons (by omega)]
      rfl
    rw [hone'] at h1
    have hys : ys[j]? = some (ys[j]'(by omega)) := List.getElem?_eq_getElem (by omega)
    refine ⟨_, _, ?_, hys, h1.trans hys⟩
    rw [← Go.Deep.add_add, hcell, hv]
end
section
variable {H : Type} {enc : TypeId × Value → H} {P : Program}
theorem post_of_below {f : Func} {s : ChangeSpec} {apart fresh handsOn again : Bool} {W W' : World} {args : Array Value} {v : Value} {ds gs : List (DataW H)} {before pa pv : List MemPlace}
    (hW : DataW.Whole enc P f.params.toList s.vars apart W args.toList ds gs before)
    (hres : ∀ (b : Nat) (sp : Nat → Bool) (hd : Bool), DataW.TrodAll enc P W' b sp hd f.resultTypes.toList (v.resultList f.resultTypes.size) (s.fn H (ds ++ gs)).results [])
    (hargs : ∀ sp : Nat → Bool, (∀ p ∈ before, sp p.block = true) → DataW.TrodAll enc P W' 0 sp true f.params.toList args.toList (s.fn H (ds ++ gs)).args pa)
    (hvars : ∀ sp : Nat → Bool, (∀ p ∈ before, sp p.block = true) → DataW.TrodVars enc P W' sp s.vars (s.fn H (ds ++ gs)).vars pv)
    (hps : before = pa ++ pv) (hb : Below W.heap.size W W')
    (hok : ∀ (j : Nat) (t : TypeId) (r : Value), f.resultTypes[j]? = some t → (v.resultList f.resultTypes.size)[j]? = some r → Value.okWide P W' .any 0 t r) :
    s.post enc P f apart fresh handsOn again W args v W' := by
  have hlt : ∀ p ∈ before, p.block < W.heap.size := fun p hp => hW.lt p hp
  have hold : ∀ p ∈ before, (fun b => decide (b < W.heap.size)) p.block = true := fun p hp => by simpa using hlt p hp
  refine ⟨ds, gs, before, [], pa, pv, hW, hres _ _ _, hargs _ hold, hvars _ hold, World.keptBut_mono (fun p hp => ⟨hp, ?_⟩) (hb.frame (· ∈ before)), fun _ => ?_⟩
  · rw [hps, List.mem_append] at hp
    exact Or.inr hp
  · obtain ⟨_, _, _, _, _, hz, hn⟩ := hW
    refine ⟨hok, _, _, ([] ++ pa) ++ pv, ⟨[] ++ pa, pv, trodAll_append (hargs _ (fun _ _ => rfl)) (hres _ _ _), hvars _ (fun _ _ => rfl), rfl, ?_, ?_⟩, ?_⟩
    · intro b off hp
      have hin : MemPlace.cell b off ∈ before := by rw [hps]; simpa using hp
      rw [hb.frozen (hlt _ hin)]
      exact hz b off hin
    · intro ha
      have := hn ha
      rw [hps] at this
      simpa using this
    · intro p hp _
      rw [hps]
      simpa using hp
end

end Go.Proofs.Ytffophgdjkpilaa.Args
namespace Go.Proofs.Ytffophgdjkpilaa
open Go.ChangeShapes Go.WideShapes Go.Deep Go.RowKit Args
set_option linter.unusedVariables false

theorem Mod.below {W W' : World} (m : Mod W W' []) : Below W.heap.size W W' := ⟨m.os, m.tape, m.output, m.size, fun k hk => m.block k hk (by simp)⟩

theorem Try.struct30 : ∃ f0 f1 : Field, Try.prog.underlying 30 = some (.struct #[f0, f1]) ∧ f0.type = 5 ∧ f1.type = 3 := ⟨_, _, Try.underlying30, rfl, rfl⟩

theorem open_ops {H : Type} {enc : TypeId × Value → H} {W : World} {base : Nat} {sp : Nat → Bool} {v : Value} {d : DataW H} {p : List MemPlace} {b0 : Nat}
    (hv : Value.okWide Try.prog W .any b0 22 v) (h : DataW.Trod enc Try.prog W base sp true 22 v d p) : ∃ b len cap, v = .slice b len cap ∧ len ≤ maxLen ∧ Ops W b len := by
  obtain ⟨a, len, cap, rfl⟩ := okWide_slice Try.underlying22 hv
  obtain ⟨fuel, hf⟩ := h
  obtain ⟨f0, f1, hs, t0, t1⟩ := Try.struct30
  have hone : oneCellFields Try.prog #[f0, f1] = true := by
    have hx : Try.prog.underlying 30 = some (.struct #[f0, f1]) := hs
    have : (match Try.prog.underlying 30 with | some (.struct fs) => oneCellFields Try.prog fs | _ => false) = true := by kernel_rfl
    rw [hx] at this
    exact this
  rcases open_slice_fields Try.underlying22 hs hone (by kernel_rfl) hf with ⟨hcs, _⟩ | ⟨a', len', cap', m, D, Pl, hcs, hb, hl, hm, hmm, hx, hi⟩
  · have hcs' : [Value.slice a len cap] = [Value.slice none 0 0] := hcs
    simp only [List.cons.injEq, Value.slice.injEq, and_true] at hcs'
    obtain ⟨rfl, rfl, rfl⟩ := hcs'
    exact ⟨none, 0, 0, rfl, Nat.zero_le _, fun k hk => by omega⟩
  · have hcs' : [Value.slice a len cap] = [Value.slice (some a') len' cap'] := hcs
    simp only [List.cons.injEq, Value.slice.injEq, and_true] at hcs'
    obtain ⟨rfl, rfl, rfl⟩ := hcs'
    refine ⟨some a', len, cap, rfl, Nat.le_trans hl hm, fun k hk => ?_⟩
    have hk' : k < m := by rw [hmm]; split <;> omega
    obtain ⟨ys, n, _, _, _, hf⟩ := hi k hk'
    obtain ⟨v0, y0, c0, _, z0⟩ := hf 0 f0 rfl
    obtain ⟨v1, y1, c1, _, z1⟩ := hf 1 f1 rfl
    rw [t0] at z0
    rw [t1] at z1
    obtain ⟨n0, e0, _, w0⟩ := DataW.trod_int Try.underlying5 z0
    obtain ⟨n1, e1, _, w1⟩ := DataW.trod_int Try.underlying3 z1
    simp only [List.cons.injEq, and_true] at e0 e1
    subst e0
    subst e1
    have hx0 : 0 ≤ n0 ∧ n0 ≤ 255 := by simpa [Lit.wf, IntKind.min, IntKind.max, IntKind.signed, IntKind.bits] using w0
    obtain ⟨kd, rfl⟩ := Int.eq_ofNat_of_zero_le hx0.1
    have hspot : a'.spot = none := by
      cases hsp : a'.spot with
      | none => rfl
      | some s =>
        exfalso
        obtain ⟨ys, n, _, _, _, hf⟩ := hi 0 (by omega)
        obtain ⟨v0, y0, c0, _, z0⟩ := hf 0 f0 rfl
        simp [World.cell?, Addr.add, hsp] at c0
        split at c0 <;> simp_all
    obtain ⟨bl, ol, spt⟩ := a'
    simp only at hspot
    subst hspot
    refine ⟨bl, ol, kd, n1, rfl, by omega, ?_, ?_⟩
    · have : (⟨bl, ol, none⟩ : Addr).add (k * 2) = ⟨bl, ol + k * 2, none⟩ := by unfold Addr.add; split <;> simp_all
      rw [← this]; exact c0
    · have : (⟨bl, ol, none⟩ : Addr).add (k * 2 + 1) = ⟨bl, ol + k * 2 + 1, none⟩ := by unfold Addr.add; split <;> simp_all <;> omega
      rw [← this]; exact c1
end Go.Proofs.Ytffophgdjkpilaa
