/-
  A row of dirty pages, sorted by their numbers.
-/
import Derived.Test.YtgjoahddbieliaaGreatMPoolZ
import Derived.Test.YtgjoahddbieliaaGreatSortL
namespace Go.Proofs.YtgjoahddbieliaaGreat
open Go.RowKit Go.Lib Go.Sort
set_option linter.unusedVariables false

theorem cisnan32_any (w : World) (x : Int) : Calls Tryz.prog 135 #[.int .u32 x] w fun e w' => e = .returned (.bool false) ∧ w = w' := by
  go_enter Tryz.func135, Tryz.ntmps135
  go_wp2_with fail
  go_ret
  exact ⟨rfl, rfl⟩
theorem compare32_any (w : World) (x y : Int) : Calls Tryz.prog 62 #[.int .u32 x, .int .u32 y] w fun e w' => e = .returned (.int .i64 (compareInt x y)) ∧ w = w' := by
  have h1 := cisnan32_any w x
  have h2 := cisnan32_any w y
  have H1 := Lib.hid h1
  have H2 := Lib.hid h2
  clear h1 h2
  unfold compareInt
  by_cases hxy : x < y
  · rw [if_pos hxy]
    go_enter Tryz.func62, Tryz.ntmps62
    go_wp2_with fail
    refine H1.out.mono ?_
    rintro e w' ⟨rfl, rfl⟩
    go_wp2_with fail
    refine H2.out.mono ?_
    rintro e w' ⟨rfl, rfl⟩
    go_wp2_with fail
    go_ret
    exact ⟨rfl, rfl⟩
  · rw [if_neg hxy]
    by_cases hyx : x > y
    · rw [if_pos hyx]
      go_enter Tryz.func62, Tryz.ntmps62
      go_wp2_with fail
      refine H1.out.mono ?_
      rintro e w' ⟨rfl, rfl⟩
      go_wp2_with fail
      refine H2.out.mono ?_
      rintro e w' ⟨rfl, rfl⟩
      go_wp2_with fail
      go_ret
      exact ⟨rfl, rfl⟩
    · rw [if_neg hyx]
      go_enter Tryz.func62, Tryz.ntmps62
      go_wp2_with fail
      refine H1.out.mono ?_
      rintro e w' ⟨rfl, rfl⟩
      go_wp2_with fail
      refine H2.out.mono ?_
      rintro e w' ⟨rfl, rfl⟩
      go_wp2_with fail
      go_ret
      exact ⟨rfl, rfl⟩
def dCmp (x y : Nat × Nat) : Int := compareInt (x.1 : Int) (y.1 : Int)
theorem dirtyfn_any (x y : Nat × Nat) (W : World) : Calls Tryz.prog 61 #[.agg #[.int .u32 (x.1 : Int), .int .u64 (x.2 : Int)], .agg #[.int .u32 (y.1 : Int), .int .u64 (y.2 : Int)]] W fun e w' => e = .returned (.int .i64 (dCmp x y)) ∧ ∃ q os', w' = grow (W.drewN q) os' := by
  have hcon := fun W' => compare32_any W' (x.1 : Int) (y.1 : Int)
  show Calls _ _ _ _ (fun e w' => e = .returned (.int .i64 (compareInt (x.1 : Int) (y.1 : Int))) ∧ _)
  generalize compareInt (x.1 : Int) (y.1 : Int) = r at hcon ⊢
  have Hcon := Lib.hid hcon
  clear hcon
  go_enter Tryz.func61, Tryz.ntmps61
  go_wp2_with fail
  refine (Hcon.out _).mono ?_
  rintro e w' ⟨rfl, rfl⟩
  go_wp2_with fail
  go_ret
  exact ⟨rfl, 0, _, by rw [alloc_eq_grow, alloc_eq_grow, grow_grow]; rfl⟩
theorem dCmp_lt (x y : Nat × Nat) : ltOf dCmp x y = decide (x.1 < y.1) := by
  unfold ltOf dCmp compareInt
  by_cases h : x.1 < y.1
  · rw [if_pos (by omega), decide_eq_true h]; rfl
  · rw [if_neg (by omega), decide_eq_false h]
    split <;> rfl
theorem dCmp_swo : SWO (ltOf dCmp) := by
  refine ⟨fun x => ?_, fun x y z h1 h2 => ?_, fun x y z h1 h2 => ?_⟩
  · rw [dCmp_lt]; simp
  · rw [dCmp_lt] at *
    have := of_decide_eq_true h1
    have := of_decide_eq_true h2
    exact decide_eq_true (by omega)
  · rw [dCmp_lt] at *
    have := of_decide_eq_false h1
    have := of_decide_eq_false h2
    exact decide_eq_false (by omega)
theorem flat_dCells (d : Array (Nat × Nat)) (i : Nat) (h : i < d.size * 2) : (dCells d.toList)[i]? = some ((flatK dOne 2 d)[i]!) := by
  rw [get_flatK dOne 2 d i h]
  have h1 : i / 2 < d.toList.length := by rw [Array.length_toList]; omega
  have h2 := dCells_at d.toList (i / 2) (i % 2) (by omega) h1
  rw [show i / 2 * 2 + i % 2 = i by omega] at h2
  rw [h2]
  have h3 : d[i / 2]! = d.toList[i / 2] := by
    rw [getElem!_pos d (i / 2) (by omega)]; rfl
  rw [h3]
  have h4 : i % 2 = 0 ∨ i % 2 = 1 := by omega
  rcases h4 with h4 | h4 <;> rw [h4] <;> rfl
theorem sortd_all (K : Nat) (hK : K ≤ 1000000) : SortD K := by
  intro n0 W T v l hl hnd
  obtain ⟨hx, ⟨rfl, he⟩ | ⟨b, cap, ys, rfl, ho, h3, h4, h5⟩⟩ := hnd.buf
  · have hnil : l = [] := List.eq_nil_of_length_eq_zero he
    subst hnil
    refine (sort_nil W _).mono ?_
    rintro e w' ⟨he, rfl⟩
    exact ⟨he, [], List.Perm.refl _, List.Pairwise.nil, hnd, Mod.refl _ _⟩
  · have eg : ∀ args w, (callFunc 61 args).run Tryz.prog w = .ok (.enter 61 args) w := enters_of Tryz.func61 (by kernel_rfl) rfl
    have hH : HoldsK dOne 2 W b 0 l.toArray := by
      intro j hj
      rw [size_flatK] at hj
      rw [Nat.zero_add]
      have hf := flat_dCells l.toArray j hj
      refine ⟨?_, ho.fz _⟩
      rw [ho.cell, List.getElem?_append_left (by rw [dCells_length]; simpa using hj)]
      exact hf
    have hcon := AnyQ.slices_SortFunc Tryz.sortD 2 Tryz.isAgg118 Tryz.sizeOf118 dOne (fun _ => rfl) (fun x u hu => by simp [dOne] at hu; rcases hu with rfl | rfl <;> rfl) dCmp dCmp_swo 61 #[] b 0 cap l.toArray W eg (fun _ _ _ _ x y => dirtyfn_any x y _) hH ho.lt (by simp; omega)
    rw [show l.toArray.size = l.length by simp] at hcon
    refine hcon.mono ?_
    rintro e w' ⟨he, d', m, os, hp, hs, rfl⟩
    have hsz : d'.size = l.length := by rw [hp.1]; simp
    have hheap : (sortWorldK dOne 2 W b 0 m d' os).heap = (W.heap.modify b (onCells (putCells id 0 (flatK dOne 2 d')))) ++ os := rfl
    have hlt := ho.lt
    have hlen' : d'.toList.length = l.length := by rw [Array.length_toList, hsz]
    have hrow : (putCells id 0 (flatK dOne 2 d') ⟨dCells l ++ ys⟩) = ⟨dCells d'.toList ++ ys⟩ := by
      apply Array.ext_getElem?
      intro j
      unfold putCells
      rw [Array.getElem?_mapIdx]
      simp only [List.getElem?_toArray, size_flatK, Nat.zero_add, Nat.zero_le, true_and, Nat.sub_zero, hsz, id]
      by_cases hj : j < l.length * 2
      · rw [List.getElem?_append_left (by rw [dCells_length]; exact hj), List.getElem?_append_left (by rw [dCells_length, hlen']; exact hj), flat_dCells d' j (by rw [hsz]; exact hj), List.getElem?_eq_getElem (by rw [dCells_length]; exact hj)]
        simp [hj]
      · rw [List.getElem?_append_right (by rw [dCells_length]; omega), List.getElem?_append_right (by rw [dCells_length, hlen']; omega), dCells_length, dCells_length, hlen']
        cases ys[j - l.length * 2]? with
        | none => rfl
        | some u => simp [hj]
    have hown : Own (sortWorldK dOne 2 W b 0 m d' os) T b tDirt 118 (dCells d'.toList ++ ys) := by
      refine ⟨?_, ho.tag⟩
      rw [hheap, Array.getElem?_append_left (by simpa using hlt), Array.getElem?_modify, if_pos rfl, ho.row]
      show some (Obj.cells _ _ _) = _
      rw [hrow]
    have hmod : Mod W (sortWorldK dOne 2 W b 0 m d' os) (fun k => (Value.slice (some ⟨b, 0, none⟩) l.length cap).ownBlock = some k) := by
      refine ⟨rfl, rfl, rfl, ?_, fun k hk hn => ?_⟩
      · rw [hheap, Array.size_append, Array.size_modify]; omega
      · rw [hheap, Array.getElem?_append_left (by simpa using hk), Array.getElem?_modify, if_neg (fun e => hn (by rw [e]; rfl))]
    refine ⟨he, d'.toList, ?_, ?_, ⟨⟨by rw [dCells_length, hlen'], .inr ⟨b, cap, ys, by rw [hlen'], hown, ?_, by rw [hlen']; exact h4, h5⟩⟩, hnd.low⟩, hmod⟩
    · have h6 := hp.2.2
      have e1 : (d'.extract 0 l.length).toList = d'.toList := by rw [← hsz]; simp
      have e2 : (l.toArray.extract 0 l.length).toList = l := by simp
      rw [e1, e2] at h6
      exact h6
    · rw [List.pairwise_iff_getElem]
      intro i j hi hj hij
      have h7 := hs i j (Nat.zero_le _) hij (by rw [← hlen']; exact hj)
      rw [dCmp_lt] at h7
      have h8 := of_decide_eq_false h7
      rw [Array.length_toList] at hi hj
      rw [getElem!_pos d' i hi, getElem!_pos d' j hj] at h8
      simp only [Array.getElem_toList]
      omega
    · rw [dCells_length, hlen']
      rw [dCells_length] at h3
      exact h3
end Go.Proofs.YtgjoahddbieliaaGreat

/-
  Get of a page, over a pool of which all is known: it is the page as it was put last.
-/
namespace Go.Proofs.YtgjoahddbieliaaGreat
open Go.RowKit
set_option linter.unusedVariables false

/-- the log is as it was, but for how much of it lasts -/
structure SameLog (L M : LogM) : Prop where
  base : M.base = L.base
  stream : M.stream = L.stream
  starts : M.starts = L.starts
  strips : M.strips = L.strips
  firstS : M.firstS = L.firstS
  lasts : L.lasts ≤ M.lasts
theorem SameLog.refl (L : LogM) : SameLog L L := ⟨rfl, rfl, rfl, rfl, rfl, Nat.le_refl _⟩
theorem SameLog.flush (L : LogM) (k : Nat) : SameLog L (flL L k) := by
  obtain ⟨e1, e2, e3, e4, e5⟩ := flL_same L k
  exact ⟨e1, e2, e3, e4, e5, (flL_lasts L k).1⟩
theorem SameLog.trans {L M K : LogM} (h : SameLog L M) (k : SameLog M K) : SameLog L K := ⟨k.base.trans h.base, k.stream.trans h.stream, k.starts.trans h.starts, k.strips.trans h.strips, k.firstS.trans h.firstS, Nat.le_trans h.lasts k.lasts⟩
theorem pageLSN_64 {P : List Int} (h : Sound P) : pageLSN P < 18446744073709551616 := by
  have h2 := pageN_lt h.tidy.isB 0 8
  have h5 : (2 : Nat) ^ (8 * 8) = 18446744073709551616 := by decide
  rw [h5] at h2; exact h2
/-- what Get leaves -/
structure Got (w : World) (τ : Tags) (bp bf bd : Nat) (N : Nat) (H : PoolH) (L : LogM) (cur : Nat → List Int) (n b : Nat) (w' : World) (τ' : Tags) (H' : PoolH) (L' : LogM) (D' : Dev) (F' : List Fr) (s' : Ck.Clk.St) (i : Nat) (f : Fr) : Prop where
  pool : PoolW w' τ' bp bf bd H' L' D' F' s'
  good : Good N H'.st L' D' F' cur
  held : Held F' s' i
  at_ : F'[i]? = some f
  pg : f.pg = some (b, cur n)
  fn : f.n = n
  hn : H'.n = N
  hl : H'.bl = H.bl
  st : H.st ≤ H'.st ∧ H'.st ≤ H.st + 1
  log : SameLog L L'
  step : Step w τ w' τ' PWTag
def GetE (N : Nat) (cur : Nat → List Int) (H : PoolH) (L : LogM) (F : List Fr) (s : Ck.Clk.St) (i : Nat) (f : Fr) (H1 : PoolH) (L1 : LogM) (D1 : Dev) (s1 : Ck.Clk.St) : Prop :=
  s1 = leftS (Ck.Clk.pickS s) i f.pg.isSome ∧ Good N H1.st L1 D1 (F.set i Fr.no) cur ∧ H1.n = N ∧ H1.bl = H.bl ∧ (H.st ≤ H1.st ∧ H1.st ≤ H.st + 1) ∧ SameLog L L1
theorem get_good {w : World} {τ : Tags} {bp bf bd N : Nat} {H : PoolH} {L : LogM} {D : Dev} {F : List Fr} {s : Ck.Clk.St} {cur : Nat → List Int} (h : PoolW w τ bp bf bd H L D F s) (hg : Good N H.st L D F cur) (hc : Clock F s) (hN : H.n = N) (hst : H.st + 1 < 18446744073709551616) (n : Nat) (hn : n < N) :
    Calls Tryz.prog 12 #[.pointer (some ⟨bp, 0, none⟩), .int .u32 (n : Int)] w fun e w' => ∃ b, e = .returned (.tuple #[.pointer (some ⟨b, 0, none⟩), .int .u16 0]) ∧ ∃ τ' H' L' D' F' s' i f, Got w τ bp bf bd N H L cur n b w' τ' H' L' D' F' s' i f := by
  subst hN
  have hn512 := h.pool.n1
  cases hw : whereOf F n with
  | some i =>
    obtain ⟨f, hf, hh⟩ := (whereOf_iff h.pool.one n i).1 hw
    obtain ⟨b, P, hpg, hfn⟩ := has_iff.1 hh
    obtain ⟨_, hP, _⟩ := hg.frame i f b P hf hpg
    have := get_hit h.pool n (by omega) hw hf (fun k => by rw [hc.p]; omega)
    refine this.mono ?_
    rintro e w' ⟨rfl, hp, hs⟩
    have hsp : Step w τ w' τ PoolTag := hs.mono (fun g h => .inr (.inr (.inr (.inl h))))
    exact ⟨b, by rw [hpg]; rfl, τ, H, L, D, F, _, i, f, ⟨h.turn hp hsp, hg, hc.hit hf (by rw [hpg]; rfl), hf, by rw [hpg, hP, hfn], hfn, rfl, rfl, ⟨Nat.le_refl _, Nat.le_succ _⟩, SameLog.refl L, hsp.mono (fun _ h => .inl h)⟩⟩
  | none =>
    obtain ⟨hpb, hpi⟩ := hc.pick
    generalize hi : Ck.Clk.pickI s = i at *
    obtain ⟨f, hf⟩ : ∃ f, F[i]? = some f := ⟨_, List.getElem?_eq_getElem hpi⟩
    have hno : ∀ (j : Nat) (g : Fr), F[j]? = some g → g.has n = false := fun j g hgj => by
      cases hx : g.has n with
      | false => rfl
      | true =>
        have := (whereOf_iff h.pool.one n j).2 ⟨g, hgj, hx⟩
        rw [hw] at this; cases this
    have hone1 : OneHas (F.set i Fr.no) := OneHas.set h.pool.one i Fr.no (fun j n g _ _ _ => no_has n)
    have hnob : whereOf (F.set i Fr.no) n = none := by
      cases hx : whereOf (F.set i Fr.no) n with
      | none => rfl
      | some j =>
        obtain ⟨g, hgj, hh⟩ := (whereOf_iff hone1 n j).1 hx
        rcases set_get hpi hgj with ⟨_, rfl⟩ | ⟨_, hg'⟩
        · cases hh
        · rw [hno j g hg'] at hh; cases hh
    have hno1 : ∀ (j : Nat) (g : Fr), (F.set i Fr.no)[j]? = some g → g.has n = false := fun j g hgj => by
      rcases set_get hpi hgj with ⟨_, rfl⟩ | ⟨_, hg'⟩
      · rfl
      · exact hno j g hg'
    obtain ⟨hheld, hpins⟩ := hc.fill hf (0, []) n 0
    have hbring := bring_gen h n (by omega) hpb hi hpi (Q := cur n) (GetE H.n cur H L F s i f) (fun w1 τ1 hp1 => by
      cases hpg : f.pg with
      | none =>
        have hfno := hg.none i f hf hpg
        refine (empty_none hp1.pool i hf hpg).mono ?_
        rintro e w' ⟨rfl, rfl⟩
        have hsame : F.set i Fr.no = F := set_same (by rw [hf, hfno])
        refine ⟨rfl, H, L, D, Ck.Clk.pickS s, τ1, ⟨?_, by rw [hsame]; exact hg, rfl, rfl, ⟨Nat.le_refl _, Nat.le_succ _⟩, SameLog.refl L⟩, rfl, by rw [hsame]; exact hp1, Step.refl _ _ _⟩
        rw [hpg]; rfl
      | some x =>
        obtain ⟨b, P⟩ := x
        obtain ⟨hfn, hP, _⟩ := hg.frame i f b P hf hpg
        have hs1 : Ck.Clk.leaveS (Ck.Clk.pickS s) (i : Int) = leftS (Ck.Clk.pickS s) i f.pg.isSome := by rw [hpg]; rfl
        by_cases h0 : f.first = 0
        · refine (empty_clean hp1.pool i hf hpg h0 (by omega)).mono ?_
          rintro e w' ⟨rfl, hp2, hs2⟩
          exact ⟨rfl, H, L, D, _, τ1, ⟨hs1, hg.drop hf h0, rfl, rfl, ⟨Nat.le_refl _, Nat.le_succ _⟩, SameLog.refl L⟩, rfl, hp1.turn hp2 hs2, hs2.mono (fun _ h => .inl h)⟩
        · have h0' : 0 < f.first := by omega
          have hsnd : Sound P := by rw [hP]; exact (hg.page f.n hfn).1
          refine (empty_dirty hp1 hg.rise hg.cap hg.f0 (by rw [hg.f1]; omega) hg.calm hst hf hpg hfn h0' rfl (pageLSN_64 hsnd)).mono ?_
          rintro e w' ⟨rfl, k, fl, τ2, hat, hp2, hs2⟩
          obtain ⟨hgw, -, -⟩ := hg.write hf hpg h0' hat
          have hi' := (List.getElem?_eq_some_iff.1 hf).1
          have hgd := hgw.drop (i := i) (f := { f with first := 0 }) (List.getElem?_set_self hi') rfl
          rw [List.set_set] at hgd
          exact ⟨rfl, { H with st := H.st + 1 }, _, _, _, τ2, ⟨hs1, hgd, rfl, rfl, ⟨Nat.le_succ _, Nat.le_refl _⟩, SameLog.flush L _⟩, rfl, hp2, hs2⟩) (fun w1 τ1 H1 L1 D1 s1 hE hp1 => by
      obtain ⟨_, hg1, hN1, _, hst1, _⟩ := hE
      obtain ⟨Q, hQ, hq⟩ := hg1.home n hn
      have hQc : Q = cur n := hq (fun j g hgj hh => by rw [hno1 j g hgj] at hh; cases hh)
      subst hQc
      rcases hQ with ⟨h1, h2⟩ | ⟨s', h1, h2, h3, h4, h5⟩
      · have := load_zero hp1.pool.hd hp1.log hp1.dev n (by rw [hg1.f1]; omega) h1 (tPg i)
        rw [← h2] at this
        exact this
      · exact load_page hp1.pool.hd hp1.log hp1.dev n (by rw [hg1.f1]; omega) (st := s') (by rw [show (2 : Nat) ^ 64 = 18446744073709551616 from by decide]; omega) h3 h4 h2 (tPg i)) hnob
    refine (get_gen h n (by omega) hw hpi (GetE H.n cur H L F s i f) hbring (fun H1 L1 D1 s1 hE k => by rw [hE.1]; exact hpins k)).mono ?_
    rintro e w' ⟨H1, L1, D1, s1, b, τ', rfl, ⟨e1, hg1, hN1, hl1, hst1, hsl1⟩, hp1, hs1⟩
    subst e1
    have hgf := hg1.fill (i := i) (n := n) (by rw [List.length_set]; exact hpi) hn hno1 b (List.getElem?_set_self hpi)
    rw [List.set_set] at hgf
    obtain ⟨hheld, -⟩ := hc.fill hf (b, cur n) n 0
    exact ⟨b, rfl, τ', H1, L1, D1, _, _, i, _, ⟨hp1, hgf, hheld, List.getElem?_set_self hpi, rfl, rfl, hN1, hl1, hst1, hsl1, hs1⟩⟩
end Go.Proofs.YtgjoahddbieliaaGreat
