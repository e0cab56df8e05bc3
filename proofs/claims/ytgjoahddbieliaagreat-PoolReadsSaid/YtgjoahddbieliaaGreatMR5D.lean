/-
  The reference's device: Write; Sync; Image.
-/
import Derived.Test.YtgjoahddbieliaaGreatMCrc
import Derived.Test.YtgjoahddbieliaaGreatMRegL
namespace Go.Proofs.YtgjoahddbieliaaGreat
open Go.RowKit
set_option linter.unusedVariables false

/-- what a call on the reference's device leaves -/
def RDevR (w : World) (τ : Tags) (b : Nat) (D : Dev) (r : Value) (e : Ending) (w' : World) : Prop := e = .returned r ∧ ∃ τ', RDevAt w' τ' b D ∧ Step w τ w' τ' RDevTag
def w_0 (w : World) : World := { w with heap := #[] }
theorem step_0 (w : World) (τ : Tags) (S : Tag → Prop) : Step (w_0 w) τ w τ S := ⟨⟨rfl, rfl, rfl, by simp [w_0], fun k hk => absurd hk (by simp [w_0])⟩, fun k hk => absurd hk (by simp [w_0])⟩
theorem nr_0 {w : World} {τ : Tags} {g : Tag} {v : Value} {ls : List (List Int)} (h : Waits w τ g v ls) : NR (w_0 w).heap.size w τ g v ls := ⟨h, fun k _ => Nat.zero_le _⟩
theorem Bytes.drews {w : World} {τ : Tags} {g : Tag} {v : Value} {l : List Int} (h : Bytes w τ g v l) : Bytes w.drew τ g v l := ⟨h.isB, h.is⟩
set_option maxHeartbeats 4000000 in
set_option maxRecDepth 100000 in
theorem r5write {w : World} {τ : Tags} {b : Nat} {D : Dev} (h : RDevAt w τ b D) (f : Nat) (hf : f < 2) (k : Nat) (hk : k < (D.file f).length) {v : Value} {l : List Int} {g : Tag} (hb : Bytes w τ g v l) (hl : l.length = 128) (hg : ¬ RDevTag g) (hlim : D.lim 900000) :
    Calls Tryz.prog 210 #[.pointer (some ⟨b, 0, none⟩), .int .u8 (f : Int), .int .i64 (k : Int), v] w (RDevR w τ b (D.write f k l) (.int .i64 0)) := by
  obtain ⟨v0, v1, h⟩ := h
  obtain ⟨s, hs⟩ : ∃ s, (D.file f)[k]? = some s := ⟨_, List.getElem?_eq_getElem hk⟩
  obtain ⟨p, c, rfl, -, -⟩ := hb.any
  rw [hl] at hb ⊢
  have h1 := r5none_no h f hf k hk
  have h2 := r5stopped h
  cases hgo : D.go.1 with
  | false =>
    rw [hgo] at h2
    simp only [Bool.not_false] at h2
    have hwr : D.write f k l = D.go.2 := by unfold Dev.write; rw [if_neg (by rw [hgo]; simp)]
    rw [hwr]
    have H1 := Lib.hid h1
    have H2 := Lib.hid h2
    clear h1 h2
    clear h hb hlim hs hgo hwr hl
    go_enter Tryz.func210, Tryz.ntmps210
    go_wp2_with fail
    refine H1.out.mono ?_
    rintro e w' ⟨rfl, rfl⟩
    go_wp2_with fail
    refine H2.out.mono ?_
    rintro e w1 ⟨rfl, hd, hst⟩
    have Hd := Lib.hid hd
    have Hst := Lib.hid hst
    clear hd hst
    go_wp2_with fail
    go_ret
    exact ⟨rfl, τ, Hd.out.at, Hst.out.mono (fun g hg => by subst hg; exact .inl rfl)⟩
  | true =>
    rw [hgo] at h2
    simp only [Bool.not_true] at h2
    have hwr : D.write f k l = D.go.2.put f ((D.go.2.file f).set k ⟨s.last, s.waits ++ [l]⟩) := by unfold Dev.write; rw [if_pos hgo, hs, Dev.go_file]; rfl
    rw [hwr]
    have hwl := hlim f k s hs
    have hgo2 := Dev.go_file D f
    have H1 := Lib.hid h1
    have H2 := Lib.hid h2
    have Hb := Lib.hid hb
    have Hl := Lib.hid hl
    have Hs := Lib.hid hs
    clear h1 h2 hb hl hs
    clear h hlim hgo hwr
    go_enter Tryz.func210, Tryz.ntmps210
    go_wp2_with fail
    refine H1.out.mono ?_
    rintro e w' ⟨rfl, rfl⟩
    go_wp2_with fail
    refine H2.out.mono ?_
    rintro e w1 ⟨rfl, hd, hst⟩
    obtain ⟨cf, hfile⟩ := hd.file f hf
    rw [hgo2] at hfile
    obtain ⟨bf, c, xs, ys, hv, hcap, ho, hxl, hsec⟩ := hfile.lenp (by omega)
    rw [hv] at cf
    obtain ⟨-, ⟨u, hu, hw⟩⟩ := hsec k s Hs.out
    obtain ⟨pw, cw, rfl⟩ := hw.len
    have hu' : (xs ++ ys)[k * 2 + 1]? = some (.slice pw s.waits.length cw) := by rw [List.getElem?_append_left (by omega)]; exact hu
    have c1 := ho.at (k * 2 + 1) hu'
    have f1 := ho.fz (k * 2 + 1)
    have hb1 := (Hb.out.step hst (fun e => hg (by rw [e]; exact .inl rfl))).drews
    have hln := r5lent hb1 tData (by rw [Hl.out]; omega)
    have hn4096 := hfile.1
    have hob : ∃ t xs, Own w1 τ b tRDev t xs ∧ xs[f]? = some (.slice (some ⟨bf, 0, none⟩) (D.file f).length c) := by
      obtain ⟨st, n, hob, -, -, -⟩ := hd.is
      refine ⟨_, _, hob, ?_⟩
      rw [← hv]
      rcases (by omega : f = 0 ∨ f = 1) with rfl | rfl <;> rfl
    obtain ⟨tt, xx, hob, hxx⟩ := hob
    have hdr : Step w1 τ w1.drew τ nil := (Step.refl w1 τ nil).drew
    have hst1 := hst.mono (T := RDevTag) (fun g hg => by subst hg; exact .inl rfl)
    generalize hnl : (D.file f).length = n at *
    generalize hsw : s.waits = ws at *
    have Hb1 := Lib.hid hb1
    have Hln := Lib.hid hln
    have Hdr := Lib.hid hdr
    have Hst1 := Lib.hid hst1
    have Hv := Lib.hid hv
    have Hw := Lib.hid hw
    have Ho := Lib.hid ho
    have Hob := Lib.hid hob
    have Hxx := Lib.hid hxx
    have Hd := Lib.hid hd
    have Hu' := Lib.hid hu'
    have Hgo2 := Lib.hid hgo2
    have Hnl := Lib.hid hnl
    have Hsw := Lib.hid hsw
    clear hb1 hln hdr hst1 hv hw ho hob hxx hd hu' hgo2 hnl hsw
    clear hfile hsec hu Hb H2 hst hcap hxl
    have hf2 : (f : Int) < 2 := by omega
    have hk2 : (k : Int) < (n : Int) := by omega
    go_wp2_with fail
    refine wp_region_L (S := fun w' : World => w'.cell? ⟨b, f, none⟩ = some (.slice (some ⟨bf, 0, none⟩) n c) ∧ w'.cell? ⟨bf, k * 2 + 1, none⟩ = some (.slice pw ws.length cw)) (by kernel_rfl) ?_
    have hS1 : w1.drew.cell? ⟨b, f, none⟩ = some (.slice (some ⟨bf, 0, none⟩) n c) ∧ w1.drew.cell? ⟨bf, k * 2 + 1, none⟩ = some (.slice pw ws.length cw) := ⟨cf, c1⟩
    refine wpAnyL_take (i := 0) (v := ?_) rfl (by decide +kernel) (by decide +kernel) (by decide +kernel) (by decide +kernel) (fun _ _ _ h => h) (Or.inl ⟨by rfl, ?_⟩) (by assumption) ?_
    rotate_left
    · intro w hSw
      (try dsimp only at hSw)
      go_simp
      all_goals with_reducible rfl
    try simp only [Act.put]
    try simp only [List.setIfInBounds_toArray]
    try simp only [List.set_cons_succ]
    try simp only [List.set_cons_zero]
    refine wpAnyL_take (i := 1) (v := ?_) rfl (by decide +kernel) (by decide +kernel) (by decide +kernel) (by decide +kernel) (fun _ _ _ h => h) (Or.inl ⟨by rfl, ?_⟩) (by assumption) ?_
    rotate_left
    · intro w hSw
      (try dsimp only at hSw)
      go_simp
      all_goals with_reducible rfl
    try simp only [Act.put]
    try simp only [List.setIfInBounds_toArray]
    try simp only [List.set_cons_succ]
    try simp only [List.set_cons_zero]
    refine wpAnyL_take (i := 2) (v := ?_) rfl (by decide +kernel) (by decide +kernel) (by decide +kernel) (by decide +kernel) (fun _ _ _ h => h) (Or.inl ⟨by rfl, ?_⟩) (by assumption) ?_
    rotate_left
    · intro w hSw
      (try dsimp only at hSw)
      go_simp
      all_goals with_reducible rfl
    try simp only [Act.put]
    try simp only [List.setIfInBounds_toArray]
    try simp only [List.set_cons_succ]
    try simp only [List.set_cons_zero]
    refine wpAnyL_take (i := 3) (v := ?_) rfl (by decide +kernel) (by decide +kernel) (by decide +kernel) (by decide +kernel) (fun _ _ _ h => h) (Or.inl ⟨by rfl, ?_⟩) (by assumption) ?_
    rotate_left
    · intro w hSw
      (try dsimp only at hSw)
      go_simp
      all_goals with_reducible rfl
    try simp only [Act.put]
    try simp only [List.setIfInBounds_toArray]
    try simp only [List.set_cons_succ]
    try simp only [List.set_cons_zero]
    refine wpAnyL_take (i := 4) (v := ?_) rfl (by decide +kernel) (by decide +kernel) (by decide +kernel) (by decide +kernel) (fun _ _ _ h => h) (Or.inl ⟨by rfl, ?_⟩) (by assumption) ?_
    rotate_left
    · intro w hSw
      (try dsimp only at hSw)
      go_simp
      all_goals with_reducible rfl
    try simp only [Act.put]
    try simp only [List.setIfInBounds_toArray]
    try simp only [List.set_cons_succ]
    try simp only [List.set_cons_zero]
    refine wpAnyL_take (i := 5) (v := ?_) rfl (by decide +kernel) (by decide +kernel) (by decide +kernel) (by decide +kernel) (fun _ _ _ h => h) (Or.inl ⟨by rfl, ?_⟩) (by assumption) ?_
    rotate_left
    · intro w hSw
      (try dsimp only at hSw)
      go_simp
      all_goals with_reducible rfl
    try simp only [Act.put]
    try simp only [List.setIfInBounds_toArray]
    try simp only [List.set_cons_succ]
    try simp only [List.set_cons_zero]
    refine wpAnyL_take (i := 6) (v := ?_) rfl (by decide +kernel) (by decide +kernel) (by decide +kernel) (by decide +kernel) (fun _ _ _ h => h) (Or.inl ⟨by rfl, ?_⟩) (by assumption) ?_
    rotate_left
    · intro w hSw
      (try dsimp only at hSw)
      go_simp
      all_goals with_reducible rfl
    try simp only [Act.put]
    try simp only [List.setIfInBounds_toArray]
    try simp only [List.set_cons_succ]
    try simp only [List.set_cons_zero]
    refine wpAnyL_take (i := 7) (v := ?_) rfl (by decide +kernel) (by decide +kernel) (by decide +kernel) (by decide +kernel) (fun _ _ _ h => h) (Or.inl ⟨by rfl, ?_⟩) (by assumption) ?_
    rotate_left
    · intro w hSw
      (try dsimp only at hSw)
      go_simp
      all_goals with_reducible rfl
    try simp only [Act.put]
    try simp only [List.setIfInBounds_toArray]
    try simp only [List.set_cons_succ]
    try simp only [List.set_cons_zero]
    refine wpAnyL_take (i := 8) (v := ?_) rfl (by decide +kernel) (by decide +kernel) (by decide +kernel) (by decide +kernel) (fun _ _ _ h => h) (Or.inl ⟨by rfl, ?_⟩) (by assumption) ?_
    rotate_left
    · intro w hSw
      (try dsimp only at hSw)
      go_simp
      all_goals with_reducible rfl
    try simp only [Act.put]
    try simp only [List.setIfInBounds_toArray]
    try simp only [List.set_cons_succ]
    try simp only [List.set_cons_zero]
    refine wpAnyL_take (i := 9) (v := ?_) rfl (by decide +kernel) (by decide +kernel) (by decide +kernel) (by decide +kernel) (fun _ _ _ h => h) (Or.inl ⟨by rfl, ?_⟩) (by assumption) ?_
    rotate_left
    · intro w hSw
      (try dsimp only at hSw)
      go_simp
      all_goals with_reducible rfl
    try simp only [Act.put]
    try simp only [List.setIfInBounds_toArray]
    try simp only [List.set_cons_succ]
    try simp only [List.set_cons_zero]
    refine wpAnyL_take (i := 10) (v := ?_) rfl (by decide +kernel) (by decide +kernel) (by decide +kernel) (by decide +kernel) (fun _ _ _ h => h) (Or.inl ⟨by rfl, ?_⟩) (by assumption) ?_
    rotate_left
    · intro w hSw
      (try dsimp only at hSw)
      go_simp
      all_goals with_reducible rfl
    try simp only [Act.put]
    try simp only [List.setIfInBounds_toArray]
    try simp only [List.set_cons_succ]
    try simp only [List.set_cons_zero]
    refine wpAnyL_take (i := 11) (v := ?_) rfl (by decide +kernel) (by decide +kernel) (by decide +kernel) (by decide +kernel) (fun _ _ _ h => h) (Or.inl ⟨by rfl, ?_⟩) (by assumption) ?_
    rotate_left
    · intro w hSw
      (try dsimp only at hSw)
      go_simp
      all_goals with_reducible rfl
    try simp only [Act.put]
    try simp only [List.setIfInBounds_toArray]
    try simp only [List.set_cons_succ]
    try simp only [List.set_cons_zero]
    refine wpAnyL_take (i := 12) (v := ?_) rfl (by decide +kernel) (by decide +kernel) (by decide +kernel) (by decide +kernel) (fun _ _ _ h => h) (Or.inl ⟨by rfl, ?_⟩) (by assumption) ?_
    rotate_left
    · intro w hSw
      (try dsimp only at hSw)
      go_simp
      all_goals with_reducible rfl
    try simp only [Act.put]
    try simp only [List.setIfInBounds_toArray]
    try simp only [List.set_cons_succ]
    try simp only [List.set_cons_zero]
    refine wpAnyL_take (i := 13) (v := ?_) rfl (by decide +kernel) (by decide +kernel) (by decide +kernel) (by decide +kernel) (fun _ _ _ h => h) (Or.inl ⟨by rfl, ?_⟩) (by assumption) ?_
    rotate_left
    · intro w hSw
      (try dsimp only at hSw)
      go_simp
      all_goals with_reducible rfl
    try simp only [Act.put]
    try simp only [List.setIfInBounds_toArray]
    try simp only [List.set_cons_succ]
    try simp only [List.set_cons_zero]
    refine wpAnyL_take (i := 14) (v := ?_) rfl (by decide +kernel) (by decide +kernel) (by decide +kernel) (by decide +kernel) (fun _ _ _ h => h) (Or.inl ⟨by rfl, ?_⟩) (by assumption) ?_
    rotate_left
    · intro w hSw
      (try dsimp only at hSw)
      go_simp
      all_goals with_reducible rfl
    try simp only [Act.put]
    try simp only [List.setIfInBounds_toArray]
    try simp only [List.set_cons_succ]
    try simp only [List.set_cons_zero]
    refine wpAnyL_take (i := 15) (v := ?_) rfl (by decide +kernel) (by decide +kernel) (by decide +kernel) (by decide +kernel) (fun _ _ _ h => h) (Or.inl ⟨by rfl, ?_⟩) (by assumption) ?_
    rotate_left
    · intro w hSw
      (try dsimp only at hSw)
      go_simp
      all_goals with_reducible rfl
    try simp only [Act.put]
    try simp only [List.setIfInBounds_toArray]
    try simp only [List.set_cons_succ]
    try simp only [List.set_cons_zero]
    refine wpAnyL_take (i := 16) (v := ?_) rfl (by decide +kernel) (by decide +kernel) (by decide +kernel) (by decide +kernel) (fun _ _ _ h => h) (Or.inl ⟨by rfl, ?_⟩) (by assumption) ?_
    rotate_left
    · intro w hSw
      (try dsimp only at hSw)
      go_simp
      all_goals with_reducible rfl
    try simp only [Act.put]
    try simp only [List.setIfInBounds_toArray]
    try simp only [List.set_cons_succ]
    try simp only [List.set_cons_zero]
    refine wpAnyL_take (i := 17) (v := ?_) rfl (by decide +kernel) (by decide +kernel) (by decide +kernel) (by decide +kernel) (fun _ _ _ h => h) (Or.inl ⟨by rfl, ?_⟩) (by assumption) ?_
    rotate_left
    · intro w hSw
      (try dsimp only at hSw)
      go_simp
      all_goals with_reducible rfl
    try simp only [Act.put]
    try simp only [List.setIfInBounds_toArray]
    try simp only [List.set_cons_succ]
    try simp only [List.set_cons_zero]
    refine wpAnyL_one (i := 18) (by decide +kernel) rfl (fun K hK => ?_)
    go_simp
    go_at_call 162
    refine Hln.out.mono ?_
    rintro e w2 ⟨ul, τ2, rfl, hb2, hs2⟩
    obtain ⟨pu, cu, rfl, -, -⟩ := hb2.any
    have hs2' := Hdr.out.trans hs2
    have ho2 := Ho.out.step hs2' (fun h => h)
    have hob2 := Hob.out.step hs2' (fun h => h)
    have hw2 := Hw.out.step hs2' (fun h => h) (fun h => h)
    have Hb2 := Lib.hid hb2
    have Hs2' := Lib.hid hs2'
    have Ho2 := Lib.hid ho2
    have Hob2 := Lib.hid hob2
    have Hw2 := Lib.hid hw2
    clear hb2 hs2' ho2 hob2 hw2
    clear hs2 hS1
    refine hK.out _ _ (fun _ => ⟨Hob2.out.at f Hxx.out, Ho2.out.at (k * 2 + 1) Hu'.out⟩) ?_
    clear hK K
    refine wpAnyL_one (i := 19) (by decide +kernel) rfl (fun K hK => ?_)
    go_simp
    refine hK.out _ _ (fun _ => ⟨(Hob2.out.alloc _).at f Hxx.out, (Ho2.out.alloc _).at (k * 2 + 1) Hu'.out⟩) ?_
    clear hK K
    refine wpAnyL_one (i := 20) (by decide +kernel) rfl (fun K hK => ?_)
    refine step_append_nr1 (step_0 w2 τ2 nil) (g := tRWait f k) (by simp [tRWait, tData]) (nr_0 Hw2.out) Hb2.out Hl.out (by omega) rfl rfl _ _ rfl rfl rfl ?_
    intro v3 w3 τ3 hnr3 hs30 hs3
    clear hs30
    obtain ⟨p3, n3, rfl⟩ := hnr3.val
    simp only [List.length_append, List.length_cons, List.length_nil, Nat.zero_add] at hnr3 ⊢
    have ho3 := Ho2.out.step hs3 (by simp [tRRow, tRWait])
    have c3 := ho3.at (k * 2 + 1) Hu'.out
    have f3 := ho3.fz (k * 2 + 1)
    have hob3 := Hob2.out.step hs3 (by simp [tRDev, tRWait])
    refine hK.out _ _ (fun _ => ⟨hob3.at f Hxx.out, c3⟩) ?_
    clear hK K
    have Hnr3 := Lib.hid hnr3
    have Hs3 := Lib.hid hs3
    have Ho3 := Lib.hid ho3
    have Hob3 := Lib.hid hob3
    clear hnr3 hs3 ho3 hob3
    refine wpAnyL_one (i := 21) (by decide +kernel) rfl (fun K hK => ?_)
    go_simp
    refine hK.out _ _ (fun _ => ⟨Hob3.out.at f Hxx.out, c3⟩) ?_
    clear hK K
    refine wpAnyL_one (i := 22) (by decide +kernel) rfl (fun K hK => ?_)
    go_simp
    refine hK.out _ _ (fun _ => ⟨Hob3.out.at f Hxx.out, c3⟩) ?_
    clear hK K
    refine wpAnyL_one (i := 23) (by decide +kernel) rfl (fun K hK => ?_)
    go_simp
    refine hK.out _ _ (fun h => absurd h (by decide +kernel)) ?_
    clear hK K
    refine wpAnyL_done (by kernel_rfl) ?_ _
    go_wp2_with fail
    go_ret
    all_goals (
      have hwt := Hd.out.wait f hf (by rw [Hgo2.out]; exact Hs.out) Hv.out ((Hs2'.out.mono (T := fun g => g = tRWait f k) (fun _ h => h.elim)).trans Hs3.out) (fun _ h => h) Hnr3.out.row
      refine ⟨rfl, τ3, hwt.1.at, ?_⟩
      exact Hst1.out.trans ((((Hs2'.out.mono (T := RDevTag) (fun _ h => h.elim)).trans (Hs3.out.mono (T := RDevTag) (fun g hg => by subst hg; exact .inr (.inr rfl)))).trans (hwt.2.mono (T := RDevTag) (fun g hg => by subst hg; exact .inr (.inl rfl))))))
end Go.Proofs.YtgjoahddbieliaaGreat
