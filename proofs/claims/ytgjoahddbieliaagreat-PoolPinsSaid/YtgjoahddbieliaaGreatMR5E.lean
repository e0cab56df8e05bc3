/-
  The reference's device: New; Sync; Image.
-/
import Derived.Test.YtgjoahddbieliaaGreatMR5D
namespace Go.Proofs.YtgjoahddbieliaaGreat
open Go.RowKit
set_option linter.unusedVariables false

theorem step_append_sec {w : World} {τ : Tags} {f : Nat} {v u : Value} {l : List Sec} {x : List Int} (hown : RFile w τ f v l) (hb : Bytes w τ tData u x) (h128 : x.length = 128) (hsz : l.length < 4096) {kb : Nat} (hkb : kb = w.heap.size)
    {ops : Array Oper} {o : Oper} {a : Act} {K : Act → World → Prop} {Q : Exit → Act → World → Prop} {E : Prop} (hgd : o.guard = none) (s y : Operand)
    (ho : o.op = .call { callee := .builtin .append, args := #[s, y], argTypes := #[165, 165] }) (hs : a.eval s = v) (hy : a.eval y = .slice (some ⟨kb, 0, none⟩) 1 1)
    (h : ∀ v' w' τ', RFile w' τ' f v' (l ++ [⟨x, []⟩]) → Step w τ w' τ' (fun t => t = tRRow f) → K (a.put o.dst v') w') : if Region.wanted o (yielded ops a.tmps) = true then Oper.wp Tryz.prog o a (w.alloc (.cells #[u, .slice none 0 0] 208)) K Q else E := by
  subst hkb
  have hw : Region.wanted o (yielded ops a.tmps) = true := by simp [Region.wanted, hgd]
  rw [if_pos hw]
  have hal : Step w τ (w.alloc (.cells #[u, .slice none 0 0] 208)) τ nil := (Step.refl w τ nil).alloc' _
  obtain ⟨v', w', τ', hr, h2, h3⟩ := run_append_sec (hown.step hal (fun h => h) (fun _ h => h) (fun h => h)) (hb.step hal (fun h => h)) h128 hsz (heap_alloc_new w _) o.type
  unfold Oper.wp execOp
  simp only [ho, resolve, invoke, builtin, Sem.run_bind, Sem.run_pure, Result.andThen_ok, List.map_toArray, List.map_cons, List.map_nil, hs, hy, hr]
  exact h v' w' τ' h2 ((hal.mono (fun _ h => h.elim)).trans h3)
theorem rep_snoc {α : Type} (n : Nat) (x : α) : List.replicate (n + 1) x = List.replicate n x ++ [x] := by
  rw [List.replicate_succ']
set_option maxHeartbeats 4000000 in
set_option maxRecDepth 100000 in
theorem r5new (w : World) (τ : Tags) (a b : Nat) (ha : a ≤ 4096) (hb : b ≤ 4096) :
    Calls Tryz.prog 74 #[.int .i64 (a : Int), .int .i64 (b : Int)] w fun e w' => ∃ bd τ', e = .returned (.pointer (some ⟨bd, 0, none⟩)) ∧ w.heap.size ≤ bd ∧ RDevAt w' τ' bd ⟨List.replicate a zsec, List.replicate b zsec, none, false⟩ ∧ Step w τ w' τ' RDevTag := by
  have rn := run_noughts
  have ga : decide ((4096 : Int) < (a : Int)) = false := by simp; omega
  have gb : decide ((4096 : Int) < (b : Int)) = false := by simp; omega
  have o0 := Own.new w τ tRDev 170 [.slice none 0 0, .slice none 0 0, .bool false, .int .i64 0, .bool false]
  have s0 := (Step.refl w τ RDevTag).alloc (.cells #[.slice none 0 0, .slice none 0 0, .bool false, .int .i64 0, .bool false] 170) tRDev
  have f0 : RDevAs (w.alloc (.cells #[.slice none 0 0, .slice none 0 0, .bool false, .int .i64 0, .bool false] 170)) (τ.put w.heap.size tRDev) w.heap.size ⟨List.replicate 0 zsec, [], none, false⟩ (.slice none 0 0) (.slice none 0 0) :=
    ⟨false, 0, o0, ⟨by simp, [], Buf.nil _ _ _ _ _, fun i s hi => by simp at hi⟩, ⟨by simp, [], Buf.nil _ _ _ _ _, fun i s hi => by simp at hi⟩, .inl ⟨rfl, rfl⟩⟩
  generalize τ.put w.heap.size tRDev = τ0 at *
  have H_rn := Lib.hid rn
  have H_s0 := Lib.hid s0
  have H_f0 := Lib.hid f0
  clear rn s0 f0
  clear o0
  go_enter Tryz.func74, Tryz.ntmps74
  go_wp2_with fail
  generalize w.alloc (.cells #[.slice none 0 0, .slice none 0 0, .bool false, .int .i64 0, .bool false] 170) = W0 at *
  obtain ⟨bd, hbd⟩ : ∃ bd, w.heap.size = bd := ⟨_, rfl⟩
  rw [hbd] at H_f0 ⊢
  have hlow : w.heap.size ≤ bd := Nat.le_of_eq hbd
  have Hlow := Lib.hid hlow
  clear hlow
  clear hbd
  go_loopw [6] (fun iv wr => ∃ (i : Nat) (τr : Tags) (v0 : Value), i ≤ a ∧ iv = .int .i64 (i : Int) ∧ RDevAs wr τr bd ⟨List.replicate i zsec, [], none, false⟩ v0 (.slice none 0 0) ∧ Step w τ wr τr RDevTag) (fun iv _ => a - (intOf iv).toNat)
  case atStart => exact ⟨0, _, _, Nat.zero_le _, rfl, H_f0.out, H_s0.out⟩
  case round =>
    obtain ⟨i, τr, v0, hi, rfl, hd, hst⟩ := hrel
    by_cases hlt : i < a
    · obtain ⟨cf, hfile⟩ := hd.file 0 (by omega)
      have hdev : (⟨List.replicate i zsec, [], none, false⟩ : Dev).file 0 = List.replicate i zsec := rfl
      have hv0 : fileV v0 (.slice none 0 0) 0 = v0 := rfl
      rw [hdev, hv0] at hfile
      rw [hv0] at cf
      obtain ⟨st, nl, hod, -, -, -⟩ := hd.is
      have lb := hod.lt
      have nb : wr.heap.size ≠ bd := by omega
      have hz := Bytes.noughts wr.drew τr tData 128 (by unfold maxLen; omega)
      have hs1 := (Step.refl wr τr nil).drew.alloc (.cells (madeCells #[.int .u8 0] 128) 5) tData
      have hfile1 := hfile.step hs1 (fun h => h) (fun _ h => h) (fun h => h)
      have hd1 := hd.step hs1 (fun _ h => h.elim)
      have hod1 := hod.step hs1 (fun h => h)
      obtain ⟨pv, cv, rfl⟩ := hfile.len
      rw [List.length_replicate] at cf hfile1 hod1 hd1
      have rn := H_rn.out
      have hlen : (List.replicate i zsec).length < 4096 := by rw [List.length_replicate]; omega
      generalize hTz : τr.put wr.drew.heap.size tData = τz at *
      have Hz := Lib.hid hz
      have Hs1 := Lib.hid hs1
      have Hfile1 := Lib.hid hfile1
      have Hd1 := Lib.hid hd1
      have Hod1 := Lib.hid hod1
      have Hst := Lib.hid hst
      have Hlen := Lib.hid hlen
      clear hz hs1 hfile1 hd1 hod1 hst hlen
      clear hfile hod hd hTz hdev hv0
      go_wp2_with fail
      refine wp_region_L (S := fun w' : World => w'.cell? ⟨bd, 0, none⟩ = some (.slice pv i cv)) (by kernel_rfl) ?_
      have hS1 : wr.drew.cell? ⟨bd, 0, none⟩ = some (.slice pv i cv) := cf
      refine wpAnyL_take (i := 0) (v := ?_) rfl (by decide +kernel) (by decide +kernel) (by decide +kernel) (by decide +kernel) (fun _ _ _ h => h) (Or.inl ⟨by rfl, ?_⟩) (by assumption) ?_
      rotate_left
      · intro w hSw
        (try dsimp only at hSw)
        go_simp
        all_goals with_reducible rfl
      try simp only [Act.put]
      try simp only [List.setIfInBounds_toArray]
      try simp only [List.set_cons_succ]
      try simp only [List.set_cons_zero]
      refine wpAnyL_take (i := 1) (v := ?_) rfl (by decide +kernel) (by decide +kernel) (by decide +kernel) (by decide +kernel) (fun _ _ _ h => h) (Or.inl ⟨by rfl, ?_⟩) (by assumption) ?_
      rotate_left
      · intro w hSw
        (try dsimp only at hSw)
        go_simp
        all_goals with_reducible rfl
      try simp only [Act.put]
      try simp only [List.setIfInBounds_toArray]
      try simp only [List.set_cons_succ]
      try simp only [List.set_cons_zero]
      refine wpAnyL_take (i := 2) (v := ?_) rfl (by decide +kernel) (by decide +kernel) (by decide +kernel) (by decide +kernel) (fun _ _ _ h => h) (Or.inl ⟨by rfl, ?_⟩) (by assumption) ?_
      rotate_left
      · intro w hSw
        (try dsimp only at hSw)
        go_simp
        all_goals with_reducible rfl
      try simp only [Act.put]
      try simp only [List.setIfInBounds_toArray]
      try simp only [List.set_cons_succ]
      try simp only [List.set_cons_zero]
      refine wpAnyL_take (i := 3) (v := ?_) rfl (by decide +kernel) (by decide +kernel) (by decide +kernel) (by decide +kernel) (fun _ _ _ h => h) (Or.inl ⟨by rfl, ?_⟩) (by assumption) ?_
      rotate_left
      · intro w hSw
        (try dsimp only at hSw)
        go_simp
        all_goals with_reducible rfl
      try simp only [Act.put]
      try simp only [List.setIfInBounds_toArray]
      try simp only [List.set_cons_succ]
      try simp only [List.set_cons_zero]
      refine wpAnyL_take (i := 4) (v := ?_) rfl (by decide +kernel) (by decide +kernel) (by decide +kernel) (by decide +kernel) (fun _ _ _ h => h) (Or.inl ⟨by rfl, ?_⟩) (by assumption) ?_
      rotate_left
      · intro w hSw
        (try dsimp only at hSw)
        go_simp
        all_goals with_reducible rfl
      try simp only [Act.put]
      try simp only [List.setIfInBounds_toArray]
      try simp only [List.set_cons_succ]
      try simp only [List.set_cons_zero]
      refine wpAnyL_take (i := 5) (v := ?_) rfl (by decide +kernel) (by decide +kernel) (by decide +kernel) (by decide +kernel) (fun _ _ _ h => h) (Or.inl ⟨by rfl, ?_⟩) (by assumption) ?_
      rotate_left
      · intro w hSw
        (try dsimp only at hSw)
        go_simp
        all_goals with_reducible rfl
      try simp only [Act.put]
      try simp only [List.setIfInBounds_toArray]
      try simp only [List.set_cons_succ]
      try simp only [List.set_cons_zero]
      refine wpAnyL_take (i := 10) (v := ?_) rfl (by decide +kernel) (by decide +kernel) (by decide +kernel) (by decide +kernel) (fun _ _ _ h => h) (Or.inl ⟨by rfl, ?_⟩) (by assumption) ?_
      rotate_left
      · intro w hSw
        (try dsimp only at hSw)
        go_simp
        all_goals with_reducible rfl
      try simp only [Act.put]
      try simp only [List.setIfInBounds_toArray]
      try simp only [List.set_cons_succ]
      try simp only [List.set_cons_zero]
      refine wpAnyL_take (i := 11) (v := ?_) rfl (by decide +kernel) (by decide +kernel) (by decide +kernel) (by decide +kernel) (fun _ _ _ h => h) (Or.inl ⟨by rfl, ?_⟩) (by assumption) ?_
      rotate_left
      · intro w hSw
        (try dsimp only at hSw)
        go_simp
        all_goals with_reducible rfl
      try simp only [Act.put]
      try simp only [List.setIfInBounds_toArray]
      try simp only [List.set_cons_succ]
      try simp only [List.set_cons_zero]
      clear hS1
      refine wpAnyL_one (i := 6) (by decide +kernel) rfl (fun K hK => ?_)
      go_simp
      refine hK.out _ _ (fun _ => Hod1.out.at 0 rfl) ?_
      clear hK K
      refine wpAnyL_one (i := 7) (by decide +kernel) rfl (fun K hK => ?_)
      go_simp
      refine hK.out _ _ (fun _ => Hod1.out.at 0 rfl) ?_
      clear hK K
      refine wpAnyL_one (i := 8) (by decide +kernel) rfl (fun K hK => ?_)
      go_simp
      refine hK.out _ _ (fun _ => (Hod1.out.alloc _).at 0 rfl) ?_
      clear hK K
      refine wpAnyL_one (i := 9) (by decide +kernel) rfl (fun K hK => ?_)
      refine step_append_sec Hfile1.out Hz.out List.length_replicate Hlen.out (by simp) rfl _ _ rfl rfl rfl ?_
      intro v3 w3 τ3 hf3 hs3
      obtain ⟨p3, n3, rfl⟩ := hf3.len
      simp only [List.length_append, List.length_replicate, List.length_cons, List.length_nil, Nat.zero_add] at hf3 ⊢
      have hod3 := Hod1.out.step hs3 (by simp [tRDev, tRRow])
      have c3 := hod3.at 0 rfl
      have z3 := hod3.fz 0
      have hg3 := Hd1.out.grow 0 (by omega) hs3 (fun _ h => h) hf3
      refine hK.out _ _ (fun _ => c3) ?_
      clear hK K
      have Hg3 := Lib.hid hg3
      have Hs3 := Lib.hid hs3
      have Hod3 := Lib.hid hod3
      clear hg3 hs3 hod3
      clear hf3
      refine wpAnyL_one (i := 12) (by decide +kernel) rfl (fun K hK => ?_)
      go_simp
      refine hK.out _ _ (fun _ => c3) ?_
      clear hK K
      refine wpAnyL_one (i := 13) (by decide +kernel) rfl (fun K hK => ?_)
      go_simp
      refine hK.out _ _ (fun h => absurd h (by decide +kernel)) ?_
      clear hK K
      refine wpAnyL_done (by kernel_rfl) ?_ _
      go_wp2_with fail
      go_round
      case rel => exact ⟨i + 1, τ3, _, by omega, by simp, by rw [rep_snoc]; exact Hg3.out.1, Hst.out.trans (((Hs1.out.mono (T := RDevTag) (fun _ h => h.elim)).trans (Hs3.out.mono (T := RDevTag) (fun g hg => by subst hg; exact .inr (.inl rfl)))).trans (Hg3.out.2.mono (T := RDevTag) (fun g hg => by subst hg; exact .inl rfl)))⟩
      case measure => simp [intOf]; omega
    · obtain rfl : i = a := by omega
      have Hd := Lib.hid hd
      have Hst := Lib.hid hst
      clear hd hst
      go_wp2_with fail
      go_loopw [7] (fun jv wr => ∃ (j : Nat) (τr : Tags) (v1 : Value), j ≤ b ∧ jv = .int .i64 (j : Int) ∧ RDevAs wr τr bd ⟨List.replicate i zsec, List.replicate j zsec, none, false⟩ v0 v1 ∧ Step w τ wr τr RDevTag) (fun jv _ => b - (intOf jv).toNat)
      case atStart => exact ⟨0, _, _, Nat.zero_le _, rfl, Hd.out, Hst.out⟩
      case round =>
        clear Hd Hst
        obtain ⟨j, τr, v1, hj, rfl, hd, hst⟩ := hrel
        by_cases hlt : j < b
        · obtain ⟨cf, hfile⟩ := hd.file 1 (by omega)
          have hdev : (⟨List.replicate i zsec, List.replicate j zsec, none, false⟩ : Dev).file 1 = List.replicate j zsec := rfl
          have hv0 : fileV v0 v1 1 = v1 := rfl
          rw [hdev, hv0] at hfile
          rw [hv0] at cf
          obtain ⟨st, nl, hod, -, -, -⟩ := hd.is
          have lb := hod.lt
          have nb : wr.heap.size ≠ bd := by omega
          have hz := Bytes.noughts wr.drew τr tData 128 (by unfold maxLen; omega)
          have hs1 := (Step.refl wr τr nil).drew.alloc (.cells (madeCells #[.int .u8 0] 128) 5) tData
          have hfile1 := hfile.step hs1 (fun h => h) (fun _ h => h) (fun h => h)
          have hd1 := hd.step hs1 (fun _ h => h.elim)
          have hod1 := hod.step hs1 (fun h => h)
          obtain ⟨pv, cv, rfl⟩ := hfile.len
          rw [List.length_replicate] at cf hfile1 hod1 hd1
          have rn := H_rn.out
          have hlen : (List.replicate j zsec).length < 4096 := by rw [List.length_replicate]; omega
          generalize hTz : τr.put wr.drew.heap.size tData = τz at *
          have Hz := Lib.hid hz
          have Hs1 := Lib.hid hs1
          have Hfile1 := Lib.hid hfile1
          have Hd1 := Lib.hid hd1
          have Hod1 := Lib.hid hod1
          have Hst := Lib.hid hst
          have Hlen := Lib.hid hlen
          clear hz hs1 hfile1 hd1 hod1 hst hlen
          clear hfile hod hd hTz hdev hv0
          go_wp2_with fail
          refine wp_region_L (S := fun w' : World => w'.cell? ⟨bd, 1, none⟩ = some (.slice pv j cv)) (by kernel_rfl) ?_
          have hS1 : wr.drew.cell? ⟨bd, 1, none⟩ = some (.slice pv j cv) := cf
          refine wpAnyL_take (i := 0) (v := ?_) rfl (by decide +kernel) (by decide +kernel) (by decide +kernel) (by decide +kernel) (fun _ _ _ h => h) (Or.inl ⟨by rfl, ?_⟩) (by assumption) ?_
          rotate_left
          · intro w hSw
            (try dsimp only at hSw)
            go_simp
            all_goals with_reducible rfl
          try simp only [Act.put]
          try simp only [List.setIfInBounds_toArray]
          try simp only [List.set_cons_succ]
          try simp only [List.set_cons_zero]
          refine wpAnyL_take (i := 1) (v := ?_) rfl (by decide +kernel) (by decide +kernel) (by decide +kernel) (by decide +kernel) (fun _ _ _ h => h) (Or.inl ⟨by rfl, ?_⟩) (by assumption) ?_
          rotate_left
          · intro w hSw
            (try dsimp only at hSw)
            go_simp
            all_goals with_reducible rfl
          try simp only [Act.put]
          try simp only [List.setIfInBounds_toArray]
          try simp only [List.set_cons_succ]
          try simp only [List.set_cons_zero]
          refine wpAnyL_take (i := 2) (v := ?_) rfl (by decide +kernel) (by decide +kernel) (by decide +kernel) (by decide +kernel) (fun _ _ _ h => h) (Or.inl ⟨by rfl, ?_⟩) (by assumption) ?_
          rotate_left
          · intro w hSw
            (try dsimp only at hSw)
            go_simp
            all_goals with_reducible rfl
          try simp only [Act.put]
          try simp only [List.setIfInBounds_toArray]
          try simp only [List.set_cons_succ]
          try simp only [List.set_cons_zero]
          refine wpAnyL_take (i := 3) (v := ?_) rfl (by decide +kernel) (by decide +kernel) (by decide +kernel) (by decide +kernel) (fun _ _ _ h => h) (Or.inl ⟨by rfl, ?_⟩) (by assumption) ?_
          rotate_left
          · intro w hSw
            (try dsimp only at hSw)
            go_simp
            all_goals with_reducible rfl
          try simp only [Act.put]
          try simp only [List.setIfInBounds_toArray]
          try simp only [List.set_cons_succ]
          try simp only [List.set_cons_zero]
          refine wpAnyL_take (i := 4) (v := ?_) rfl (by decide +kernel) (by decide +kernel) (by decide +kernel) (by decide +kernel) (fun _ _ _ h => h) (Or.inl ⟨by rfl, ?_⟩) (by assumption) ?_
          rotate_left
          · intro w hSw
            (try dsimp only at hSw)
            go_simp
            all_goals with_reducible rfl
          try simp only [Act.put]
          try simp only [List.setIfInBounds_toArray]
          try simp only [List.set_cons_succ]
          try simp only [List.set_cons_zero]
          refine wpAnyL_take (i := 5) (v := ?_) rfl (by decide +kernel) (by decide +kernel) (by decide +kernel) (by decide +kernel) (fun _ _ _ h => h) (Or.inl ⟨by rfl, ?_⟩) (by assumption) ?_
          rotate_left
          · intro w hSw
            (try dsimp only at hSw)
            go_simp
            all_goals with_reducible rfl
          try simp only [Act.put]
          try simp only [List.setIfInBounds_toArray]
          try simp only [List.set_cons_succ]
          try simp only [List.set_cons_zero]
          refine wpAnyL_take (i := 10) (v := ?_) rfl (by decide +kernel) (by decide +kernel) (by decide +kernel) (by decide +kernel) (fun _ _ _ h => h) (Or.inl ⟨by rfl, ?_⟩) (by assumption) ?_
          rotate_left
          · intro w hSw
            (try dsimp only at hSw)
            go_simp
            all_goals with_reducible rfl
          try simp only [Act.put]
          try simp only [List.setIfInBounds_toArray]
          try simp only [List.set_cons_succ]
          try simp only [List.set_cons_zero]
          refine wpAnyL_take (i := 11) (v := ?_) rfl (by decide +kernel) (by decide +kernel) (by decide +kernel) (by decide +kernel) (fun _ _ _ h => h) (Or.inl ⟨by rfl, ?_⟩) (by assumption) ?_
          rotate_left
          · intro w hSw
            (try dsimp only at hSw)
            go_simp
            all_goals with_reducible rfl
          try simp only [Act.put]
          try simp only [List.setIfInBounds_toArray]
          try simp only [List.set_cons_succ]
          try simp only [List.set_cons_zero]
          clear hS1
          refine wpAnyL_one (i := 6) (by decide +kernel) rfl (fun K hK => ?_)
          go_simp
          refine hK.out _ _ (fun _ => Hod1.out.at 1 rfl) ?_
          clear hK K
          refine wpAnyL_one (i := 7) (by decide +kernel) rfl (fun K hK => ?_)
          go_simp
          refine hK.out _ _ (fun _ => Hod1.out.at 1 rfl) ?_
          clear hK K
          refine wpAnyL_one (i := 8) (by decide +kernel) rfl (fun K hK => ?_)
          go_simp
          refine hK.out _ _ (fun _ => (Hod1.out.alloc _).at 1 rfl) ?_
          clear hK K
          refine wpAnyL_one (i := 9) (by decide +kernel) rfl (fun K hK => ?_)
          refine step_append_sec Hfile1.out Hz.out List.length_replicate Hlen.out (by simp) rfl _ _ rfl rfl rfl ?_
          intro v3 w3 τ3 hf3 hs3
          obtain ⟨p3, n3, rfl⟩ := hf3.len
          simp only [List.length_append, List.length_replicate, List.length_cons, List.length_nil, Nat.zero_add] at hf3 ⊢
          have hod3 := Hod1.out.step hs3 (by simp [tRDev, tRRow])
          have c3 := hod3.at 1 rfl
          have z3 := hod3.fz 1
          have hg3 := Hd1.out.grow 1 (by omega) hs3 (fun _ h => h) hf3
          refine hK.out _ _ (fun _ => c3) ?_
          clear hK K
          have Hg3 := Lib.hid hg3
          have Hs3 := Lib.hid hs3
          have Hod3 := Lib.hid hod3
          clear hg3 hs3 hod3
          clear hf3
          refine wpAnyL_one (i := 12) (by decide +kernel) rfl (fun K hK => ?_)
          go_simp
          refine hK.out _ _ (fun _ => c3) ?_
          clear hK K
          refine wpAnyL_one (i := 13) (by decide +kernel) rfl (fun K hK => ?_)
          go_simp
          refine hK.out _ _ (fun h => absurd h (by decide +kernel)) ?_
          clear hK K
          refine wpAnyL_done (by kernel_rfl) ?_ _
          go_wp2_with fail
          go_round
          case rel => exact ⟨j + 1, τ3, _, by omega, by simp, by rw [rep_snoc]; exact Hg3.out.1, Hst.out.trans (((Hs1.out.mono (T := RDevTag) (fun _ h => h.elim)).trans (Hs3.out.mono (T := RDevTag) (fun g hg => by subst hg; exact .inr (.inl rfl)))).trans (Hg3.out.2.mono (T := RDevTag) (fun g hg => by subst hg; exact .inl rfl)))⟩
          case measure => simp [intOf]; omega
        · obtain rfl : j = b := by omega
          have Hd := Lib.hid hd
          have Hst := Lib.hid hst
          clear hd hst
          go_wp2_with fail
          go_ret
          exact ⟨bd, τr, rfl, Hlow.out, Hd.out.at, Hst.out⟩
end Go.Proofs.YtgjoahddbieliaaGreat
