/-
  made: a log and a pool over an empty device, of any number of pages; each page's first version.
-/
import Derived.Test.YtgjoahddbieliaaGreatMSortM
import Derived.Test.YtgjoahddbieliaaGreatML12B
namespace Go.Proofs.YtgjoahddbieliaaGreat
open Go.RowKit
set_option linter.unusedVariables false

def tVer (n : Nat) : Tag := (73, n)
theorem tVer_fst (n : Nat) : (tVer n).1 = 73 := rfl
/-- each page's versions -/
structure Vers (w : World) (τ : Tags) (v : Value) (vs : List (List (List Int))) : Prop where
  row : ∃ xs, Buf w τ tWas 47 1 v vs.length xs ∧ ∀ (n : Nat) (ver : List (List Int)), vs[n]? = some ver → ∃ u, xs[n]? = some u ∧ NV 0 w τ (tVer n) u ver
theorem Vers.step {w w' : World} {τ τ' : Tags} {S : Tag → Prop} {v : Value} {vs : List (List (List Int))} (h : Vers w τ v vs) (m : Step w τ w' τ' S) (h1 : ¬ S tWas) (h2 : ∀ n, ¬ S (tVer n)) (h3 : ¬ S tData) : Vers w' τ' v vs := by
  obtain ⟨xs, hb, hx⟩ := h.row
  exact ⟨xs, hb.step m h1, fun n ver hn => by
    obtain ⟨u, a, b⟩ := hx n ver hn
    exact ⟨u, a, b.step m (h2 n) h3⟩⟩
theorem Vers.val {w : World} {τ : Tags} {v : Value} {vs : List (List (List Int))} (h : Vers w τ v vs) : ∃ p c, v = .slice p vs.length c := by
  obtain ⟨xs, hb, _⟩ := h.row
  exact hb.len
theorem step_append_vers {w : World} {τ : Tags} {v : Value} {vs : List (List (List Int))} (hv : Vers w τ v vs) (hn : vs.length ≤ 1000) {u : Value} {ver : List (List Int)} (hu : NV 0 w τ (tVer vs.length) u ver) {kb : Nat} (hkb : kb = w.heap.size)
    {ops : Array Oper} {o : Oper} {a : Act} {K : Act → World → Prop} {Q : Exit → Act → World → Prop} {E : Prop} (hgd : o.guard = none) (s y : Operand)
    (ho : o.op = .call { callee := .builtin .append, args := #[s, y], argTypes := #[29, 29] }) (hs : a.eval s = v) (hy : a.eval y = .slice (some ⟨kb, 0, none⟩) 1 1)
    (h : ∀ v' w' τ', Vers w' τ' v' (vs ++ [ver]) → Step w τ w' τ' (fun t => t = tWas) → K (a.put o.dst v') w') : if Region.wanted o (yielded ops a.tmps) = true then Oper.wp Tryz.prog o a (w.alloc (.cells #[u] 47)) K Q else E := by
  subst hkb
  obtain ⟨xs, hbuf, hx⟩ := hv.row
  have hw : Region.wanted o (yielded ops a.tmps) = true := by simp [Region.wanted, hgd]
  rw [if_pos hw]
  obtain ⟨p, c, rfl⟩ := hu.val
  obtain ⟨i0, hi, hz0, hz1, hz2⟩ := info_parts Tryz.infoBlocks
  have hal : Step w τ (w.alloc (.cells #[.slice p ver.length c] 47)) τ Go.Proofs.YtgjoahddbieliaaGreat.nil := (Step.refl w τ Go.Proofs.YtgjoahddbieliaaGreat.nil).alloc' _
  have hbuf2 := hbuf.step hal (fun h => h)
  obtain ⟨v', w', τ', hr, hb', he, hm, hnw⟩ := run_append_buf (P := Tryz.prog) (w.alloc (.cells #[.slice p ver.length c] 47)) τ tWas 29 o.type 47 i0 (.slice none 0 0) 1 24 Tryz.underlying29 hi hz0 hz1 hz2 rfl (by decide) v vs.length xs hbuf2
    (some ⟨w.heap.size, 0, none⟩) 1 1 [.slice p ver.length c] rfl (fun h => by cases h) (by
      intro ad had; cases had; exact World.news_of_block (cs := #[.slice p ver.length c]) (t := 47) (fr := (0, 0)) (heap_alloc_new w _)) (by simp [Value.oneCell']) (by unfold maxLen; omega) (by omega)
  have hstp : Step w τ w' τ' (fun t => t = tWas) := (hal.mono (fun _ h => h.elim)).trans ⟨hm.mono (fun k hk hS => (hbuf2.own k hS).1), he⟩
  have hxl : xs.length = vs.length := by have := hbuf.1; omega
  unfold Oper.wp execOp
  simp only [ho, resolve, invoke, builtin, Sem.run_bind, Sem.run_pure, Result.andThen_ok, List.map_toArray, List.map_cons, List.map_nil, hs, hy, hr]
  refine h v' w' τ' ⟨xs ++ [.slice p ver.length c], by rw [List.length_append]; exact hb', fun n ve hne => ?_⟩ hstp
  by_cases hlt : n < vs.length
  · rw [List.getElem?_append_left hlt] at hne
    obtain ⟨u, a1, a2⟩ := hx n ve hne
    exact ⟨u, by rw [List.getElem?_append_left (by omega)]; exact a1, a2.step hstp (by simp [tVer, tWas]) (by decide)⟩
  · rw [List.getElem?_append_right (by omega)] at hne
    have hj0 : n - vs.length = 0 := by
      have := (List.getElem?_eq_some_iff.1 hne).1
      simp at this; omega
    rw [hj0] at hne
    have hvv : ver = ve := by simpa using hne
    subst hvv
    have hnn : n = vs.length := by omega
    subst hnn
    exact ⟨_, by rw [List.getElem?_append_right (by omega), show vs.length - xs.length = 0 by omega]; rfl, hu.step hstp (by simp [tVer, tWas]) (by decide)⟩
/-- the world of these laws, as made has made it -/
structure MadeV (w : World) (τ : Tags) (bw bd bl bp bf k : Nat) (was : Value) (vs : List (List (List Int))) (H : PoolH) (L : LogM) (D : Dev) (F : List Fr) (s : Ck.Clk.St) : Prop where
  own : Own w τ bw tWorld 31 [.pointer (some ⟨bd, 0, none⟩), .pointer (some ⟨bl, 0, none⟩), .pointer (some ⟨bp, 0, none⟩), .int .i64 (k : Int), was]
  was : Vers w τ was vs
  pool : PoolW w τ bp bf bd H L D F s
theorem MadeV.step {w w' : World} {τ τ' : Tags} {bw bd bl bp bf k : Nat} {was : Value} {vs : List (List (List Int))} {H : PoolH} {L : LogM} {D : Dev} {F : List Fr} {s : Ck.Clk.St} (h : MadeV w τ bw bd bl bp bf k was vs H L D F s) (m : Step w τ w' τ' Go.Proofs.YtgjoahddbieliaaGreat.nil) : MadeV w' τ' bw bd bl bp bf k was vs H L D F s :=
  ⟨h.own.step m (fun h => h), h.was.step m (fun h => h) (fun _ h => h) (fun h => h), h.pool.step m (fun _ h => h.elim)⟩
def mgD0 (N : Nat) : Dev := ⟨List.replicate 100 zsec, List.replicate (4 * (N + 1)) zsec, none, false⟩
def mgD (N : Nat) : Dev := walNewDev (mgD0 N)
theorem mgD_f1 (N : Nat) : (mgD N).f1 = List.replicate (4 * (N + 1)) zsec := walNew_f1 (mgD0 N)
theorem mgD_f1len (N : Nat) : (mgD N).f1.length = 4 * (N + 1) := by rw [mgD_f1, List.length_replicate]
theorem mgD_blank (N i : Nat) (hi : i < N + 1) : lastTo (mgD N) i 4 = blank := blank_of (mgD_f1 N) i (by omega)
theorem mgD0_len (N : Nat) : (mgD0 N).f0.length = 100 := List.length_replicate
theorem mgD0_lim (N : Nat) : (mgD0 N).lim 0 := new_lim 100 _
def firstVs (i : Nat) : List (List (List Int)) := (List.range i).map (fun n => [emptyPage n])
theorem firstVs_succ (i : Nat) : firstVs (i + 1) = firstVs i ++ [[emptyPage i]] := by simp [firstVs, List.range_succ]
theorem firstVs_length (i : Nat) : (firstVs i).length = i := by simp [firstVs]
set_option maxHeartbeats 4000000 in
set_option maxRecDepth 100000 in
theorem made_gen (w : World) (pg fr : Nat) (hpg : pg < 256) (hfr : fr < 256) {N : Nat} (hN : 1 + pg % 8 = N) : Calls Tryz.prog 10 #[.int .u8 (pg : Int), .int .u8 (fr : Int)] w fun e w' => ∃ (bw bd bl bp bf : Nat) (τ' : Tags) (was : Value) (H : PoolH), e = .returned (.pointer (some ⟨bw, 0, none⟩)) ∧ MadeV w' τ' bw bd bl bp bf (3 + fr % 5) was (firstVs N) H (walNewLog 100) (mgD N) (List.replicate (3 + fr % 5) Fr.no) (Ck.Clk.newS (3 + fr % 5)) ∧ H.n = N ∧ H.st = stampTo (mgD N) (N + 1) ∧ H.bl = bl ∧ Step w (fun _ => tBox) w' τ' AnyTag := by
  have hN8 : 1 ≤ N ∧ N ≤ 8 := by omega
  have hnd : Calls Tryz.prog 41 #[.int .i64 100, .int .i64 (4 * ((N : Int) + 1))] w (NewD w (fun _ => tBox) 100 (4 * (N + 1))) := by
    have := newdev_any w (fun _ => tBox) 100 (4 * (N + 1)) (by omega) (by omega)
    rw [show ((4 * (N + 1) : Nat) : Int) = 4 * ((N : Int) + 1) by omega] at this
    exact this
  obtain ⟨L0, hL0⟩ : ∃ L0, walNewLog (mgD0 N).f0.length = L0 := ⟨_, rfl⟩
  have hL0' : walNewLog 100 = L0 := by rw [← hL0, mgD0_len]
  rw [hL0']
  have hK : walNewDev (mgD0 N) = mgD N := rfl
  have e0 : IntKind.u8.wrap ((pg : Int) % 8) = (pg : Int) % 8 := by
    have : IntKind.u8.wrap ((pg : Int) % 8) = ((pg : Int) % 8) % 256 := by simp [IntKind.wrap, IntKind.bits, IntKind.signed]
    rw [this]; omega
  have hNI : (1 : Int) + (pg : Int) % 8 = (N : Int) := by omega
  have e1 : IntKind.u8.wrap ((fr : Int) % 5) = (fr : Int) % 5 := by
    have : IntKind.u8.wrap ((fr : Int) % 5) = ((fr : Int) % 5) % 256 := by simp [IntKind.wrap, IntKind.bits, IntKind.signed]
    rw [this]; omega
  obtain ⟨k, hk⟩ : ∃ k, 3 + fr % 5 = k := ⟨_, rfl⟩
  have hkI : (3 : Int) + (fr : Int) % 5 = (k : Int) := by omega
  have hk3 : 3 ≤ k ∧ k ≤ 7 := by omega
  rw [hk]
  have Hnd := Lib.hid hnd
  have HL0 := Lib.hid hL0
  have HK := Lib.hid hK
  have Hk := Lib.hid hk
  have HkI := Lib.hid hkI
  have HL0' := Lib.hid hL0'
  clear hnd hL0 hK hk hkI hL0'
  go_enter Tryz.func10, Tryz.ntmps10
  go_wp2_with fail
  refine Hnd.out.mono ?_
  rintro e w1 ⟨bd, rfl, hlow1, τ1, he1, hm1, hd1⟩
  have hd1' : DevAt w1 τ1 bd (mgD0 N) := hd1
  have hs1 : Step w (fun _ => tBox) w1 τ1 AnyTag := Step.of _ hm1 he1
  have ho2 := Own.new w1 τ1 tWorld 31 [.pointer (some ⟨bd, 0, none⟩), .pointer none, .pointer none, .int .i64 (k : Int), .slice none 0 0]
  have hq2 := (Step.refl w1 τ1 nil).alloc (.cells ⟨[.pointer (some ⟨bd, 0, none⟩), .pointer none, .pointer none, .int .i64 (k : Int), .slice none 0 0]⟩ 31) tWorld
  have hd2 := hd1'.step hq2 (fun _ h => h.elim)
  have hst2 := hs1.trans (hq2.mono (T := AnyTag) (fun _ h => h.elim))
  generalize τ1.put w1.heap.size tWorld = τ2 at *
  obtain ⟨bw, hbw⟩ : ∃ bw, w1.heap.size = bw := ⟨_, rfl⟩
  rw [hbw] at ho2
  have Ho2 := Lib.hid ho2
  have Hd2 := Lib.hid hd2
  have Hst2 := Lib.hid hst2
  have Hbw := Lib.hid hbw
  clear ho2 hd2 hst2 hbw
  clear hd1 he1 hm1 hd1' hs1 hq2
  go_wp2_with fail
  rw [Hbw.out, HkI.out]
  generalize w1.alloc (.cells #[.pointer (some ⟨bd, 0, none⟩), .pointer none, .pointer none, .int .i64 (k : Int), .slice none 0 0] 31) = w2 at *
  have hnew := walnew_yes Hd2.out (by rw [(mgD0_len N)]; omega) (Dev.lim_mono (mgD0_lim N) (by omega))
  rw [HL0.out, HK.out] at hnew
  have Hnew := Lib.hid hnew
  clear hnew
  refine Hnew.out.mono ?_
  rintro e w4 ⟨bl, τ4, rfl, -, hl4, hd4, hs4⟩
  have ho4 := Ho2.out.step hs4 (fun h => by have := h.fst; rw [tWorld_fst] at this; omega)
  have hst4 := Hst2.out.trans (hs4.mono (T := AnyTag) (fun g hg => by have := hg.fst; show g.1 ≠ 90; omega))
  have c3 := ho4.at 3 (v := .int .i64 (k : Int)) rfl
  have hpn : Calls Tryz.prog 26 #[.pointer (some ⟨bl, 0, none⟩), .int .i64 (N : Int), .int .i64 (k : Int)] w4 fun e w' => ∃ bp bf τ' H, e = .returned (.tuple #[.pointer (some ⟨bp, 0, none⟩), .int .u16 0]) ∧ PoolAt w' τ' bp bf H (List.replicate k Fr.no) (Ck.Clk.newS k) ∧ H.bl = bl ∧ H.n = N ∧ H.st = stampTo (mgD N) (N + 1) ∧ w4.heap.size ≤ bp ∧ Step w4 τ4 w' τ' nil :=
    poolnew_yes hl4 hd4 N k (by omega) (by omega) (by omega) (by omega) (by rw [(mgD_f1len N)]; omega) (fun i hi => by rw [mgD_blank N i (by omega)]; exact blank_ok)
  have Ho4 := Lib.hid ho4
  have Hl4 := Lib.hid hl4
  have Hd4 := Lib.hid hd4
  have Hst4 := Lib.hid hst4
  have Hpn := Lib.hid hpn
  clear ho4 hl4 hd4 hst4 hpn
  clear hs4
  go_wp2_with fail
  refine Hpn.out.mono ?_
  rintro e w5 ⟨bp, bf, τ5, H, rfl, hp5, hHl, hHn, hHs, -, hs5⟩
  have ho5 := Ho4.out.step hs5 (fun h => h)
  have hl5 := Hl4.out.step hs5 (fun _ _ h => h)
  have hd5 := Hd4.out.step hs5 (fun _ h => h.elim)
  have hst5 := Hst4.out.trans (hs5.mono (T := AnyTag) (fun _ h => h.elim))
  have c1 := ho5.at 1 (v := .pointer none) rfl
  have z1 := ho5.fz 1
  have c2 := ho5.at 2 (v := .pointer none) rfl
  have z2 := ho5.fz 2
  have ho6 := (ho5.set 1 (.pointer (some ⟨bl, 0, none⟩))).set 2 (.pointer (some ⟨bp, 0, none⟩))
  have hq6 : Step w5 τ5 ((w5.setCell ⟨bw, 1, none⟩ (.pointer (some ⟨bl, 0, none⟩))).setCell ⟨bw, 2, none⟩ (.pointer (some ⟨bp, 0, none⟩))) τ5 (fun t => t = tWorld) := ((Step.refl w5 τ5 (fun t => t = tWorld)).set (o := 1) ho5.tag rfl _).set (o := 2) (ho5.set 1 (.pointer (some ⟨bl, 0, none⟩))).tag rfl _
  have hP6 : PoolW ((w5.setCell ⟨bw, 1, none⟩ (.pointer (some ⟨bl, 0, none⟩))).setCell ⟨bw, 2, none⟩ (.pointer (some ⟨bp, 0, none⟩))) τ5 bp bf bd H L0 (mgD N) (List.replicate k Fr.no) (Ck.Clk.newS k) :=
    (PoolW.mk hp5 (by rw [hHl]; exact hl5) hd5).step hq6 (fun g hg => by
      subst hg
      exact ⟨fun h => by have := h.fst; rw [tWorld_fst] at this; omega, fun h => by have := h.fst; rw [tWorld_fst] at this; omega, fun h => by have := h.fst; rw [tWorld_fst] at this; omega, by decide⟩)
  have hM6 : MadeV ((w5.setCell ⟨bw, 1, none⟩ (.pointer (some ⟨bl, 0, none⟩))).setCell ⟨bw, 2, none⟩ (.pointer (some ⟨bp, 0, none⟩))) τ5 bw bd bl bp bf k (.slice none 0 0) (firstVs 0) H L0 (mgD N) (List.replicate k Fr.no) (Ck.Clk.newS k) :=
    ⟨ho6, ⟨[], Buf.nil _ _ _ _ _, fun n ver h => by simp [firstVs] at h⟩, hP6⟩
  have hst6 := hst5.trans (hq6.mono (T := AnyTag) (fun g hg => by show g.1 ≠ 90; rw [hg]; decide))
  have HM6 := Lib.hid hM6
  have HHn := Lib.hid hHn
  have Hst6 := Lib.hid hst6
  have HHs := Lib.hid hHs
  clear hM6 hHn hst6 hHs
  have HHl := Lib.hid hHl
  clear hp5 hl5 hd5 hst5 hs5 ho5 ho6 hq6 hP6 hHl
  go_wp2_with fail
  generalize (w5.setCell ⟨bw, 1, none⟩ (.pointer (some ⟨bl, 0, none⟩))).setCell ⟨bw, 2, none⟩ (.pointer (some ⟨bp, 0, none⟩)) = w6 at *
  go_loopw [11] (fun v wr => ∃ (i : Nat) (τr : Tags) (was : Value), i ≤ N ∧ v = .int .i64 (i : Int) ∧ MadeV wr τr bw bd bl bp bf k was (firstVs i) H L0 (mgD N) (List.replicate k Fr.no) (Ck.Clk.newS k) ∧ Step w (fun _ => tBox) wr τr AnyTag) (fun v _ => N - (intOf v).toNat)
  case atStart => exact ⟨0, τ5, _, Nat.zero_le _, rfl, HM6.out, Hst6.out⟩
  case round =>
    clear HM6 Hst6 c1 z1 c2 z2 c3
    obtain ⟨i, τr, was, hi, rfl, hM, hst⟩ := hrel
    by_cases hlt : i < N
    · have c4 := hM.own.at 4 (v := was) rfl
      obtain ⟨pw, cw, rfl⟩ := hM.was.val
      rw [firstVs_length] at hM c4
      have hi8 : (i : Int) < 8 := by omega
      have hwu : IntKind.u32.wrap (i : Int) = (i : Int) := u32_wrap' i (by omega)
      have hnw := pagenew_any wr.drew τr tData i (by omega)
      have hMd := hM.step (Step.refl wr τr nil).drew
      have hst0 := hst.drew
      have Hnw := Lib.hid hnw
      have HMd := Lib.hid hMd
      have HM := Lib.hid hM
      have Hst0 := Lib.hid hst0
      clear hnw hMd hM hst0
      clear hst
      go_wp2_with fail
      refine wp_region_L (S := fun w' : World => w'.cell? ⟨bw, 4, none⟩ = some (.slice pw i cw)) (by kernel_rfl) ?_
      have hSS : wr.drew.cell? ⟨bw, 4, none⟩ = some (.slice pw i cw) := c4
      refine wpAnyL_take (i := 0) (v := ?_) rfl (by decide +kernel) (by decide +kernel) (by decide +kernel) (by decide +kernel) (fun _ _ _ h => h) (Or.inl ⟨by rfl, ?_⟩) (by assumption) ?_
      rotate_left
      · intro w hSw
        (try dsimp only at hSw)
        go_simp
        all_goals with_reducible rfl
      try simp only [Act.put]
      try simp only [List.setIfInBounds_toArray]
      try simp only [List.set_cons_succ]
      try simp only [List.set_cons_zero]
      refine wpAnyL_take (i := 1) (v := ?_) rfl (by decide +kernel) (by decide +kernel) (by decide +kernel) (by decide +kernel) (fun _ _ _ h => h) (Or.inl ⟨by rfl, ?_⟩) (by assumption) ?_
      rotate_left
      · intro w hSw
        (try dsimp only at hSw)
        go_simp
        all_goals with_reducible rfl
      try simp only [Act.put]
      try simp only [List.setIfInBounds_toArray]
      try simp only [List.set_cons_succ]
      try simp only [List.set_cons_zero]
      refine wpAnyL_take (i := 2) (v := ?_) rfl (by decide +kernel) (by decide +kernel) (by decide +kernel) (by decide +kernel) (fun _ _ _ h => h) (Or.inl ⟨by rfl, ?_⟩) (by assumption) ?_
      rotate_left
      · intro w hSw
        (try dsimp only at hSw)
        go_simp
        all_goals with_reducible rfl
      try simp only [Act.put]
      try simp only [List.setIfInBounds_toArray]
      try simp only [List.set_cons_succ]
      try simp only [List.set_cons_zero]
      refine wpAnyL_take (i := 3) (v := ?_) rfl (by decide +kernel) (by decide +kernel) (by decide +kernel) (by decide +kernel) (fun _ _ _ h => h) (Or.inl ⟨by rfl, ?_⟩) (by assumption) ?_
      rotate_left
      · intro w hSw
        (try dsimp only at hSw)
        go_simp
        all_goals with_reducible rfl
      try simp only [Act.put]
      try simp only [List.setIfInBounds_toArray]
      try simp only [List.set_cons_succ]
      try simp only [List.set_cons_zero]
      refine wpAnyL_take (i := 4) (v := ?_) rfl (by decide +kernel) (by decide +kernel) (by decide +kernel) (by decide +kernel) (fun _ _ _ h => h) (Or.inl ⟨by rfl, ?_⟩) (by assumption) ?_
      rotate_left
      · intro w hSw
        (try dsimp only at hSw)
        go_simp
        all_goals with_reducible rfl
      try simp only [Act.put]
      try simp only [List.setIfInBounds_toArray]
      try simp only [List.set_cons_succ]
      try simp only [List.set_cons_zero]
      refine wpAnyL_take (i := 5) (v := ?_) rfl (by decide +kernel) (by decide +kernel) (by decide +kernel) (by decide +kernel) (fun _ _ _ h => h) (Or.inl ⟨by rfl, ?_⟩) (by assumption) ?_
      rotate_left
      · intro w hSw
        (try dsimp only at hSw)
        go_simp
        all_goals with_reducible rfl
      try simp only [Act.put]
      try simp only [List.setIfInBounds_toArray]
      try simp only [List.set_cons_succ]
      try simp only [List.set_cons_zero]
      refine wpAnyL_take (i := 6) (v := ?_) rfl (by decide +kernel) (by decide +kernel) (by decide +kernel) (by decide +kernel) (fun _ _ _ h => h) (Or.inl ⟨by rfl, ?_⟩) (by assumption) ?_
      rotate_left
      · intro w hSw
        (try dsimp only at hSw)
        go_simp
        all_goals with_reducible rfl
      try simp only [Act.put]
      try simp only [List.setIfInBounds_toArray]
      try simp only [List.set_cons_succ]
      try simp only [List.set_cons_zero]
      clear hSS
      refine wpAnyL_one (i := 7) (by decide +kernel) rfl (fun K hK => ?_)
      go_simp
      go_at_call 43
      refine Hnw.out.mono ?_
      rintro e w7 ⟨b7, τ7, rfl, -, hpg7, hs7⟩
      have hM7 := HMd.out.step hs7
      have hby := pagebytes_any hpg7 tData
      have d4 := hM7.own.at 4 (v := .slice pw i cw) rfl
      have hst7 := Hst0.out.trans (hs7.mono (T := AnyTag) (fun _ h => h.elim))
      have HM7 := Lib.hid hM7
      have Hby := Lib.hid hby
      have Hst7 := Lib.hid hst7
      clear hM7 hby hst7
      clear hs7 hpg7
      refine hK.out _ _ (fun _ => d4) ?_
      clear hK K
      refine wpAnyL_one (i := 8) (by decide +kernel) rfl (fun K hK => ?_)
      go_simp
      go_at_call 28
      refine Hby.out.mono ?_
      rintro e w8 ⟨v8, τ8, rfl, hn8, hs8⟩
      have hM8 := HM7.out.step hs8
      have e4 := hM8.own.at 4 (v := .slice pw i cw) rfl
      obtain ⟨p8, c8, rfl⟩ := hn8.val
      have hal9 := (Step.refl w8 τ8 nil).alloc (.cells #[.slice p8 (emptyPage i).length c8] 43) (tVer i)
      have hM9 := hM8.step hal9
      have hu9 : NV 0 (w8.alloc (.cells #[.slice p8 (emptyPage i).length c8] 43)) (τ8.put w8.heap.size (tVer i)) (tVer i) (.slice (some ⟨w8.heap.size, 0, none⟩) 1 1) [emptyPage i] := by
        refine ⟨⟨[.slice p8 (emptyPage i).length c8], ⟨rfl, .inr ⟨w8.heap.size, 1, [], rfl, ?_, rfl, Nat.le_refl _, by unfold maxLen; omega⟩⟩, fun k x hx => ?_⟩, fun _ _ => Nat.zero_le _⟩
        · exact Own.born w8 τ8 (tVer i) 43 #[.slice p8 (emptyPage i).length c8]
        · cases k with
          | zero =>
            have : emptyPage i = x := by simpa using hx
            subst this
            exact ⟨_, rfl, hn8.bytes.step hal9 (fun h => h)⟩
          | succ k => simp at hx
      have e49 := hM9.own.at 4 (v := .slice pw i cw) rfl
      have hst9 := (Hst7.out.trans (hs8.mono (T := AnyTag) (fun _ h => h.elim))).trans (hal9.mono (T := AnyTag) (fun _ h => h.elim))
      generalize (emptyPage i).length = m8 at *
      have HM8 := Lib.hid hM8
      have HM9 := Lib.hid hM9
      have Hst9 := Lib.hid hst9
      have Hu9 := Lib.hid hu9
      clear hM8 hM9 hst9 hu9
      clear hs8 hn8 hal9
      refine hK.out _ _ (fun _ => e4) ?_
      clear hK K
      refine wpAnyL_one (i := 9) (by decide +kernel) rfl (fun K hK => ?_)
      go_simp
      refine hK.out _ _ (fun _ => e49) ?_
      clear hK K
      refine wpAnyL_one (i := 10) (by decide +kernel) rfl (fun K hK => ?_)
      go_simp
      refine hK.out _ _ (fun _ => (HM9.out.own.alloc _).at 4 rfl) ?_
      clear hK K
      refine wpAnyL_one (i := 11) (by decide +kernel) rfl (fun K hK => ?_)
      refine step_append_vers HM9.out.was (by rw [firstVs_length]; omega) (by rw [firstVs_length]; exact Hu9.out) (by simp) rfl _ _ rfl rfl rfl ?_
      intro v3 w3 τ3 hb3 hs3
      rw [← firstVs_succ] at hb3
      obtain ⟨p3, n3, hv3⟩ := hb3.val
      rw [firstVs_length] at hv3
      subst hv3
      have ho3 := HM9.out.own.step hs3 (by decide)
      have g4 := ho3.at 4 (v := .slice pw i cw) rfl
      have z4 := ho3.fz 4
      have hP3 := HM9.out.pool.step hs3 (fun g hg => by
        subst hg
        exact ⟨fun h => by have := h.fst; rw [tWas_fst] at this; omega, fun h => by have := h.fst; rw [tWas_fst] at this; omega, fun h => by have := h.fst; rw [tWas_fst] at this; omega, by decide⟩)
      have hq3 : Step w3 τ3 (w3.setCell ⟨bw, 4, none⟩ (.slice p3 (i + 1) n3)) τ3 (fun t => t = tWorld) := (Step.refl w3 τ3 (fun t => t = tWorld)).set ho3.tag rfl _
      have hM3 : MadeV (w3.setCell ⟨bw, 4, none⟩ (.slice p3 (i + 1) n3)) τ3 bw bd bl bp bf k (.slice p3 (i + 1) n3) (firstVs (i + 1)) H L0 (mgD N) (List.replicate k Fr.no) (Ck.Clk.newS k) :=
        ⟨ho3.set 4 _, hb3.step hq3 (by decide) (fun n => by simp [tVer, tWorld]) (by decide), hP3.step hq3 (fun g hg => by
          subst hg
          exact ⟨fun h => by have := h.fst; rw [tWorld_fst] at this; omega, fun h => by have := h.fst; rw [tWorld_fst] at this; omega, fun h => by have := h.fst; rw [tWorld_fst] at this; omega, by decide⟩)⟩
      have hst3 := (Hst9.out.trans (hs3.mono (T := AnyTag) (fun g hg => by show g.1 ≠ 90; rw [hg]; decide))).trans (hq3.mono (T := AnyTag) (fun g hg => by show g.1 ≠ 90; rw [hg]; decide))
      have HM3 := Lib.hid hM3
      have Hst3 := Lib.hid hst3
      clear hM3 hst3
      clear ho3 hb3 hs3 hP3 hq3
      refine hK.out _ _ (fun _ => g4) ?_
      clear hK K
      refine wpAnyL_one (i := 12) (by decide +kernel) rfl (fun K hK => ?_)
      go_simp
      refine hK.out _ _ (fun _ => g4) ?_
      clear hK K
      refine wpAnyL_one (i := 13) (by decide +kernel) rfl (fun K hK => ?_)
      go_simp
      refine hK.out _ _ (fun _ => g4) ?_
      clear hK K
      refine wpAnyL_one (i := 14) (by decide +kernel) rfl (fun K hK => ?_)
      go_simp
      refine hK.out _ _ (fun h => absurd h (by decide +kernel)) ?_
      clear hK K
      refine wpAnyL_done (by kernel_rfl) ?_ _
      go_wp2_with fail
      go_round
      case rel =>
        have hr1 := HM3.out
        have hr2 := Hst3.out
        first
          | exact ⟨i + 1, τ3, _, by omega, by simp, hr1, hr2⟩
          | exact ⟨i + 1, by omega, by simp, τ3, ⟨_, hr1⟩, hr2⟩
          | exact ⟨i + 1, by omega, τ3, ⟨_, hr1⟩, hr2⟩
      case measure => simp [intOf]; omega
    · obtain rfl : i = N := by omega
      have HM := Lib.hid hM
      have Hst := Lib.hid hst
      clear hM hst
      go_wp2_with fail
      go_ret
      exact ⟨bw, bd, bl, bp, bf, τr, was, H, rfl, HM.out, HHn.out, HHs.out, HHl.out, Hst.out⟩
end Go.Proofs.YtgjoahddbieliaaGreat
