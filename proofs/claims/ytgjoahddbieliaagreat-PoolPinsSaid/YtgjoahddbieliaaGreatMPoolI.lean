/-
  Pools: bring a page that was never written into an empty frame.
-/
import Derived.Test.YtgjoahddbieliaaGreatMPoolD
import Derived.Maps.Own
namespace Go.Proofs.YtgjoahddbieliaaGreat
open Go.RowKit
set_option linter.unusedVariables false

set_option maxHeartbeats 2000000 in
set_option maxRecDepth 100000 in
theorem bring_new {w : World} {τ : Tags} {bp bf bd : Nat} {H : PoolH} {F : List Fr} {s : Ck.Clk.St} {L : LogM} {D : Dev} (h : PoolAt w τ bp bf H F s) (hl : LogAt w τ H.bl bd L) (hd : DevAt w τ bd D) (n : Nat) (hn : n < H.n) (hfit : 4 * n + 4 ≤ D.f1.length) (hz : lastTo D n 4 = blank) (hyes : Ck.Clk.pickB s = true) {i : Nat} (hi : Ck.Clk.pickI s = i) {f : Fr} (hf : F[i]? = some f) (hfn : f.pg = none) (hno : whereOf F n = none) :
    Calls Tryz.prog 45 #[.pointer (some ⟨bp, 0, none⟩), .int .u32 (n : Int)] w fun e w' => e = .returned (.tuple #[.int .i64 (i : Int), .int .u16 0]) ∧ ∃ b τ', PoolAt w' τ' bp bf H (F.set i ⟨some (b, emptyPage n), n, 0⟩) (Ck.Clk.takeS (Ck.Clk.pickS s) i) ∧ Step w τ w' τ' PoolTag := by
  have h1 := clkpick_any h.ck
  rw [hyes, hi] at h1
  have d4 := h.hd.at 4 (v := .pointer (some ⟨H.bc, 0, none⟩)) rfl
  have h512 := h.n1
  have hk := h.k1
  have hil : i < F.length := (List.getElem?_eq_some_iff.1 hf).1
  have H1 := Lib.hid h1
  have H_h := Lib.hid h
  have Hl := Lib.hid hl
  have Hd := Lib.hid hd
  have Hf := Lib.hid hf
  have Hno := Lib.hid hno
  have Hz := Lib.hid hz
  clear h1 h hl hd hf hno hz
  go_enter Tryz.func45, Tryz.ntmps45
  go_wp2_with fail
  refine H1.out.mono ?_
  rintro e w1 ⟨rfl, hc1, hs1⟩
  have hp1 := H_h.out.clk hc1 hs1 (pickS_n s)
  have h2 := empty_none hp1 i Hf.out hfn
  have h3 := load_zero hp1.hd (Hl.out.step hs1 (by rintro g (rfl | rfl | rfl) <;> decide)) (Hd.out.step hs1 (by rintro g rfl; simp [DevTag, tClk, tData])) n hfit Hz.out (tPg i)
  have Hp1 := Lib.hid hp1
  have Hs1 := Lib.hid hs1
  have H2 := Lib.hid h2
  have H3 := Lib.hid h3
  clear hp1 hs1 h2 h3
  clear hc1
  go_wp2_with fail
  refine H2.out.mono ?_
  rintro e w' ⟨rfl, rfl⟩
  go_wp2_with fail
  refine H3.out.mono ?_
  rintro e w2 ⟨b, τ2, rfl, hlow, hpg, hs2⟩
  have hp2 := Hp1.out.step hs2 (fun _ _ h => h)
  have e2 := hp2.hd.at 2 (v := H.vf) rfl
  rw [hp2.vf] at e2
  obtain ⟨c0, c1, c2⟩ := hp2.cells Hf.out
  have z0 := hp2.fr.fz (i * 3)
  have z1 := hp2.fr.fz (i * 3 + 1)
  have z2 := hp2.fr.fz (i * 3 + 2)
  have hst3 : Step w2 τ2 (((w2.setCell ⟨bf, i * 3, none⟩ (.pointer (some ⟨b, 0, none⟩))).setCell ⟨bf, i * 3 + 1, none⟩ (.int .u32 (n : Int))).setCell ⟨bf, i * 3 + 2, none⟩ (.int .u64 0)) τ2 (fun g => g = tFr) :=
    (((Step.refl w2 τ2 (fun g => g = tFr)).set hp2.fr.tag rfl _).set hp2.fr.tag rfl _).set hp2.fr.tag rfl _
  have hd3 := hp2.hd.step hst3 (by decide)
  have e3 := hd3.at 3 (v := .map (some H.bm)) rfl
  have hm3 := hp2.mp.step hst3 (by decide)
  have hc3 := hp2.ck.step hst3 (by decide)
  have Hst3 := Lib.hid hst3
  have Hd3 := Lib.hid hd3
  have Hm3 := Lib.hid hm3
  have Hc3 := Lib.hid hc3
  clear hst3 hd3 hm3 hc3
  generalize F.length = k at *
  have Hp2 := Lib.hid hp2
  have Hpg := Lib.hid hpg
  have Hs2 := Lib.hid hs2
  clear hp2 hpg hs2
  go_wp2_with (at_mapUpdate; go_loud (refine wpList_mapUpdate_is Hm3.out (by omega) n i hn (by omega) rfl _ _ _ rfl rfl rfl rfl ?_; intro w4 hm4 hs4; have e4 := (Hd3.out.step hs4 (by decide)).at 4 (v := .pointer (some ⟨H.bc, 0, none⟩)) rfl; have htk := clktake_any (Hc3.out.step hs4 (by decide)) (i : Int); have Hm4 := Lib.hid hm4; have Hs4 := Lib.hid hs4; have Htk := Lib.hid htk; clear hm4 hs4 htk))
  refine Htk.out.mono ?_
  rintro e w5 ⟨rfl, hc5, hs5⟩
  have Hc5 := Lib.hid hc5
  have Hs5 := Lib.hid hs5
  clear hc5 hs5
  go_wp2_with fail
  go_ret2
  have hp1 := Hp1.out
  have hp2 := Hp2.out
  have h45 := (Hs4.out.mono (T := fun g => g = tWhere ∨ g = tClk) (fun g h => .inl h)).trans (Hs5.out.mono (fun g h => .inr h))
  have h35 := (Hst3.out.mono (T := PoolTag) (fun g h => .inr (.inl h))).trans (h45.mono (T := PoolTag) (fun g h => by rcases h with h | h; exact .inr (.inr (.inl h)); exact .inr (.inr (.inr (.inl h)))))
  have hall := ((Hs1.out.mono (T := PoolTag) (fun g h => .inr (.inr (.inr (.inl h))))).trans (Hs2.out.mono (T := PoolTag) (fun g h => h.elim))).trans h35
  have hiF : i < F.length := (List.getElem?_eq_some_iff.1 Hf.out).1
  obtain ⟨hone, hwh⟩ := whereOf_fill hp2.one hiF Hf.out hfn ⟨some (b, emptyPage n), n, 0⟩ (by simp [Fr.has]) Hno.out
  have hfr3 := ((hp2.fr.set (i * 3) (.pointer (some ⟨b, 0, none⟩))).set (i * 3 + 1) (.int .u32 (n : Int))).set (i * 3 + 2) (.int .u64 0)
  have hfs := frCells_set F i ⟨some (b, emptyPage n), n, 0⟩ hiF
  rw [show ((((frCells F).set (i * 3) (Value.pointer (some ⟨b, 0, none⟩))).set (i * 3 + 1) (Value.int .u32 (n : Int))).set (i * 3 + 2) (Value.int .u64 0)) = frCells (F.set i ⟨some (b, emptyPage n), n, 0⟩) from hfs] at hfr3
  have hmp := Hm4.out.step Hs5.out (by decide)
  rw [hwh] at hmp
  refine ⟨rfl, b, τ2, ⟨(Hd3.out.step h45 (by decide)), by rw [List.length_set]; exact hp2.vf, hfr3.step h45 (by decide), ?_, hmp, Hc5.out, hp2.n1, by rw [List.length_set]; exact hp2.k1, ?_, hp2.st, hone, ?_⟩, hall⟩
  · intro j c P hb
    rw [List.getElem?_set] at hb
    by_cases e : i = j
    · subst e
      rw [if_pos rfl, if_pos hiF] at hb
      cases hb
      exact (Hpg.out.step Hst3.out (by simp [tPg, tFr])).step h45 (by simp [tPg, tWhere, tClk])
    · rw [if_neg e] at hb
      exact ((hp2.pg j c P hb).step Hst3.out (by simp [tPg, tFr])).step h45 (by simp [tPg, tWhere, tClk])
  · rw [List.length_set]
    have e : (Ck.Clk.takeS (Ck.Clk.pickS s) i).n = (Ck.Clk.pickS s).n := by unfold Ck.Clk.takeS; split <;> rfl
    rw [e]; exact hp2.sn
  · intro j m g hg hh
    rw [List.getElem?_set] at hg
    by_cases e : i = j
    · rw [if_pos e, if_pos hiF] at hg
      cases hg
      simp only [Fr.has, Bool.and_eq_true, beq_iff_eq] at hh
      rw [← hh.2]; exact hn
    · rw [if_neg e] at hg
      exact hp2.low j m g hg hh
end Go.Proofs.YtgjoahddbieliaaGreat

/-
  Pools: bring a page that was never written into a frame whose page is clean.
-/
namespace Go.Proofs.YtgjoahddbieliaaGreat
open Go.RowKit
set_option linter.unusedVariables false

theorem pooltag_log {g : Tag} (h : LogTag g) : ¬ PoolTag g := by
  rcases h with rfl | rfl | rfl <;> simp [PoolTag, tPool, tFr, tWhere, tClk, tPg, tLog, tStream, tStarts]
theorem pooltag_dev {g : Tag} (h : PoolTag g) : ¬ DevTag g ∧ g ≠ tData := by
  rcases h with rfl | rfl | rfl | rfl | ⟨i, rfl⟩ <;> simp [DevTag, tPool, tFr, tWhere, tClk, tPg, tData]
set_option maxHeartbeats 2000000 in
set_option maxRecDepth 100000 in
theorem bring_over {w : World} {τ : Tags} {bp bf bd : Nat} {H : PoolH} {F : List Fr} {s : Ck.Clk.St} {L : LogM} {D : Dev} (h : PoolAt w τ bp bf H F s) (hl : LogAt w τ H.bl bd L) (hd : DevAt w τ bd D) (n : Nat) (hn : n < H.n) (hfit : 4 * n + 4 ≤ D.f1.length) (hz : lastTo D n 4 = blank) (hyes : Ck.Clk.pickB s = true) {i : Nat} (hi : Ck.Clk.pickI s = i) {f : Fr} {x : Nat × List Int} (hf : F[i]? = some f) (hfx : f.pg = some x) (hf0 : f.first = 0) (hf32 : f.n < 4294967296) (hno : whereOf F n = none) :
    Calls Tryz.prog 45 #[.pointer (some ⟨bp, 0, none⟩), .int .u32 (n : Int)] w fun e w' => e = .returned (.tuple #[.int .i64 (i : Int), .int .u16 0]) ∧ ∃ b τ', PoolAt w' τ' bp bf H (F.set i ⟨some (b, emptyPage n), n, 0⟩) (Ck.Clk.takeS (Ck.Clk.leaveS (Ck.Clk.pickS s) i) i) ∧ Step w τ w' τ' PoolTag := by
  have h1 := clkpick_any h.ck
  rw [hyes, hi] at h1
  have d4 := h.hd.at 4 (v := .pointer (some ⟨H.bc, 0, none⟩)) rfl
  have h512 := h.n1
  have hk := h.k1
  have hil : i < F.length := (List.getElem?_eq_some_iff.1 hf).1
  have H1 := Lib.hid h1
  have H_h := Lib.hid h
  have Hl := Lib.hid hl
  have Hd := Lib.hid hd
  have Hf := Lib.hid hf
  have Hno := Lib.hid hno
  have Hz := Lib.hid hz
  clear h1 h hl hd hf hno hz
  go_enter Tryz.func45, Tryz.ntmps45
  go_wp2_with fail
  refine H1.out.mono ?_
  rintro e w1 ⟨rfl, hc1, hs1⟩
  have hp1 := H_h.out.clk hc1 hs1 (pickS_n s)
  have h2 := empty_clean hp1 i Hf.out hfx hf0 hf32
  have Hp1 := Lib.hid hp1
  have Hs1 := Lib.hid hs1
  have H2 := Lib.hid h2
  clear hp1 hs1 h2
  clear hc1
  go_wp2_with fail
  refine H2.out.mono ?_
  rintro e w1b ⟨rfl, hpb, hsb⟩
  have hs1b := (Hs1.out.mono (T := PoolTag) (fun g h => .inr (.inr (.inr (.inl h))))).trans hsb
  have h3 := load_zero hpb.hd (Hl.out.step hs1b (fun g h => pooltag_log h)) (Hd.out.step hs1b (fun g h => pooltag_dev h)) n hfit Hz.out (tPg i)
  have hfb : (F.set i Fr.no)[i]? = some Fr.no := by rw [List.getElem?_set, if_pos rfl, if_pos hil]
  have hhas : f.has f.n = true := by simp [Fr.has, hfx]
  have hnob : whereOf (F.set i Fr.no) n = none := by
    rw [← whereOf_clear H_h.out.one Hf.out hhas]
    unfold updO; split
    · rfl
    · exact Hno.out
  have hss : ∀ y, F.set i y = (F.set i Fr.no).set i y := fun y => by rw [List.set_set]
  have hlb : (F.set i Fr.no).length = F.length := List.length_set
  generalize hF1 : F.set i Fr.no = F1 at *
  generalize hs1e : Ck.Clk.leaveS (Ck.Clk.pickS s) (i : Int) = s1 at *
  have Hss := Lib.hid hss
  have HF1 := Lib.hid hF1
  have Hs1e := Lib.hid hs1e
  clear hss hF1 hs1e
  have hk := hpb.k1
  have hil : i < F1.length := by omega
  have Hpb := Lib.hid hpb
  have Hs1b := Lib.hid hs1b
  have H3 := Lib.hid h3
  have Hfb := Lib.hid hfb
  have Hnob := Lib.hid hnob
  clear hpb hs1b h3 hfb hnob
  clear hlb H2
  go_wp2_with fail
  refine H3.out.mono ?_
  rintro e w2 ⟨b, τ2, rfl, hlow, hpg, hs2⟩
  have hp2 := Hpb.out.step hs2 (fun _ _ h => h)
  have e2 := hp2.hd.at 2 (v := H.vf) rfl
  rw [hp2.vf] at e2
  obtain ⟨c0, c1, c2⟩ := hp2.cells Hfb.out
  have z0 := hp2.fr.fz (i * 3)
  have z1 := hp2.fr.fz (i * 3 + 1)
  have z2 := hp2.fr.fz (i * 3 + 2)
  have hst3 : Step w2 τ2 (((w2.setCell ⟨bf, i * 3, none⟩ (.pointer (some ⟨b, 0, none⟩))).setCell ⟨bf, i * 3 + 1, none⟩ (.int .u32 (n : Int))).setCell ⟨bf, i * 3 + 2, none⟩ (.int .u64 0)) τ2 (fun g => g = tFr) :=
    (((Step.refl w2 τ2 (fun g => g = tFr)).set hp2.fr.tag rfl _).set hp2.fr.tag rfl _).set hp2.fr.tag rfl _
  have hd3 := hp2.hd.step hst3 (by decide)
  have e3 := hd3.at 3 (v := .map (some H.bm)) rfl
  have hm3 := hp2.mp.step hst3 (by decide)
  have hc3 := hp2.ck.step hst3 (by decide)
  have Hst3 := Lib.hid hst3
  have Hd3 := Lib.hid hd3
  have Hm3 := Lib.hid hm3
  have Hc3 := Lib.hid hc3
  clear hst3 hd3 hm3 hc3
  generalize F1.length = k at *
  have Hp2 := Lib.hid hp2
  have Hpg := Lib.hid hpg
  have Hs2 := Lib.hid hs2
  clear hp2 hpg hs2
  go_wp2_with (at_mapUpdate; go_loud (refine wpList_mapUpdate_is Hm3.out (by omega) n i hn (by omega) rfl _ _ _ rfl rfl rfl rfl ?_; intro w4 hm4 hs4; have e4 := (Hd3.out.step hs4 (by decide)).at 4 (v := .pointer (some ⟨H.bc, 0, none⟩)) rfl; have htk := clktake_any (Hc3.out.step hs4 (by decide)) (i : Int); have Hm4 := Lib.hid hm4; have Hs4 := Lib.hid hs4; have Htk := Lib.hid htk; clear hm4 hs4 htk))
  refine Htk.out.mono ?_
  rintro e w5 ⟨rfl, hc5, hs5⟩
  have Hc5 := Lib.hid hc5
  have Hs5 := Lib.hid hs5
  clear hc5 hs5
  go_wp2_with fail
  go_ret2
  have hp2 := Hp2.out
  have h45 := (Hs4.out.mono (T := fun g => g = tWhere ∨ g = tClk) (fun g h => .inl h)).trans (Hs5.out.mono (fun g h => .inr h))
  have h35 := (Hst3.out.mono (T := PoolTag) (fun g h => .inr (.inl h))).trans (h45.mono (T := PoolTag) (fun g h => by rcases h with h | h; exact .inr (.inr (.inl h)); exact .inr (.inr (.inr (.inl h)))))
  have hall := (Hs1b.out.trans (Hs2.out.mono (T := PoolTag) (fun g h => h.elim))).trans h35
  have hiF : i < F1.length := (List.getElem?_eq_some_iff.1 Hfb.out).1
  obtain ⟨hone, hwh⟩ := whereOf_fill hp2.one hiF Hfb.out rfl ⟨some (b, emptyPage n), n, 0⟩ (by simp [Fr.has]) Hnob.out
  have hfr3 := ((hp2.fr.set (i * 3) (.pointer (some ⟨b, 0, none⟩))).set (i * 3 + 1) (.int .u32 (n : Int))).set (i * 3 + 2) (.int .u64 0)
  have hfs := frCells_set F1 i ⟨some (b, emptyPage n), n, 0⟩ hiF
  rw [show ((((frCells F1).set (i * 3) (Value.pointer (some ⟨b, 0, none⟩))).set (i * 3 + 1) (Value.int .u32 (n : Int))).set (i * 3 + 2) (Value.int .u64 0)) = frCells (F1.set i ⟨some (b, emptyPage n), n, 0⟩) from hfs] at hfr3
  have hmp := Hm4.out.step Hs5.out (by decide)
  rw [hwh] at hmp
  refine ⟨rfl, b, τ2, ?_, hall⟩
  rw [Hss.out, Hs1e.out]
  refine ⟨(Hd3.out.step h45 (by decide)), by rw [List.length_set]; exact hp2.vf, hfr3.step h45 (by decide), ?_, hmp, Hc5.out, hp2.n1, by rw [List.length_set]; exact hp2.k1, ?_, hp2.st, hone, ?_⟩
  · intro j c P hb
    rw [List.getElem?_set] at hb
    by_cases e : i = j
    · subst e
      rw [if_pos rfl, if_pos hiF] at hb
      cases hb
      exact (Hpg.out.step Hst3.out (by simp [tPg, tFr])).step h45 (by simp [tPg, tWhere, tClk])
    · rw [if_neg e] at hb
      exact ((hp2.pg j c P hb).step Hst3.out (by simp [tPg, tFr])).step h45 (by simp [tPg, tWhere, tClk])
  · rw [List.length_set]
    have e : (Ck.Clk.takeS s1 i).n = s1.n := by unfold Ck.Clk.takeS; split <;> rfl
    rw [e]; exact hp2.sn
  · intro j m g hg hh
    rw [List.getElem?_set] at hg
    by_cases e : i = j
    · rw [if_pos e, if_pos hiF] at hg
      cases hg
      simp only [Fr.has, Bool.and_eq_true, beq_iff_eq] at hh
      rw [← hh.2]; exact hn
    · rw [if_neg e] at hg
      exact hp2.low j m g hg hh
end Go.Proofs.YtgjoahddbieliaaGreat

/-
  Pools: Get of a page that is at hand; of one that is not.
-/
namespace Go.Proofs.YtgjoahddbieliaaGreat
open Go.RowKit
set_option linter.unusedVariables false

theorem get_none {w : World} {τ : Tags} {bp bf : Nat} {H : PoolH} {F : List Fr} {s : Ck.Clk.St} (h : PoolAt w τ bp bf H F s) (n : Nat) (hn : H.n ≤ n) (h32 : n < 4294967296) :
    Calls Tryz.prog 12 #[.pointer (some ⟨bp, 0, none⟩), .int .u32 (n : Int)] w fun e w' => e = .returned (.tuple #[.pointer none, .int .u16 121]) ∧ w = w' := by
  have d1 := h.hd.at 1 (v := .int .i64 (H.n : Int)) rfl
  have h512 := h.n1
  have hw := u32_wrap' H.n (by omega)
  clear h
  go_enter Tryz.func12, Tryz.ntmps12
  go_wp2_with fail
  go_ret2
  exact ⟨rfl, rfl⟩
theorem PoolAt.clk_n {s : Ck.Clk.St} (i : Int) : (Ck.Clk.touchS s i).n = s.n ∧ (Ck.Clk.pinS s i).n = s.n ∧ (Ck.Clk.unpinS s i).n = s.n ∧ (Ck.Clk.takeS s i).n = s.n := by
  refine ⟨?_, ?_, ?_, ?_⟩
  · unfold Ck.Clk.touchS; split <;> rfl
  · unfold Ck.Clk.pinS; split <;> rfl
  · unfold Ck.Clk.unpinS; split <;> rfl
  · unfold Ck.Clk.takeS; split <;> rfl
theorem touch_p (s : Ck.Clk.St) (i : Int) : (Ck.Clk.touchS s i).p = s.p := by unfold Ck.Clk.touchS; split <;> rfl
set_option maxRecDepth 100000 in
theorem get_hit {w : World} {τ : Tags} {bp bf : Nat} {H : PoolH} {F : List Fr} {s : Ck.Clk.St} (h : PoolAt w τ bp bf H F s) (n : Nat) (hn : n < H.n) {i : Nat} (hw : whereOf F n = some i) {f : Fr} (hf : F[i]? = some f) (hs : ∀ k, s.p k ≤ 1000000) :
    Calls Tryz.prog 12 #[.pointer (some ⟨bp, 0, none⟩), .int .u32 (n : Int)] w fun e w' => e = .returned (.tuple #[.pointer (f.pg.map (fun x => (⟨x.1, 0, none⟩ : Addr))), .int .u16 0]) ∧ PoolAt w' τ bp bf H F (Ck.Clk.pinS (Ck.Clk.touchS s i) i) ∧ Step w τ w' τ (fun t => t = tClk) := by
  have h512 := h.n1
  have hk := h.k1
  have hil : i < F.length := (List.getElem?_eq_some_iff.1 hf).1
  have d1 := h.hd.at 1 (v := .int .i64 (H.n : Int)) rfl
  have d3 := h.hd.at 3 (v := .map (some H.bm)) rfl
  have d4 := h.hd.at 4 (v := .pointer (some ⟨H.bc, 0, none⟩)) rfl
  have hwr := u32_wrap' H.n (by omega)
  have hlk := h.mp.look n (by omega)
  rw [hw] at hlk
  simp only [Option.getD_some, Option.isSome_some] at hlk
  have h1 := clktouch_any h.ck (i : Int)
  have H_h := Lib.hid h
  have H1 := Lib.hid h1
  have Hf := Lib.hid hf
  clear h h1 hf
  go_enter Tryz.func12, Tryz.ntmps12
  go_wp2_with fail
  refine H1.out.mono ?_
  rintro e w1 ⟨rfl, hc1, hs1⟩
  have hp1 := H_h.out.clk hc1 hs1 (PoolAt.clk_n _).1
  have e4 := hp1.hd.at 4 (v := .pointer (some ⟨H.bc, 0, none⟩)) rfl
  have h2 := clkpin_any hp1.ck (i : Int) (by rw [touch_p]; exact hs)
  have Hp1 := Lib.hid hp1
  have Hs1 := Lib.hid hs1
  have H2 := Lib.hid h2
  clear hp1 hs1 h2
  clear hc1
  go_wp2_with fail
  refine H2.out.mono ?_
  rintro e w2 ⟨rfl, hc2, hs2⟩
  have hp2 := Hp1.out.clk hc2 hs2 (PoolAt.clk_n _).2.1
  have e2 := hp2.hd.at 2 (v := H.vf) rfl
  rw [hp2.vf] at e2
  obtain ⟨c0, c1, c2⟩ := hp2.cells Hf.out
  generalize hl : F.length = k at *
  have Hp2 := Lib.hid hp2
  have Hs2 := Lib.hid hs2
  clear hp2 hs2
  clear hc2
  go_wp2_with fail
  go_ret2
  exact ⟨rfl, Hp2.out, Hs1.out.trans Hs2.out⟩
end Go.Proofs.YtgjoahddbieliaaGreat
