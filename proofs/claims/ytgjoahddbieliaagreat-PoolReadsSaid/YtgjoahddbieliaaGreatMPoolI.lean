/-
  Pools: bring a page that was never written into an empty frame.
-/
import Derived.Test.YtgjoahddbieliaaGreatMPoolD
import Derived.Maps.Own
import Derived.Test.YtgjoahddbieliaaGreatMInts
import Derived.Test.YtgjoahddbieliaaGreatMGrow
namespace Go.Proofs.YtgjoahddbieliaaGreat
open Go.RowKit
set_option linter.unusedVariables false

set_option maxHeartbeats 2000000 in
set_option maxRecDepth 100000 in
theorem bring_new {w : World} {τ : Tags} {bp bf bd : Nat} {H : PoolH} {F : List Fr} {s : Ck.Clk.St} {L : LogM} {D : Dev} (h : PoolAt w τ bp bf H F s) (hl : LogAt w τ H.bl bd L) (hd : DevAt w τ bd D) (n : Nat) (hn : n < H.n) (hfit : 4 * n + 4 ≤ D.f1.length) (hz : lastTo D n 4 = blank) (hyes : Ck.Clk.pickB s = true) {i : Nat} (hi : Ck.Clk.pickI s = i) {f : Fr} (hf : F[i]? = some f) (hfn : f.pg = none) (hno : whereOf F n = none) :
    Calls Tryz.prog 45 #[.pointer (some ⟨bp, 0, none⟩), .int .u32 (n : Int)] w fun e w' => e = .returned (.tuple #[.int .i64 (i : Int), .int .u16 0]) ∧ ∃ b τ', PoolAt w' τ' bp bf H (F.set i ⟨some (b, emptyPage n), n, 0⟩) (Ck.Clk.takeS (Ck.Clk.pickS s) i) ∧ Step w τ w' τ' PoolTag := by
  have h1 := clkpick_any h.ck
  rw [hyes, hi] at h1
  have d4 := h.hd.at 4 (v := .pointer (some ⟨H.bc, 0, none⟩)) rfl
  have h512 := h.n1
  have hk := h.k1
  have hil : i < F.length := (List.getElem?_eq_some_iff.1 hf).1
  have H1 := Lib.hid h1
  have H_h := Lib.hid h
  have Hl := Lib.hid hl
  have Hd := Lib.hid hd
  have Hf := Lib.hid hf
  have Hno := Lib.hid hno
  have Hz := Lib.hid hz
  clear h1 h hl hd hf hno hz
  go_enter Tryz.func45, Tryz.ntmps45
  go_wp2_with fail
  refine H1.out.mono ?_
  rintro e w1 ⟨rfl, hc1, hs1⟩
  have hp1 := H_h.out.clk hc1 hs1 (pickS_n s)
  have h2 := empty_none hp1 i Hf.out hfn
  have h3 := load_zero hp1.hd (Hl.out.step hs1 (by rintro g (rfl | rfl | rfl) <;> decide)) (Hd.out.step hs1 (by rintro g rfl; simp [DevTag, tClk, tData])) n hfit Hz.out (tPg i)
  have Hp1 := Lib.hid hp1
  have Hs1 := Lib.hid hs1
  have H2 := Lib.hid h2
  have H3 := Lib.hid h3
  clear hp1 hs1 h2 h3
  clear hc1
  go_wp2_with fail
  refine H2.out.mono ?_
  rintro e w' ⟨rfl, rfl⟩
  go_wp2_with fail
  refine H3.out.mono ?_
  rintro e w2 ⟨b, τ2, rfl, hlow, hpg, hs2⟩
  have hp2 := Hp1.out.step hs2 (fun _ _ h => h)
  have e2 := hp2.hd.at 2 (v := H.vf) rfl
  rw [hp2.vf] at e2
  obtain ⟨c0, c1, c2⟩ := hp2.cells Hf.out
  have z0 := hp2.fr.fz (i * 3)
  have z1 := hp2.fr.fz (i * 3 + 1)
  have z2 := hp2.fr.fz (i * 3 + 2)
  have hst3 : Step w2 τ2 (((w2.setCell ⟨bf, i * 3, none⟩ (.pointer (some ⟨b, 0, none⟩))).setCell ⟨bf, i * 3 + 1, none⟩ (.int .u32 (n : Int))).setCell ⟨bf, i * 3 + 2, none⟩ (.int .u64 0)) τ2 (fun g => g = tFr) :=
    (((Step.refl w2 τ2 (fun g => g = tFr)).set hp2.fr.tag rfl _).set hp2.fr.tag rfl _).set hp2.fr.tag rfl _
  have hd3 := hp2.hd.step hst3 (by decide)
  have e3 := hd3.at 3 (v := .map (some H.bm)) rfl
  have hm3 := hp2.mp.step hst3 (by decide)
  have hc3 := hp2.ck.step hst3 (by decide)
  have Hst3 := Lib.hid hst3
  have Hd3 := Lib.hid hd3
  have Hm3 := Lib.hid hm3
  have Hc3 := Lib.hid hc3
  clear hst3 hd3 hm3 hc3
  generalize F.length = k at *
  have Hp2 := Lib.hid hp2
  have Hpg := Lib.hid hpg
  have Hs2 := Lib.hid hs2
  clear hp2 hpg hs2
  go_wp2_with (at_mapUpdate; go_loud (refine wpList_mapUpdate_is Hm3.out (by omega) n i hn (by omega) rfl _ _ _ rfl rfl rfl rfl ?_; intro w4 hm4 hs4; have e4 := (Hd3.out.step hs4 (by decide)).at 4 (v := .pointer (some ⟨H.bc, 0, none⟩)) rfl; have htk := clktake_any (Hc3.out.step hs4 (by decide)) (i : Int); have Hm4 := Lib.hid hm4; have Hs4 := Lib.hid hs4; have Htk := Lib.hid htk; clear hm4 hs4 htk))
  refine Htk.out.mono ?_
  rintro e w5 ⟨rfl, hc5, hs5⟩
  have Hc5 := Lib.hid hc5
  have Hs5 := Lib.hid hs5
  clear hc5 hs5
  go_wp2_with fail
  go_ret2
  have hp1 := Hp1.out
  have hp2 := Hp2.out
  have h45 := (Hs4.out.mono (T := fun g => g = tWhere ∨ g = tClk) (fun g h => .inl h)).trans (Hs5.out.mono (fun g h => .inr h))
  have h35 := (Hst3.out.mono (T := PoolTag) (fun g h => .inr (.inl h))).trans (h45.mono (T := PoolTag) (fun g h => by rcases h with h | h; exact .inr (.inr (.inl h)); exact .inr (.inr (.inr (.inl h)))))
  have hall := ((Hs1.out.mono (T := PoolTag) (fun g h => .inr (.inr (.inr (.inl h))))).trans (Hs2.out.mono (T := PoolTag) (fun g h => h.elim))).trans h35
  have hiF : i < F.length := (List.getElem?_eq_some_iff.1 Hf.out).1
  obtain ⟨hone, hwh⟩ := whereOf_fill hp2.one hiF Hf.out hfn ⟨some (b, emptyPage n), n, 0⟩ (by simp [Fr.has]) Hno.out
  have hfr3 := ((hp2.fr.set (i * 3) (.pointer (some ⟨b, 0, none⟩))).set (i * 3 + 1) (.int .u32 (n : Int))).set (i * 3 + 2) (.int .u64 0)
  have hfs := frCells_set F i ⟨some (b, emptyPage n), n, 0⟩ hiF
  rw [show ((((frCells F).set (i * 3) (Value.pointer (some ⟨b, 0, none⟩))).set (i * 3 + 1) (Value.int .u32 (n : Int))).set (i * 3 + 2) (Value.int .u64 0)) = frCells (F.set i ⟨some (b, emptyPage n), n, 0⟩) from hfs] at hfr3
  have hmp := Hm4.out.step Hs5.out (by decide)
  rw [hwh] at hmp
  refine ⟨rfl, b, τ2, ⟨(Hd3.out.step h45 (by decide)), by rw [List.length_set]; exact hp2.vf, hfr3.step h45 (by decide), ?_, hmp, Hc5.out, hp2.n1, by rw [List.length_set]; exact hp2.k1, ?_, hp2.st, hone, ?_⟩, hall⟩
  · intro j c P hb
    rw [List.getElem?_set] at hb
    by_cases e : i = j
    · subst e
      rw [if_pos rfl, if_pos hiF] at hb
      cases hb
      exact (Hpg.out.step Hst3.out (by simp [tPg, tFr])).step h45 (by simp [tPg, tWhere, tClk])
    · rw [if_neg e] at hb
      exact ((hp2.pg j c P hb).step Hst3.out (by simp [tPg, tFr])).step h45 (by simp [tPg, tWhere, tClk])
  · rw [List.length_set]
    have e : (Ck.Clk.takeS (Ck.Clk.pickS s) i).n = (Ck.Clk.pickS s).n := by unfold Ck.Clk.takeS; split <;> rfl
    rw [e]; exact hp2.sn
  · intro j m g hg hh
    rw [List.getElem?_set] at hg
    by_cases e : i = j
    · rw [if_pos e, if_pos hiF] at hg
      cases hg
      simp only [Fr.has, Bool.and_eq_true, beq_iff_eq] at hh
      rw [← hh.2]; exact hn
    · rw [if_neg e] at hg
      exact hp2.low j m g hg hh
end Go.Proofs.YtgjoahddbieliaaGreat

/-
  Pools: bring a page that was never written into a frame whose page is clean.
-/
namespace Go.Proofs.YtgjoahddbieliaaGreat
open Go.RowKit
set_option linter.unusedVariables false

theorem pooltag_log {g : Tag} (h : LogTag g) : ¬ PoolTag g := by
  rcases h with rfl | rfl | rfl <;> simp [PoolTag, tPool, tFr, tWhere, tClk, tPg, tLog, tStream, tStarts]
theorem pooltag_dev {g : Tag} (h : PoolTag g) : ¬ DevTag g ∧ g ≠ tData := by
  rcases h with rfl | rfl | rfl | rfl | ⟨i, rfl⟩ <;> simp [DevTag, tPool, tFr, tWhere, tClk, tPg, tData]
set_option maxHeartbeats 2000000 in
set_option maxRecDepth 100000 in
theorem bring_over {w : World} {τ : Tags} {bp bf bd : Nat} {H : PoolH} {F : List Fr} {s : Ck.Clk.St} {L : LogM} {D : Dev} (h : PoolAt w τ bp bf H F s) (hl : LogAt w τ H.bl bd L) (hd : DevAt w τ bd D) (n : Nat) (hn : n < H.n) (hfit : 4 * n + 4 ≤ D.f1.length) (hz : lastTo D n 4 = blank) (hyes : Ck.Clk.pickB s = true) {i : Nat} (hi : Ck.Clk.pickI s = i) {f : Fr} {x : Nat × List Int} (hf : F[i]? = some f) (hfx : f.pg = some x) (hf0 : f.first = 0) (hf32 : f.n < 4294967296) (hno : whereOf F n = none) :
    Calls Tryz.prog 45 #[.pointer (some ⟨bp, 0, none⟩), .int .u32 (n : Int)] w fun e w' => e = .returned (.tuple #[.int .i64 (i : Int), .int .u16 0]) ∧ ∃ b τ', PoolAt w' τ' bp bf H (F.set i ⟨some (b, emptyPage n), n, 0⟩) (Ck.Clk.takeS (Ck.Clk.leaveS (Ck.Clk.pickS s) i) i) ∧ Step w τ w' τ' PoolTag := by
  have h1 := clkpick_any h.ck
  rw [hyes, hi] at h1
  have d4 := h.hd.at 4 (v := .pointer (some ⟨H.bc, 0, none⟩)) rfl
  have h512 := h.n1
  have hk := h.k1
  have hil : i < F.length := (List.getElem?_eq_some_iff.1 hf).1
  have H1 := Lib.hid h1
  have H_h := Lib.hid h
  have Hl := Lib.hid hl
  have Hd := Lib.hid hd
  have Hf := Lib.hid hf
  have Hno := Lib.hid hno
  have Hz := Lib.hid hz
  clear h1 h hl hd hf hno hz
  go_enter Tryz.func45, Tryz.ntmps45
  go_wp2_with fail
  refine H1.out.mono ?_
  rintro e w1 ⟨rfl, hc1, hs1⟩
  have hp1 := H_h.out.clk hc1 hs1 (pickS_n s)
  have h2 := empty_clean hp1 i Hf.out hfx hf0 hf32
  have Hp1 := Lib.hid hp1
  have Hs1 := Lib.hid hs1
  have H2 := Lib.hid h2
  clear hp1 hs1 h2
  clear hc1
  go_wp2_with fail
  refine H2.out.mono ?_
  rintro e w1b ⟨rfl, hpb, hsb⟩
  have hs1b := (Hs1.out.mono (T := PoolTag) (fun g h => .inr (.inr (.inr (.inl h))))).trans hsb
  have h3 := load_zero hpb.hd (Hl.out.step hs1b (fun g h => pooltag_log h)) (Hd.out.step hs1b (fun g h => pooltag_dev h)) n hfit Hz.out (tPg i)
  have hfb : (F.set i Fr.no)[i]? = some Fr.no := by rw [List.getElem?_set, if_pos rfl, if_pos hil]
  have hhas : f.has f.n = true := by simp [Fr.has, hfx]
  have hnob : whereOf (F.set i Fr.no) n = none := by
    rw [← whereOf_clear H_h.out.one Hf.out hhas]
    unfold updO; split
    · rfl
    · exact Hno.out
  have hss : ∀ y, F.set i y = (F.set i Fr.no).set i y := fun y => by rw [List.set_set]
  have hlb : (F.set i Fr.no).length = F.length := List.length_set
  generalize hF1 : F.set i Fr.no = F1 at *
  generalize hs1e : Ck.Clk.leaveS (Ck.Clk.pickS s) (i : Int) = s1 at *
  have Hss := Lib.hid hss
  have HF1 := Lib.hid hF1
  have Hs1e := Lib.hid hs1e
  clear hss hF1 hs1e
  have hk := hpb.k1
  have hil : i < F1.length := by omega
  have Hpb := Lib.hid hpb
  have Hs1b := Lib.hid hs1b
  have H3 := Lib.hid h3
  have Hfb := Lib.hid hfb
  have Hnob := Lib.hid hnob
  clear hpb hs1b h3 hfb hnob
  clear hlb H2
  go_wp2_with fail
  refine H3.out.mono ?_
  rintro e w2 ⟨b, τ2, rfl, hlow, hpg, hs2⟩
  have hp2 := Hpb.out.step hs2 (fun _ _ h => h)
  have e2 := hp2.hd.at 2 (v := H.vf) rfl
  rw [hp2.vf] at e2
  obtain ⟨c0, c1, c2⟩ := hp2.cells Hfb.out
  have z0 := hp2.fr.fz (i * 3)
  have z1 := hp2.fr.fz (i * 3 + 1)
  have z2 := hp2.fr.fz (i * 3 + 2)
  have hst3 : Step w2 τ2 (((w2.setCell ⟨bf, i * 3, none⟩ (.pointer (some ⟨b, 0, none⟩))).setCell ⟨bf, i * 3 + 1, none⟩ (.int .u32 (n : Int))).setCell ⟨bf, i * 3 + 2, none⟩ (.int .u64 0)) τ2 (fun g => g = tFr) :=
    (((Step.refl w2 τ2 (fun g => g = tFr)).set hp2.fr.tag rfl _).set hp2.fr.tag rfl _).set hp2.fr.tag rfl _
  have hd3 := hp2.hd.step hst3 (by decide)
  have e3 := hd3.at 3 (v := .map (some H.bm)) rfl
  have hm3 := hp2.mp.step hst3 (by decide)
  have hc3 := hp2.ck.step hst3 (by decide)
  have Hst3 := Lib.hid hst3
  have Hd3 := Lib.hid hd3
  have Hm3 := Lib.hid hm3
  have Hc3 := Lib.hid hc3
  clear hst3 hd3 hm3 hc3
  generalize F1.length = k at *
  have Hp2 := Lib.hid hp2
  have Hpg := Lib.hid hpg
  have Hs2 := Lib.hid hs2
  clear hp2 hpg hs2
  go_wp2_with (at_mapUpdate; go_loud (refine wpList_mapUpdate_is Hm3.out (by omega) n i hn (by omega) rfl _ _ _ rfl rfl rfl rfl ?_; intro w4 hm4 hs4; have e4 := (Hd3.out.step hs4 (by decide)).at 4 (v := .pointer (some ⟨H.bc, 0, none⟩)) rfl; have htk := clktake_any (Hc3.out.step hs4 (by decide)) (i : Int); have Hm4 := Lib.hid hm4; have Hs4 := Lib.hid hs4; have Htk := Lib.hid htk; clear hm4 hs4 htk))
  refine Htk.out.mono ?_
  rintro e w5 ⟨rfl, hc5, hs5⟩
  have Hc5 := Lib.hid hc5
  have Hs5 := Lib.hid hs5
  clear hc5 hs5
  go_wp2_with fail
  go_ret2
  have hp2 := Hp2.out
  have h45 := (Hs4.out.mono (T := fun g => g = tWhere ∨ g = tClk) (fun g h => .inl h)).trans (Hs5.out.mono (fun g h => .inr h))
  have h35 := (Hst3.out.mono (T := PoolTag) (fun g h => .inr (.inl h))).trans (h45.mono (T := PoolTag) (fun g h => by rcases h with h | h; exact .inr (.inr (.inl h)); exact .inr (.inr (.inr (.inl h)))))
  have hall := (Hs1b.out.trans (Hs2.out.mono (T := PoolTag) (fun g h => h.elim))).trans h35
  have hiF : i < F1.length := (List.getElem?_eq_some_iff.1 Hfb.out).1
  obtain ⟨hone, hwh⟩ := whereOf_fill hp2.one hiF Hfb.out rfl ⟨some (b, emptyPage n), n, 0⟩ (by simp [Fr.has]) Hnob.out
  have hfr3 := ((hp2.fr.set (i * 3) (.pointer (some ⟨b, 0, none⟩))).set (i * 3 + 1) (.int .u32 (n : Int))).set (i * 3 + 2) (.int .u64 0)
  have hfs := frCells_set F1 i ⟨some (b, emptyPage n), n, 0⟩ hiF
  rw [show ((((frCells F1).set (i * 3) (Value.pointer (some ⟨b, 0, none⟩))).set (i * 3 + 1) (Value.int .u32 (n : Int))).set (i * 3 + 2) (Value.int .u64 0)) = frCells (F1.set i ⟨some (b, emptyPage n), n, 0⟩) from hfs] at hfr3
  have hmp := Hm4.out.step Hs5.out (by decide)
  rw [hwh] at hmp
  refine ⟨rfl, b, τ2, ?_, hall⟩
  rw [Hss.out, Hs1e.out]
  refine ⟨(Hd3.out.step h45 (by decide)), by rw [List.length_set]; exact hp2.vf, hfr3.step h45 (by decide), ?_, hmp, Hc5.out, hp2.n1, by rw [List.length_set]; exact hp2.k1, ?_, hp2.st, hone, ?_⟩
  · intro j c P hb
    rw [List.getElem?_set] at hb
    by_cases e : i = j
    · subst e
      rw [if_pos rfl, if_pos hiF] at hb
      cases hb
      exact (Hpg.out.step Hst3.out (by simp [tPg, tFr])).step h45 (by simp [tPg, tWhere, tClk])
    · rw [if_neg e] at hb
      exact ((hp2.pg j c P hb).step Hst3.out (by simp [tPg, tFr])).step h45 (by simp [tPg, tWhere, tClk])
  · rw [List.length_set]
    have e : (Ck.Clk.takeS s1 i).n = s1.n := by unfold Ck.Clk.takeS; split <;> rfl
    rw [e]; exact hp2.sn
  · intro j m g hg hh
    rw [List.getElem?_set] at hg
    by_cases e : i = j
    · rw [if_pos e, if_pos hiF] at hg
      cases hg
      simp only [Fr.has, Bool.and_eq_true, beq_iff_eq] at hh
      rw [← hh.2]; exact hn
    · rw [if_neg e] at hg
      exact hp2.low j m g hg hh
end Go.Proofs.YtgjoahddbieliaaGreat

/-
  Pools: Get of a page that is at hand; of one that is not.
-/
namespace Go.Proofs.YtgjoahddbieliaaGreat
open Go.RowKit
set_option linter.unusedVariables false

theorem get_none {w : World} {τ : Tags} {bp bf : Nat} {H : PoolH} {F : List Fr} {s : Ck.Clk.St} (h : PoolAt w τ bp bf H F s) (n : Nat) (hn : H.n ≤ n) (h32 : n < 4294967296) :
    Calls Tryz.prog 12 #[.pointer (some ⟨bp, 0, none⟩), .int .u32 (n : Int)] w fun e w' => e = .returned (.tuple #[.pointer none, .int .u16 121]) ∧ w = w' := by
  have d1 := h.hd.at 1 (v := .int .i64 (H.n : Int)) rfl
  have h512 := h.n1
  have hw := u32_wrap' H.n (by omega)
  clear h
  go_enter Tryz.func12, Tryz.ntmps12
  go_wp2_with fail
  go_ret2
  exact ⟨rfl, rfl⟩
theorem PoolAt.clk_n {s : Ck.Clk.St} (i : Int) : (Ck.Clk.touchS s i).n = s.n ∧ (Ck.Clk.pinS s i).n = s.n ∧ (Ck.Clk.unpinS s i).n = s.n ∧ (Ck.Clk.takeS s i).n = s.n := by
  refine ⟨?_, ?_, ?_, ?_⟩
  · unfold Ck.Clk.touchS; split <;> rfl
  · unfold Ck.Clk.pinS; split <;> rfl
  · unfold Ck.Clk.unpinS; split <;> rfl
  · unfold Ck.Clk.takeS; split <;> rfl
theorem touch_p (s : Ck.Clk.St) (i : Int) : (Ck.Clk.touchS s i).p = s.p := by unfold Ck.Clk.touchS; split <;> rfl
set_option maxRecDepth 100000 in
theorem get_hit {w : World} {τ : Tags} {bp bf : Nat} {H : PoolH} {F : List Fr} {s : Ck.Clk.St} (h : PoolAt w τ bp bf H F s) (n : Nat) (hn : n < H.n) {i : Nat} (hw : whereOf F n = some i) {f : Fr} (hf : F[i]? = some f) (hs : ∀ k, s.p k ≤ 1000000) :
    Calls Tryz.prog 12 #[.pointer (some ⟨bp, 0, none⟩), .int .u32 (n : Int)] w fun e w' => e = .returned (.tuple #[.pointer (f.pg.map (fun x => (⟨x.1, 0, none⟩ : Addr))), .int .u16 0]) ∧ PoolAt w' τ bp bf H F (Ck.Clk.pinS (Ck.Clk.touchS s i) i) ∧ Step w τ w' τ (fun t => t = tClk) := by
  have h512 := h.n1
  have hk := h.k1
  have hil : i < F.length := (List.getElem?_eq_some_iff.1 hf).1
  have d1 := h.hd.at 1 (v := .int .i64 (H.n : Int)) rfl
  have d3 := h.hd.at 3 (v := .map (some H.bm)) rfl
  have d4 := h.hd.at 4 (v := .pointer (some ⟨H.bc, 0, none⟩)) rfl
  have hwr := u32_wrap' H.n (by omega)
  have hlk := h.mp.look n (by omega)
  rw [hw] at hlk
  simp only [Option.getD_some, Option.isSome_some] at hlk
  have h1 := clktouch_any h.ck (i : Int)
  have H_h := Lib.hid h
  have H1 := Lib.hid h1
  have Hf := Lib.hid hf
  clear h h1 hf
  go_enter Tryz.func12, Tryz.ntmps12
  go_wp2_with fail
  refine H1.out.mono ?_
  rintro e w1 ⟨rfl, hc1, hs1⟩
  have hp1 := H_h.out.clk hc1 hs1 (PoolAt.clk_n _).1
  have e4 := hp1.hd.at 4 (v := .pointer (some ⟨H.bc, 0, none⟩)) rfl
  have h2 := clkpin_any hp1.ck (i : Int) (by rw [touch_p]; exact hs)
  have Hp1 := Lib.hid hp1
  have Hs1 := Lib.hid hs1
  have H2 := Lib.hid h2
  clear hp1 hs1 h2
  clear hc1
  go_wp2_with fail
  refine H2.out.mono ?_
  rintro e w2 ⟨rfl, hc2, hs2⟩
  have hp2 := Hp1.out.clk hc2 hs2 (PoolAt.clk_n _).2.1
  have e2 := hp2.hd.at 2 (v := H.vf) rfl
  rw [hp2.vf] at e2
  obtain ⟨c0, c1, c2⟩ := hp2.cells Hf.out
  generalize hl : F.length = k at *
  have Hp2 := Lib.hid hp2
  have Hs2 := Lib.hid hs2
  clear hp2 hs2
  clear hc2
  go_wp2_with fail
  go_ret2
  exact ⟨rfl, Hp2.out, Hs1.out.trans Hs2.out⟩
end Go.Proofs.YtgjoahddbieliaaGreat

/-
  Pools: Get of a page that is not at hand.
-/
namespace Go.Proofs.YtgjoahddbieliaaGreat
open Go.RowKit
set_option linter.unusedVariables false

set_option maxRecDepth 100000 in
theorem get_full {w : World} {τ : Tags} {bp bf : Nat} {H : PoolH} {F : List Fr} {s : Ck.Clk.St} (h : PoolAt w τ bp bf H F s) (n : Nat) (hn : n < H.n) (hw : whereOf F n = none) (hno : Ck.Clk.pickB s = false) :
    Calls Tryz.prog 12 #[.pointer (some ⟨bp, 0, none⟩), .int .u32 (n : Int)] w fun e w' => e = .returned (.tuple #[.pointer none, .int .u16 120]) ∧ PoolAt w' τ bp bf H F (Ck.Clk.pickS s) ∧ Step w τ w' τ PoolTag := by
  have h512 := h.n1
  have d1 := h.hd.at 1 (v := .int .i64 (H.n : Int)) rfl
  have d3 := h.hd.at 3 (v := .map (some H.bm)) rfl
  have hwr := u32_wrap' H.n (by omega)
  have hlk := h.mp.look n (by omega)
  rw [hw] at hlk
  simp only [Option.getD_none, Option.isSome_none] at hlk
  have h1 := bring_full h n hno
  have H_h := Lib.hid h
  have H1 := Lib.hid h1
  clear h h1
  go_enter Tryz.func12, Tryz.ntmps12
  go_wp2_with fail
  refine H1.out.mono ?_
  rintro e w1 ⟨rfl, hp1, hs1⟩
  have Hp1 := Lib.hid hp1
  have Hs1 := Lib.hid hs1
  clear hp1 hs1
  go_wp2_with fail
  go_ret2
  exact ⟨rfl, Hp1.out, Hs1.out⟩
set_option maxRecDepth 100000 in
/-- by what bring does -/
theorem get_miss {w : World} {τ : Tags} {bp bf : Nat} {H : PoolH} {F : List Fr} {s s1 : Ck.Clk.St} (h : PoolAt w τ bp bf H F s) (n : Nat) (hn : n < H.n) (hw : whereOf F n = none) {i : Nat} (hi : i < F.length)
    (hb : Calls Tryz.prog 45 #[.pointer (some ⟨bp, 0, none⟩), .int .u32 (n : Int)] w fun e w' => e = .returned (.tuple #[.int .i64 (i : Int), .int .u16 0]) ∧ ∃ b τ', PoolAt w' τ' bp bf H (F.set i ⟨some (b, emptyPage n), n, 0⟩) s1 ∧ Step w τ w' τ' PoolTag) (hs : ∀ k, s1.p k ≤ 1000000) :
    Calls Tryz.prog 12 #[.pointer (some ⟨bp, 0, none⟩), .int .u32 (n : Int)] w fun e w' => ∃ b τ', e = .returned (.tuple #[.pointer (some ⟨b, 0, none⟩), .int .u16 0]) ∧ PoolAt w' τ' bp bf H (F.set i ⟨some (b, emptyPage n), n, 0⟩) (Ck.Clk.pinS (Ck.Clk.touchS s1 i) i) ∧ Step w τ w' τ' PoolTag := by
  have h512 := h.n1
  have hk := h.k1
  have d1 := h.hd.at 1 (v := .int .i64 (H.n : Int)) rfl
  have d3 := h.hd.at 3 (v := .map (some H.bm)) rfl
  have hwr := u32_wrap' H.n (by omega)
  have hlk := h.mp.look n (by omega)
  rw [hw] at hlk
  simp only [Option.getD_none, Option.isSome_none] at hlk
  have H_h := Lib.hid h
  have Hb := Lib.hid hb
  clear h hb
  go_enter Tryz.func12, Tryz.ntmps12
  go_wp2_with fail
  refine Hb.out.mono ?_
  rintro e w0 ⟨rfl, b, τ', hp0, hs0⟩
  have hf : (F.set i ⟨some (b, emptyPage n), n, 0⟩)[i]? = some ⟨some (b, emptyPage n), n, 0⟩ := by rw [List.getElem?_set, if_pos rfl, if_pos hi]
  have d4 := hp0.hd.at 4 (v := .pointer (some ⟨H.bc, 0, none⟩)) rfl
  have h1 := clktouch_any hp0.ck (i : Int)
  have hl : (F.set i ⟨some (b, emptyPage n), n, 0⟩).length = F.length := List.length_set
  have Hp0 := Lib.hid hp0
  have Hs0 := Lib.hid hs0
  have H1 := Lib.hid h1
  have Hf := Lib.hid hf
  have Hl := Lib.hid hl
  clear hp0 hs0 h1 hf hl
  go_wp2_with fail
  refine H1.out.mono ?_
  rintro e w1 ⟨rfl, hc1, hs1⟩
  have hp1 := Hp0.out.clk hc1 hs1 (PoolAt.clk_n _).1
  have e4 := hp1.hd.at 4 (v := .pointer (some ⟨H.bc, 0, none⟩)) rfl
  have h2 := clkpin_any hp1.ck (i : Int) (by rw [touch_p]; exact hs)
  have Hp1 := Lib.hid hp1
  have Hs1 := Lib.hid hs1
  have H2 := Lib.hid h2
  clear hp1 hs1 h2
  clear hc1
  go_wp2_with fail
  refine H2.out.mono ?_
  rintro e w2 ⟨rfl, hc2, hs2⟩
  have hp2 := Hp1.out.clk hc2 hs2 (PoolAt.clk_n _).2.1
  have e2 := hp2.hd.at 2 (v := H.vf) rfl
  rw [hp2.vf, Hl.out] at e2
  obtain ⟨c0, c1, c2⟩ := hp2.cells Hf.out
  simp only [Option.map_some] at c0
  generalize F.length = k at *
  have Hp2 := Lib.hid hp2
  have Hs2 := Lib.hid hs2
  clear hp2 hs2
  clear hc2
  go_wp2_with fail
  go_ret2
  exact ⟨b, τ', rfl, Hp2.out, Hs0.out.trans ((Hs1.out.trans Hs2.out).mono (fun g h => .inr (.inr (.inr (.inl h)))))⟩
end Go.Proofs.YtgjoahddbieliaaGreat

/-
  Pools: Put of a page that was not changed; Pages, Log.
-/
namespace Go.Proofs.YtgjoahddbieliaaGreat
open Go.RowKit
set_option linter.unusedVariables false

theorem put_none {w : World} {τ : Tags} {bp bf : Nat} {H : PoolH} {F : List Fr} {s : Ck.Clk.St} (h : PoolAt w τ bp bf H F s) (n lsn : Nat) (hn : n < 4294967296) (hw : whereOf F n = none) :
    Calls Tryz.prog 13 #[.pointer (some ⟨bp, 0, none⟩), .int .u32 (n : Int), .int .u64 (lsn : Int)] w fun e w' => e = .returned (.bool false) ∧ w = w' := by
  have d3 := h.hd.at 3 (v := .map (some H.bm)) rfl
  have hlk := h.mp.look n hn
  rw [hw] at hlk
  simp only [Option.getD_none, Option.isSome_none] at hlk
  have H_h := Lib.hid h
  clear h
  go_enter Tryz.func13, Tryz.ntmps13
  go_wp2_with fail
  go_ret
  exact ⟨rfl, rfl⟩
set_option maxRecDepth 100000 in
theorem put_zero {w : World} {τ : Tags} {bp bf : Nat} {H : PoolH} {F : List Fr} {s : Ck.Clk.St} (h : PoolAt w τ bp bf H F s) (n : Nat) (hn : n < 4294967296) {i : Nat} (hw : whereOf F n = some i) (hi : i < F.length) (hs : ∀ k, s.p k ≤ 1000000) :
    Calls Tryz.prog 13 #[.pointer (some ⟨bp, 0, none⟩), .int .u32 (n : Int), .int .u64 0] w fun e w' => e = .returned (.bool (decide (Ck.Clk.pinsV s i ≠ 0) && Ck.Clk.unpinB s i)) ∧ PoolAt w' τ bp bf H F (if Ck.Clk.pinsV s i = 0 then s else Ck.Clk.unpinS s i) ∧ Step w τ w' τ (fun t => t = tClk) := by
  have hk := h.k1
  have d2 := h.hd.at 2 (v := H.vf) rfl
  rw [h.vf] at d2
  have d3 := h.hd.at 3 (v := .map (some H.bm)) rfl
  have d4 := h.hd.at 4 (v := .pointer (some ⟨H.bc, 0, none⟩)) rfl
  have hlk := h.mp.look n hn
  rw [hw] at hlk
  simp only [Option.getD_some, Option.isSome_some] at hlk
  have h1 := clkpins_any h.ck (i : Int)
  have h2 := clkunpin_any h.ck (i : Int) hs
  generalize hq : Ck.Clk.pinsV s (i : Int) = q at *
  generalize F.length = k at *
  have H_h := Lib.hid h
  have H1 := Lib.hid h1
  have H2 := Lib.hid h2
  clear h h1 h2
  by_cases h0 : q = 0
  · subst h0
    go_enter Tryz.func13, Tryz.ntmps13
    go_wp2_with fail
    refine H1.out.mono ?_
    rintro e w' ⟨rfl, rfl⟩
    go_wp2_with fail
    go_ret
    exact ⟨by simp, H_h.out, Step.refl _ _ _⟩
  · have hq0 : ¬ (q : Int) = 0 := by omega
    go_enter Tryz.func13, Tryz.ntmps13
    go_wp2_with fail
    refine H1.out.mono ?_
    rintro e w' ⟨rfl, rfl⟩
    go_wp2_with fail
    refine H2.out.mono ?_
    rintro e w2 ⟨rfl, hc2, hs2⟩
    have hp2 := H_h.out.clk hc2 hs2 (PoolAt.clk_n _).2.2.1
    have Hp2 := Lib.hid hp2
    have Hs2 := Lib.hid hs2
    clear hp2 hs2
    clear hc2
    go_wp2_with fail
    go_ret
    exact ⟨by simp [], Hp2.out, Hs2.out⟩
theorem pages_any {w : World} {τ : Tags} {bp bf : Nat} {H : PoolH} {F : List Fr} {s : Ck.Clk.St} (h : PoolAt w τ bp bf H F s) :
    Calls Tryz.prog 98 #[.pointer (some ⟨bp, 0, none⟩)] w fun e w' => e = .returned (.int .i64 (H.n : Int)) ∧ w = w' := by
  have d1 := h.hd.at 1 (v := .int .i64 (H.n : Int)) rfl
  clear h
  go_enter Tryz.func98, Tryz.ntmps98
  go_wp2_with fail
  go_ret
  exact ⟨rfl, rfl⟩
theorem poollog_any {w : World} {τ : Tags} {bp bf : Nat} {H : PoolH} {F : List Fr} {s : Ck.Clk.St} (h : PoolAt w τ bp bf H F s) :
    Calls Tryz.prog 99 #[.pointer (some ⟨bp, 0, none⟩)] w fun e w' => e = .returned (.pointer (some ⟨H.bl, 0, none⟩)) ∧ w = w' := by
  have d1 := h.hd.at 0 (v := .pointer (some ⟨H.bl, 0, none⟩)) rfl
  clear h
  go_enter Tryz.func99, Tryz.ntmps99
  go_wp2_with fail
  go_ret
  exact ⟨rfl, rfl⟩
end Go.Proofs.YtgjoahddbieliaaGreat

/-
  Pools: At.
-/
namespace Go.Proofs.YtgjoahddbieliaaGreat
open Go.RowKit
set_option linter.unusedVariables false

def i64z (l : List Int) : List Value := l.map (Value.int .i64)
def Fr.at (f : Fr) : Int := if f.pg.isSome then (f.n : Int) else -1
def atTo (F : List Fr) (i : Nat) : List Int := (F.take i).map Fr.at ++ List.replicate (F.length - i) 0
theorem atTo_length (F : List Fr) (i : Nat) (hi : i ≤ F.length) : (atTo F i).length = F.length := by
  simp [atTo, Nat.min_eq_left hi]; omega
theorem i64z_length (l : List Int) : (i64z l).length = l.length := by simp [i64z]
theorem atTo_set {F : List Fr} {i : Nat} {f : Fr} (hf : F[i]? = some f) : (i64z (atTo F i)).set i (.int .i64 f.at) = i64z (atTo F (i + 1)) := by
  obtain ⟨hi, rfl⟩ := List.getElem?_eq_some_iff.1 hf
  have e : (i64z (atTo F i)).set i (.int .i64 (F[i]).at) = i64z ((atTo F i).set i (F[i]).at) := by simp [i64z, List.map_set]
  rw [e]
  congr 1
  unfold atTo
  rw [List.take_add_one, hf]
  have hl : ((F.take i).map Fr.at).length = i := by simp; omega
  rw [List.set_append_right _ _ (by rw [hl]; exact Nat.le_refl _), hl, Nat.sub_self]
  rw [show F.length - i = (F.length - (i + 1)) + 1 by omega, List.replicate_succ]
  simp only [List.map_append, List.set_cons_zero, Option.toList_some, List.map_cons, List.map_nil, List.append_assoc, List.cons_append, List.nil_append]
set_option maxRecDepth 100000 in
theorem run_ints (k : Nat) (hk : k ≤ 64) (W : World) : (Instr.makeSlice 86 (.int .i64 (k : Int)) (.int .i64 (k : Int))).run Tryz.prog W =
    .ok (.slice (some ⟨W.heap.size, 0, none⟩) k k) (W.alloc (.cells (i64z (List.replicate k 0)).toArray 3)) := by
  obtain ⟨i, hi, hz0, hz1, hz2⟩ := info_parts Tryz.infoInt
  have := run_make (P := Tryz.prog) W 86 3 i (.int .i64 0) Tryz.underlying86 hi hz0 .i64 .i64 k k (by omega) (Int.le_refl _) (by rw [hz2]; omega) (by omega)
  simp only [Int.toNat_natCast, hz1] at this
  rw [this]
  congr 3
  apply Array.ext_getElem?
  intro j
  simp only [Nat.mul_one]
  by_cases hj : j < k
  · have h1 := Ck.made_get #[Value.int .i64 0] k j hj
    have e : (Value.int .i64 0).cells = #[Value.int .i64 0] := rfl
    rw [e, h1]
    simp [i64z, hj, Nat.mod_one]
  · have l : (madeCells (Value.int .i64 0).cells k)[j]? = none := by
      unfold madeCells
      rw [Array.getElem?_map, Array.getElem?_range, if_neg hj]; rfl
    rw [l]
    simp [i64z, hj]
set_option maxRecDepth 100000 in
theorem at_any' {w : World} {τ : Tags} {bp bf : Nat} {H : PoolH} {F : List Fr} {s : Ck.Clk.St} (h : PoolAt w τ bp bf H F s) :
    Calls Tryz.prog 44 #[.pointer (some ⟨bp, 0, none⟩)] w fun e w' => ∃ b τ', e = .returned (.slice (some ⟨b, 0, none⟩) F.length F.length) ∧ w.heap.size ≤ b ∧ Own w' τ' b tOut 3 (i64z (F.map Fr.at)) ∧ Step w τ w' τ' nil := by
  have d2 := h.hd.at 2 (v := H.vf) rfl
  rw [h.vf] at d2
  have hk := h.k1
  have hmk := run_ints F.length hk.2
  have ho := Own.new w τ tOut 3 (i64z (List.replicate F.length 0))
  have hs := (Step.refl w τ nil).alloc (.cells (i64z (List.replicate F.length 0)).toArray 3) tOut
  have hd1 := (h.hd.step hs (fun h => h)).at 2 (v := H.vf) rfl
  rw [h.vf] at hd1
  generalize hl : F.length = k at *
  have H_h := Lib.hid h
  have Ho := Lib.hid ho
  have Hs := Lib.hid hs
  have Hl := Lib.hid hl
  clear h ho hs hl
  go_enter Tryz.func44, Tryz.ntmps44
  go_wp2_with fail
  go_loopw [17] (fun v wr => ∃ (i : Nat) (τr : Tags), i ≤ k ∧ v = .int .i64 (i : Int) ∧ Own wr τr w.heap.size tOut 3 (i64z (atTo F i)) ∧ Step w τ wr τr nil) (fun v _ => k - (intOf v).toNat)
  case atStart => exact ⟨0, _, Nat.zero_le _, rfl, by have e : atTo F 0 = List.replicate k 0 := by { simp [atTo, Hl.out] }
                                                      rw [e]; exact Ho.out, Hs.out⟩
  case round =>
    obtain ⟨i, τr, hi, rfl, hob, hst⟩ := hrel
    by_cases hlt : i < k
    · obtain ⟨f, hf⟩ : ∃ f, F[i]? = some f := ⟨_, List.getElem?_eq_getElem (by rw [Hl.out]; exact hlt)⟩
      have hp := H_h.out.step hst (fun _ _ h => h)
      obtain ⟨c0, c1, c2⟩ := hp.cells hf
      have hset := atTo_set hf
      have lb := hp.fr.lt
      have lo := hob.lt
      have z := hob.fz i
      obtain ⟨u, ci⟩ : ∃ u, wr.cell? ⟨w.heap.size, i, none⟩ = some u := by
        rw [hob.cell i]
        exact ⟨_, List.getElem?_eq_getElem (by rw [i64z_length, atTo_length F i (by rw [Hl.out]; exact hi), Hl.out]; exact hlt)⟩
      have hob1 := (hob.set i (.int .i64 (-1)))
      have hst1 := hst.setNew (o := i) (Nat.le_refl _) (.int .i64 (-1))
      cases hpg : f.pg with
      | none =>
        have hv : f.at = -1 := by simp [Fr.at, hpg]
        rw [hv] at hset
        rw [hpg] at c0
        simp only [Option.map_none] at c0
        rw [hset] at hob1
        have Hob := Lib.hid hob
        have Hst := Lib.hid hst
        have Hob1 := Lib.hid hob1
        have Hst1 := Lib.hid hst1
        have Hset := Lib.hid hset
        have Hp := Lib.hid hp
        have Hf := Lib.hid hf
        clear hob hst hob1 hst1 hset hp hf
        go_wp2_with fail
        go_round
        case rel => exact ⟨i + 1, τr, by omega, by simp, Hob1.out.alloc _, Hst1.out.alloc' _⟩
        case measure => simp [intOf]; omega
      | some x =>
        have hv : f.at = (f.n : Int) := by simp [Fr.at, hpg]
        rw [hv] at hset
        rw [hpg] at c0
        simp only [Option.map_some] at c0
        have hlow := hp.low i f.n f hf (by simp [Fr.has, hpg])
        have h512 := hp.n1
        have hwr : wrap64 (f.n : Int) = (f.n : Int) := by unfold wrap64; omega
        have hset2 : ((i64z (atTo F i)).set i (.int .i64 (-1))).set i (.int .i64 (f.n : Int)) = i64z (atTo F (i + 1)) := by rw [List.set_set]; exact hset
        have Hob := Lib.hid hob
        have Hst := Lib.hid hst
        have Hob1 := Lib.hid hob1
        have Hst1 := Lib.hid hst1
        have Hset2 := Lib.hid hset2
        have Hp := Lib.hid hp
        have Hf := Lib.hid hf
        clear hob hst hob1 hst1 hset2 hp hf
        clear hset
        go_wp2_with fail
        go_round
        case rel =>
          refine ⟨i + 1, τr, by omega, by simp, ?_, ?_⟩
          · rw [← Hset2.out]; try rw [hwr]
            exact (Hob1.out.set i _).alloc _
          · exact (Hst1.out.setNew (Nat.le_refl _) _).alloc' _
        case measure => simp [intOf]; omega
    · obtain rfl : i = k := by omega
      have Hob := Lib.hid hob
      have Hst := Lib.hid hst
      clear hob hst
      go_wp2_with fail
      go_ret
      exact ⟨w.heap.size, τr, rfl, Nat.le_refl _, by have e : atTo F i = F.map Fr.at := by { unfold atTo; rw [Hl.out, Nat.sub_self, ← Hl.out, List.take_length]; simp }
                                                     rw [← e]; exact Hob.out, Hst.out⟩
end Go.Proofs.YtgjoahddbieliaaGreat

/-
  Pools: Dirty, where no frame is other than on the disk.
-/
namespace Go.Proofs.YtgjoahddbieliaaGreat
open Go.RowKit
set_option linter.unusedVariables false

set_option maxRecDepth 100000 in
theorem len64_0 (w : World) : Calls Tryz.prog 209 #[.int .u64 0] w fun e w' => e = .returned (.int .i64 0) ∧ w = w' := by
  go_enter Tryz.func209, Tryz.ntmps209
  go_wp2_with fail
  go_ret
  exact ⟨by kernel_rfl, rfl⟩
theorem len_0 (w : World) : Calls Tryz.prog 134 #[.int .u64 0] w fun e w' => e = .returned (.int .i64 0) ∧ w = w' := by
  have h1 := len64_0 w
  have H1 := Lib.hid h1
  clear h1
  go_enter Tryz.func134, Tryz.ntmps134
  go_wp2_with fail
  refine H1.out.mono ?_
  rintro e w' ⟨rfl, rfl⟩
  go_wp2_with fail
  go_ret
  exact ⟨rfl, rfl⟩
theorem insertion_nil (w : World) (f : Value) : Calls Tryz.prog 200 #[.slice none 0 0, .int .i64 0, .int .i64 0, f] w fun e w' => e = .returned (.tuple #[]) ∧ w = w' := by
  go_enter Tryz.func200, Tryz.ntmps200
  go_wp2_with fail
  go_loopw [8] (fun v wr => v = .int .i64 1 ∧ wr = w) (fun _ _ => 0)
  case atStart => exact ⟨rfl, rfl⟩
  case round =>
    obtain ⟨rfl, rfl⟩ := hrel
    go_wp2_with fail
    go_returns
    exact ⟨rfl, rfl⟩
theorem pdq_nil (w : World) (f : Value) : Calls Tryz.prog 133 #[.slice none 0 0, .int .i64 0, .int .i64 0, .int .i64 0, f] w fun e w' => e = .returned (.tuple #[]) ∧ w = w' := by
  have h1 := insertion_nil w f
  have H1 := Lib.hid h1
  clear h1
  go_enter Tryz.func133, Tryz.ntmps133
  go_wp2_with fail
  go_loopw [1, 2, 3, 10, 11] (fun a b c d e wr => a = .int .i64 0 ∧ b = .int .i64 0 ∧ c = .int .i64 0 ∧ d = .bool true ∧ e = .bool true ∧ wr = w) (fun _ _ _ _ _ _ => 0)
  case atStart => exact ⟨rfl, rfl, rfl, rfl, rfl, rfl⟩
  case round =>
    obtain ⟨rfl, rfl, rfl, rfl, rfl, rfl⟩ := hrel
    go_wp2_with fail
    refine H1.out.mono ?_
    rintro e w' ⟨rfl, rfl⟩
    go_wp2_with fail
    go_returns
    exact ⟨rfl, rfl⟩
theorem sort_nil (w : World) (f : Value) : Calls Tryz.prog 60 #[.slice none 0 0, f] w fun e w' => e = .returned (.tuple #[]) ∧ w = w' := by
  have h1 := len_0 w
  have h2 := pdq_nil w f
  have H1 := Lib.hid h1
  have H2 := Lib.hid h2
  clear h1 h2
  go_enter Tryz.func60, Tryz.ntmps60
  go_wp2_with fail
  refine H1.out.mono ?_
  rintro e w' ⟨rfl, rfl⟩
  go_wp2_with fail
  refine H2.out.mono ?_
  rintro e w' ⟨rfl, rfl⟩
  go_wp2_with fail
  go_returns
  exact ⟨rfl, rfl⟩
theorem dirty_none {w : World} {τ : Tags} {bp bf : Nat} {H : PoolH} {F : List Fr} {s : Ck.Clk.St} (h : PoolAt w τ bp bf H F s) (h0 : ∀ f ∈ F, f.first = 0) :
    Calls Tryz.prog 24 #[.pointer (some ⟨bp, 0, none⟩)] w fun e w' => e = .returned (.slice none 0 0) ∧ ∃ τ', Step w τ w' τ' nil := by
  have d2 := h.hd.at 2 (v := H.vf) rfl
  rw [h.vf] at d2
  have hk := h.k1
  have hso := fun W f => sort_nil W f
  generalize hl : F.length = k at *
  have H_h := Lib.hid h
  have H0 := Lib.hid h0
  have Hl := Lib.hid hl
  have Hso := Lib.hid hso
  clear h h0 hl hso
  go_enter Tryz.func24, Tryz.ntmps24
  go_wp2_with fail
  go_loopw [3, 11] (fun m v wr => ∃ (i : Nat) (τr : Tags), i ≤ k ∧ m = .slice none 0 0 ∧ v = .int .i64 (i : Int) ∧ Step w τ wr τr nil) (fun _ v _ => k - (intOf v).toNat)
  case atStart => exact ⟨0, τ, Nat.zero_le _, rfl, rfl, Step.refl _ _ _⟩
  case round =>
    obtain ⟨i, τr, hi, rfl, rfl, hst⟩ := hrel
    by_cases hlt : i < k
    · obtain ⟨f, hf⟩ : ∃ f, F[i]? = some f := ⟨_, List.getElem?_eq_getElem (by rw [Hl.out]; exact hlt)⟩
      have hp := H_h.out.step hst (fun _ _ h => h)
      obtain ⟨c0, c1, c2⟩ := hp.cells hf
      have hz := H0.out f (List.mem_of_getElem? hf)
      rw [hz] at c2
      generalize Option.map (fun x => (⟨x.1, 0, none⟩ : Addr)) f.pg = pp at *
      generalize f.n = n at *
      have Hst := Lib.hid hst
      have Hf := Lib.hid hf
      clear hst hf
      clear hp hz
      go_wp2_with fail
      go_round
      case rel => exact ⟨i + 1, τr, by omega, rfl, by simp, Hst.out.alloc' _⟩
      case measure => simp [intOf]; omega
    · obtain rfl : i = k := by omega
      have Hst := Lib.hid hst
      clear hst
      go_wp2_with fail
      refine (Hso.out _ _).mono ?_
      rintro e w' ⟨rfl, rfl⟩
      go_wp2_with fail
      go_ret
      exact ⟨rfl, τr, Hst.out⟩
end Go.Proofs.YtgjoahddbieliaaGreat

/-
  What is compared: rows of ints, of dirty pages, of blocks.
-/
namespace Go.Proofs.YtgjoahddbieliaaGreat
open Go.RowKit
set_option linter.unusedVariables false

/-- ints in a row, with signs -/
def IntsZ (w : World) (τ : Tags) (g : Tag) (v : Value) (l : List Int) : Prop := Buf w τ g 3 1 v l.length (i64z l)
theorem i64z_at (l : List Int) (i : Nat) (h : i < l.length) : (i64z l)[i]? = some (.int .i64 (l.getD i 0)) := by
  simp [i64z, List.getD, List.getElem?_eq_getElem h]
theorem IntsZ.step {w w' : World} {τ τ' : Tags} {S : Tag → Prop} {g : Tag} {v : Value} {l : List Int} (h : IntsZ w τ g v l) (m : Step w τ w' τ' S) (hs : ¬ S g) : IntsZ w' τ' g v l := Buf.step h m hs
theorem IntsZ.read {w : World} {τ : Tags} {g : Tag} {v : Value} {l : List Int} (h : IntsZ w τ g v l) : ∃ p c, v = .slice p l.length c ∧ l.length ≤ maxLen ∧ ∀ i, i < l.length → ∃ b, p = some ⟨b, 0, none⟩ ∧ w.cell? ⟨b, i, none⟩ = some (.int .i64 (l.getD i 0)) := by
  obtain ⟨h1, ⟨rfl, h2⟩ | ⟨b, cap, ys, rfl, ho, h3, h4, h5⟩⟩ := h
  · exact ⟨none, 0, by rw [h2], by omega, fun i hi => by omega⟩
  · refine ⟨_, _, rfl, by omega, fun i hi => ⟨b, rfl, ho.at i ?_⟩⟩
    rw [List.getElem?_append_left (by rw [i64z_length]; exact hi), i64z_at l i hi]
theorem list_ext_getD {l m : List Int} (h1 : l.length = m.length) (h : ∀ i, i < l.length → l.getD i 0 = m.getD i 0) : l = m := by
  apply List.ext_getElem h1
  intro i h2 h3
  have := h i h2
  simpa [List.getD, List.getElem?_eq_getElem h2, List.getElem?_eq_getElem h3] using this
theorem sameints_any {w : World} {τ : Tags} {g g2 : Tag} {v u : Value} {l m : List Int} (h : IntsZ w τ g v l) (k : IntsZ w τ g2 u m) :
    Calls Tryz.prog 94 #[v, u] w fun e w' => e = .returned (.bool (decide (l = m))) ∧ ∃ q, w' = w.drewN q := by
  obtain ⟨p, c, rfl, h1, hr⟩ := h.read
  obtain ⟨q, d, rfl, k1, kr⟩ := k.read
  clear h k
  by_cases hlen : l.length = m.length
  · have hne := @list_ext_getD l m hlen
    have hno : ∀ i, i < l.length → l.getD i 0 ≠ m.getD i 0 → ¬ l = m := fun i _ hi e => hi (by rw [e])
    rw [← hlen] at kr ⊢
    generalize hn : l.length = n at *
    have hmx : n ≤ 9223372036854775807 := by unfold maxLen at h1; omega
    have Hr := Lib.hid hr
    have H_kr := Lib.hid kr
    have Hne := Lib.hid hne
    have Hno := Lib.hid hno
    have Hn := Lib.hid hn
    have Hlen := Lib.hid hlen
    clear hr kr hne hno hn hlen
    clear h1 k1
    go_enter Tryz.func94, Tryz.ntmps94
    go_wp2_with fail
    go_loopw [5] (fun v wr => ∃ i q : Nat, i ≤ n ∧ v = .int .i64 (i : Int) ∧ wr = w.drewN q ∧ Hid (∀ j, j < i → l.getD j 0 = m.getD j 0)) (fun v _ => n - (intOf v).toNat)
    case atStart => exact ⟨0, 0, Nat.zero_le _, rfl, rfl, Lib.hid (fun j hj => absurd hj (by omega))⟩
    case round =>
      obtain ⟨i, q, hi, rfl, hwr, HE⟩ := hrel
      by_cases hlt : i < n
      · obtain ⟨b, rfl, ci⟩ := Hr.out i hlt
        obtain ⟨b2, hb2, di⟩ := H_kr.out i hlt
        cases hb2
        have ci' : wr.cell? ⟨b, i, none⟩ = some (.int .i64 (l.getD i 0)) := by rw [hwr]; exact ci
        have di' : wr.cell? ⟨b2, i, none⟩ = some (.int .i64 (m.getD i 0)) := by rw [hwr]; exact di
        clear ci di
        have hin : (i : Int) < (n : Int) := by omega
        generalize hx : l.getD i 0 = x at *
        generalize hy : m.getD i 0 = y at *
        by_cases heq : x = y
        · subst heq
          have Hx := Lib.hid hx
          have Hy := Lib.hid hy
          have Hwr := Lib.hid hwr
          clear hx hy hwr
          go_wp2_with fail
          go_quiet (fail)
          go_wp2_with fail
          go_round
          case rel =>
            refine ⟨i + 1, q + nq, by omega, by simp, by rw [Hwr.out, World.drewN_drewN], Lib.hid (fun j hj => ?_)⟩
            by_cases e : j = i
            · subst e; rw [Hx.out, Hy.out]
            · exact HE.out j (by omega)
          case measure => simp [intOf]; omega
        · have b1 : (x != y) = true := by rw [bne_iff_ne]; exact heq
          have hlm := Hno.out i hlt (by rw [hx, hy]; exact heq)
          have Hlm := Lib.hid hlm
          have Hx := Lib.hid hx
          have Hy := Lib.hid hy
          have Heq := Lib.hid heq
          have Hwr := Lib.hid hwr
          clear hlm hx hy heq hwr
          go_wp2_with fail
          go_quiet (fail)
          go_wp2_with fail
          go_ret
          exact ⟨by rw [decide_eq_false Hlm.out]; rfl, q + nq, by rw [Hwr.out, World.drewN_drewN]⟩
      · obtain rfl : i = n := by omega
        have hlm := Hne.out HE.out
        have Hlm := Lib.hid hlm
        have Hwr := Lib.hid hwr
        clear hlm hwr
        go_wp2_with fail
        go_ret
        exact ⟨by rw [decide_eq_true Hlm.out]; rfl, q, Hwr.out⟩
  · rw [decide_eq_false (fun e => hlen (by rw [e]))]
    have b1 : ((l.length : Int) != (m.length : Int)) = true := by rw [bne_iff_ne]; omega
    generalize l.length = n at *
    generalize m.length = k at *
    clear hr kr h1 k1 hlen
    go_enter Tryz.func94, Tryz.ntmps94
    go_wp2_with fail
    go_ret
    exact ⟨rfl, 0, rfl⟩
/-- rows of nothing are alike -/
theorem samedirty_nil (w : World) : Calls Tryz.prog 96 #[.slice none 0 0, .slice none 0 0] w fun e w' => e = .returned (.bool true) ∧ w = w' := by
  go_enter Tryz.func96, Tryz.ntmps96
  go_wp2_with fail
  go_loopw [5] (fun v wr => v = .int .i64 0 ∧ wr = w) (fun _ _ => 0)
  case atStart => exact ⟨rfl, rfl⟩
  case round =>
    obtain ⟨rfl, rfl⟩ := hrel
    go_wp2_with fail
    go_ret
    exact ⟨rfl, rfl⟩
end Go.Proofs.YtgjoahddbieliaaGreat
