/-
  Pools: empty of a frame whose page is other than on the disk; empty of any frame.
-/
import Derived.Test.YtgjoahddbieliaaGreatMWalG
namespace Go.Proofs.YtgjoahddbieliaaGreat
open Go.RowKit
set_option linter.unusedVariables false

theorem u64_pos {n : Nat} (h : 0 < n) : (0 : Int) < (n : Int) := by omega
set_option maxHeartbeats 4000000 in
set_option maxRecDepth 100000 in
theorem empty_dirty {w : World} {τ : Tags} {bp bf bd : Nat} {H : PoolH} {L : LogM} {D : Dev} {F : List Fr} {s : Ck.Clk.St} (h : PoolW w τ bp bf bd H L D F s) (hr : L.Rise) (hcap : L.stream.length ≤ 127 * L.strips) (hfit0 : L.firstS + L.strips ≤ D.f0.length) (hfit1 : 4 * H.n + 4 ≤ D.f1.length) (hcalm : D.Calm) (hst : H.st + 1 < 18446744073709551616)
    {i : Nat} {f : Fr} {b : Nat} {P : List Int} (hf : F[i]? = some f) (hpg : f.pg = some (b, P)) (hfn : f.n < H.n) (h0 : 0 < f.first) {m : Nat} (hm : pageLSN P = m) (hm64 : m < 18446744073709551616) :
    Calls Tryz.prog 116 #[.pointer (some ⟨bp, 0, none⟩), .int .i64 (i : Int)] w fun e w' => e = .returned (.tuple #[]) ∧ ∃ (k : Nat) (fl : Bool) (τ' : Tags), L.AtR (pageLSN P) k fl ∧ PoolW w' τ' bp bf bd { H with st := H.st + 1 } (flL L (k + (if fl then 1 else 0))) (wrD (flD L D (k + (if fl then 1 else 0))) H.n f.n P (H.st + 1)) (F.set i Fr.no) (Ck.Clk.leaveS s i) ∧ Step w τ w' τ' PWTag := by
  have hwr := poolwrite_any h hr hcap hfit0 hfit1 hcalm hst hf hpg hfn hm hm64
  obtain ⟨c0, c1, c2⟩ := h.pool.cells hf
  rw [hpg] at c0
  simp only [Option.map_some] at c0
  have d2 := h.pool.hd.at 2 (v := H.vf) rfl
  rw [h.pool.vf] at d2
  have hk := h.pool.k1
  have hi : i < F.length := (List.getElem?_eq_some_iff.1 hf).1
  have hf0 := u64_pos h0
  have hn512 := h.pool.n1
  have hf' : (F.set i { f with first := 0 })[i]? = some { f with first := 0 } := by rw [List.getElem?_set_self hi]
  have hl' : (F.set i { f with first := 0 }).length = F.length := List.length_set
  have hss : (F.set i { f with first := 0 }).set i Fr.no = F.set i Fr.no := List.set_set ..
  have hf1n : ({ f with first := 0 } : Fr).n = f.n := rfl
  have hf1p : ({ f with first := 0 } : Fr).pg = f.pg := rfl
  have hf1f : ({ f with first := 0 } : Fr).first = 0 := rfl
  have hvf : H.vf = .slice (some ⟨bf, 0, none⟩) F.length F.length := h.pool.vf
  generalize hF' : F.set i { f with first := 0 } = F' at *
  generalize hg : ({ f with first := 0 } : Fr) = g at *
  generalize hlen : F.length = k at *
  have Hwr := Lib.hid hwr
  have Hf := Lib.hid hf
  have Hf' := Lib.hid hf'
  have Hl' := Lib.hid hl'
  have Hss := Lib.hid hss
  have Hlen := Lib.hid hlen
  have Hvf := Lib.hid hvf
  have HF' := Lib.hid hF'
  have Hg := Lib.hid hg
  clear hwr hf hf' hl' hss hlen hvf hF' hg
  clear h hcap hr hm hm64 hcalm
  go_enter Tryz.func116, Tryz.ntmps116
  go_wp2_with fail
  refine Hwr.out.mono ?_
  rintro e w1 ⟨rfl, kk, fl, τ1, hat, hp1, hs1⟩
  rw [Hg.out, HF'.out] at hp1
  have hwant : ∀ (w' : World) (τ' : Tags), PoolW w' τ' bp bf bd { H with st := H.st + 1 } (flL L (kk + (if fl then 1 else 0))) (wrD (flD L D (kk + (if fl then 1 else 0))) H.n f.n P (H.st + 1)) (F.set i Fr.no) (Ck.Clk.leaveS s i) → Step w τ w' τ' PWTag → ∃ (k : Nat) (fl : Bool) (τ' : Tags), L.AtR (pageLSN P) k fl ∧ PoolW w' τ' bp bf bd { H with st := H.st + 1 } (flL L (k + (if fl then 1 else 0))) (wrD (flD L D (k + (if fl then 1 else 0))) H.n f.n P (H.st + 1)) (F.set i Fr.no) (Ck.Clk.leaveS s i) ∧ Step w τ w' τ' PWTag :=
    fun w' τ' h1 h2 => ⟨kk, fl, τ', hat, h1, h2⟩
  generalize flL L (kk + (if fl = true then 1 else 0)) = L1 at *
  generalize wrD (flD L D (kk + (if fl = true then 1 else 0))) H.n f.n P (H.st + 1) = D1 at *
  obtain ⟨H1, hH1⟩ : ∃ H1 : PoolH, H1 = { H with st := H.st + 1 } := ⟨_, rfl⟩
  have e1 : H1.bm = H.bm := by rw [hH1]
  have e2 : H1.bc = H.bc := by rw [hH1]
  have e3 : H1.vf = H.vf := by rw [hH1]
  rw [← hH1] at hp1
  have hpp := hp1.pool
  obtain ⟨x0, x1, x2⟩ := hpp.cells Hf'.out
  rw [hf1n] at x1
  have y2 := hpp.hd.at 2 (v := .slice (some ⟨bf, 0, none⟩) k k) (by rw [← Hvf.out, ← e3]; rfl)
  have y3 := hpp.hd.at 3 (v := .map (some H.bm)) (by rw [← e1]; rfl)
  have y4 := hpp.hd.at 4 (v := .pointer (some ⟨H.bc, 0, none⟩)) (by rw [← e2]; rfl)
  have hck1 := hpp.ck
  rw [e2] at hck1
  have hlv := clkleave_any hck1 (i : Int)
  have q0 : ∃ v, (frCells F')[i * 3]? = some v := ⟨_, by have := hpp.fr.cell (i * 3); rw [x0] at this; rw [← this]⟩
  obtain ⟨v0, q0⟩ := q0
  have q1 : (frCells F')[i * 3 + 1]? = some (.int .u32 (f.n : Int)) := by have := hpp.fr.cell (i * 3 + 1); rw [x1] at this; rw [← this]
  have q2 : ∃ v, (frCells F')[i * 3 + 2]? = some v := ⟨_, by have := hpp.fr.cell (i * 3 + 2); rw [x2] at this; rw [← this]⟩
  obtain ⟨v2, q2⟩ := q2
  have Hat := Lib.hid hat
  have Hp1 := Lib.hid hp1
  have Hs1 := Lib.hid hs1
  have Hwant := Lib.hid hwant
  have H_q0 := Lib.hid q0
  have H_q1 := Lib.hid q1
  have H_q2 := Lib.hid q2
  have Hlv := Lib.hid hlv
  have H_e1 := Lib.hid e1
  have H_e2 := Lib.hid e2
  have H_e3 := Lib.hid e3
  have HH1 := Lib.hid hH1
  clear hat hp1 hs1 hwant q0 q1 q2 hlv e1 e2 e3 hH1
  clear hpp hck1 x0 x2 c0 c1 c2 d2 Hwr
  go_wp2_with fail
  refine Hlv.out.mono ?_
  rintro e w2 ⟨rfl, hc2, hs2⟩
  have hpp := Hp1.out.pool
  have hm2 := hpp.mp.step hs2 (by decide)
  have ho2 := hpp.fr.step hs2 (by decide)
  have hd2 := hpp.hd.step hs2 (by decide)
  rw [H_e1.out] at hm2
  have y3 := hd2.at 3 (v := .map (some H.bm)) (by rw [← H_e1.out]; rfl)
  have g1 := ho2.at _ H_q1.out
  have Hc2 := Lib.hid hc2
  have Hs2 := Lib.hid hs2
  have Hm2 := Lib.hid hm2
  have Ho2 := Lib.hid ho2
  clear hc2 hs2 hm2 ho2
  clear hpp hd2 y2 y4 x1
  go_wp2_with fail
  go_region_law (first
    | (refine step_delete (Hm2.out.step (Step.refl w2 τ1 nil).drew (fun h => h)) f.n (by omega) rfl _ _ rfl rfl rfl ?_
       intro w3 hm3 hs3
       have ho3 := (Ho2.out.step (Step.refl w2 τ1 nil).drew (fun h => h)).step hs3 (by decide)
       have Hm3 := Lib.hid hm3
       have Hs3 := Lib.hid hs3
       have Ho3 := Lib.hid ho3
       clear hm3 hs3 ho3))
  all_goals (
    have k0 := Ho3.out.at _ H_q0.out
    have k1 := Ho3.out.at _ H_q1.out
    have k2 := Ho3.out.at _ H_q2.out
    have z0 := Ho3.out.fz (i * 3)
    have z1 := Ho3.out.fz (i * 3 + 1)
    have z2 := Ho3.out.fz (i * 3 + 2))
  all_goals go_wp2_with fail
  all_goals go_returns
  all_goals (
    have hall : Step w1 τ1 w3 τ1 (fun g => g = tClk ∨ g = tWhere) := (Hs2.out.mono (T := fun g => g = tClk ∨ g = tWhere) (fun _ h => .inl h)).drew.trans (Hs3.out.mono (fun _ h => .inr h))
    have hhas : g.has g.n = true := by simp [Fr.has, hf1p, hpg]
    have hmap := Hm3.out
    have hp1 := Hp1.out
    rw [← hf1n, whereOf_clear hp1.pool.one Hf'.out hhas] at hmap
    have hcc := (Hc2.out.step (Step.refl w2 τ1 nil).drew (fun h => h)).step Hs3.out (by decide)
    rw [← H_e2.out] at hcc
    rw [← H_e1.out] at hmap
    obtain ⟨hp, hst⟩ := hp1.pool.lay hall (by decide) (by decide) (by simp [tPg, tClk, tWhere]) (by rw [Hl'.out]; exact hi) Fr.no hmap hcc (leaveS_n _ _) (fun b P h => by simp [Fr.no] at h) (OneHas.set hp1.pool.one i Fr.no (fun j n g _ _ _ => no_has n)) (fun n h => by simp [Fr.has, Fr.no] at h)
    rw [Hss.out] at hp
    have hallP : Step w1 τ1 _ τ1 PoolTag := (hall.mono (T := PoolTag) (fun g h => by rcases h with rfl | rfl; exact .inr (.inr (.inr (.inl rfl))); exact .inr (.inr (.inl rfl)))).trans (hst.mono (fun g h => .inr (.inl h)))
    exact ⟨rfl, Hwant.out _ τ1 (by rw [← HH1.out]; exact ⟨hp, hp1.log.step hallP (fun g hg => pooltag_log hg), hp1.dev.step hallP (fun g hg => pooltag_dev hg)⟩) (Hs1.out.trans (hallP.mono (T := PWTag) (fun _ h => .inl h)))⟩)
end Go.Proofs.YtgjoahddbieliaaGreat

/-
  Pools: bring, by what empty and load do.
-/
namespace Go.Proofs.YtgjoahddbieliaaGreat
open Go.RowKit
set_option linter.unusedVariables false

set_option maxHeartbeats 2000000 in
set_option maxRecDepth 100000 in
theorem bring_gen {w : World} {τ : Tags} {bp bf bd : Nat} {H : PoolH} {F : List Fr} {s : Ck.Clk.St} {L : LogM} {D : Dev} (h : PoolW w τ bp bf bd H L D F s) (n : Nat) (hn : n < H.n) (hyes : Ck.Clk.pickB s = true) {i : Nat} (hi : Ck.Clk.pickI s = i) (hil : i < F.length) {Q : List Int} (E : PoolH → LogM → Dev → Ck.Clk.St → Prop)
    (hemp : ∀ (w1 : World) (τ1 : Tags), PoolW w1 τ1 bp bf bd H L D F (Ck.Clk.pickS s) → Calls Tryz.prog 116 #[.pointer (some ⟨bp, 0, none⟩), .int .i64 (i : Int)] w1 fun e w' => e = .returned (.tuple #[]) ∧ ∃ H1 L1 D1 s1 τ', E H1 L1 D1 s1 ∧ H1.n = H.n ∧ PoolW w' τ' bp bf bd H1 L1 D1 (F.set i Fr.no) s1 ∧ Step w1 τ1 w' τ' PWTag)
    (hload : ∀ (w1 : World) (τ1 : Tags) (H1 : PoolH) (L1 : LogM) (D1 : Dev) (s1 : Ck.Clk.St), E H1 L1 D1 s1 → PoolW w1 τ1 bp bf bd H1 L1 D1 (F.set i Fr.no) s1 → Calls Tryz.prog 117 #[.pointer (some ⟨bp, 0, none⟩), .int .u32 (n : Int)] w1 fun e w' => ∃ b τ', e = .returned (.tuple #[.pointer (some ⟨b, 0, none⟩), .int .u16 0]) ∧ w1.heap.size ≤ b ∧ PageAt w' τ' (tPg i) b Q ∧ Step w1 τ1 w' τ' nil)
    (hnob : whereOf (F.set i Fr.no) n = none) :
    Calls Tryz.prog 45 #[.pointer (some ⟨bp, 0, none⟩), .int .u32 (n : Int)] w fun e w' => e = .returned (.tuple #[.int .i64 (i : Int), .int .u16 0]) ∧ ∃ H1 L1 D1 s1 b τ', E H1 L1 D1 s1 ∧ PoolW w' τ' bp bf bd H1 L1 D1 (F.set i ⟨some (b, Q), n, 0⟩) (Ck.Clk.takeS s1 i) ∧ Step w τ w' τ' PWTag := by
  have h1 := clkpick_any h.pool.ck
  rw [hyes, hi] at h1
  have d4 := h.pool.hd.at 4 (v := .pointer (some ⟨H.bc, 0, none⟩)) rfl
  have h512 := h.pool.n1
  have hk := h.pool.k1
  have H1 := Lib.hid h1
  have H_h := Lib.hid h
  have Hnob := Lib.hid hnob
  have Hemp := Lib.hid hemp
  have Hload := Lib.hid hload
  clear h1 h hnob hemp hload
  go_enter Tryz.func45, Tryz.ntmps45
  go_wp2_with fail
  refine H1.out.mono ?_
  rintro e w1 ⟨rfl, hc1, hs1⟩
  have hp1 : PoolW w1 τ bp bf bd H L D F (Ck.Clk.pickS s) := H_h.out.turn (H_h.out.pool.clk hc1 hs1 (pickS_n s)) (hs1.mono (T := PoolTag) (fun g h => .inr (.inr (.inr (.inl h)))))
  have h2 := Hemp.out w1 τ hp1
  have Hs1 := Lib.hid hs1
  have H2 := Lib.hid h2
  clear hs1 h2
  clear hc1 hp1
  go_wp2_with fail
  refine H2.out.mono ?_
  rintro e w1b ⟨rfl, HH, L1, D1, s1, τb, hE, e1, hpb, hsb⟩
  have hs1b := (Hs1.out.mono (T := PWTag) (fun g h => .inl (.inr (.inr (.inr (.inl h)))))).trans hsb
  have h3 := Hload.out w1b τb HH L1 D1 s1 hE hpb
  have hnob := Hnob.out
  have hfb : (F.set i Fr.no)[i]? = some Fr.no := by rw [List.getElem?_set, if_pos rfl, if_pos hil]
  have hss : ∀ y, F.set i y = (F.set i Fr.no).set i y := fun y => by rw [List.set_set]
  have hlb : (F.set i Fr.no).length = F.length := List.length_set
  generalize hF1 : F.set i Fr.no = F1 at *
  have hn1 : n < HH.n := by rw [e1]; exact hn
  have h5121 : HH.n ≤ 512 := by rw [e1]; exact h512.2
  have Hss := Lib.hid hss
  have HF1 := Lib.hid hF1
  have HE := Lib.hid hE
  clear hss hF1 hE
  have hk1 := hpb.pool.k1
  have hil : i < F1.length := by omega
  have Hpb := Lib.hid hpb
  have Hs1b := Lib.hid hs1b
  have H3 := Lib.hid h3
  have Hfb := Lib.hid hfb
  have Hnob := Lib.hid hnob
  clear hpb hs1b h3 hfb hnob
  clear hlb H2
  go_wp2_with fail
  refine H3.out.mono ?_
  rintro e w2 ⟨b, τ2, rfl, hlow, hpg, hs2⟩
  have hp2 := Hpb.out.pool.step hs2 (fun _ _ h => h)
  have e2 := hp2.hd.at 2 (v := HH.vf) rfl
  rw [hp2.vf] at e2
  obtain ⟨c0, c1, c2⟩ := hp2.cells Hfb.out
  have z0 := hp2.fr.fz (i * 3)
  have z1 := hp2.fr.fz (i * 3 + 1)
  have z2 := hp2.fr.fz (i * 3 + 2)
  have hst3 : Step w2 τ2 (((w2.setCell ⟨bf, i * 3, none⟩ (.pointer (some ⟨b, 0, none⟩))).setCell ⟨bf, i * 3 + 1, none⟩ (.int .u32 (n : Int))).setCell ⟨bf, i * 3 + 2, none⟩ (.int .u64 0)) τ2 (fun g => g = tFr) :=
    (((Step.refl w2 τ2 (fun g => g = tFr)).set hp2.fr.tag rfl _).set hp2.fr.tag rfl _).set hp2.fr.tag rfl _
  have hd3 := hp2.hd.step hst3 (by decide)
  have e3 := hd3.at 3 (v := .map (some HH.bm)) rfl
  have hm3 := hp2.mp.step hst3 (by decide)
  have hc3 := hp2.ck.step hst3 (by decide)
  have Hst3 := Lib.hid hst3
  have Hd3 := Lib.hid hd3
  have Hm3 := Lib.hid hm3
  have Hc3 := Lib.hid hc3
  clear hst3 hd3 hm3 hc3
  generalize F1.length = kF at *
  have Hp2 := Lib.hid hp2
  have Hpg := Lib.hid hpg
  have Hs2 := Lib.hid hs2
  clear hp2 hpg hs2
  go_wp2_with (at_mapUpdate; go_loud (refine wpList_mapUpdate_is Hm3.out (by omega) n i hn1 (by omega) rfl _ _ _ rfl rfl rfl rfl ?_; intro w4 hm4 hs4; have e4 := (Hd3.out.step hs4 (by decide)).at 4 (v := .pointer (some ⟨HH.bc, 0, none⟩)) rfl; have htk := clktake_any (Hc3.out.step hs4 (by decide)) (i : Int); have Hm4 := Lib.hid hm4; have Hs4 := Lib.hid hs4; have Htk := Lib.hid htk; clear hm4 hs4 htk))
  refine Htk.out.mono ?_
  rintro e w5 ⟨rfl, hc5, hs5⟩
  have Hc5 := Lib.hid hc5
  have Hs5 := Lib.hid hs5
  clear hc5 hs5
  go_wp2_with fail
  go_ret2
  have hp2 := Hp2.out
  have h45 := (Hs4.out.mono (T := fun g => g = tWhere ∨ g = tClk) (fun g h => .inl h)).trans (Hs5.out.mono (fun g h => .inr h))
  have h35 := (Hst3.out.mono (T := PoolTag) (fun g h => .inr (.inl h))).trans (h45.mono (T := PoolTag) (fun g h => by rcases h with h | h; exact .inr (.inr (.inl h)); exact .inr (.inr (.inr (.inl h)))))
  have hall2 := (Hs2.out.mono (T := PoolTag) (fun g h => h.elim)).trans h35
  have hall := Hs1b.out.trans (hall2.mono (T := PWTag) (fun _ h => .inl h))
  have hiF : i < F1.length := (List.getElem?_eq_some_iff.1 Hfb.out).1
  obtain ⟨hone, hwh⟩ := whereOf_fill hp2.one hiF Hfb.out rfl ⟨some (b, Q), n, 0⟩ (by simp [Fr.has]) Hnob.out
  have hfr3 := ((hp2.fr.set (i * 3) (.pointer (some ⟨b, 0, none⟩))).set (i * 3 + 1) (.int .u32 (n : Int))).set (i * 3 + 2) (.int .u64 0)
  have hfs := frCells_set F1 i ⟨some (b, Q), n, 0⟩ hiF
  rw [show ((((frCells F1).set (i * 3) (Value.pointer (some ⟨b, 0, none⟩))).set (i * 3 + 1) (Value.int .u32 (n : Int))).set (i * 3 + 2) (Value.int .u64 0)) = frCells (F1.set i ⟨some (b, Q), n, 0⟩) from hfs] at hfr3
  have hmp := Hm4.out.step Hs5.out (by decide)
  rw [hwh] at hmp
  refine ⟨rfl, HH, L1, D1, s1, b, τ2, HE.out, ⟨?_, Hpb.out.log.step hall2 (fun g hg => pooltag_log hg), Hpb.out.dev.step hall2 (fun g hg => pooltag_dev hg)⟩, hall⟩
  rw [Hss.out]
  refine ⟨(Hd3.out.step h45 (by decide)), by rw [List.length_set]; exact hp2.vf, hfr3.step h45 (by decide), ?_, hmp, Hc5.out, hp2.n1, by rw [List.length_set]; exact hp2.k1, ?_, hp2.st, hone, ?_⟩
  · intro j c P hb
    rw [List.getElem?_set] at hb
    by_cases e : i = j
    · subst e
      rw [if_pos rfl, if_pos hiF] at hb
      cases hb
      exact (Hpg.out.step Hst3.out (by simp [tPg, tFr])).step h45 (by simp [tPg, tWhere, tClk])
    · rw [if_neg e] at hb
      exact ((hp2.pg j c P hb).step Hst3.out (by simp [tPg, tFr])).step h45 (by simp [tPg, tWhere, tClk])
  · rw [List.length_set]
    have e : (Ck.Clk.takeS s1 i).n = s1.n := by unfold Ck.Clk.takeS; split <;> rfl
    rw [e]; exact hp2.sn
  · intro j m g hg hh
    rw [List.getElem?_set] at hg
    by_cases e : i = j
    · rw [if_pos e, if_pos hiF] at hg
      cases hg
      simp only [Fr.has, Bool.and_eq_true, beq_iff_eq] at hh
      rw [← hh.2]; exact hn1
    · rw [if_neg e] at hg
      exact hp2.low j m g hg hh
end Go.Proofs.YtgjoahddbieliaaGreat

/-
  Pools: Get of a page that is brought; Put of a page that was changed.
-/
namespace Go.Proofs.YtgjoahddbieliaaGreat
open Go.RowKit
set_option linter.unusedVariables false

set_option maxRecDepth 100000 in
/-- by what bring does -/
theorem get_gen {w : World} {τ : Tags} {bp bf bd : Nat} {H : PoolH} {F : List Fr} {s : Ck.Clk.St} {L : LogM} {D : Dev} (h : PoolW w τ bp bf bd H L D F s) (n : Nat) (hn : n < H.n) (hw : whereOf F n = none) {i : Nat} (hi : i < F.length) {Q : List Int} (E : PoolH → LogM → Dev → Ck.Clk.St → Prop)
    (hb : Calls Tryz.prog 45 #[.pointer (some ⟨bp, 0, none⟩), .int .u32 (n : Int)] w fun e w' => e = .returned (.tuple #[.int .i64 (i : Int), .int .u16 0]) ∧ ∃ H1 L1 D1 s1 b τ', E H1 L1 D1 s1 ∧ PoolW w' τ' bp bf bd H1 L1 D1 (F.set i ⟨some (b, Q), n, 0⟩) (Ck.Clk.takeS s1 i) ∧ Step w τ w' τ' PWTag)
    (hs : ∀ H1 L1 D1 s1, E H1 L1 D1 s1 → ∀ k, s1.p k ≤ 1000000) :
    Calls Tryz.prog 12 #[.pointer (some ⟨bp, 0, none⟩), .int .u32 (n : Int)] w fun e w' => ∃ H1 L1 D1 s1 b τ', e = .returned (.tuple #[.pointer (some ⟨b, 0, none⟩), .int .u16 0]) ∧ E H1 L1 D1 s1 ∧ PoolW w' τ' bp bf bd H1 L1 D1 (F.set i ⟨some (b, Q), n, 0⟩) (Ck.Clk.pinS (Ck.Clk.touchS (Ck.Clk.takeS s1 i) i) i) ∧ Step w τ w' τ' PWTag := by
  have h512 := h.pool.n1
  have hk := h.pool.k1
  have d1 := h.pool.hd.at 1 (v := .int .i64 (H.n : Int)) rfl
  have d3 := h.pool.hd.at 3 (v := .map (some H.bm)) rfl
  have hwr := u32_wrap' H.n (by omega)
  have hlk := h.pool.mp.look n (by omega)
  rw [hw] at hlk
  simp only [Option.getD_none, Option.isSome_none] at hlk
  have H_h := Lib.hid h
  have Hb := Lib.hid hb
  have Hs := Lib.hid hs
  clear h hb hs
  go_enter Tryz.func12, Tryz.ntmps12
  go_wp2_with fail
  refine Hb.out.mono ?_
  rintro e w0 ⟨rfl, H1, L1, D1, s1, b, τ', hE, hp0, hs0⟩
  have hf : (F.set i ⟨some (b, Q), n, 0⟩)[i]? = some ⟨some (b, Q), n, 0⟩ := by rw [List.getElem?_set, if_pos rfl, if_pos hi]
  have d4 := hp0.pool.hd.at 4 (v := .pointer (some ⟨H1.bc, 0, none⟩)) rfl
  have h1 := clktouch_any hp0.pool.ck (i : Int)
  have hl : (F.set i ⟨some (b, Q), n, 0⟩).length = F.length := List.length_set
  have hsp := Hs.out H1 L1 D1 s1 hE
  have Hp0 := Lib.hid hp0
  have Hs0 := Lib.hid hs0
  have Hf := Lib.hid hf
  have Hl := Lib.hid hl
  have HE := Lib.hid hE
  have Hsp := Lib.hid hsp
  clear hp0 hs0 hf hl hE hsp
  have H1_1 := Lib.hid h1
  clear h1
  go_wp2_with fail
  refine H1_1.out.mono ?_
  rintro e w1 ⟨rfl, hc1, hs1⟩
  have hp1 := Hp0.out.turn (Hp0.out.pool.clk hc1 hs1 (PoolAt.clk_n _).1) (hs1.mono (T := PoolTag) (fun g h => .inr (.inr (.inr (.inl h)))))
  have e4 := hp1.pool.hd.at 4 (v := .pointer (some ⟨H1.bc, 0, none⟩)) rfl
  have h2 := clkpin_any hp1.pool.ck (i : Int) (by rw [touch_p]; exact (pins_le i Hsp.out).1)
  have Hp1 := Lib.hid hp1
  have Hs1 := Lib.hid hs1
  have H2 := Lib.hid h2
  clear hp1 hs1 h2
  clear hc1
  go_wp2_with fail
  refine H2.out.mono ?_
  rintro e w2 ⟨rfl, hc2, hs2⟩
  have hp2 := Hp1.out.turn (Hp1.out.pool.clk hc2 hs2 (PoolAt.clk_n _).2.1) (hs2.mono (T := PoolTag) (fun g h => .inr (.inr (.inr (.inl h)))))
  have e2 := hp2.pool.hd.at 2 (v := H1.vf) rfl
  rw [hp2.pool.vf, Hl.out] at e2
  obtain ⟨c0, c1, c2⟩ := hp2.pool.cells Hf.out
  simp only [Option.map_some] at c0
  generalize F.length = k at *
  have Hp2 := Lib.hid hp2
  have Hs2 := Lib.hid hs2
  clear hp2 hs2
  clear hc2
  go_wp2_with fail
  go_ret2
  exact ⟨H1, L1, D1, s1, b, τ', rfl, HE.out, Hp2.out, Hs0.out.trans ((Hs1.out.trans Hs2.out).mono (T := PWTag) (fun g h => .inl (.inr (.inr (.inr (.inl h))))))⟩
theorem cor2_any {w : World} {b : Nat} (x y : Nat) (h0 : w.cell? ⟨b, 0, none⟩ = some (.int .u64 (x : Int))) (h1 : w.cell? ⟨b, 1, none⟩ = some (.int .u64 (y : Int))) :
    Calls Tryz.prog 50 #[.slice (some ⟨b, 0, none⟩) 2 2] w fun e w' => e = .returned (.int .u64 ((if x = 0 then y else x : Nat) : Int)) ∧ w = w' := by
  by_cases hx : x = 0
  · subst hx
    rw [if_pos rfl]
    by_cases hy : y = 0
    · subst hy
      have H0 := Lib.hid h0
      have H1 := Lib.hid h1
      clear h0 h1
      go_enter Tryz.func50, Tryz.ntmps50
      go_wp2_with fail
      go_loopw [8] (fun v wr => ∃ (i : Nat), i ≤ 2 ∧ v = .int .i64 (i : Int) ∧ wr = w) (fun v _ => 2 - (intOf v).toNat)
      case atStart => exact ⟨0, by omega, rfl, rfl⟩
      case round =>
        obtain ⟨i, hi, rfl, rfl⟩ := hrel
        rcases (by omega : i = 0 ∨ i = 1 ∨ i = 2) with rfl | rfl | rfl
        · have h0 := H0.out
          go_wp2_with fail
          go_round
          case rel => exact ⟨1, by omega, by simp, trivial⟩
          case measure => simp [intOf]
        · have h1 := H1.out
          go_wp2_with fail
          go_round
          case rel => exact ⟨2, by omega, by simp, trivial⟩
          case measure => simp [intOf]
        · go_wp2_with fail
          go_returns
          exact ⟨rfl, rfl⟩
    · have hy' : ¬ (y : Int) = 0 := by omega
      have H0 := Lib.hid h0
      have H1 := Lib.hid h1
      clear h0 h1
      go_enter Tryz.func50, Tryz.ntmps50
      go_wp2_with fail
      go_loopw [8] (fun v wr => ∃ (i : Nat), i ≤ 1 ∧ v = .int .i64 (i : Int) ∧ wr = w) (fun v _ => 2 - (intOf v).toNat)
      case atStart => exact ⟨0, by omega, rfl, rfl⟩
      case round =>
        obtain ⟨i, hi, rfl, rfl⟩ := hrel
        rcases (by omega : i = 0 ∨ i = 1) with rfl | rfl
        · have h0 := H0.out
          go_wp2_with fail
          go_round
          case rel => exact ⟨1, by omega, by simp, trivial⟩
          case measure => simp [intOf]
        · have h1 := H1.out
          go_wp2_with fail
          go_returns
          exact ⟨rfl, rfl⟩
  · rw [if_neg hx]
    have hx' : ¬ (x : Int) = 0 := by omega
    go_enter Tryz.func50, Tryz.ntmps50
    go_wp2_with fail
    go_loopw [8] (fun v wr => v = .int .i64 0 ∧ wr = w) (fun v _ => 2 - (intOf v).toNat)
    case atStart => exact ⟨rfl, rfl⟩
    case round =>
      obtain ⟨rfl, rfl⟩ := hrel
      go_wp2_with fail
      go_returns
      exact ⟨rfl, rfl⟩
end Go.Proofs.YtgjoahddbieliaaGreat

/-
  Pools: Put of a page that was changed; Write.
-/
namespace Go.Proofs.YtgjoahddbieliaaGreat
open Go.RowKit
set_option linter.unusedVariables false

theorem has_page (f : Fr) (b : Nat) (P Q : List Int) (h : f.pg = some (b, P)) (n : Nat) : Fr.has { f with pg := some (b, Q) } n = f.has n := by unfold Fr.has; rw [h]; rfl
theorem whereOf_page {F : List Fr} {i : Nat} {f : Fr} (hf : F[i]? = some f) {b : Nat} {P : List Int} (h : f.pg = some (b, P)) (Q : List Int) : whereOf (F.set i { f with pg := some (b, Q) }) = whereOf F := by
  funext n
  unfold whereOf
  induction F generalizing i with
  | nil => rfl
  | cons g F ih =>
    cases i with
    | zero =>
      have e : g = f := by simpa using hf
      subst e
      rw [List.set_cons_zero, List.findIdx?_cons, List.findIdx?_cons, has_page _ _ _ _ h]
    | succ i =>
      rw [List.set_cons_succ, List.findIdx?_cons, List.findIdx?_cons, ih (by simpa using hf)]
theorem frCells_page {F : List Fr} {i : Nat} {f : Fr} (hf : F[i]? = some f) {b : Nat} {P : List Int} (h : f.pg = some (b, P)) (Q : List Int) : frCells (F.set i { f with pg := some (b, Q) }) = frCells F := by
  induction F generalizing i with
  | nil => rfl
  | cons g F ih =>
    cases i with
    | zero =>
      have e : g = f := by simpa using hf
      subst e
      show Fr.cells _ ++ frCells F = Fr.cells g ++ frCells F
      congr 1
      unfold Fr.cells
      rw [h]; rfl
    | succ i =>
      show g.cells ++ frCells (F.set i _) = g.cells ++ frCells F
      rw [ih (by simpa using hf)]
/-- a frame's page turns -/
theorem PoolAt.setPage {w w' : World} {τ τ' : Tags} {bp bf : Nat} {H : PoolH} {F : List Fr} {s : Ck.Clk.St} (h : PoolAt w τ bp bf H F s) {i : Nat} {f : Fr} (hf : F[i]? = some f) {b : Nat} {P Q : List Int} (hpg : f.pg = some (b, P)) (m : Step w τ w' τ' (fun g => g = tPg i)) (hQ : PageAt w' τ' (tPg i) b Q) :
    PoolAt w' τ' bp bf H (F.set i { f with pg := some (b, Q) }) s := by
  obtain ⟨hi, hfi⟩ := List.getElem?_eq_some_iff.1 hf
  have hget : ∀ (j : Nat) (g : Fr), (F.set i { f with pg := some (b, Q) })[j]? = some g → ∃ g', F[j]? = some g' ∧ (∀ n, g.has n = g'.has n) ∧ (j ≠ i → g = g') := fun j g hg => by
    by_cases e : i = j
    · subst e
      rw [List.getElem?_set_self hi] at hg
      cases hg
      exact ⟨f, hf, fun n => has_page _ _ _ _ hpg n, fun h => absurd rfl h⟩
    · rw [List.getElem?_set_ne e] at hg
      exact ⟨g, hg, fun _ => rfl, fun _ => rfl⟩
  refine ⟨h.hd.step m (by simp [tPool, tPg]), by rw [List.length_set]; exact h.vf, by rw [frCells_page hf hpg]; exact h.fr.step m (by simp [tFr, tPg]), ?_, by rw [whereOf_page hf hpg]; exact h.mp.step m (by simp [tWhere, tPg]), h.ck.step m (by simp [tClk, tPg]), h.n1, by rw [List.length_set]; exact h.k1, by rw [List.length_set]; exact h.sn, h.st, ?_, ?_⟩
  · intro j c R hb
    by_cases e : i = j
    · subst e
      rw [List.getElem?_set_self hi] at hb
      cases hb
      exact hQ
    · rw [List.getElem?_set_ne e] at hb
      exact (h.pg j c R hb).step m (by intro q; apply e; simp [tPg] at q; omega)
  · intro a c n g g2 ha hb h1 h2
    obtain ⟨g', q1, q2, _⟩ := hget a g ha
    obtain ⟨g2', r1, r2, _⟩ := hget c g2 hb
    exact h.one a c n g' g2' q1 r1 (by rw [← q2]; exact h1) (by rw [← r2]; exact h2)
  · intro a n g ha h1
    obtain ⟨g', q1, q2, _⟩ := hget a g ha
    exact h.low a n g' q1 (by rw [← q2]; exact h1)
theorem pagetag_pool (i : Nat) : PoolTag (tPg i) := .inr (.inr (.inr (.inr ⟨i, rfl⟩)))
set_option maxHeartbeats 2000000 in
set_option maxRecDepth 100000 in
theorem put_lsn {w : World} {τ : Tags} {bp bf : Nat} {H : PoolH} {F : List Fr} {s : Ck.Clk.St} (h : PoolAt w τ bp bf H F s) (n lsn : Nat) (hn : n < 4294967296) {i : Nat} (hw : whereOf F n = some i) {f : Fr} (hf : F[i]? = some f) {b : Nat} {P : List Int} (hpg : f.pg = some (b, P)) (hs : ∀ k, s.p k ≤ 1000000) (hpin : Ck.Clk.pinsV s i ≠ 0) (hl0 : 0 < lsn) (hl64 : lsn < 18446744073709551616) {nv : Nat} (hnv : (if f.first = 0 then lsn else f.first) = nv) :
    Calls Tryz.prog 13 #[.pointer (some ⟨bp, 0, none⟩), .int .u32 (n : Int), .int .u64 (lsn : Int)] w fun e w' => e = .returned (.bool (Ck.Clk.unpinB s i)) ∧ ∃ τ', PoolAt w' τ' bp bf H (F.set i ⟨some (b, layN P 0 (leB lsn 8)), f.n, nv⟩) (Ck.Clk.unpinS s i) ∧ Step w τ w' τ' PoolTag := by
  have hk := h.k1
  have hil := (List.getElem?_eq_some_iff.1 hf).1
  have d2 := h.hd.at 2 (v := H.vf) rfl
  rw [h.vf] at d2
  have d3 := h.hd.at 3 (v := .map (some H.bm)) rfl
  have d4 := h.hd.at 4 (v := .pointer (some ⟨H.bc, 0, none⟩)) rfl
  have hlk := h.mp.look n hn
  rw [hw] at hlk
  simp only [Option.getD_some, Option.isSome_some] at hlk
  have h1 := clkpins_any h.ck (i : Int)
  have hP : PageAt w τ (tPg i) b P := h.pg i b P (by rw [hf]; exact hpg)
  have hst := pagestamp_any (Step.refl w τ (fun g => g = tPg i)) (.inl rfl) hP lsn (by rw [show (2 : Nat) ^ 64 = 18446744073709551616 from by decide]; exact hl64)
  obtain ⟨c0, c1, c2⟩ := h.cells hf
  rw [hpg] at c0
  simp only [Option.map_some] at c0
  have hl0' : (0 : Int) < (lsn : Int) := by omega
  generalize hq : Ck.Clk.pinsV s (i : Int) = q at *
  have hq0 : ¬ (q : Int) = 0 := by omega
  generalize hlen : F.length = k at *
  generalize hQ : layN P 0 (leB lsn 8) = Q at *
  generalize hff : f.first = ff at *
  have H_h := Lib.hid h
  have H1 := Lib.hid h1
  have Hst := Lib.hid hst
  have Hf := Lib.hid hf
  have Hlen := Lib.hid hlen
  have Hff := Lib.hid hff
  have Hnv := Lib.hid hnv
  clear h h1 hst hf hlen hff hnv
  go_enter Tryz.func13, Tryz.ntmps13
  go_wp2_with fail
  refine H1.out.mono ?_
  rintro e w' ⟨rfl, rfl⟩
  go_wp2_with fail
  refine Hst.out.mono ?_
  rintro e w1 ⟨rfl, τ1, hP1, -, hs1⟩
  have hp1 := H_h.out.setPage Hf.out hpg hs1 hP1
  have hf1 : (F.set i { f with pg := some (b, Q) })[i]? = some { f with pg := some (b, Q) } := List.getElem?_set_self (by rw [Hlen.out]; exact hil)
  have hl1 : (F.set i { f with pg := some (b, Q) }).length = k := by rw [List.length_set]; exact Hlen.out
  have hss : ∀ y, (F.set i { f with pg := some (b, Q) }).set i y = F.set i y := fun y => List.set_set ..
  have hgn : ({ f with pg := some (b, Q) } : Fr).n = f.n := rfl
  have hgp : ({ f with pg := some (b, Q) } : Fr).pg = some (b, Q) := rfl
  have hgf : ({ f with pg := some (b, Q) } : Fr).first = ff := Hff.out
  generalize F.set i { f with pg := some (b, Q) } = F1 at *
  generalize ({ f with pg := some (b, Q) } : Fr) = g at *
  obtain ⟨x0, x1, x2⟩ := hp1.cells hf1
  rw [hgf] at x2
  have xz2 := hp1.fr.fz (i * 3 + 2)
  have hor : ∀ W : World, W.cell? ⟨w1.heap.size, 0, none⟩ = some (.int .u64 (ff : Int)) → W.cell? ⟨w1.heap.size, 1, none⟩ = some (.int .u64 (lsn : Int)) → Calls Tryz.prog 50 #[.slice (some ⟨w1.heap.size, 0, none⟩) 2 2] W fun e w' => e = .returned (.int .u64 ((if ff = 0 then lsn else ff : Nat) : Int)) ∧ W = w' := fun W a b => cor2_any ff lsn a b
  have hnew := Own.new w1 τ1 tData 38 [.int .u64 (ff : Int), .int .u64 (lsn : Int)]
  have hor1 := hor (w1.alloc (.cells #[.int .u64 (ff : Int), .int .u64 (lsn : Int)] 38)) (hnew.at 0 rfl) (hnew.at 1 rfl)
  have hp1a := hp1.step ((Step.refl w1 τ1 nil).alloc' (.cells #[.int .u64 (ff : Int), .int .u64 (lsn : Int)] 38)) (fun _ _ h => h)
  obtain ⟨a0, a1, a2⟩ := hp1a.cells hf1
  have az2 := hp1a.fr.fz (i * 3 + 2)
  rw [Hnv.out] at hor1
  obtain ⟨hp2, hs2⟩ := hp1a.setFirst hf1 nv
  rw [hss] at hp2
  have h2 := clkunpin_any hp2.ck (i : Int) hs
  have y4 := hp2.hd.at 4 (v := .pointer (some ⟨H.bc, 0, none⟩)) rfl
  have hst2 := ((hs1.mono (T := PoolTag) (fun g hg => by rw [hg]; exact pagetag_pool i)).alloc' (.cells #[.int .u64 (ff : Int), .int .u64 (lsn : Int)] 38)).trans (hs2.mono (T := PoolTag) (fun g hg => .inr (.inl hg)))
  rw [hgp, hgn] at hp2
  rw [hgf] at a2
  have Hor1 := Lib.hid hor1
  have Hp2 := Lib.hid hp2
  have H2 := Lib.hid h2
  have Hst2 := Lib.hid hst2
  clear hor1 hp2 h2 hst2
  clear hor hnew hp1 hp1a hs1 hs2 hP1 Hst hss hf1
  go_wp2_with fail
  refine Hor1.out.mono ?_
  rintro e w' ⟨rfl, rfl⟩
  go_wp2_with fail
  refine H2.out.mono ?_
  rintro e w3 ⟨rfl, hc3, hs3⟩
  have hp3 := Hp2.out.clk hc3 hs3 (PoolAt.clk_n _).2.2.1
  have Hp3 := Lib.hid hp3
  have Hs3 := Lib.hid hs3
  clear hp3 hs3
  clear hc3
  go_wp2_with fail
  go_ret
  exact ⟨rfl, τ1, Hp3.out, Hst2.out.trans (Hs3.out.mono (fun g h => .inr (.inr (.inr (.inl h)))))⟩
end Go.Proofs.YtgjoahddbieliaaGreat

/-
  Pools: Write.
-/
namespace Go.Proofs.YtgjoahddbieliaaGreat
open Go.RowKit
set_option linter.unusedVariables false

theorem write_none {w : World} {τ : Tags} {bp bf : Nat} {H : PoolH} {F : List Fr} {s : Ck.Clk.St} (h : PoolAt w τ bp bf H F s) (n : Nat) (hn : n < 4294967296) (hw : whereOf F n = none) :
    Calls Tryz.prog 21 #[.pointer (some ⟨bp, 0, none⟩), .int .u32 (n : Int)] w fun e w' => e = .returned (.bool false) ∧ w = w' := by
  have d3 := h.hd.at 3 (v := .map (some H.bm)) rfl
  have hlk := h.mp.look n hn
  rw [hw] at hlk
  simp only [Option.getD_none, Option.isSome_none] at hlk
  have H_h := Lib.hid h
  clear h
  go_enter Tryz.func21, Tryz.ntmps21
  go_wp2_with fail
  go_ret
  exact ⟨rfl, rfl⟩
theorem write_clean {w : World} {τ : Tags} {bp bf : Nat} {H : PoolH} {F : List Fr} {s : Ck.Clk.St} (h : PoolAt w τ bp bf H F s) (n : Nat) (hn : n < 4294967296) {i : Nat} (hw : whereOf F n = some i) {f : Fr} (hf : F[i]? = some f) (h0 : f.first = 0) :
    Calls Tryz.prog 21 #[.pointer (some ⟨bp, 0, none⟩), .int .u32 (n : Int)] w fun e w' => e = .returned (.bool false) ∧ w = w' := by
  have hk := h.k1
  have hil := (List.getElem?_eq_some_iff.1 hf).1
  have d2 := h.hd.at 2 (v := H.vf) rfl
  rw [h.vf] at d2
  have d3 := h.hd.at 3 (v := .map (some H.bm)) rfl
  have hlk := h.mp.look n hn
  rw [hw] at hlk
  simp only [Option.getD_some, Option.isSome_some] at hlk
  obtain ⟨c0, c1, c2⟩ := h.cells hf
  rw [h0] at c2
  generalize F.length = k at *
  have H_h := Lib.hid h
  clear h
  go_enter Tryz.func21, Tryz.ntmps21
  go_wp2_with fail
  go_ret
  exact ⟨rfl, rfl⟩
set_option maxRecDepth 100000 in
theorem write_dirty {w : World} {τ : Tags} {bp bf bd : Nat} {H : PoolH} {L : LogM} {D : Dev} {F : List Fr} {s : Ck.Clk.St} (h : PoolW w τ bp bf bd H L D F s) (hr : L.Rise) (hcap : L.stream.length ≤ 127 * L.strips) (hfit0 : L.firstS + L.strips ≤ D.f0.length) (hfit1 : 4 * H.n + 4 ≤ D.f1.length) (hcalm : D.Calm) (hst : H.st + 1 < 18446744073709551616)
    (n : Nat) (hn : n < 4294967296) {i : Nat} (hw : whereOf F n = some i) {f : Fr} {b : Nat} {P : List Int} (hf : F[i]? = some f) (hpg : f.pg = some (b, P)) (hfn : f.n < H.n) (h0 : 0 < f.first) {m : Nat} (hm : pageLSN P = m) (hm64 : m < 18446744073709551616) :
    Calls Tryz.prog 21 #[.pointer (some ⟨bp, 0, none⟩), .int .u32 (n : Int)] w fun e w' => e = .returned (.bool true) ∧ WriteR w τ bp bf bd H L D F s i f P w' := by
  have hwr := poolwrite_any h hr hcap hfit0 hfit1 hcalm hst hf hpg hfn hm hm64
  have hk := h.pool.k1
  have hil := (List.getElem?_eq_some_iff.1 hf).1
  have d2 := h.pool.hd.at 2 (v := H.vf) rfl
  rw [h.pool.vf] at d2
  have d3 := h.pool.hd.at 3 (v := .map (some H.bm)) rfl
  have hlk := h.pool.mp.look n hn
  rw [hw] at hlk
  simp only [Option.getD_some, Option.isSome_some] at hlk
  obtain ⟨c0, c1, c2⟩ := h.pool.cells hf
  have hff : ¬ (f.first : Int) = 0 := by omega
  generalize F.length = k at *
  generalize f.first = ff at *
  have Hwr := Lib.hid hwr
  clear hwr
  clear h hr hcap hcalm hm hm64
  go_enter Tryz.func21, Tryz.ntmps21
  go_wp2_with fail
  refine Hwr.out.mono ?_
  rintro e w1 ⟨rfl, hw1⟩
  have Hw1 := Lib.hid hw1
  clear hw1
  go_wp2_with fail
  go_ret
  exact ⟨rfl, Hw1.out⟩
end Go.Proofs.YtgjoahddbieliaaGreat
