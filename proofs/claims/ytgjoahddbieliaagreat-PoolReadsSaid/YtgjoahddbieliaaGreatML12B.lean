/-
  A log and a pool, and the document's: Make of the chapter's example.
-/
import Derived.Test.YtgjoahddbieliaaGreatMR8
import Derived.Test.YtgjoahddbieliaaGreatMR12C
import Derived.Test.YtgjoahddbieliaaGreatMPoolP
namespace Go.Proofs.YtgjoahddbieliaaGreat
open Go.RowKit
set_option linter.unusedVariables false

/-! ### the tags of the parts are apart -/
theorem LogTag.fst {g : Tag} (h : LogTag g) : 10 ≤ g.1 ∧ g.1 ≤ 12 := by rcases h with rfl | rfl | rfl <;> simp [tLog, tStream, tStarts]
theorem DevTag.fst {g : Tag} (h : DevTag g) : 2 ≤ g.1 ∧ g.1 ≤ 5 := by rcases h with h | h | h | h <;> omega
theorem RDevTag.fst {g : Tag} (h : RDevTag g) : 40 ≤ g.1 ∧ g.1 ≤ 42 := by rcases h with h | h | h <;> omega
theorem RLogTag.fst {g : Tag} (h : RLogTag g) : 50 ≤ g.1 ∧ g.1 ≤ 52 := by rcases h with rfl | rfl | rfl <;> simp [tRLog, tRStream, tRStarts]
theorem RPoolTag.fst {g : Tag} (h : RPoolTag g) : 60 ≤ g.1 ∧ g.1 ≤ 62 := by rcases h with rfl | rfl | rfl <;> simp [tRPool, tRFr, tRClk]
theorem PoolTag.fst {g : Tag} (h : PoolTag g) : g.1 = 20 ∨ (30 ≤ g.1 ∧ g.1 ≤ 33) := by rcases h with rfl | rfl | rfl | rfl | ⟨i, rfl⟩ <;> simp [tPool, tFr, tWhere, tClk, tPg]
theorem WalTag.fst {g : Tag} (h : WalTag g) : 2 ≤ g.1 ∧ g.1 ≤ 12 := by
  rcases h with h | h
  · have := h.fst; omega
  · have := h.fst; omega
theorem RWalTag.fst {g : Tag} (h : RWalTag g) : 40 ≤ g.1 ∧ g.1 ≤ 52 := by
  rcases h with h | h
  · have := h.fst; omega
  · have := h.fst; omega
theorem tData_fst : tData.1 = 1 := rfl
/-- whatever is not a box -/
def AnyTag (g : Tag) : Prop := g.1 ≠ 90
theorem any_mod {w w' : World} {τ' : Tags} (h : Step w (fun _ => tBox) w' τ' AnyTag) : Mod w w' no :=
  ⟨h.mod.os, h.mod.tape, h.mod.output, h.mod.size, fun k hk _ => h.mod.block k hk (fun hS => hS rfl)⟩

/-! ### a new log leaves the pages as they were -/
theorem write_f1 (D : Dev) (k : Nat) (l : List Int) : (D.write 0 k l).f1 = D.f1 := by
  unfold Dev.write
  have hg : D.go.2.f1 = D.f1 := Dev.go_file D 1
  split
  · split
    · exact hg
    · rfl
  · exact hg
theorem sync_f1 (D : Dev) : (D.sync 0).f1 = D.f1 := by
  unfold Dev.sync
  have hg : D.go.2.f1 = D.f1 := Dev.go_file D 1
  split <;> exact hg
theorem makeTo_f1 (D : Dev) (a : Nat) (want : List (List Int)) (i : Nat) : (makeTo D a want i).1.f1 = D.f1 := by
  induction i with
  | zero => rfl
  | succ i ih =>
    show (if _ then makeTo D a want i else _).1.f1 = _
    split
    · exact ih
    · rw [write_f1, ih]
theorem walNew_f1 (D : Dev) : (walNewDev D).f1 = D.f1 := by
  unfold walNewDev sayDev
  rw [sync_f1, write_f1]
  unfold Dev.make
  split
  · rw [sync_f1, makeTo_f1]
  · rw [makeTo_f1]
theorem blank_of {D : Dev} {m : Nat} (h : D.f1 = List.replicate m zsec) (i : Nat) (hi : 4 * i + 4 ≤ m) : lastTo D i 4 = blank := by
  apply List.ext_getElem?
  intro j
  unfold lastTo blank
  rw [List.getElem?_map, List.getElem?_replicate]
  by_cases hj : j < 4
  · rw [List.getElem?_range hj, if_pos hj]
    show some (D.last 1 (4 * i + j)) = some zeros128
    unfold Dev.last
    have : D.file 1 = D.f1 := rfl
    rw [this, h, List.getElem?_replicate, if_pos (by omega)]
    rfl
  · rw [List.getElem?_eq_none (by simp; omega), if_neg hj]; rfl
theorem new_lim (a b : Nat) : (⟨List.replicate a zsec, List.replicate b zsec, none, false⟩ : Dev).lim 0 := by
  intro f k s hk
  unfold Dev.file at hk
  split at hk
  · rw [List.getElem?_replicate] at hk
    split at hk
    · cases hk; exact Nat.le_refl _
    · cases hk
  · split at hk
    · rw [List.getElem?_replicate] at hk
      split at hk
      · cases hk; exact Nat.le_refl _
      · cases hk
    · simp at hk
def knD0 : Dev := ⟨List.replicate 18 zsec, List.replicate 20 zsec, none, false⟩
def knD : Dev := walNewDev knD0
theorem knD_f1 : knD.f1 = List.replicate 20 zsec := walNew_f1 knD0
theorem knD_f1len : knD.f1.length = 20 := by rw [knD_f1, List.length_replicate]
theorem knD_blank (i : Nat) (hi : i < 5) : lastTo knD i 4 = blank := blank_of knD_f1 i (by omega)
end Go.Proofs.YtgjoahddbieliaaGreat

/-
  made: a log and a pool over an empty device.
-/
namespace Go.Proofs.YtgjoahddbieliaaGreat
open Go.RowKit
set_option linter.unusedVariables false

def tWorld : Tag := (71, 0)
def tWas : Tag := (72, 0)
theorem tWorld_fst : tWorld.1 = 71 := rfl
theorem tWas_fst : tWas.1 = 72 := rfl
theorem Tryz.infoBlocks : (Tryz.prog.info? 47).map (fun i => (i.zero, i.size, i.bytes)) = some (some (.slice none 0 0), 1, 24) := by kernel_rfl
def WasN (w : World) (τ : Tags) (v : Value) (n : Nat) : Prop := ∃ xs, Buf w τ tWas 47 1 v n xs
theorem WasN.step {w w' : World} {τ τ' : Tags} {S : Tag → Prop} {v : Value} {n : Nat} (h : WasN w τ v n) (m : Step w τ w' τ' S) (hs : ¬ S tWas) : WasN w' τ' v n := by
  obtain ⟨xs, h⟩ := h
  exact ⟨xs, h.step m hs⟩
theorem WasN.val {w : World} {τ : Tags} {v : Value} {n : Nat} (h : WasN w τ v n) : ∃ p c, v = .slice p n c := by
  obtain ⟨xs, h⟩ := h
  exact h.len
theorem step_append_was {w : World} {τ : Tags} {v : Value} {n : Nat} (hbuf : WasN w τ v n) (hn : n ≤ 1000) {q : Option Addr} {m c : Nat} {kb : Nat} (hkb : kb = w.heap.size)
    {ops : Array Oper} {o : Oper} {a : Act} {K : Act → World → Prop} {Q : Exit → Act → World → Prop} {E : Prop} (hgd : o.guard = none) (s y : Operand)
    (ho : o.op = .call { callee := .builtin .append, args := #[s, y], argTypes := #[29, 29] }) (hs : a.eval s = v) (hy : a.eval y = .slice (some ⟨kb, 0, none⟩) 1 1)
    (h : ∀ v' w' τ', WasN w' τ' v' (n + 1) → Step w τ w' τ' (fun t => t = tWas) → K (a.put o.dst v') w') : if Region.wanted o (yielded ops a.tmps) = true then Oper.wp Tryz.prog o a (w.alloc (.cells #[.slice q m c] 47)) K Q else E := by
  subst hkb
  obtain ⟨xs, hbuf⟩ := hbuf
  have hw : Region.wanted o (yielded ops a.tmps) = true := by simp [Region.wanted, hgd]
  rw [if_pos hw]
  obtain ⟨i0, hi, hz0, hz1, hz2⟩ := info_parts Tryz.infoBlocks
  have hal : Step w τ (w.alloc (.cells #[.slice q m c] 47)) τ nil := (Step.refl w τ nil).alloc' _
  have hbuf2 := hbuf.step hal (fun h => h)
  obtain ⟨v', w', τ', hr, hb', he, hm, hnw⟩ := run_append_buf (P := Tryz.prog) (w.alloc (.cells #[.slice q m c] 47)) τ tWas 29 o.type 47 i0 (.slice none 0 0) 1 24 Tryz.underlying29 hi hz0 hz1 hz2 rfl (by decide) v n xs hbuf2
    (some ⟨w.heap.size, 0, none⟩) 1 1 [.slice q m c] rfl (fun h => by cases h) (by
      intro ad had; cases had; exact World.news_of_block (cs := #[.slice q m c]) (t := 47) (fr := (0, 0)) (heap_alloc_new w _)) (by simp [Value.oneCell']) (by unfold maxLen; omega) (by omega)
  unfold Oper.wp execOp
  simp only [ho, resolve, invoke, builtin, Sem.run_bind, Sem.run_pure, Result.andThen_ok, List.map_toArray, List.map_cons, List.map_nil, hs, hy, hr]
  exact h v' w' τ' ⟨_, hb'⟩ ((hal.mono (fun _ h => h.elim)).trans ⟨hm.mono (fun k hk hS => (hbuf2.own k hS).1), he⟩)
def mdD0 : Dev := ⟨List.replicate 100 zsec, List.replicate 36 zsec, none, false⟩
def mdD : Dev := walNewDev mdD0
theorem mdD_f1 : mdD.f1 = List.replicate 36 zsec := walNew_f1 mdD0
theorem mdD_f1len : mdD.f1.length = 36 := by rw [mdD_f1, List.length_replicate]
theorem mdD_blank (i : Nat) (hi : i < 9) : lastTo mdD i 4 = blank := blank_of mdD_f1 i (by omega)
theorem mdD0_len : mdD0.f0.length = 100 := List.length_replicate
theorem mdD0_lim : mdD0.lim 0 := new_lim 100 36
/-- what made has made -/
structure MadeW (w : World) (τ : Tags) (bw bd bl bp bf n k : Nat) (was : Value) (H : PoolH) (L : LogM) (D : Dev) (F : List Fr) (s : Ck.Clk.St) : Prop where
  own : Own w τ bw tWorld 31 [.pointer (some ⟨bd, 0, none⟩), .pointer (some ⟨bl, 0, none⟩), .pointer (some ⟨bp, 0, none⟩), .int .i64 (k : Int), was]
  was : WasN w τ was n
  pool : PoolW w τ bp bf bd H L D F s
theorem MadeW.step {w w' : World} {τ τ' : Tags} {bw bd bl bp bf n k : Nat} {was : Value} {H : PoolH} {L : LogM} {D : Dev} {F : List Fr} {s : Ck.Clk.St} (h : MadeW w τ bw bd bl bp bf n k was H L D F s) (m : Step w τ w' τ' nil) : MadeW w' τ' bw bd bl bp bf n k was H L D F s :=
  ⟨h.own.step m (fun h => h), h.was.step m (fun h => h), h.pool.step m (fun _ h => h.elim)⟩
set_option maxHeartbeats 4000000 in
set_option maxRecDepth 100000 in
theorem made_yes (w : World) (fr : Nat) (hfr : fr < 256) : Calls Tryz.prog 10 #[.int .u8 7, .int .u8 (fr : Int)] w fun e w' => ∃ (bw bd bl bp bf : Nat) (τ' : Tags) (was : Value) (H : PoolH) (L : LogM), e = .returned (.pointer (some ⟨bw, 0, none⟩)) ∧ MadeW w' τ' bw bd bl bp bf 8 (3 + fr % 5) was H L mdD (List.replicate (3 + fr % 5) Fr.no) (Ck.Clk.newS (3 + fr % 5)) ∧ H.n = 8 ∧ Step w (fun _ => tBox) w' τ' AnyTag := by
  have hnd : Calls Tryz.prog 41 #[.int .i64 100, .int .i64 36] w (NewD w (fun _ => tBox) 100 36) := newdev_any w (fun _ => tBox) 100 36 (by omega) (by omega)
  obtain ⟨L0, hL0⟩ : ∃ L0, walNewLog mdD0.f0.length = L0 := ⟨_, rfl⟩
  have hK : walNewDev mdD0 = mdD := rfl
  have e1 : IntKind.u8.wrap ((fr : Int) % 5) = (fr : Int) % 5 := by
    have : IntKind.u8.wrap ((fr : Int) % 5) = ((fr : Int) % 5) % 256 := by simp [IntKind.wrap, IntKind.bits, IntKind.signed]
    rw [this]; omega
  obtain ⟨k, hk⟩ : ∃ k, 3 + fr % 5 = k := ⟨_, rfl⟩
  have hkI : (3 : Int) + (fr : Int) % 5 = (k : Int) := by omega
  have hk3 : 3 ≤ k ∧ k ≤ 7 := by omega
  rw [hk]
  have Hnd := Lib.hid hnd
  have HL0 := Lib.hid hL0
  have HK := Lib.hid hK
  have Hk := Lib.hid hk
  have HkI := Lib.hid hkI
  clear hnd hL0 hK hk hkI
  go_enter Tryz.func10, Tryz.ntmps10
  go_wp2_with fail
  refine Hnd.out.mono ?_
  rintro e w1 ⟨bd, rfl, hlow1, τ1, he1, hm1, hd1⟩
  have hd1' : DevAt w1 τ1 bd mdD0 := hd1
  have hs1 : Step w (fun _ => tBox) w1 τ1 AnyTag := Step.of _ hm1 he1
  have ho2 := Own.new w1 τ1 tWorld 31 [.pointer (some ⟨bd, 0, none⟩), .pointer none, .pointer none, .int .i64 (k : Int), .slice none 0 0]
  have hq2 := (Step.refl w1 τ1 nil).alloc (.cells ⟨[.pointer (some ⟨bd, 0, none⟩), .pointer none, .pointer none, .int .i64 (k : Int), .slice none 0 0]⟩ 31) tWorld
  have hd2 := hd1'.step hq2 (fun _ h => h.elim)
  have hst2 := hs1.trans (hq2.mono (T := AnyTag) (fun _ h => h.elim))
  generalize τ1.put w1.heap.size tWorld = τ2 at *
  obtain ⟨bw, hbw⟩ : ∃ bw, w1.heap.size = bw := ⟨_, rfl⟩
  rw [hbw] at ho2
  have Ho2 := Lib.hid ho2
  have Hd2 := Lib.hid hd2
  have Hst2 := Lib.hid hst2
  have Hbw := Lib.hid hbw
  clear ho2 hd2 hst2 hbw
  clear hd1 he1 hm1 hd1' hs1 hq2
  go_wp2_with fail
  rw [Hbw.out, HkI.out]
  generalize w1.alloc (.cells #[.pointer (some ⟨bd, 0, none⟩), .pointer none, .pointer none, .int .i64 (k : Int), .slice none 0 0] 31) = w2 at *
  have hnew := walnew_yes Hd2.out (by rw [mdD0_len]; omega) (Dev.lim_mono mdD0_lim (by omega))
  rw [HL0.out, HK.out] at hnew
  have Hnew := Lib.hid hnew
  clear hnew
  refine Hnew.out.mono ?_
  rintro e w4 ⟨bl, τ4, rfl, -, hl4, hd4, hs4⟩
  have ho4 := Ho2.out.step hs4 (fun h => by have := h.fst; rw [tWorld_fst] at this; omega)
  have hst4 := Hst2.out.trans (hs4.mono (T := AnyTag) (fun g hg => by have := hg.fst; show g.1 ≠ 90; omega))
  have c3 := ho4.at 3 (v := .int .i64 (k : Int)) rfl
  have hpn : Calls Tryz.prog 26 #[.pointer (some ⟨bl, 0, none⟩), .int .i64 8, .int .i64 (k : Int)] w4 fun e w' => ∃ bp bf τ' H, e = .returned (.tuple #[.pointer (some ⟨bp, 0, none⟩), .int .u16 0]) ∧ PoolAt w' τ' bp bf H (List.replicate k Fr.no) (Ck.Clk.newS k) ∧ H.bl = bl ∧ H.n = 8 ∧ H.st = stampTo mdD (8 + 1) ∧ w4.heap.size ≤ bp ∧ Step w4 τ4 w' τ' nil :=
    poolnew_yes hl4 hd4 8 k (by omega) (by omega) (by omega) (by omega) (by rw [mdD_f1len]; omega) (fun i hi => by rw [mdD_blank i (by omega)]; exact blank_ok)
  have Ho4 := Lib.hid ho4
  have Hl4 := Lib.hid hl4
  have Hd4 := Lib.hid hd4
  have Hst4 := Lib.hid hst4
  have Hpn := Lib.hid hpn
  clear ho4 hl4 hd4 hst4 hpn
  clear hs4
  go_wp2_with fail
  refine Hpn.out.mono ?_
  rintro e w5 ⟨bp, bf, τ5, H, rfl, hp5, hHl, hHn, -, -, hs5⟩
  have ho5 := Ho4.out.step hs5 (fun h => h)
  have hl5 := Hl4.out.step hs5 (fun _ _ h => h)
  have hd5 := Hd4.out.step hs5 (fun _ h => h.elim)
  have hst5 := Hst4.out.trans (hs5.mono (T := AnyTag) (fun _ h => h.elim))
  have c1 := ho5.at 1 (v := .pointer none) rfl
  have z1 := ho5.fz 1
  have c2 := ho5.at 2 (v := .pointer none) rfl
  have z2 := ho5.fz 2
  have ho6 := (ho5.set 1 (.pointer (some ⟨bl, 0, none⟩))).set 2 (.pointer (some ⟨bp, 0, none⟩))
  have hq6 : Step w5 τ5 ((w5.setCell ⟨bw, 1, none⟩ (.pointer (some ⟨bl, 0, none⟩))).setCell ⟨bw, 2, none⟩ (.pointer (some ⟨bp, 0, none⟩))) τ5 (fun t => t = tWorld) := ((Step.refl w5 τ5 (fun t => t = tWorld)).set (o := 1) ho5.tag rfl _).set (o := 2) (ho5.set 1 (.pointer (some ⟨bl, 0, none⟩))).tag rfl _
  have hP6 : PoolW ((w5.setCell ⟨bw, 1, none⟩ (.pointer (some ⟨bl, 0, none⟩))).setCell ⟨bw, 2, none⟩ (.pointer (some ⟨bp, 0, none⟩))) τ5 bp bf bd H L0 mdD (List.replicate k Fr.no) (Ck.Clk.newS k) :=
    (PoolW.mk hp5 (by rw [hHl]; exact hl5) hd5).step hq6 (fun g hg => by
      subst hg
      exact ⟨fun h => by have := h.fst; rw [tWorld_fst] at this; omega, fun h => by have := h.fst; rw [tWorld_fst] at this; omega, fun h => by have := h.fst; rw [tWorld_fst] at this; omega, by decide⟩)
  have hM6 : MadeW ((w5.setCell ⟨bw, 1, none⟩ (.pointer (some ⟨bl, 0, none⟩))).setCell ⟨bw, 2, none⟩ (.pointer (some ⟨bp, 0, none⟩))) τ5 bw bd bl bp bf 0 k (.slice none 0 0) H L0 mdD (List.replicate k Fr.no) (Ck.Clk.newS k) :=
    ⟨ho6, ⟨[], Buf.nil _ _ _ _ _⟩, hP6⟩
  have hst6 := hst5.trans (hq6.mono (T := AnyTag) (fun g hg => by show g.1 ≠ 90; rw [hg]; decide))
  have HM6 := Lib.hid hM6
  have HHn := Lib.hid hHn
  have Hst6 := Lib.hid hst6
  clear hM6 hHn hst6
  clear hp5 hl5 hd5 hst5 hs5 ho5 ho6 hq6 hP6 hHl
  go_wp2_with fail
  generalize (w5.setCell ⟨bw, 1, none⟩ (.pointer (some ⟨bl, 0, none⟩))).setCell ⟨bw, 2, none⟩ (.pointer (some ⟨bp, 0, none⟩)) = w6 at *
  go_loopw [11] (fun v wr => ∃ (i : Nat) (τr : Tags) (was : Value), i ≤ 8 ∧ v = .int .i64 (i : Int) ∧ MadeW wr τr bw bd bl bp bf i k was H L0 mdD (List.replicate k Fr.no) (Ck.Clk.newS k) ∧ Step w (fun _ => tBox) wr τr AnyTag) (fun v _ => 8 - (intOf v).toNat)
  case atStart => exact ⟨0, τ5, _, Nat.zero_le _, rfl, HM6.out, Hst6.out⟩
  case round =>
    clear HM6 Hst6 c1 z1 c2 z2 c3
    obtain ⟨i, τr, was, hi, rfl, hM, hst⟩ := hrel
    by_cases hlt : i < 8
    · have c4 := hM.own.at 4 (v := was) rfl
      obtain ⟨pw, cw, rfl⟩ := hM.was.val
      have hi8 : (i : Int) < 8 := by omega
      have hwu : IntKind.u32.wrap (i : Int) = (i : Int) := u32_wrap' i (by omega)
      have hpg := pagenew_any wr.drew τr tData i (by omega)
      have hMd := hM.step (Step.refl wr τr nil).drew
      have hst0 := hst.drew
      have Hpg := Lib.hid hpg
      have HMd := Lib.hid hMd
      have HM := Lib.hid hM
      have Hst0 := Lib.hid hst0
      clear hpg hMd hM hst0
      clear hst
      go_wp2_with fail
      refine wp_region_L (S := fun w' : World => w'.cell? ⟨bw, 4, none⟩ = some (.slice pw i cw)) (by kernel_rfl) ?_
      have hSS : wr.drew.cell? ⟨bw, 4, none⟩ = some (.slice pw i cw) := c4
      refine wpAnyL_take (i := 0) (v := ?_) rfl (by decide +kernel) (by decide +kernel) (by decide +kernel) (by decide +kernel) (fun _ _ _ h => h) (Or.inl ⟨by rfl, ?_⟩) (by assumption) ?_
      rotate_left
      · intro w hSw
        (try dsimp only at hSw)
        go_simp
        all_goals with_reducible rfl
      try simp only [Act.put]
      try simp only [List.setIfInBounds_toArray]
      try simp only [List.set_cons_succ]
      try simp only [List.set_cons_zero]
      refine wpAnyL_take (i := 1) (v := ?_) rfl (by decide +kernel) (by decide +kernel) (by decide +kernel) (by decide +kernel) (fun _ _ _ h => h) (Or.inl ⟨by rfl, ?_⟩) (by assumption) ?_
      rotate_left
      · intro w hSw
        (try dsimp only at hSw)
        go_simp
        all_goals with_reducible rfl
      try simp only [Act.put]
      try simp only [List.setIfInBounds_toArray]
      try simp only [List.set_cons_succ]
      try simp only [List.set_cons_zero]
      refine wpAnyL_take (i := 2) (v := ?_) rfl (by decide +kernel) (by decide +kernel) (by decide +kernel) (by decide +kernel) (fun _ _ _ h => h) (Or.inl ⟨by rfl, ?_⟩) (by assumption) ?_
      rotate_left
      · intro w hSw
        (try dsimp only at hSw)
        go_simp
        all_goals with_reducible rfl
      try simp only [Act.put]
      try simp only [List.setIfInBounds_toArray]
      try simp only [List.set_cons_succ]
      try simp only [List.set_cons_zero]
      refine wpAnyL_take (i := 3) (v := ?_) rfl (by decide +kernel) (by decide +kernel) (by decide +kernel) (by decide +kernel) (fun _ _ _ h => h) (Or.inl ⟨by rfl, ?_⟩) (by assumption) ?_
      rotate_left
      · intro w hSw
        (try dsimp only at hSw)
        go_simp
        all_goals with_reducible rfl
      try simp only [Act.put]
      try simp only [List.setIfInBounds_toArray]
      try simp only [List.set_cons_succ]
      try simp only [List.set_cons_zero]
      refine wpAnyL_take (i := 4) (v := ?_) rfl (by decide +kernel) (by decide +kernel) (by decide +kernel) (by decide +kernel) (fun _ _ _ h => h) (Or.inl ⟨by rfl, ?_⟩) (by assumption) ?_
      rotate_left
      · intro w hSw
        (try dsimp only at hSw)
        go_simp
        all_goals with_reducible rfl
      try simp only [Act.put]
      try simp only [List.setIfInBounds_toArray]
      try simp only [List.set_cons_succ]
      try simp only [List.set_cons_zero]
      refine wpAnyL_take (i := 5) (v := ?_) rfl (by decide +kernel) (by decide +kernel) (by decide +kernel) (by decide +kernel) (fun _ _ _ h => h) (Or.inl ⟨by rfl, ?_⟩) (by assumption) ?_
      rotate_left
      · intro w hSw
        (try dsimp only at hSw)
        go_simp
        all_goals with_reducible rfl
      try simp only [Act.put]
      try simp only [List.setIfInBounds_toArray]
      try simp only [List.set_cons_succ]
      try simp only [List.set_cons_zero]
      refine wpAnyL_take (i := 6) (v := ?_) rfl (by decide +kernel) (by decide +kernel) (by decide +kernel) (by decide +kernel) (fun _ _ _ h => h) (Or.inl ⟨by rfl, ?_⟩) (by assumption) ?_
      rotate_left
      · intro w hSw
        (try dsimp only at hSw)
        go_simp
        all_goals with_reducible rfl
      try simp only [Act.put]
      try simp only [List.setIfInBounds_toArray]
      try simp only [List.set_cons_succ]
      try simp only [List.set_cons_zero]
      clear hSS
      refine wpAnyL_one (i := 7) (by decide +kernel) rfl (fun K hK => ?_)
      go_simp
      go_at_call 43
      refine Hpg.out.mono ?_
      rintro e w7 ⟨b7, τ7, rfl, -, hpg7, hs7⟩
      have hM7 := HMd.out.step hs7
      have hby := pagebytes_any hpg7 tData
      have d4 := hM7.own.at 4 (v := .slice pw i cw) rfl
      have hst7 := Hst0.out.trans (hs7.mono (T := AnyTag) (fun _ h => h.elim))
      have HM7 := Lib.hid hM7
      have Hby := Lib.hid hby
      have Hst7 := Lib.hid hst7
      clear hM7 hby hst7
      clear hs7 hpg7
      refine hK.out _ _ (fun _ => d4) ?_
      clear hK K
      refine wpAnyL_one (i := 8) (by decide +kernel) rfl (fun K hK => ?_)
      go_simp
      go_at_call 28
      refine Hby.out.mono ?_
      rintro e w8 ⟨v8, τ8, rfl, hn8, hs8⟩
      have hM8 := HM7.out.step hs8
      have e4 := hM8.own.at 4 (v := .slice pw i cw) rfl
      obtain ⟨p8, c8, rfl⟩ := hn8.val
      have hM9 := hM8.step ((Step.refl w8 τ8 nil).alloc' (.cells #[.slice p8 (emptyPage i).length c8] 43))
      have e49 := hM9.own.at 4 (v := .slice pw i cw) rfl
      have hst9 := (Hst7.out.trans (hs8.mono (T := AnyTag) (fun _ h => h.elim))).alloc' (.cells #[.slice p8 (emptyPage i).length c8] 43)
      generalize (emptyPage i).length = m8 at *
      have HM8 := Lib.hid hM8
      have HM9 := Lib.hid hM9
      have Hst9 := Lib.hid hst9
      clear hM8 hM9 hst9
      clear hs8 hn8
      refine hK.out _ _ (fun _ => e4) ?_
      clear hK K
      refine wpAnyL_one (i := 9) (by decide +kernel) rfl (fun K hK => ?_)
      go_simp
      refine hK.out _ _ (fun _ => e49) ?_
      clear hK K
      refine wpAnyL_one (i := 10) (by decide +kernel) rfl (fun K hK => ?_)
      go_simp
      refine hK.out _ _ (fun _ => (HM9.out.own.alloc _).at 4 rfl) ?_
      clear hK K
      refine wpAnyL_one (i := 11) (by decide +kernel) rfl (fun K hK => ?_)
      refine step_append_was HM9.out.was (by omega) (by simp) rfl _ _ rfl rfl rfl ?_
      intro v3 w3 τ3 hb3 hs3
      obtain ⟨p3, n3, rfl⟩ := hb3.val
      have ho3 := HM9.out.own.step hs3 (by decide)
      have g4 := ho3.at 4 (v := .slice pw i cw) rfl
      have z4 := ho3.fz 4
      have hP3 := HM9.out.pool.step hs3 (fun g hg => by
        subst hg
        exact ⟨fun h => by have := h.fst; rw [tWas_fst] at this; omega, fun h => by have := h.fst; rw [tWas_fst] at this; omega, fun h => by have := h.fst; rw [tWas_fst] at this; omega, by decide⟩)
      have hq3 : Step w3 τ3 (w3.setCell ⟨bw, 4, none⟩ (.slice p3 (i + 1) n3)) τ3 (fun t => t = tWorld) := (Step.refl w3 τ3 (fun t => t = tWorld)).set ho3.tag rfl _
      have hM3 : MadeW (w3.setCell ⟨bw, 4, none⟩ (.slice p3 (i + 1) n3)) τ3 bw bd bl bp bf (i + 1) k (.slice p3 (i + 1) n3) H L0 mdD (List.replicate k Fr.no) (Ck.Clk.newS k) :=
        ⟨ho3.set 4 _, hb3.step hq3 (by decide), hP3.step hq3 (fun g hg => by
          subst hg
          exact ⟨fun h => by have := h.fst; rw [tWorld_fst] at this; omega, fun h => by have := h.fst; rw [tWorld_fst] at this; omega, fun h => by have := h.fst; rw [tWorld_fst] at this; omega, by decide⟩)⟩
      have hst3 := (Hst9.out.trans (hs3.mono (T := AnyTag) (fun g hg => by show g.1 ≠ 90; rw [hg]; decide))).trans (hq3.mono (T := AnyTag) (fun g hg => by show g.1 ≠ 90; rw [hg]; decide))
      have HM3 := Lib.hid hM3
      have Hst3 := Lib.hid hst3
      clear hM3 hst3
      clear ho3 hb3 hs3 hP3 hq3
      refine hK.out _ _ (fun _ => g4) ?_
      clear hK K
      refine wpAnyL_one (i := 12) (by decide +kernel) rfl (fun K hK => ?_)
      go_simp
      refine hK.out _ _ (fun _ => g4) ?_
      clear hK K
      refine wpAnyL_one (i := 13) (by decide +kernel) rfl (fun K hK => ?_)
      go_simp
      refine hK.out _ _ (fun _ => g4) ?_
      clear hK K
      refine wpAnyL_one (i := 14) (by decide +kernel) rfl (fun K hK => ?_)
      go_simp
      refine hK.out _ _ (fun h => absurd h (by decide +kernel)) ?_
      clear hK K
      refine wpAnyL_done (by kernel_rfl) ?_ _
      go_wp2_with fail
      go_round
      case rel =>
        have hr1 := HM3.out
        have hr2 := Hst3.out
        first
          | exact ⟨i + 1, τ3, _, by omega, by simp, hr1, hr2⟩
          | exact ⟨i + 1, by omega, by simp, τ3, ⟨_, hr1⟩, hr2⟩
          | exact ⟨i + 1, by omega, τ3, ⟨_, hr1⟩, hr2⟩
      case measure => simp [intOf]; omega
    · obtain rfl : i = 8 := by omega
      have HM := Lib.hid hM
      have Hst := Lib.hid hst
      clear hM hst
      go_wp2_with fail
      go_ret
      exact ⟨bw, bd, bl, bp, bf, τr, was, H, L0, rfl, HM.out, HHn.out, Hst.out⟩
end Go.Proofs.YtgjoahddbieliaaGreat
