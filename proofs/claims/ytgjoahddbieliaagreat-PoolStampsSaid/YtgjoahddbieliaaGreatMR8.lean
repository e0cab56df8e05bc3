/-
  The reference's log: how it lies in memory; on, and what it tells.
-/
import Derived.Test.YtgjoahddbieliaaGreatMR5E
import Derived.Test.YtgjoahddbieliaaGreatMR1
import Derived.Test.YtgjoahddbieliaaGreatMWalC
namespace Go.Proofs.YtgjoahddbieliaaGreat
open Go.RowKit
set_option linter.unusedVariables false

def tRLog : Tag := (50, 0)
def tRStream : Tag := (51, 0)
def tRStarts : Tag := (52, 0)
def RLogTag (g : Tag) : Prop := g = tRLog ∨ g = tRStream ∨ g = tRStarts
def rlogCells (L : LogM) (bd : Nat) (vs vt : Value) : List Value :=
  [.pointer (some ⟨bd, 0, none⟩), .int .i64 (L.strips : Int), .int .i64 (L.area : Int), .int .u64 (L.base : Int), vs, vt, .int .i64 (L.lasts : Int), .int .u64 (L.check : Int), .int .u64 (L.stamp : Int), .int .i64 (L.slot : Int)]
structure RLogAt (w : World) (τ : Tags) (bl bd : Nat) (L : LogM) : Prop where
  is : ∃ vs vt, Own w τ bl tRLog 178 (rlogCells L bd vs vt) ∧ Buf w τ tRStream 5 1 vs L.stream.length (u8s L.stream) ∧ Buf w τ tRStarts 3 1 vt L.starts.length (i64s L.starts)
  isB : IsB L.stream
  ok : L.ok
theorem RLogAt.step {w w' : World} {τ τ' : Tags} {S : Tag → Prop} {bl bd : Nat} {L : LogM} (h : RLogAt w τ bl bd L) (m : Step w τ w' τ' S) (hs : ∀ g, RLogTag g → ¬ S g) : RLogAt w' τ' bl bd L := by
  obtain ⟨vs, vt, ho, h1, h2⟩ := h.is
  exact ⟨⟨vs, vt, ho.step m (hs _ (.inl rfl)), h1.step m (hs _ (.inr (.inl rfl))), h2.step m (hs _ (.inr (.inr rfl)))⟩, h.isB, h.ok⟩
theorem rlogtag_dev {g : Tag} (h : RLogTag g) : ¬ RDevTag g := by
  rcases h with rfl | rfl | rfl <;> simp [RDevTag, tRLog, tRStream, tRStarts]
theorem rdevtag_log {g : Tag} (h : RDevTag g) : ¬ RLogTag g := fun k => rlogtag_dev k h
theorem r8base {w : World} {τ : Tags} {bl bd : Nat} {L : LogM} (h : RLogAt w τ bl bd L) :
    Calls Tryz.prog 87 #[.pointer (some ⟨bl, 0, none⟩)] w fun e w' => e = .returned (.int .u64 (L.base : Int)) ∧ w = w' := by
  obtain ⟨vs, vt, ho, -, -⟩ := h.is
  have c3 := ho.at 3 (v := .int .u64 (L.base : Int)) rfl
  clear h ho
  go_enter Tryz.func87, Tryz.ntmps87
  go_wp2_with fail
  go_ret
  exact ⟨rfl, rfl⟩
theorem r8check {w : World} {τ : Tags} {bl bd : Nat} {L : LogM} (h : RLogAt w τ bl bd L) :
    Calls Tryz.prog 92 #[.pointer (some ⟨bl, 0, none⟩)] w fun e w' => e = .returned (.int .u64 (L.check : Int)) ∧ w = w' := by
  obtain ⟨vs, vt, ho, -, -⟩ := h.is
  have c3 := ho.at 7 (v := .int .u64 (L.check : Int)) rfl
  clear h ho
  go_enter Tryz.func92, Tryz.ntmps92
  go_wp2_with fail
  go_ret
  exact ⟨rfl, rfl⟩
theorem r8lasts {w : World} {τ : Tags} {bl bd : Nat} {L : LogM} (h : RLogAt w τ bl bd L) :
    Calls Tryz.prog 90 #[.pointer (some ⟨bl, 0, none⟩)] w fun e w' => e = .returned (.int .u64 ((L.base + L.lasts : Nat) : Int)) ∧ Step w τ w' τ nil := by
  obtain ⟨vs, vt, ho, hs, _⟩ := h.is
  have c1 := ho.at 3 (v := .int .u64 (L.base : Int)) rfl
  have c9 := ho.at 6 (v := .int .i64 (L.lasts : Int)) rfl
  have hb := h.ok.base
  have hl := h.ok.stream
  have hla := h.ok.lasts
  have hw := u64_wrap L.lasts (by omega)
  have hw2 := u64_add (a := L.base) (b := L.lasts) (by omega)
  generalize L.lasts = n at *
  generalize L.base = bs at *
  clear h ho hs
  clear hb hl hla
  go_enter Tryz.func90, Tryz.ntmps90
  go_wp2_with fail
  go_quiet (fail)
  go_wp2_with fail
  go_ret
  exact ⟨rfl, (Step.refl w τ nil).drews nq⟩
theorem r8end {w : World} {τ : Tags} {bl bd : Nat} {L : LogM} (h : RLogAt w τ bl bd L) :
    Calls Tryz.prog 89 #[.pointer (some ⟨bl, 0, none⟩)] w fun e w' => e = .returned (.int .u64 ((L.base + L.stream.length : Nat) : Int)) ∧ Step w τ w' τ nil := by
  obtain ⟨vs, vt, ho, hs, _⟩ := h.is
  obtain ⟨p, c, rfl⟩ := hs.len
  have c1 := ho.at 3 (v := .int .u64 (L.base : Int)) rfl
  have c9 := ho.at 4 (v := .slice p L.stream.length c) rfl
  have hb := h.ok.base
  have hl := h.ok.stream
  have hw := u64_wrap L.stream.length (by omega)
  have hw2 := u64_add (a := L.base) (b := L.stream.length) (by omega)
  generalize L.stream.length = n at *
  generalize L.base = bs at *
  clear h ho hs
  clear hb hl
  go_enter Tryz.func89, Tryz.ntmps89
  go_wp2_with fail
  go_quiet (fail)
  go_wp2_with fail
  go_ret
  exact ⟨rfl, (Step.refl w τ nil).drews nq⟩
theorem r8first {w : World} {τ : Tags} {bl bd : Nat} {L : LogM} (h : RLogAt w τ bl bd L) (a : Nat) (ha : a < 2) :
    Calls Tryz.prog 174 #[.pointer (some ⟨bl, 0, none⟩), .int .i64 (a : Int)] w fun e w' => e = .returned (.int .i64 ((2 + a * L.strips : Nat) : Int)) ∧ w = w' := by
  obtain ⟨vs, vt, ho, -, -⟩ := h.is
  have c1 := ho.at 1 (v := .int .i64 (L.strips : Int)) rfl
  have hs := h.ok.strips
  have e : ((2 + a * L.strips : Nat) : Int) = 2 + (a : Int) * (L.strips : Int) := by push_cast; rfl
  rw [e]
  clear h ho e
  rcases (by omega : a = 0 ∨ a = 1) with rfl | rfl
  · go_enter Tryz.func174, Tryz.ntmps174
    go_wp2_with fail
    go_ret
    exact ⟨by simp, rfl⟩
  · go_enter Tryz.func174, Tryz.ntmps174
    go_wp2_with fail
    go_ret
    exact ⟨by simp, rfl⟩
/-! ### on -/
theorem r8on_yes {w : World} {τ : Tags} {bd : Nat} {D : Dev} (h : RDevAt w τ bd D) (h18 : 18 ≤ D.f0.length) :
    Calls Tryz.prog 138 #[.pointer (some ⟨bd, 0, none⟩)] w fun e w' => ∃ bl τ', e = .returned (.tuple #[.pointer (some ⟨bl, 0, none⟩), .bool true]) ∧ w.heap.size ≤ bl ∧ RLogAt w' τ' bl bd (newLog D.f0.length) ∧ Step w τ w' τ' nil := by
  have hsz := r5size' h 0 (by omega)
  have hlen := r5length h 0 (by omega)
  have hf0 : D.file 0 = D.f0 := rfl
  rw [hf0] at hsz hlen
  generalize hn : D.f0.length = n at *
  have hl := Own.new w τ tRLog 178 (rlogCells (newLog n) bd (.slice none 0 0) (.slice none 0 0))
  have hst := (Step.refl w τ nil).alloc (.cells ⟨rlogCells (newLog n) bd (.slice none 0 0) (.slice none 0 0)⟩ 178) tRLog
  have hok : (newLog n).ok := ⟨by simp [newLog], by simp [newLog], by simp [newLog], by simp [newLog], by simp only [newLog]; omega, by simp [newLog], by simp [newLog], by simp [newLog], by simp [newLog]⟩
  have e1 : ((n : Int) - 2) / 2 = (((n - 2) / 2 : Nat) : Int) := by omega
  have hs8 : 8 ≤ (n - 2) / 2 := by omega
  have hcells : rlogCells (newLog n) bd (.slice none 0 0) (.slice none 0 0) = [.pointer (some ⟨bd, 0, none⟩), .int .i64 (((n - 2) / 2 : Nat) : Int), .int .i64 0, .int .u64 0, .slice none 0 0, .slice none 0 0, .int .i64 0, .int .u64 0, .int .u64 0, .int .i64 0] := rfl
  have hnl : RLogAt (w.alloc (.cells ⟨rlogCells (newLog n) bd (.slice none 0 0) (.slice none 0 0)⟩ 178)) (τ.put w.heap.size tRLog) w.heap.size bd (newLog n) :=
    ⟨⟨_, _, hl, Buf.nil _ _ _ _ _, Buf.nil _ _ _ _ _⟩, fun x hx => by simp [newLog] at hx, hok⟩
  rw [hcells] at hnl hst
  generalize hq : (n - 2) / 2 = s at *
  have Hsz := Lib.hid hsz
  have Hst := Lib.hid hst
  have Hnl := Lib.hid hnl
  have H_e1 := Lib.hid e1
  clear hsz hst hnl e1
  clear h hl hok hcells
  go_enter Tryz.func138, Tryz.ntmps138
  go_wp2_with fail
  refine Hsz.out.mono ?_
  rintro e w' ⟨rfl, rfl⟩
  have e3 : ((n : Int) - 2) / 2 = (s : Int) := by omega
  have e4 : decide ((8 : Int) ≤ (s : Int)) = true := by simp; omega
  go_wp2_with fail
  go_ret2
  exact ⟨w.heap.size, _, rfl, Nat.le_refl _, Hnl.out, Hst.out⟩
end Go.Proofs.YtgjoahddbieliaaGreat

/-
  The reference's log: lay.
-/
namespace Go.Proofs.YtgjoahddbieliaaGreat
open Go.RowKit
set_option linter.unusedVariables false

theorem toU8_ne {l m : List Int} (hl : IsB l) (hm : IsB m) (h : l ≠ m) : (toU8 l != toU8 m) = true ∧ (toU8 l == toU8 m) = false := by
  have := toU8_eq hl hm
  rw [decide_eq_false h] at this
  exact ⟨by rw [bne, this]; rfl, this⟩
theorem rdevtag_data : ¬ RDevTag tData := by simp [RDevTag, tData]
set_option maxRecDepth 100000 in
theorem r8lay {w : World} {τ : Tags} {bl bd : Nat} {L : LogM} {D : Dev} (hl : RLogAt w τ bl bd L) (hd : RDevAt w τ bd D) {g : Tag} {v : Value} {want : List (List Int)} (hw : Waits w τ g v want) (hg : ¬ RDevTag g) (from_ n : Nat) (hfit : from_ + n ≤ D.f0.length) (hlim : D.lim 800000) :
    Calls Tryz.prog 139 #[.pointer (some ⟨bl, 0, none⟩), .int .i64 (from_ : Int), .int .i64 (n : Int), v] w (RDevR w τ bd (D.make from_ n want) (.tuple #[])) := by
  have rn := run_noughts
  have hlen := r5length hd 0 (by omega)
  have hf0 : D.file 0 = D.f0 := rfl
  rw [hf0] at hlen
  obtain ⟨pw, cw, rfl, hwm, -⟩ := hw.read
  generalize hnw : want.length = nw at *
  have Hl := Lib.hid hl
  have Hw := Lib.hid hw
  have Hd := Lib.hid hd
  have Hlim := Lib.hid hlim
  have Hnw := Lib.hid hnw
  clear hl hw hd hlim hnw
  go_enter Tryz.func139, Tryz.ntmps139
  go_wp2_with fail
  go_loopw [8, 9] (fun c v wr => ∃ (i : Nat) (τr : Tags), i ≤ n ∧ v = .int .i64 (i : Int) ∧ c = .bool (makeTo D from_ want i).2 ∧ RDevAt wr τr bd (makeTo D from_ want i).1 ∧ Step w τ wr τr RDevTag) (fun _ v _ => n - (intOf v).toNat)
  case atStart => exact ⟨0, _, Nat.zero_le _, rfl, rfl, Hd.out, Step.refl _ _ _⟩
  case round =>
    obtain ⟨i, τr, hi, rfl, rfl, hd, hst⟩ := hrel
    have hlr := Hl.out.step hst (fun g hg hS => rlogtag_dev hg hS)
    obtain ⟨vs, vt, ho, -, -⟩ := hlr.is
    have c4 := ho.at 0 (v := .pointer (some ⟨bd, 0, none⟩)) rfl
    have hlE := makeTo_length D from_ want i 0
    have hlimE := makeTo_lim Hlim.out from_ want i
    have hsucc : makeTo D from_ want (i + 1) = if (makeTo D from_ want i).1.last 0 (from_ + i) = wantAt want i then makeTo D from_ want i else ((makeTo D from_ want i).1.write 0 (from_ + i) (wantAt want i), true) := rfl
    rw [hf0] at hlE
    generalize hE : (makeTo D from_ want i).1 = E at *
    generalize hC : (makeTo D from_ want i).2 = C at *
    by_cases hlt : i < n
    · -- what it is to be, in the world behind the noughts
      have hz := Bytes.noughts wr τr tData 128 (by unfold maxLen; omega)
      have hsz := (Step.refl wr τr nil).alloc (.cells (madeCells #[.int .u8 0] 128) 5) tData
      have hw128 : (wantAt want i).length = 128 := by
        unfold wantAt
        split
        · rename_i hin
          obtain ⟨p', c', _, _, hr⟩ := Hw.out.read
          have hx : want[i]? = some (want.getD i []) := by rw [List.getD_eq_getElem?_getD, List.getElem?_eq_getElem hin]; rfl
          exact (hr i _ hx).1
        · simp [zeros128]
      obtain ⟨vb, hvb, hvl⟩ : ∃ vb, Bytes (wr.alloc (.cells (madeCells #[.int .u8 0] 128) 5)) (τr.put wr.heap.size tData) tData vb (wantAt want i) ∧ ((i < nw ∧ ∃ b, pw = some ⟨b, 0, none⟩ ∧ (wr.alloc (.cells (madeCells #[.int .u8 0] 128) 5)).cell? ⟨b, i, none⟩ = some vb) ∨ (¬ i < nw ∧ vb = .slice (some ⟨wr.heap.size, 0, none⟩) 128 128)) := by
        by_cases hin : i < nw
        · obtain ⟨p', c', hv', _, hr⟩ := ((Hw.out.step hst hg rdevtag_data).step hsz (fun h => h) (fun h => h)).read
          cases hv'
          obtain ⟨x, hx⟩ : ∃ x, want[i]? = some x := ⟨_, List.getElem?_eq_getElem (by rw [Hnw.out]; exact hin)⟩
          obtain ⟨_, b, u, hpb, hc, hb⟩ := hr i x hx
          refine ⟨u, ?_, .inl ⟨hin, b, hpb, hc⟩⟩
          unfold wantAt
          rw [if_pos (by rw [Hnw.out]; exact hin), List.getD_eq_getElem?_getD, hx]; exact hb
        · refine ⟨_, ?_, .inr ⟨hin, rfl⟩⟩
          unfold wantAt
          rw [if_neg (by rw [Hnw.out]; exact hin)]; exact hz
      have hq : E.file 0 = E.f0 := rfl
      have hrd := r5read (hd.step hsz (fun _ h => h.elim)) 0 (by omega) (from_ + i) (by omega) tData
      have hl128 := (r5last128 hd 0 (from_ + i) (by omega) (by omega)).1
      rw [Int.natCast_add] at hrd
      obtain ⟨pb, kb, rfl, -, -⟩ := hvb.any
      rw [hw128] at hvb hvl
      have a1 : (from_ : Int) + (i : Int) ≤ 4096 := by omega
      have c4' := (ho.alloc (.cells (madeCells #[.int .u8 0] 128) 5)).at 0 (v := .pointer (some ⟨bd, 0, none⟩)) rfl
      generalize hwa : wantAt want i = x at *
      generalize hla : E.last 0 (from_ + i) = y at *
      have hwlt : pw = none → ¬ i < nw := fun hp hin => by
        rcases hvl with ⟨_, b, rfl, _⟩ | ⟨h, _⟩
        · cases hp
        · exact h hin
      clear ho hz hwa hwlt hq
      rcases hvl with ⟨hin, b, rfl, cb⟩ | ⟨hnin, hvz⟩
      · have hin2 : (i : Int) < (nw : Int) := by omega
        by_cases heq : y = x
        · rw [if_pos heq] at hsucc
          have Hd := Lib.hid hd
          have Hst := Lib.hid hst
          have Hlr := Lib.hid hlr
          have HlE := Lib.hid hlE
          have HlimE := Lib.hid hlimE
          have Hsucc := Lib.hid hsucc
          have HE := Lib.hid hE
          have HC := Lib.hid hC
          have Hvb := Lib.hid hvb
          have Hw128 := Lib.hid hw128
          have Hrd := Lib.hid hrd
          have Hl128 := Lib.hid hl128
          have Heq := Lib.hid heq
          have Hla := Lib.hid hla
          have Hsz := Lib.hid hsz
          clear hd hst hlr hlE hlimE hsucc hE hC hvb hw128 hrd hl128 heq hla hsz
          go_wp2_with fail
          refine Hrd.out.mono ?_
          rintro e w1 ⟨u1, τ1, rfl, hb1, hs1⟩
          obtain ⟨p1, k1, rfl, -, -⟩ := hb1.any
          rw [Hl128.out] at hb1 ⊢
          have k1c := hb1.conv
          have k2c := (Hvb.out.step hs1 (fun h => h)).conv
          rw [Heq.out] at k1c
          have hs01 := Hsz.out.trans hs1
          have hd1 := Hd.out.step hs01 (fun _ h => h.elim)
          have hst1 := Hst.out.trans (hs01.mono (fun _ h => h.elim))
          have Hd1 := Lib.hid hd1
          have Hst1 := Lib.hid hst1
          clear hd1 hst1
          clear hb1 hs1 hs01
          generalize toU8 x = xs at *
          go_wp2_with fail
          go_round
          case rel => exact ⟨i + 1, τ1, by omega, by simp, by rw [Hsucc.out, HC.out], by rw [Hsucc.out, HE.out]; exact Hd1.out, Hst1.out⟩
          case measure => simp [intOf]; omega
        · rw [if_neg heq] at hsucc
          have Hd := Lib.hid hd
          have Hst := Lib.hid hst
          have Hlr := Lib.hid hlr
          have HlE := Lib.hid hlE
          have HlimE := Lib.hid hlimE
          have Hsucc := Lib.hid hsucc
          have HE := Lib.hid hE
          have HC := Lib.hid hC
          have Hvb := Lib.hid hvb
          have Hw128 := Lib.hid hw128
          have Hrd := Lib.hid hrd
          have Hl128 := Lib.hid hl128
          have Heq := Lib.hid heq
          have Hla := Lib.hid hla
          have Hsz := Lib.hid hsz
          clear hd hst hlr hlE hlimE hsucc hE hC hvb hw128 hrd hl128 heq hla hsz
          go_wp2_with fail
          refine Hrd.out.mono ?_
          rintro e w1 ⟨u1, τ1, rfl, hb1, hs1⟩
          obtain ⟨p1, k1, rfl, -, -⟩ := hb1.any
          rw [Hl128.out] at hb1 ⊢
          have hvb1 := Hvb.out.step hs1 (fun h => h)
          have k1c := hb1.conv
          have k2c := hvb1.conv
          obtain ⟨hne, hne2⟩ := toU8_ne hb1.isB hvb1.isB Heq.out
          have hs01 := Hsz.out.trans hs1
          have hlr1 := Hlr.out.step hs01 (fun _ _ h => h)
          obtain ⟨vs1, vt1, ho1, -, -⟩ := hlr1.is
          have c41 := ho1.at 0 (v := .pointer (some ⟨bd, 0, none⟩)) rfl
          have hd1 := Hd.out.step hs01 (fun _ h => h.elim)
          have hwt := r5write hd1 0 (by omega) (from_ + i) (by have := HlE.out; omega) hvb1 Hw128.out rdevtag_data (Dev.lim_mono HlimE.out (by omega))
          rw [Int.natCast_add] at hwt
          have hst1 := Hst.out.trans (hs01.mono (fun _ h => h.elim))
          have Hwt := Lib.hid hwt
          have Hst1 := Lib.hid hst1
          clear hwt hst1
          clear hb1 hs1 hs01 hlr1 ho1 hd1 hvb1
          generalize toU8 x = xs at *
          generalize toU8 y = ys at *
          go_wp2_with fail
          refine Hwt.out.mono ?_
          rintro e w2 ⟨rfl, τ2, hd2, hs2⟩
          have hst2 := Hst1.out.trans hs2
          have Hd2 := Lib.hid hd2
          have Hst2 := Lib.hid hst2
          clear hd2 hst2
          clear hs2
          go_wp2_with fail
          go_round
          case rel => exact ⟨i + 1, τ2, by omega, by simp, by rw [Hsucc.out], by rw [Hsucc.out]; exact Hd2.out, Hst2.out⟩
          case measure => simp [intOf]; omega
      · cases hvz
        by_cases heq : y = x
        · rw [if_pos heq] at hsucc
          have Hd := Lib.hid hd
          have Hst := Lib.hid hst
          have Hlr := Lib.hid hlr
          have HlE := Lib.hid hlE
          have HlimE := Lib.hid hlimE
          have Hsucc := Lib.hid hsucc
          have HE := Lib.hid hE
          have HC := Lib.hid hC
          have Hvb := Lib.hid hvb
          have Hw128 := Lib.hid hw128
          have Hrd := Lib.hid hrd
          have Hl128 := Lib.hid hl128
          have Heq := Lib.hid heq
          have Hla := Lib.hid hla
          have Hsz := Lib.hid hsz
          clear hd hst hlr hlE hlimE hsucc hE hC hvb hw128 hrd hl128 heq hla hsz
          go_wp2_with fail
          refine Hrd.out.mono ?_
          rintro e w1 ⟨u1, τ1, rfl, hb1, hs1⟩
          obtain ⟨p1, k1, rfl, -, -⟩ := hb1.any
          rw [Hl128.out] at hb1 ⊢
          have k1c := hb1.conv
          have k2c := (Hvb.out.step hs1 (fun h => h)).conv
          rw [Heq.out] at k1c
          have hs01 := Hsz.out.trans hs1
          have hd1 := Hd.out.step hs01 (fun _ h => h.elim)
          have hst1 := Hst.out.trans (hs01.mono (fun _ h => h.elim))
          have Hd1 := Lib.hid hd1
          have Hst1 := Lib.hid hst1
          clear hd1 hst1
          clear hb1 hs1 hs01
          generalize toU8 x = xs at *
          go_wp2_with fail
          go_round
          case rel => exact ⟨i + 1, τ1, by omega, by simp, by rw [Hsucc.out, HC.out], by rw [Hsucc.out, HE.out]; exact Hd1.out, Hst1.out⟩
          case measure => simp [intOf]; omega
        · rw [if_neg heq] at hsucc
          have Hd := Lib.hid hd
          have Hst := Lib.hid hst
          have Hlr := Lib.hid hlr
          have HlE := Lib.hid hlE
          have HlimE := Lib.hid hlimE
          have Hsucc := Lib.hid hsucc
          have HE := Lib.hid hE
          have HC := Lib.hid hC
          have Hvb := Lib.hid hvb
          have Hw128 := Lib.hid hw128
          have Hrd := Lib.hid hrd
          have Hl128 := Lib.hid hl128
          have Heq := Lib.hid heq
          have Hla := Lib.hid hla
          have Hsz := Lib.hid hsz
          clear hd hst hlr hlE hlimE hsucc hE hC hvb hw128 hrd hl128 heq hla hsz
          go_wp2_with fail
          refine Hrd.out.mono ?_
          rintro e w1 ⟨u1, τ1, rfl, hb1, hs1⟩
          obtain ⟨p1, k1, rfl, -, -⟩ := hb1.any
          rw [Hl128.out] at hb1 ⊢
          have hvb1 := Hvb.out.step hs1 (fun h => h)
          have k1c := hb1.conv
          have k2c := hvb1.conv
          obtain ⟨hne, hne2⟩ := toU8_ne hb1.isB hvb1.isB Heq.out
          have hs01 := Hsz.out.trans hs1
          have hlr1 := Hlr.out.step hs01 (fun _ _ h => h)
          obtain ⟨vs1, vt1, ho1, -, -⟩ := hlr1.is
          have c41 := ho1.at 0 (v := .pointer (some ⟨bd, 0, none⟩)) rfl
          have hd1 := Hd.out.step hs01 (fun _ h => h.elim)
          have hwt := r5write hd1 0 (by omega) (from_ + i) (by have := HlE.out; omega) hvb1 Hw128.out rdevtag_data (Dev.lim_mono HlimE.out (by omega))
          rw [Int.natCast_add] at hwt
          have hst1 := Hst.out.trans (hs01.mono (fun _ h => h.elim))
          have Hwt := Lib.hid hwt
          have Hst1 := Lib.hid hst1
          clear hwt hst1
          clear hb1 hs1 hs01 hlr1 ho1 hd1 hvb1
          generalize toU8 x = xs at *
          generalize toU8 y = ys at *
          go_wp2_with fail
          refine Hwt.out.mono ?_
          rintro e w2 ⟨rfl, τ2, hd2, hs2⟩
          have hst2 := Hst1.out.trans hs2
          have Hd2 := Lib.hid hd2
          have Hst2 := Lib.hid hst2
          clear hd2 hst2
          clear hs2
          go_wp2_with fail
          go_round
          case rel => exact ⟨i + 1, τ2, by omega, by simp, by rw [Hsucc.out], by rw [Hsucc.out]; exact Hd2.out, Hst2.out⟩
          case measure => simp [intOf]; omega
    · obtain rfl : i = n := by omega
      have hmk : D.make from_ i want = if C = true then E.sync 0 else E := by unfold Dev.make; rw [hE, hC]
      have hsy := r5sync hd 0 (by omega)
      cases C with
      | true =>
        rw [if_pos rfl] at hmk
        have Hsy := Lib.hid hsy
        have Hst := Lib.hid hst
        have Hmk := Lib.hid hmk
        have Hlr := Lib.hid hlr
        clear hsy hst hmk hlr
        clear ho hsucc hlE hlimE hE hC hd
        go_wp2_with fail
        refine Hsy.out.mono ?_
        rintro e w2 ⟨rfl, τ2, hd2, hs2⟩
        have Hd2 := Lib.hid hd2
        have Hs2 := Lib.hid hs2
        clear hd2 hs2
        go_wp2_with fail
        go_returns
        exact ⟨rfl, τ2, by rw [Hmk.out]; exact Hd2.out, Hst.out.trans Hs2.out⟩
      | false =>
        rw [if_neg (by simp)] at hmk
        have Hst := Lib.hid hst
        have Hmk := Lib.hid hmk
        have Hd := Lib.hid hd
        clear hst hmk hd
        clear ho hsucc hlE hlimE hE hC hlr hsy
        go_wp2_with fail
        go_returns
        exact ⟨rfl, τr, by rw [Hmk.out]; exact Hd.out, Hst.out⟩
end Go.Proofs.YtgjoahddbieliaaGreat

/-
  Two devices that hold the same: Image, SameBlocks, alike, Same.
-/
namespace Go.Proofs.YtgjoahddbieliaaGreat
open Go.RowKit
set_option linter.unusedVariables false

theorem DevAt.file' {w : World} {τ : Tags} {b : Nat} {D : Dev} (h : DevAt w τ b D) (f : Nat) (hf : f < 256) :
    ∃ v, (Calls Tryz.prog 124 #[.pointer (some ⟨b, 0, none⟩), .int .u8 (f : Int)] w fun e w' => e = .returned v ∧ w = w') ∧ File w τ f v (D.file f) := file_any h f hf
set_option maxRecDepth 100000 in
theorem image_any {w : World} {τ : Tags} {b : Nat} {D : Dev} (h : DevAt w τ b D) (f : Nat) (hf : f < 256) :
    Calls Tryz.prog 225 #[.pointer (some ⟨b, 0, none⟩), .int .u8 (f : Int)] w fun e w' => ∃ v τ', e = .returned v ∧ NR w.heap.size w' τ' tOut v ((D.file f).map Sec.last) ∧ Step w τ w' τ' nil := by
  obtain ⟨v, hfc, hfile⟩ := file_any h f hf
  have hn4096 := h.length f
  have htk : (D.file f).take (D.file f).length = D.file f := List.take_length
  generalize hl : D.file f = l at *
  obtain ⟨p, cap, rfl, hcap, -, -⟩ := id hfile
  generalize hn : l.length = n at *
  have Hfc := Lib.hid hfc
  have Hfile := Lib.hid hfile
  have Hn := Lib.hid hn
  have Hl := Lib.hid hl
  have Htk := Lib.hid htk
  clear hfc hfile hn hl htk
  clear h
  go_enter Tryz.func225, Tryz.ntmps225
  go_wp2_with fail
  refine Hfc.out.mono ?_
  rintro e w' ⟨rfl, rfl⟩
  go_wp2_with fail
  go_loopw [5, 12] (fun m iv wr => ∃ (i : Nat) (τr : Tags), i ≤ n ∧ iv = .int .i64 (i : Int) ∧ NR w.heap.size wr τr tOut m ((l.take i).map Sec.last) ∧ Step w τ wr τr nil) (fun _ iv _ => n - (intOf iv).toNat)
  case atStart => exact ⟨0, τ, Nat.zero_le _, rfl, NR.nil _ _ _ _, Step.refl _ _ _⟩
  case round =>
    obtain ⟨i, τr, hi, rfl, hnr, hst⟩ := hrel
    by_cases hlt : i < n
    · obtain ⟨s, hs⟩ : ∃ s, l[i]? = some s := ⟨_, List.getElem?_eq_getElem (by rw [Hn.out]; exact hlt)⟩
      have hsu := lastsTo_succ hs
      obtain ⟨p', cap', hv, -, -, hpos⟩ := Hfile.out.mod hst.no hst.ext (fun _ _ _ h => h) (fun _ _ _ _ h => h) (fun _ _ _ h => h)
      obtain ⟨bf, xs, hpx, ho, hsec⟩ := hpos (by rw [Hn.out]; omega)
      rw [Hn.out, hpx] at hv
      simp only [Value.slice.injEq, true_and] at hv
      obtain ⟨rfl, rfl⟩ := hv
      obtain ⟨⟨hl128, v, hvv, hb⟩, ⟨u, hu, hw⟩⟩ := hsec i s hs
      have c0 := ho.at (i * 2) hvv
      have c1 := ho.at (i * 2 + 1) hu
      obtain ⟨pu, cu, rfl⟩ := hw.len
      have hln := fun W (m : Step wr τr W τr nil) => clone_any (hb.step m (fun h => h)) tData (by omega)
      obtain ⟨pv, cv, rfl, -, -⟩ := hb.any
      rw [hl128] at hln c0
      have hlen : ((l.take i).map Sec.last).length = i := by rw [List.length_map, List.length_take, Hn.out]; omega
      have hi64 : i ≤ 1000000000 := by omega
      generalize hls : (l.take i).map Sec.last = ls at *
      generalize s.waits.length = sw at *
      obtain ⟨pm, cm, rfl⟩ := hnr.val
      have Hls := Lib.hid hls
      have Hst := Lib.hid hst
      have Hln := Lib.hid hln
      have Hl128 := Lib.hid hl128
      have Hsu := Lib.hid hsu
      have Hnr := Lib.hid hnr
      have Hlen := Lib.hid hlen
      clear hls hst hln hl128 hsu hnr hlen
      clear hsec ho hb hvv hs hw hu hpos
      go_wp2_with fail
      refine (Hln.out _ ((Step.refl wr τr nil).alloc' _)).mono ?_
      rintro e w2 ⟨uu, τ2, rfl, hb2, he2, hm2⟩
      have hs2 := ((Step.refl wr τr nil).alloc' (.cells #[.slice pv 128 cv, .slice pu sw cu] 133)).trans (Step.of nil hm2 he2)
      have hnr2 := Hnr.out.step hs2 (fun h => h) (fun h => h)
      have hst2 := Hst.out.trans hs2
      obtain ⟨pq, cq, rfl, -, -⟩ := hb2.any
      rw [Hl128.out] at hb2 ⊢
      have Hb2 := Lib.hid hb2
      have Hnr2 := Lib.hid hnr2
      have Hst2 := Lib.hid hst2
      clear hb2 hnr2 hst2
      clear hs2 he2 hm2
      go_wp2_with (at_builtin; refine wpList_append_nr1 Hst2.out (by decide) Hnr2.out Hb2.out Hl128.out (by rw [Hlen.out]; exact hi64) rfl rfl _ _ rfl rfl rfl ?_; intro v' w' τ' hb he hmo; have Hb := Lib.hid hb; have He := Lib.hid he; have Hmo := Lib.hid hmo; clear hb he hmo)
      go_round
      case rel => exact ⟨i + 1, τ', by omega, by simp, by rw [Hsu.out]; exact Hb.out, He.out⟩
      case measure => simp [intOf]; omega
    · obtain rfl : i = n := by omega
      rw [show l.take i = l from Htk.out] at hnr
      have Hnr := Lib.hid hnr
      have Hst := Lib.hid hst
      clear hnr hst
      go_wp2_with fail
      go_returns
      exact ⟨_, τr, rfl, Hnr.out, Hst.out⟩
set_option maxRecDepth 100000 in
theorem sameblocks_yes {w : World} {τ : Tags} {g g2 : Tag} {v u : Value} {l : List (List Int)} (h : Waits w τ g v l) (k : Waits w τ g2 u l) :
    Calls Tryz.prog 22 #[v, u] w fun e w' => e = .returned (.bool true) ∧ ∃ q, w' = w.drewN q := by
  obtain ⟨p, c, rfl, h1, hr⟩ := h.read
  obtain ⟨p2, d, rfl, -, kr⟩ := k.read
  generalize hn : l.length = n at *
  have hmx : n ≤ 9223372036854775807 := by unfold maxLen at h1; omega
  have Hr := Lib.hid hr
  have H_kr := Lib.hid kr
  have Hn := Lib.hid hn
  clear hr kr hn
  clear h1 h k
  go_enter Tryz.func22, Tryz.ntmps22
  go_wp2_with fail
  go_loopw [5] (fun v wr => ∃ i q : Nat, i ≤ n ∧ v = .int .i64 (i : Int) ∧ wr = w.drewN q) (fun v _ => n - (intOf v).toNat)
  case atStart => exact ⟨0, 0, Nat.zero_le _, rfl, rfl⟩
  case round =>
    obtain ⟨i, q, hi, rfl, hwr⟩ := hrel
    by_cases hlt : i < n
    · obtain ⟨x, hx⟩ : ∃ x, l[i]? = some x := ⟨_, List.getElem?_eq_getElem (by rw [Hn.out]; exact hlt)⟩
      obtain ⟨h128, b, u1, rfl, hc, hb⟩ := Hr.out i x hx
      obtain ⟨-, b2, u2, rfl, hc2, hb2⟩ := H_kr.out i x hx
      obtain ⟨q1, e1, rfl, -, -⟩ := hb.any
      obtain ⟨q2, e2, rfl, -, -⟩ := hb2.any
      rw [h128] at hc hc2 hb hb2
      have ci' : wr.cell? ⟨b, i, none⟩ = some (.slice q1 128 e1) := by rw [hwr]; exact hc
      have di' : wr.cell? ⟨b2, i, none⟩ = some (.slice q2 128 e2) := by rw [hwr]; exact hc2
      have k1 := fun n => (hb.step (show Step w τ (wr.drewN n) τ nil by rw [hwr]; exact ((Step.refl w τ nil).drews q).drews n) (fun h => h)).conv
      have k2 := fun n => (hb2.step (show Step w τ (wr.drewN n) τ nil by rw [hwr]; exact ((Step.refl w τ nil).drews q).drews n) (fun h => h)).conv
      have hin : (i : Int) < (n : Int) := by omega
      generalize toU8 x = xs at *
      have Hwr := Lib.hid hwr
      clear hwr
      clear hc hc2 hb hb2 hx
      go_wp2_with fail
      go_quiet (fail)
      go_wp2_with fail
      go_round
      case rel => exact ⟨i + 1, q + nq, by omega, by simp, by rw [Hwr.out, World.drewN_drewN]⟩
      case measure => simp [intOf]; omega
    · obtain rfl : i = n := by omega
      have Hwr := Lib.hid hwr
      clear hwr
      go_wp2_with fail
      go_ret
      exact ⟨rfl, q, Hwr.out⟩
end Go.Proofs.YtgjoahddbieliaaGreat

/-
  Two devices that hold the same: alike, Same.
-/
namespace Go.Proofs.YtgjoahddbieliaaGreat
open Go.RowKit
set_option linter.unusedVariables false

set_option maxHeartbeats 1000000 in
set_option maxRecDepth 100000 in
theorem alike_yes {w : World} {τ : Tags} {bd br : Nat} {D : Dev} (hd : DevAt w τ bd D) (hr : RDevAt w τ br D) :
    Calls Tryz.prog 165 #[.pointer (some ⟨bd, 0, none⟩), .pointer (some ⟨br, 0, none⟩)] w fun e w' => e = .returned (.bool true) ∧ ∃ τ', Step w τ w' τ' nil := by
  have Hd := Lib.hid hd
  have Hr := Lib.hid hr
  clear hd hr
  go_enter Tryz.func165, Tryz.ntmps165
  go_wp2_with fail
  go_loopw [5] (fun fv wr => ∃ (f : Nat) (τr : Tags), f ≤ 2 ∧ fv = .int .u8 (f : Int) ∧ Step w τ wr τr nil) (fun fv _ => 2 - (intOf fv).toNat)
  case atStart => exact ⟨0, τ, Nat.zero_le _, rfl, Step.refl _ _ _⟩
  case round =>
    obtain ⟨f, τr, hf, rfl, hst⟩ := hrel
    by_cases hlt : f < 2
    · have hlt' : (f : Int) < 2 := by omega
      generalize hl : D.file f = l at *
      have hlen := (Hd.out.length f)
      rw [hl] at hlen
      have Hl := Lib.hid hl
      clear hl
      have Hst := Lib.hid hst
      clear hst
      go_wp2_with fail
      go_loopw [6] (fun iv wr => ∃ (i : Nat) (τr : Tags), i ≤ l.length ∧ iv = .int .i64 (i : Int) ∧ Step w τ wr τr nil) (fun iv _ => l.length - (intOf iv).toNat)
      case atStart => exact ⟨0, τr, Nat.zero_le _, rfl, Hst.out⟩
      case round =>
        clear Hst
        obtain ⟨i, τr, hi, rfl, hst⟩ := hrel
        have hd1 := Hd.out.step hst (fun _ h => h.elim)
        have hr1 := Hr.out.step hst (fun _ h => h.elim)
        have hsz := r5size' hr1 f (by omega)
        rw [Hl.out] at hsz
        generalize hn : l.length = n at *
        by_cases hli : i < n
        · have hil : i < (D.file f).length := by rw [Hl.out, hn]; exact hli
          obtain ⟨s, hs⟩ : ∃ s, (D.file f)[i]? = some s := ⟨_, List.getElem?_eq_getElem hil⟩
          have hrd := read_any hd1 f (by omega) i hil tData
          have hl128 := (hd1.last128 f i hil).1
          generalize hx : D.last f i = x at *
          have Hsz := Lib.hid hsz
          have Hrd := Lib.hid hrd
          have Hd1 := Lib.hid hd1
          have Hr1 := Lib.hid hr1
          have Hst := Lib.hid hst
          have Hs := Lib.hid hs
          have Hl128 := Lib.hid hl128
          have Hx := Lib.hid hx
          have Hn := Lib.hid hn
          have Hil := Lib.hid hil
          clear hsz hrd hd1 hr1 hst hs hl128 hx hn hil
          go_wp2_with fail
          refine Hsz.out.mono ?_
          rintro e w' ⟨rfl, rfl⟩
          go_wp2_with fail
          refine Hrd.out.mono ?_
          rintro e w2 ⟨u2, τ2, rfl, hb2, hs2⟩
          have hrr := r5read (Hr1.out.step hs2 (fun _ h => h.elim)) f hlt i Hil.out tData
          rw [Hx.out] at hrr
          obtain ⟨p2, k2, rfl, -, -⟩ := hb2.any
          rw [Hl128.out] at hb2 ⊢
          have Hrr := Lib.hid hrr
          have Hb2 := Lib.hid hb2
          have Hs2 := Lib.hid hs2
          clear hrr hb2 hs2
          go_wp2_with fail
          refine Hrr.out.mono ?_
          rintro e w3 ⟨u3, τ3, rfl, hb3, hs3⟩
          have hsb := samebytes_any (Hb2.out.step hs3 (fun h => h)) hb3
          rw [decide_eq_true rfl] at hsb
          obtain ⟨p3, k3, rfl, -, -⟩ := hb3.any
          rw [Hl128.out] at hsb ⊢
          have hs23 := Hs2.out.trans hs3
          have hwd := waits_yes (Hd1.out.step hs23 (fun _ h => h.elim)) f (by omega) i s Hs.out
          have hwr := r5waits (Hr1.out.step hs23 (fun _ h => h.elim)) f hlt i Hs.out
          have hst3 := Hst.out.trans hs23
          generalize s.waits.length = sw at *
          have Hsb := Lib.hid hsb
          have Hwd := Lib.hid hwd
          have Hwr := Lib.hid hwr
          have Hst3 := Lib.hid hst3
          clear hsb hwd hwr hst3
          clear hb3 hs3 hs23
          go_wp2_with fail
          refine Hsb.out.mono ?_
          rintro e w' ⟨rfl, rfl⟩
          go_wp2_with fail
          refine Hwd.out.mono ?_
          rintro e w' ⟨rfl, rfl⟩
          go_wp2_with fail
          refine Hwr.out.mono ?_
          rintro e w' ⟨rfl, rfl⟩
          go_wp2_with fail
          go_round
          case rel => exact ⟨i + 1, τ3, by omega, by simp, Hst3.out⟩
          case measure => simp [intOf]; omega
        · have hii : i = n := by omega
          have him := image_any hd1 f (by omega)
          obtain ⟨LL, hLL⟩ : ∃ LL, (D.file f).map Sec.last = LL := ⟨_, rfl⟩
          rw [hLL] at him
          have Hsz := Lib.hid hsz
          have Hd1 := Lib.hid hd1
          have Hr1 := Lib.hid hr1
          have Hst := Lib.hid hst
          have Him := Lib.hid him
          have Hii := Lib.hid hii
          have Hn := Lib.hid hn
          have HLL := Lib.hid hLL
          clear hsz hd1 hr1 hst him hii hn hLL
          go_wp2_with fail
          refine Hsz.out.mono ?_
          rintro e w' ⟨rfl, rfl⟩
          go_wp2_with fail
          refine Him.out.mono ?_
          rintro e w2 ⟨u2, τ2, rfl, hn2, hs2⟩
          have hir := r5image (Hr1.out.step hs2 (fun _ h => h.elim)) f hlt
          rw [HLL.out] at hir
          obtain ⟨p2, k2, rfl⟩ := hn2.val
          have Hir := Lib.hid hir
          have Hn2 := Lib.hid hn2
          have Hs2 := Lib.hid hs2
          clear hir hn2 hs2
          go_wp2_with fail
          refine Hir.out.mono ?_
          rintro e w3 ⟨u3, τ3, rfl, hn3, hs3⟩
          have hsb := sameblocks_yes (Hn2.out.row.step hs3 (fun h => h) (fun h => h)) hn3.row
          obtain ⟨p3, k3, rfl⟩ := hn3.val
          have hs23 := Hs2.out.trans hs3
          have Hsb := Lib.hid hsb
          have Hs23 := Lib.hid hs23
          clear hsb hs23
          clear hn3 hs3
          go_wp2_with fail
          refine Hsb.out.mono ?_
          rintro e w4 ⟨rfl, q, hw4⟩
          have hs4 : Step wr τr w4 τ3 nil := Hs23.out.trans (by rw [hw4]; exact (Step.refl w3 τ3 nil).drews q)
          have hsd := size_any (Hd1.out.step hs4 (fun _ h => h.elim)) f (by omega)
          have hsr := r5size' (Hr1.out.step hs4 (fun _ h => h.elim)) f hlt
          rw [Hl.out, Hn.out] at hsd hsr
          have hst4 := Hst.out.trans hs4
          have hu8 : IntKind.u8.wrap ((f : Int) + 1) = (f : Int) + 1 := by
            have : IntKind.u8.wrap ((f : Int) + 1) = ((f : Int) + 1) % 256 := by simp [IntKind.wrap, IntKind.bits, IntKind.signed]
            rw [this]; omega
          have Hsd := Lib.hid hsd
          have Hsr := Lib.hid hsr
          have Hst4 := Lib.hid hst4
          clear hsd hsr hst4
          clear hw4 hs4
          go_wp2_with fail
          refine Hsd.out.mono ?_
          rintro e w' ⟨rfl, rfl⟩
          go_wp2_with fail
          refine Hsr.out.mono ?_
          rintro e w' ⟨rfl, rfl⟩
          go_wp2_with fail
          go_round
          case rel => exact ⟨f + 1, τ3, by omega, by simp, Hst4.out⟩
          case measure => simp [intOf]; omega
    · obtain rfl : f = 2 := by omega
      have h1 := halted_any (Hd.out.step hst (fun _ h => h.elim))
      obtain ⟨v0, v1, hra⟩ := Hr.out.step hst (fun _ h => h.elim)
      have h2 := r5halted hra
      generalize D.halted = hh at *
      have H1 := Lib.hid h1
      have H2 := Lib.hid h2
      have Hst := Lib.hid hst
      clear h1 h2 hst
      clear hra
      go_wp2_with fail
      refine H1.out.mono ?_
      rintro e w' ⟨rfl, rfl⟩
      go_wp2_with fail
      refine H2.out.mono ?_
      rintro e w' ⟨rfl, rfl⟩
      go_wp2_with fail
      go_ret
      exact ⟨by simp, τr, Hst.out⟩
theorem same_yes {w : World} {τ : Tags} {bd br : Nat} {D : Dev} (hd : DevAt w τ bd D) (hr : RDevAt w τ br D) :
    Calls Tryz.prog 93 #[.pointer (some ⟨bd, 0, none⟩), .pointer (some ⟨br, 0, none⟩)] w fun e w' => e = .returned (.int .i64 1) ∧ ∃ τ', Step w τ w' τ' nil := by
  have h1 := alike_yes hd hr
  have H1 := Lib.hid h1
  clear h1
  clear hd hr
  go_enter Tryz.func93, Tryz.ntmps93
  go_wp2_with fail
  refine H1.out.mono ?_
  rintro e w1 ⟨rfl, τ1, hs⟩
  have Hs := Lib.hid hs
  clear hs
  go_wp2_with fail
  go_ret
  exact ⟨rfl, τ1, Hs.out⟩
end Go.Proofs.YtgjoahddbieliaaGreat
