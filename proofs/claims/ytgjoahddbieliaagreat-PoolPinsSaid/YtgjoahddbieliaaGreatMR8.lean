/-
  The reference's log: how it lies in memory; on, and what it tells.
-/
import Derived.Test.YtgjoahddbieliaaGreatMR5F
import Derived.Test.YtgjoahddbieliaaGreatMR1
import Derived.Test.YtgjoahddbieliaaGreatMWalC
namespace Go.Proofs.YtgjoahddbieliaaGreat
open Go.RowKit
set_option linter.unusedVariables false

def tRLog : Tag := (50, 0)
def tRStream : Tag := (51, 0)
def tRStarts : Tag := (52, 0)
def RLogTag (g : Tag) : Prop := g = tRLog ∨ g = tRStream ∨ g = tRStarts
def rlogCells (L : LogM) (bd : Nat) (vs vt : Value) : List Value :=
  [.pointer (some ⟨bd, 0, none⟩), .int .i64 (L.strips : Int), .int .i64 (L.area : Int), .int .u64 (L.base : Int), vs, vt, .int .i64 (L.lasts : Int), .int .u64 (L.check : Int), .int .u64 (L.stamp : Int), .int .i64 (L.slot : Int)]
structure RLogAt (w : World) (τ : Tags) (bl bd : Nat) (L : LogM) : Prop where
  is : ∃ vs vt, Own w τ bl tRLog 178 (rlogCells L bd vs vt) ∧ Buf w τ tRStream 5 1 vs L.stream.length (u8s L.stream) ∧ Buf w τ tRStarts 3 1 vt L.starts.length (i64s L.starts)
  isB : IsB L.stream
  ok : L.ok
theorem RLogAt.step {w w' : World} {τ τ' : Tags} {S : Tag → Prop} {bl bd : Nat} {L : LogM} (h : RLogAt w τ bl bd L) (m : Step w τ w' τ' S) (hs : ∀ g, RLogTag g → ¬ S g) : RLogAt w' τ' bl bd L := by
  obtain ⟨vs, vt, ho, h1, h2⟩ := h.is
  exact ⟨⟨vs, vt, ho.step m (hs _ (.inl rfl)), h1.step m (hs _ (.inr (.inl rfl))), h2.step m (hs _ (.inr (.inr rfl)))⟩, h.isB, h.ok⟩
theorem rlogtag_dev {g : Tag} (h : RLogTag g) : ¬ RDevTag g := by
  rcases h with rfl | rfl | rfl <;> simp [RDevTag, tRLog, tRStream, tRStarts]
theorem rdevtag_log {g : Tag} (h : RDevTag g) : ¬ RLogTag g := fun k => rlogtag_dev k h
theorem r8base {w : World} {τ : Tags} {bl bd : Nat} {L : LogM} (h : RLogAt w τ bl bd L) :
    Calls Tryz.prog 87 #[.pointer (some ⟨bl, 0, none⟩)] w fun e w' => e = .returned (.int .u64 (L.base : Int)) ∧ w = w' := by
  obtain ⟨vs, vt, ho, -, -⟩ := h.is
  have c3 := ho.at 3 (v := .int .u64 (L.base : Int)) rfl
  clear h ho
  go_enter Tryz.func87, Tryz.ntmps87
  go_wp2_with fail
  go_ret
  exact ⟨rfl, rfl⟩
theorem r8check {w : World} {τ : Tags} {bl bd : Nat} {L : LogM} (h : RLogAt w τ bl bd L) :
    Calls Tryz.prog 92 #[.pointer (some ⟨bl, 0, none⟩)] w fun e w' => e = .returned (.int .u64 (L.check : Int)) ∧ w = w' := by
  obtain ⟨vs, vt, ho, -, -⟩ := h.is
  have c3 := ho.at 7 (v := .int .u64 (L.check : Int)) rfl
  clear h ho
  go_enter Tryz.func92, Tryz.ntmps92
  go_wp2_with fail
  go_ret
  exact ⟨rfl, rfl⟩
theorem r8lasts {w : World} {τ : Tags} {bl bd : Nat} {L : LogM} (h : RLogAt w τ bl bd L) :
    Calls Tryz.prog 90 #[.pointer (some ⟨bl, 0, none⟩)] w fun e w' => e = .returned (.int .u64 ((L.base + L.lasts : Nat) : Int)) ∧ Step w τ w' τ nil := by
  obtain ⟨vs, vt, ho, hs, _⟩ := h.is
  have c1 := ho.at 3 (v := .int .u64 (L.base : Int)) rfl
  have c9 := ho.at 6 (v := .int .i64 (L.lasts : Int)) rfl
  have hb := h.ok.base
  have hl := h.ok.stream
  have hla := h.ok.lasts
  have hw := u64_wrap L.lasts (by omega)
  have hw2 := u64_add (a := L.base) (b := L.lasts) (by omega)
  generalize L.lasts = n at *
  generalize L.base = bs at *
  clear h ho hs
  clear hb hl hla
  go_enter Tryz.func90, Tryz.ntmps90
  go_wp2_with fail
  go_quiet (fail)
  go_wp2_with fail
  go_ret
  exact ⟨rfl, (Step.refl w τ nil).drews nq⟩
theorem r8end {w : World} {τ : Tags} {bl bd : Nat} {L : LogM} (h : RLogAt w τ bl bd L) :
    Calls Tryz.prog 89 #[.pointer (some ⟨bl, 0, none⟩)] w fun e w' => e = .returned (.int .u64 ((L.base + L.stream.length : Nat) : Int)) ∧ Step w τ w' τ nil := by
  obtain ⟨vs, vt, ho, hs, _⟩ := h.is
  obtain ⟨p, c, rfl⟩ := hs.len
  have c1 := ho.at 3 (v := .int .u64 (L.base : Int)) rfl
  have c9 := ho.at 4 (v := .slice p L.stream.length c) rfl
  have hb := h.ok.base
  have hl := h.ok.stream
  have hw := u64_wrap L.stream.length (by omega)
  have hw2 := u64_add (a := L.base) (b := L.stream.length) (by omega)
  generalize L.stream.length = n at *
  generalize L.base = bs at *
  clear h ho hs
  clear hb hl
  go_enter Tryz.func89, Tryz.ntmps89
  go_wp2_with fail
  go_quiet (fail)
  go_wp2_with fail
  go_ret
  exact ⟨rfl, (Step.refl w τ nil).drews nq⟩
theorem r8first {w : World} {τ : Tags} {bl bd : Nat} {L : LogM} (h : RLogAt w τ bl bd L) (a : Nat) (ha : a < 2) :
    Calls Tryz.prog 174 #[.pointer (some ⟨bl, 0, none⟩), .int .i64 (a : Int)] w fun e w' => e = .returned (.int .i64 ((2 + a * L.strips : Nat) : Int)) ∧ w = w' := by
  obtain ⟨vs, vt, ho, -, -⟩ := h.is
  have c1 := ho.at 1 (v := .int .i64 (L.strips : Int)) rfl
  have hs := h.ok.strips
  have e : ((2 + a * L.strips : Nat) : Int) = 2 + (a : Int) * (L.strips : Int) := by push_cast; rfl
  rw [e]
  clear h ho e
  rcases (by omega : a = 0 ∨ a = 1) with rfl | rfl
  · go_enter Tryz.func174, Tryz.ntmps174
    go_wp2_with fail
    go_ret
    exact ⟨by simp, rfl⟩
  · go_enter Tryz.func174, Tryz.ntmps174
    go_wp2_with fail
    go_ret
    exact ⟨by simp, rfl⟩
/-! ### on -/
theorem r8on_yes {w : World} {τ : Tags} {bd : Nat} {D : Dev} (h : RDevAt w τ bd D) (h18 : 18 ≤ D.f0.length) :
    Calls Tryz.prog 138 #[.pointer (some ⟨bd, 0, none⟩)] w fun e w' => ∃ bl τ', e = .returned (.tuple #[.pointer (some ⟨bl, 0, none⟩), .bool true]) ∧ w.heap.size ≤ bl ∧ RLogAt w' τ' bl bd (newLog D.f0.length) ∧ Step w τ w' τ' nil := by
  have hsz := r5size' h 0 (by omega)
  have hlen := r5length h 0 (by omega)
  have hf0 : D.file 0 = D.f0 := rfl
  rw [hf0] at hsz hlen
  generalize hn : D.f0.length = n at *
  have hl := Own.new w τ tRLog 178 (rlogCells (newLog n) bd (.slice none 0 0) (.slice none 0 0))
  have hst := (Step.refl w τ nil).alloc (.cells ⟨rlogCells (newLog n) bd (.slice none 0 0) (.slice none 0 0)⟩ 178) tRLog
  have hok : (newLog n).ok := ⟨by simp [newLog], by simp [newLog], by simp [newLog], by simp [newLog], by simp only [newLog]; omega, by simp [newLog], by simp [newLog], by simp [newLog], by simp [newLog]⟩
  have e1 : ((n : Int) - 2) / 2 = (((n - 2) / 2 : Nat) : Int) := by omega
  have hs8 : 8 ≤ (n - 2) / 2 := by omega
  have hcells : rlogCells (newLog n) bd (.slice none 0 0) (.slice none 0 0) = [.pointer (some ⟨bd, 0, none⟩), .int .i64 (((n - 2) / 2 : Nat) : Int), .int .i64 0, .int .u64 0, .slice none 0 0, .slice none 0 0, .int .i64 0, .int .u64 0, .int .u64 0, .int .i64 0] := rfl
  have hnl : RLogAt (w.alloc (.cells ⟨rlogCells (newLog n) bd (.slice none 0 0) (.slice none 0 0)⟩ 178)) (τ.put w.heap.size tRLog) w.heap.size bd (newLog n) :=
    ⟨⟨_, _, hl, Buf.nil _ _ _ _ _, Buf.nil _ _ _ _ _⟩, fun x hx => by simp [newLog] at hx, hok⟩
  rw [hcells] at hnl hst
  generalize hq : (n - 2) / 2 = s at *
  have Hsz := Lib.hid hsz
  have Hst := Lib.hid hst
  have Hnl := Lib.hid hnl
  have H_e1 := Lib.hid e1
  clear hsz hst hnl e1
  clear h hl hok hcells
  go_enter Tryz.func138, Tryz.ntmps138
  go_wp2_with fail
  refine Hsz.out.mono ?_
  rintro e w' ⟨rfl, rfl⟩
  have e3 : ((n : Int) - 2) / 2 = (s : Int) := by omega
  have e4 : decide ((8 : Int) ≤ (s : Int)) = true := by simp; omega
  go_wp2_with fail
  go_ret2
  exact ⟨w.heap.size, _, rfl, Nat.le_refl _, Hnl.out, Hst.out⟩
end Go.Proofs.YtgjoahddbieliaaGreat

/-
  The reference's log: lay.
-/
namespace Go.Proofs.YtgjoahddbieliaaGreat
open Go.RowKit
set_option linter.unusedVariables false

theorem toU8_ne {l m : List Int} (hl : IsB l) (hm : IsB m) (h : l ≠ m) : (toU8 l != toU8 m) = true ∧ (toU8 l == toU8 m) = false := by
  have := toU8_eq hl hm
  rw [decide_eq_false h] at this
  exact ⟨by rw [bne, this]; rfl, this⟩
theorem rdevtag_data : ¬ RDevTag tData := by simp [RDevTag, tData]
set_option maxRecDepth 100000 in
theorem r8lay {w : World} {τ : Tags} {bl bd : Nat} {L : LogM} {D : Dev} (hl : RLogAt w τ bl bd L) (hd : RDevAt w τ bd D) {g : Tag} {v : Value} {want : List (List Int)} (hw : Waits w τ g v want) (hg : ¬ RDevTag g) (from_ n : Nat) (hfit : from_ + n ≤ D.f0.length) (hlim : D.lim 800000) :
    Calls Tryz.prog 139 #[.pointer (some ⟨bl, 0, none⟩), .int .i64 (from_ : Int), .int .i64 (n : Int), v] w (RDevR w τ bd (D.make from_ n want) (.tuple #[])) := by
  have rn := run_noughts
  have hlen := r5length hd 0 (by omega)
  have hf0 : D.file 0 = D.f0 := rfl
  rw [hf0] at hlen
  obtain ⟨pw, cw, rfl, hwm, -⟩ := hw.read
  generalize hnw : want.length = nw at *
  have Hl := Lib.hid hl
  have Hw := Lib.hid hw
  have Hd := Lib.hid hd
  have Hlim := Lib.hid hlim
  have Hnw := Lib.hid hnw
  clear hl hw hd hlim hnw
  go_enter Tryz.func139, Tryz.ntmps139
  go_wp2_with fail
  go_loopw [8, 9] (fun c v wr => ∃ (i : Nat) (τr : Tags), i ≤ n ∧ v = .int .i64 (i : Int) ∧ c = .bool (makeTo D from_ want i).2 ∧ RDevAt wr τr bd (makeTo D from_ want i).1 ∧ Step w τ wr τr RDevTag) (fun _ v _ => n - (intOf v).toNat)
  case atStart => exact ⟨0, _, Nat.zero_le _, rfl, rfl, Hd.out, Step.refl _ _ _⟩
  case round =>
    obtain ⟨i, τr, hi, rfl, rfl, hd, hst⟩ := hrel
    have hlr := Hl.out.step hst (fun g hg hS => rlogtag_dev hg hS)
    obtain ⟨vs, vt, ho, -, -⟩ := hlr.is
    have c4 := ho.at 0 (v := .pointer (some ⟨bd, 0, none⟩)) rfl
    have hlE := makeTo_length D from_ want i 0
    have hlimE := makeTo_lim Hlim.out from_ want i
    have hsucc : makeTo D from_ want (i + 1) = if (makeTo D from_ want i).1.last 0 (from_ + i) = wantAt want i then makeTo D from_ want i else ((makeTo D from_ want i).1.write 0 (from_ + i) (wantAt want i), true) := rfl
    rw [hf0] at hlE
    generalize hE : (makeTo D from_ want i).1 = E at *
    generalize hC : (makeTo D from_ want i).2 = C at *
    by_cases hlt : i < n
    · -- what it is to be, in the world behind the noughts
      have hz := Bytes.noughts wr τr tData 128 (by unfold maxLen; omega)
      have hsz := (Step.refl wr τr nil).alloc (.cells (madeCells #[.int .u8 0] 128) 5) tData
      have hw128 : (wantAt want i).length = 128 := by
        unfold wantAt
        split
        · rename_i hin
          obtain ⟨p', c', _, _, hr⟩ := Hw.out.read
          have hx : want[i]? = some (want.getD i []) := by rw [List.getD_eq_getElem?_getD, List.getElem?_eq_getElem hin]; rfl
          exact (hr i _ hx).1
        · simp [zeros128]
      obtain ⟨vb, hvb, hvl⟩ : ∃ vb, Bytes (wr.alloc (.cells (madeCells #[.int .u8 0] 128) 5)) (τr.put wr.heap.size tData) tData vb (wantAt want i) ∧ ((i < nw ∧ ∃ b, pw = some ⟨b, 0, none⟩ ∧ (wr.alloc (.cells (madeCells #[.int .u8 0] 128) 5)).cell? ⟨b, i, none⟩ = some vb) ∨ (¬ i < nw ∧ vb = .slice (some ⟨wr.heap.size, 0, none⟩) 128 128)) := by
        by_cases hin : i < nw
        · obtain ⟨p', c', hv', _, hr⟩ := ((Hw.out.step hst hg rdevtag_data).step hsz (fun h => h) (fun h => h)).read
          cases hv'
          obtain ⟨x, hx⟩ : ∃ x, want[i]? = some x := ⟨_, List.getElem?_eq_getElem (by rw [Hnw.out]; exact hin)⟩
          obtain ⟨_, b, u, hpb, hc, hb⟩ := hr i x hx
          refine ⟨u, ?_, .inl ⟨hin, b, hpb, hc⟩⟩
          unfold wantAt
          rw [if_pos (by rw [Hnw.out]; exact hin), List.getD_eq_getElem?_getD, hx]; exact hb
        · refine ⟨_, ?_, .inr ⟨hin, rfl⟩⟩
          unfold wantAt
          rw [if_neg (by rw [Hnw.out]; exact hin)]; exact hz
      have hq : E.file 0 = E.f0 := rfl
      have hrd := r5read (hd.step hsz (fun _ h => h.elim)) 0 (by omega) (from_ + i) (by omega) tData
      have hl128 := (r5last128 hd 0 (from_ + i) (by omega) (by omega)).1
      rw [Int.natCast_add] at hrd
      obtain ⟨pb, kb, rfl, -, -⟩ := hvb.any
      rw [hw128] at hvb hvl
      have a1 : (from_ : Int) + (i : Int) ≤ 4096 := by omega
      have c4' := (ho.alloc (.cells (madeCells #[.int .u8 0] 128) 5)).at 0 (v := .pointer (some ⟨bd, 0, none⟩)) rfl
      generalize hwa : wantAt want i = x at *
      generalize hla : E.last 0 (from_ + i) = y at *
      have hwlt : pw = none → ¬ i < nw := fun hp hin => by
        rcases hvl with ⟨_, b, rfl, _⟩ | ⟨h, _⟩
        · cases hp
        · exact h hin
      clear ho hz hwa hwlt hq
      rcases hvl with ⟨hin, b, rfl, cb⟩ | ⟨hnin, hvz⟩
      · have hin2 : (i : Int) < (nw : Int) := by omega
        by_cases heq : y = x
        · rw [if_pos heq] at hsucc
          have Hd := Lib.hid hd
          have Hst := Lib.hid hst
          have Hlr := Lib.hid hlr
          have HlE := Lib.hid hlE
          have HlimE := Lib.hid hlimE
          have Hsucc := Lib.hid hsucc
          have HE := Lib.hid hE
          have HC := Lib.hid hC
          have Hvb := Lib.hid hvb
          have Hw128 := Lib.hid hw128
          have Hrd := Lib.hid hrd
          have Hl128 := Lib.hid hl128
          have Heq := Lib.hid heq
          have Hla := Lib.hid hla
          have Hsz := Lib.hid hsz
          clear hd hst hlr hlE hlimE hsucc hE hC hvb hw128 hrd hl128 heq hla hsz
          go_wp2_with fail
          refine Hrd.out.mono ?_
          rintro e w1 ⟨u1, τ1, rfl, hb1, hs1⟩
          obtain ⟨p1, k1, rfl, -, -⟩ := hb1.any
          rw [Hl128.out] at hb1 ⊢
          have k1c := hb1.conv
          have k2c := (Hvb.out.step hs1 (fun h => h)).conv
          rw [Heq.out] at k1c
          have hs01 := Hsz.out.trans hs1
          have hd1 := Hd.out.step hs01 (fun _ h => h.elim)
          have hst1 := Hst.out.trans (hs01.mono (fun _ h => h.elim))
          have Hd1 := Lib.hid hd1
          have Hst1 := Lib.hid hst1
          clear hd1 hst1
          clear hb1 hs1 hs01
          generalize toU8 x = xs at *
          go_wp2_with fail
          go_round
          case rel => exact ⟨i + 1, τ1, by omega, by simp, by rw [Hsucc.out, HC.out], by rw [Hsucc.out, HE.out]; exact Hd1.out, Hst1.out⟩
          case measure => simp [intOf]; omega
        · rw [if_neg heq] at hsucc
          have Hd := Lib.hid hd
          have Hst := Lib.hid hst
          have Hlr := Lib.hid hlr
          have HlE := Lib.hid hlE
          have HlimE := Lib.hid hlimE
          have Hsucc := Lib.hid hsucc
          have HE := Lib.hid hE
          have HC := Lib.hid hC
          have Hvb := Lib.hid hvb
          have Hw128 := Lib.hid hw128
          have Hrd := Lib.hid hrd
          have Hl128 := Lib.hid hl128
          have Heq := Lib.hid heq
          have Hla := Lib.hid hla
          have Hsz := Lib.hid hsz
          clear hd hst hlr hlE hlimE hsucc hE hC hvb hw128 hrd hl128 heq hla hsz
          go_wp2_with fail
          refine Hrd.out.mono ?_
          rintro e w1 ⟨u1, τ1, rfl, hb1, hs1⟩
          obtain ⟨p1, k1, rfl, -, -⟩ := hb1.any
          rw [Hl128.out] at hb1 ⊢
          have hvb1 := Hvb.out.step hs1 (fun h => h)
          have k1c := hb1.conv
          have k2c := hvb1.conv
          obtain ⟨hne, hne2⟩ := toU8_ne hb1.isB hvb1.isB Heq.out
          have hs01 := Hsz.out.trans hs1
          have hlr1 := Hlr.out.step hs01 (fun _ _ h => h)
          obtain ⟨vs1, vt1, ho1, -, -⟩ := hlr1.is
          have c41 := ho1.at 0 (v := .pointer (some ⟨bd, 0, none⟩)) rfl
          have hd1 := Hd.out.step hs01 (fun _ h => h.elim)
          have hwt := r5write hd1 0 (by omega) (from_ + i) (by have := HlE.out; omega) hvb1 Hw128.out rdevtag_data (Dev.lim_mono HlimE.out (by omega))
          rw [Int.natCast_add] at hwt
          have hst1 := Hst.out.trans (hs01.mono (fun _ h => h.elim))
          have Hwt := Lib.hid hwt
          have Hst1 := Lib.hid hst1
          clear hwt hst1
          clear hb1 hs1 hs01 hlr1 ho1 hd1 hvb1
          generalize toU8 x = xs at *
          generalize toU8 y = ys at *
          go_wp2_with fail
          refine Hwt.out.mono ?_
          rintro e w2 ⟨rfl, τ2, hd2, hs2⟩
          have hst2 := Hst1.out.trans hs2
          have Hd2 := Lib.hid hd2
          have Hst2 := Lib.hid hst2
          clear hd2 hst2
          clear hs2
          go_wp2_with fail
          go_round
          case rel => exact ⟨i + 1, τ2, by omega, by simp, by rw [Hsucc.out], by rw [Hsucc.out]; exact Hd2.out, Hst2.out⟩
          case measure => simp [intOf]; omega
      · cases hvz
        by_cases heq : y = x
        · rw [if_pos heq] at hsucc
          have Hd := Lib.hid hd
          have Hst := Lib.hid hst
          have Hlr := Lib.hid hlr
          have HlE := Lib.hid hlE
          have HlimE := Lib.hid hlimE
          have Hsucc := Lib.hid hsucc
          have HE := Lib.hid hE
          have HC := Lib.hid hC
          have Hvb := Lib.hid hvb
          have Hw128 := Lib.hid hw128
          have Hrd := Lib.hid hrd
          have Hl128 := Lib.hid hl128
          have Heq := Lib.hid heq
          have Hla := Lib.hid hla
          have Hsz := Lib.hid hsz
          clear hd hst hlr hlE hlimE hsucc hE hC hvb hw128 hrd hl128 heq hla hsz
          go_wp2_with fail
          refine Hrd.out.mono ?_
          rintro e w1 ⟨u1, τ1, rfl, hb1, hs1⟩
          obtain ⟨p1, k1, rfl, -, -⟩ := hb1.any
          rw [Hl128.out] at hb1 ⊢
          have k1c := hb1.conv
          have k2c := (Hvb.out.step hs1 (fun h => h)).conv
          rw [Heq.out] at k1c
          have hs01 := Hsz.out.trans hs1
          have hd1 := Hd.out.step hs01 (fun _ h => h.elim)
          have hst1 := Hst.out.trans (hs01.mono (fun _ h => h.elim))
          have Hd1 := Lib.hid hd1
          have Hst1 := Lib.hid hst1
          clear hd1 hst1
          clear hb1 hs1 hs01
          generalize toU8 x = xs at *
          go_wp2_with fail
          go_round
          case rel => exact ⟨i + 1, τ1, by omega, by simp, by rw [Hsucc.out, HC.out], by rw [Hsucc.out, HE.out]; exact Hd1.out, Hst1.out⟩
          case measure => simp [intOf]; omega
        · rw [if_neg heq] at hsucc
          have Hd := Lib.hid hd
          have Hst := Lib.hid hst
          have Hlr := Lib.hid hlr
          have HlE := Lib.hid hlE
          have HlimE := Lib.hid hlimE
          have Hsucc := Lib.hid hsucc
          have HE := Lib.hid hE
          have HC := Lib.hid hC
          have Hvb := Lib.hid hvb
          have Hw128 := Lib.hid hw128
          have Hrd := Lib.hid hrd
          have Hl128 := Lib.hid hl128
          have Heq := Lib.hid heq
          have Hla := Lib.hid hla
          have Hsz := Lib.hid hsz
          clear hd hst hlr hlE hlimE hsucc hE hC hvb hw128 hrd hl128 heq hla hsz
          go_wp2_with fail
          refine Hrd.out.mono ?_
          rintro e w1 ⟨u1, τ1, rfl, hb1, hs1⟩
          obtain ⟨p1, k1, rfl, -, -⟩ := hb1.any
          rw [Hl128.out] at hb1 ⊢
          have hvb1 := Hvb.out.step hs1 (fun h => h)
          have k1c := hb1.conv
          have k2c := hvb1.conv
          obtain ⟨hne, hne2⟩ := toU8_ne hb1.isB hvb1.isB Heq.out
          have hs01 := Hsz.out.trans hs1
          have hlr1 := Hlr.out.step hs01 (fun _ _ h => h)
          obtain ⟨vs1, vt1, ho1, -, -⟩ := hlr1.is
          have c41 := ho1.at 0 (v := .pointer (some ⟨bd, 0, none⟩)) rfl
          have hd1 := Hd.out.step hs01 (fun _ h => h.elim)
          have hwt := r5write hd1 0 (by omega) (from_ + i) (by have := HlE.out; omega) hvb1 Hw128.out rdevtag_data (Dev.lim_mono HlimE.out (by omega))
          rw [Int.natCast_add] at hwt
          have hst1 := Hst.out.trans (hs01.mono (fun _ h => h.elim))
          have Hwt := Lib.hid hwt
          have Hst1 := Lib.hid hst1
          clear hwt hst1
          clear hb1 hs1 hs01 hlr1 ho1 hd1 hvb1
          generalize toU8 x = xs at *
          generalize toU8 y = ys at *
          go_wp2_with fail
          refine Hwt.out.mono ?_
          rintro e w2 ⟨rfl, τ2, hd2, hs2⟩
          have hst2 := Hst1.out.trans hs2
          have Hd2 := Lib.hid hd2
          have Hst2 := Lib.hid hst2
          clear hd2 hst2
          clear hs2
          go_wp2_with fail
          go_round
          case rel => exact ⟨i + 1, τ2, by omega, by simp, by rw [Hsucc.out], by rw [Hsucc.out]; exact Hd2.out, Hst2.out⟩
          case measure => simp [intOf]; omega
    · obtain rfl : i = n := by omega
      have hmk : D.make from_ i want = if C = true then E.sync 0 else E := by unfold Dev.make; rw [hE, hC]
      have hsy := r5sync hd 0 (by omega)
      cases C with
      | true =>
        rw [if_pos rfl] at hmk
        have Hsy := Lib.hid hsy
        have Hst := Lib.hid hst
        have Hmk := Lib.hid hmk
        have Hlr := Lib.hid hlr
        clear hsy hst hmk hlr
        clear ho hsucc hlE hlimE hE hC hd
        go_wp2_with fail
        refine Hsy.out.mono ?_
        rintro e w2 ⟨rfl, τ2, hd2, hs2⟩
        have Hd2 := Lib.hid hd2
        have Hs2 := Lib.hid hs2
        clear hd2 hs2
        go_wp2_with fail
        go_returns
        exact ⟨rfl, τ2, by rw [Hmk.out]; exact Hd2.out, Hst.out.trans Hs2.out⟩
      | false =>
        rw [if_neg (by simp)] at hmk
        have Hst := Lib.hid hst
        have Hmk := Lib.hid hmk
        have Hd := Lib.hid hd
        clear hst hmk hd
        clear ho hsucc hlE hlimE hE hC hlr hsy
        go_wp2_with fail
        go_returns
        exact ⟨rfl, τr, by rw [Hmk.out]; exact Hd.out, Hst.out⟩
end Go.Proofs.YtgjoahddbieliaaGreat
