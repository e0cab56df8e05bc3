/-
  The log: how it lies in memory; on, its getters, make, say, New.
-/
import Derived.Test.YtgjoahddbieliaaGreatMCrc
namespace Go.Proofs.YtgjoahddbieliaaGreat
open Go.RowKit
set_option linter.unusedVariables false

/-- the log, without its device -/
structure LogM where
  stamp : Nat
  base : Nat
  check : Nat
  area : Nat
  strips : Nat
  slot : Nat
  stream : List Int
  starts : List Nat
  lasts : Nat
def tLog : Tag := (10, 0)
def tStream : Tag := (11, 0)
def tStarts : Tag := (12, 0)
def LogTag (g : Tag) : Prop := g = tLog ∨ g = tStream ∨ g = tStarts
def i64s (l : List Nat) : List Value := l.map (fun (n : Nat) => Value.int .i64 (n : Int))
def logCells (L : LogM) (bd : Nat) (vs vt : Value) : List Value :=
  [.int .u64 (L.stamp : Int), .int .u64 (L.base : Int), .int .u64 (L.check : Int), .int .i64 (L.area : Int), .pointer (some ⟨bd, 0, none⟩), .int .i64 (L.strips : Int), .int .i64 (L.slot : Int), vs, vt, .int .i64 (L.lasts : Int)]
/-- numbers that fit -/
structure LogM.ok (L : LogM) : Prop where
  stamp : L.stamp < 2 ^ 64
  base : L.base ≤ 13835058055282163712
  check : L.check < 2 ^ 64
  area : L.area < 2
  strips : L.strips ≤ 2047
  slot : L.slot < 2
  stream : L.stream.length ≤ 1000000
  starts : L.starts.length ≤ 1000000
  lasts : L.lasts ≤ L.stream.length
structure LogAt (w : World) (τ : Tags) (bl bd : Nat) (L : LogM) : Prop where
  is : ∃ vs vt, Own w τ bl tLog 115 (logCells L bd vs vt) ∧ Buf w τ tStream 5 1 vs L.stream.length (u8s L.stream) ∧ Buf w τ tStarts 3 1 vt L.starts.length (i64s L.starts)
  isB : IsB L.stream
  ok : L.ok
theorem LogAt.step {w w' : World} {τ τ' : Tags} {S : Tag → Prop} {bl bd : Nat} {L : LogM} (h : LogAt w τ bl bd L) (m : Step w τ w' τ' S) (hs : ∀ g, LogTag g → ¬ S g) : LogAt w' τ' bl bd L := by
  obtain ⟨vs, vt, h1, h2, h3⟩ := h.is
  exact ⟨⟨vs, vt, h1.step m (hs _ (.inl rfl)), h2.step m (hs _ (.inr (.inl rfl))), h3.step m (hs _ (.inr (.inr rfl)))⟩, h.isB, h.ok⟩
theorem devtag_log (g : Tag) (h : LogTag g) : ¬ DevTag g := by
  rcases h with rfl | rfl | rfl <;> simp [DevTag, tLog, tStream, tStarts]

/-- on: a log that is not filled in, or none -/
def newLog (n : Nat) : LogM := ⟨0, 0, 0, 0, (n - 2) / 2, 0, [], [], 0⟩
theorem on_yes {w : World} {τ : Tags} {bd : Nat} {D : Dev} (h : DevAt w τ bd D) (h18 : 18 ≤ D.f0.length) :
    Calls Tryz.prog 100 #[.pointer (some ⟨bd, 0, none⟩)] w fun e w' => ∃ bl τ', e = .returned (.tuple #[.pointer (some ⟨bl, 0, none⟩), .int .u16 0]) ∧ w.heap.size ≤ bl ∧ LogAt w' τ' bl bd (newLog D.f0.length) ∧ Step w τ w' τ' nil := by
  have hsz := size_any h 0 (by omega)
  have hlen := h.length 0
  have hf : D.file 0 = D.f0 := rfl
  rw [hf] at hsz hlen
  have hown := Own.new w τ tLog 115 (logCells (newLog D.f0.length) bd (.slice none 0 0) (.slice none 0 0))
  have hst := (Step.refl w τ nil).alloc (.cells ⟨logCells (newLog D.f0.length) bd (.slice none 0 0) (.slice none 0 0)⟩ 115) tLog
  have hfin : LogAt (w.alloc (.cells ⟨logCells (newLog D.f0.length) bd (.slice none 0 0) (.slice none 0 0)⟩ 115)) (τ.put w.heap.size tLog) w.heap.size bd (newLog D.f0.length) :=
    ⟨⟨_, _, hown, Buf.nil _ _ _ _ _, Buf.nil _ _ _ _ _⟩, fun x hx => by simp [newLog] at hx, by constructor <;> simp only [newLog] <;> first | omega | simp⟩
  have hcast : ((newLog D.f0.length).strips : Int) = ((D.f0.length : Int) - 2) / 2 := by simp only [newLog]; omega
  unfold logCells at hfin hst
  rw [hcast] at hfin hst
  generalize D.f0.length = n at *
  simp only [newLog] at hfin hst
  have Hsz := Lib.hid hsz
  have Hst := Lib.hid hst
  have Hfin := Lib.hid hfin
  clear hsz hst hfin
  clear hown h hcast
  have hge : (2 : Int) ≤ (n : Int) := by omega
  have a1 : decide (((n : Int) - 2) / 2 < 8) = false := by simp; omega
  go_enter Tryz.func100, Tryz.ntmps100
  go_wp2_with fail
  refine Hsz.out.mono ?_
  rintro e w' ⟨rfl, rfl⟩
  go_wp2_with fail
  go_ret2
  exact ⟨_, _, rfl, Nat.le_refl _, Hfin.out, Hst.out⟩
theorem on_no {w : World} {τ : Tags} {bd : Nat} {D : Dev} (h : DevAt w τ bd D) (h18 : D.f0.length < 18) :
    Calls Tryz.prog 100 #[.pointer (some ⟨bd, 0, none⟩)] w fun e w' => e = .returned (.tuple #[.pointer none, .int .u16 82]) ∧ ∃ τ', Step w τ w' τ' nil := by
  have hsz := size_any h 0 (by omega)
  have hf : D.file 0 = D.f0 := rfl
  rw [hf] at hsz
  generalize D.f0.length = n at *
  clear h hf
  rcases (by omega : n = 0 ∨ n = 1 ∨ 2 ≤ n) with rfl | rfl | h2
  · have Hsz := Lib.hid hsz
    clear hsz
    go_enter Tryz.func100, Tryz.ntmps100
    go_wp2_with fail
    refine Hsz.out.mono ?_
    rintro e w' ⟨rfl, rfl⟩
    go_wp2_with fail
    go_ret2
    exact ⟨rfl, τ, (Step.refl _ _ _).alloc' _⟩
  · have Hsz := Lib.hid hsz
    clear hsz
    go_enter Tryz.func100, Tryz.ntmps100
    go_wp2_with fail
    refine Hsz.out.mono ?_
    rintro e w' ⟨rfl, rfl⟩
    go_wp2_with fail
    go_ret2
    exact ⟨rfl, τ, (Step.refl _ _ _).alloc' _⟩
  · have Hsz := Lib.hid hsz
    clear hsz
    have hge : (2 : Int) ≤ (n : Int) := by omega
    have a1 : decide (((n : Int) - 2) / 2 < 8) = true := by simp; omega
    go_enter Tryz.func100, Tryz.ntmps100
    go_wp2_with fail
    refine Hsz.out.mono ?_
    rintro e w' ⟨rfl, rfl⟩
    go_wp2_with fail
    go_ret2
    exact ⟨rfl, τ, (Step.refl _ _ _).alloc' _⟩

/-! ### getters -/
theorem base_any {w : World} {τ : Tags} {bl bd : Nat} {L : LogM} (h : LogAt w τ bl bd L) :
    Calls Tryz.prog 86 #[.pointer (some ⟨bl, 0, none⟩)] w fun e w' => e = .returned (.int .u64 (L.base : Int)) ∧ w = w' := by
  obtain ⟨vs, vt, ho, _, _⟩ := h.is
  have c1 := ho.at 1 (v := .int .u64 (L.base : Int)) rfl
  clear h ho
  go_enter Tryz.func86, Tryz.ntmps86
  go_wp2_with fail
  go_ret
  exact ⟨rfl, rfl⟩
theorem check_any {w : World} {τ : Tags} {bl bd : Nat} {L : LogM} (h : LogAt w τ bl bd L) :
    Calls Tryz.prog 91 #[.pointer (some ⟨bl, 0, none⟩)] w fun e w' => e = .returned (.int .u64 (L.check : Int)) ∧ w = w' := by
  obtain ⟨vs, vt, ho, _, _⟩ := h.is
  have c1 := ho.at 2 (v := .int .u64 (L.check : Int)) rfl
  clear h ho
  go_enter Tryz.func91, Tryz.ntmps91
  go_wp2_with fail
  go_ret
  exact ⟨rfl, rfl⟩
theorem dev_any {w : World} {τ : Tags} {bl bd : Nat} {L : LogM} (h : LogAt w τ bl bd L) :
    Calls Tryz.prog 67 #[.pointer (some ⟨bl, 0, none⟩)] w fun e w' => e = .returned (.pointer (some ⟨bd, 0, none⟩)) ∧ w = w' := by
  obtain ⟨vs, vt, ho, _, _⟩ := h.is
  have c1 := ho.at 4 (v := .pointer (some ⟨bd, 0, none⟩)) rfl
  clear h ho
  go_enter Tryz.func67, Tryz.ntmps67
  go_wp2_with fail
  go_ret
  exact ⟨rfl, rfl⟩
theorem room_any {w : World} {τ : Tags} {bl bd : Nat} {L : LogM} (h : LogAt w τ bl bd L) :
    Calls Tryz.prog 195 #[.pointer (some ⟨bl, 0, none⟩)] w fun e w' => e = .returned (.int .i64 (L.strips * 127 : Nat)) ∧ w = w' := by
  obtain ⟨vs, vt, ho, _, _⟩ := h.is
  have c1 := ho.at 5 (v := .int .i64 (L.strips : Int)) rfl
  have hb := h.ok.strips
  clear h ho
  go_enter Tryz.func195, Tryz.ntmps195
  go_wp2_with fail
  go_ret
  exact ⟨by simp, rfl⟩
theorem u64_add {a b : Nat} (h : a + b < 18446744073709551616) : IntKind.u64.wrap ((a : Int) + (b : Int)) = ((a + b : Nat) : Int) := by
  have := u64_wrap (a + b) h
  rw [← this]; congr 1
theorem End_any {w : World} {τ : Tags} {bl bd : Nat} {L : LogM} (h : LogAt w τ bl bd L) :
    Calls Tryz.prog 88 #[.pointer (some ⟨bl, 0, none⟩)] w fun e w' => e = .returned (.int .u64 ((L.base + L.stream.length : Nat) : Int)) ∧ Step w τ w' τ nil := by
  obtain ⟨vs, vt, ho, hs, _⟩ := h.is
  obtain ⟨p, c, rfl⟩ := hs.len
  have c1 := ho.at 1 (v := .int .u64 (L.base : Int)) rfl
  have c7 := ho.at 7 (v := .slice p L.stream.length c) rfl
  have hb := h.ok.base
  have hl := h.ok.stream
  have hw := u64_wrap L.stream.length (by omega)
  have hw2 := u64_add (a := L.base) (b := L.stream.length) (by omega)
  generalize L.stream.length = n at *
  generalize L.base = bs at *
  clear h ho hs
  clear hb hl
  go_enter Tryz.func88, Tryz.ntmps88
  go_wp2_with fail
  go_quiet (fail)
  go_wp2_with fail
  go_ret
  exact ⟨rfl, (Step.refl w τ nil).drews nq⟩
theorem Lasts_any {w : World} {τ : Tags} {bl bd : Nat} {L : LogM} (h : LogAt w τ bl bd L) :
    Calls Tryz.prog 20 #[.pointer (some ⟨bl, 0, none⟩)] w fun e w' => e = .returned (.int .u64 ((L.base + L.lasts : Nat) : Int)) ∧ Step w τ w' τ nil := by
  obtain ⟨vs, vt, ho, hs, _⟩ := h.is
  have c1 := ho.at 1 (v := .int .u64 (L.base : Int)) rfl
  have c9 := ho.at 9 (v := .int .i64 (L.lasts : Int)) rfl
  have hb := h.ok.base
  have hl := h.ok.stream
  have hla := h.ok.lasts
  have hw := u64_wrap L.lasts (by omega)
  have hw2 := u64_add (a := L.base) (b := L.lasts) (by omega)
  generalize L.lasts = n at *
  generalize L.base = bs at *
  clear h ho hs
  clear hb hl hla
  go_enter Tryz.func20, Tryz.ntmps20
  go_wp2_with fail
  go_quiet (fail)
  go_wp2_with fail
  go_ret
  exact ⟨rfl, (Step.refl w τ nil).drews nq⟩

/-! ### make -/
def zeros128 : List Int := List.replicate 128 0
/-- what the i-th sector is to be -/
def wantAt (want : List (List Int)) (i : Nat) : List Int := if i < want.length then want.getD i [] else zeros128
/-- the first i of them are so; did any turn? -/
def makeTo (D : Dev) (from_ : Nat) (want : List (List Int)) : Nat → Dev × Bool
  | 0 => (D, false)
  | i + 1 => if (makeTo D from_ want i).1.last 0 (from_ + i) = wantAt want i then makeTo D from_ want i else ((makeTo D from_ want i).1.write 0 (from_ + i) (wantAt want i), true)
def Dev.make (D : Dev) (from_ n : Nat) (want : List (List Int)) : Dev := if (makeTo D from_ want n).2 = true then (makeTo D from_ want n).1.sync 0 else (makeTo D from_ want n).1
theorem makeTo_length (D : Dev) (from_ : Nat) (want : List (List Int)) (i f : Nat) : ((makeTo D from_ want i).1.file f).length = (D.file f).length := by
  induction i with
  | zero => rfl
  | succ i ih =>
    unfold makeTo
    split
    · exact ih
    · rw [Dev.write_file _ _ _ (by omega)]; exact ih
theorem makeTo_lim {D : Dev} {b : Nat} (h : D.lim b) (from_ : Nat) (want : List (List Int)) (i : Nat) : (makeTo D from_ want i).1.lim (b + i) := by
  induction i with
  | zero => exact h
  | succ i ih =>
    unfold makeTo
    split
    · exact Dev.lim_mono ih (by omega)
    · exact Dev.lim_mono (Dev.lim_write ih 0 _ (by omega) _) (by omega)
theorem Dev.make_length (D : Dev) (from_ n : Nat) (want : List (List Int)) (f : Nat) : ((D.make from_ n want).file f).length = (D.file f).length := by
  unfold Dev.make
  split
  · rw [Dev.sync_file _ _ (by omega), makeTo_length]
  · rw [makeTo_length]
theorem Dev.make_lim {D : Dev} {b : Nat} (h : D.lim b) (from_ n : Nat) (want : List (List Int)) : (D.make from_ n want).lim (b + n) := by
  unfold Dev.make
  split
  · exact Dev.lim_sync (makeTo_lim h _ _ _) 0 (by omega)
  · exact makeTo_lim h _ _ _
theorem devtag_data : ¬ DevTag tData := by simp [DevTag, tData]

set_option maxRecDepth 100000 in
theorem make_any {w : World} {τ : Tags} {bl bd : Nat} {L : LogM} {D : Dev} (hl : LogAt w τ bl bd L) (hd : DevAt w τ bd D) {g : Tag} {v : Value} {want : List (List Int)} (hw : Waits w τ g v want) (hg : ¬ DevTag g) (from_ n : Nat) (hfit : from_ + n ≤ D.f0.length) (hlim : D.lim 800000) :
    Calls Tryz.prog 105 #[.pointer (some ⟨bl, 0, none⟩), .int .i64 (from_ : Int), .int .i64 (n : Int), v] w (DevR w τ bd (D.make from_ n want) (.tuple #[])) := by
  have rn := run_noughts
  have hlen := hd.length 0
  have hf0 : D.file 0 = D.f0 := rfl
  rw [hf0] at hlen
  obtain ⟨pw, cw, rfl, hwm, -⟩ := hw.read
  have hz := Bytes.noughts w τ tData 128 (by unfold maxLen; omega)
  have hst0 := (Step.refl w τ DevTag).alloc (.cells (madeCells #[.int .u8 0] 128) 5) tData
  have hd0 := hd.step ((Step.refl w τ nil).alloc (.cells (madeCells #[.int .u8 0] 128) 5) tData) (fun _ h => h.elim)
  generalize hnw : want.length = nw at *
  have Hl := Lib.hid hl
  have Hw := Lib.hid hw
  have Hst0 := Lib.hid hst0
  have Hd0 := Lib.hid hd0
  have Hz := Lib.hid hz
  have Hlim := Lib.hid hlim
  have Hnw := Lib.hid hnw
  clear hl hw hst0 hd0 hz hlim hnw
  clear hd
  go_enter Tryz.func105, Tryz.ntmps105
  go_wp2_with fail
  generalize w.alloc (.cells (madeCells #[.int .u8 0] 128) 5) = W0 at *
  generalize hzb : w.heap.size = zb at *
  have HZB := Lib.hid hzb
  clear hzb
  go_loopw [8, 16] (fun c v wr => ∃ (i : Nat) (τr : Tags), i ≤ n ∧ v = .int .i64 (i : Int) ∧ c = .bool (makeTo D from_ want i).2 ∧ DevAt wr τr bd (makeTo D from_ want i).1 ∧ Bytes wr τr tData (.slice (some ⟨zb, 0, none⟩) 128 128) zeros128 ∧ Step w τ wr τr DevTag) (fun _ v _ => n - (intOf v).toNat)
  case atStart => exact ⟨0, _, Nat.zero_le _, rfl, rfl, Hd0.out, Hz.out, Hst0.out⟩
  case round =>
    obtain ⟨i, τr, hi, rfl, rfl, hd, hz, hst⟩ := hrel
    have hlr := Hl.out.step hst devtag_log
    obtain ⟨vs, vt, ho, -, -⟩ := hlr.is
    have c4 := ho.at 4 (v := .pointer (some ⟨bd, 0, none⟩)) rfl
    have hlE := makeTo_length D from_ want i 0
    have hlimE := makeTo_lim Hlim.out from_ want i
    have hsucc : makeTo D from_ want (i + 1) = if (makeTo D from_ want i).1.last 0 (from_ + i) = wantAt want i then makeTo D from_ want i else ((makeTo D from_ want i).1.write 0 (from_ + i) (wantAt want i), true) := rfl
    rw [hf0] at hlE
    generalize hE : (makeTo D from_ want i).1 = E at *
    generalize hC : (makeTo D from_ want i).2 = C at *
    by_cases hlt : i < n
    · -- what it is to be
      obtain ⟨vb, gb, hvb, hgb, hvl⟩ : ∃ vb gb, Bytes wr τr gb vb (wantAt want i) ∧ ¬ DevTag gb ∧ ((i < nw ∧ ∃ b, pw = some ⟨b, 0, none⟩ ∧ wr.cell? ⟨b, i, none⟩ = some vb) ∨ (¬ i < nw ∧ vb = .slice (some ⟨zb, 0, none⟩) 128 128)) := by
        by_cases hin : i < nw
        · obtain ⟨p', c', hv', _, hr⟩ := (Hw.out.step hst hg devtag_data).read
          cases hv'
          obtain ⟨x, hx⟩ : ∃ x, want[i]? = some x := ⟨_, List.getElem?_eq_getElem (by rw [Hnw.out]; exact hin)⟩
          obtain ⟨_, b, u, hpb, hc, hb⟩ := hr i x hx
          refine ⟨u, tData, ?_, devtag_data, .inl ⟨hin, b, hpb, hc⟩⟩
          unfold wantAt
          rw [if_pos (by rw [Hnw.out]; exact hin), List.getD_eq_getElem?_getD, hx]; exact hb
        · refine ⟨_, tData, ?_, devtag_data, .inr ⟨hin, rfl⟩⟩
          unfold wantAt
          rw [if_neg (by rw [Hnw.out]; exact hin)]; exact hz
      have hw128 : (wantAt want i).length = 128 := by
        unfold wantAt
        split
        · rename_i hin
          obtain ⟨p', c', _, _, hr⟩ := Hw.out.read
          have hx : want[i]? = some (want.getD i []) := by rw [List.getD_eq_getElem?_getD, List.getElem?_eq_getElem hin]; rfl
          exact (hr i _ hx).1
        · simp [zeros128]
      have hq : E.file 0 = E.f0 := rfl
      have hrd := read_any hd 0 (by omega) (from_ + i) (by omega) tData
      have hl128 := (hd.last128 0 (from_ + i) (by omega)).1
      rw [Int.natCast_add] at hrd
      obtain ⟨pb, kb, rfl, -, -⟩ := hvb.any
      rw [hw128] at hvb hvl
      have a1 : (from_ : Int) + (i : Int) ≤ 4096 := by omega
      generalize hwa : wantAt want i = x at *
      generalize hla : E.last 0 (from_ + i) = y at *
      clear ho hq hwa
      rcases hvl with ⟨hin, b, rfl, cb⟩ | ⟨hnin, hvz⟩
      · by_cases heq : y = x
        · rw [if_pos heq] at hsucc
          have Hd := Lib.hid hd
          have Hz := Lib.hid hz
          have Hst := Lib.hid hst
          have Hlr := Lib.hid hlr
          have HlE := Lib.hid hlE
          have HlimE := Lib.hid hlimE
          have Hsucc := Lib.hid hsucc
          have HE := Lib.hid hE
          have HC := Lib.hid hC
          have Hvb := Lib.hid hvb
          have Hgb := Lib.hid hgb
          have Hw128 := Lib.hid hw128
          have Hrd := Lib.hid hrd
          have Hl128 := Lib.hid hl128
          have Heq := Lib.hid heq
          have Hla := Lib.hid hla
          clear hd hz hst hlr hlE hlimE hsucc hE hC hvb hgb hw128 hrd hl128 heq hla
          go_wp2_with fail
          refine Hrd.out.mono ?_
          rintro e w1 ⟨u1, τ1, rfl, hb1, hs1⟩
          obtain ⟨p1, k1, rfl, -, -⟩ := hb1.any
          rw [Hl128.out] at hb1 ⊢
          have heq1 := equal_any hb1 (Hvb.out.step hs1 (fun h => h))
          rw [decide_eq_true Heq.out] at heq1
          have hd1 := Hd.out.step hs1 (fun _ h => h.elim)
          have hz1 := Hz.out.step hs1 (fun h => h)
          have hst1 := Hst.out.trans (hs1.mono (fun _ h => h.elim))
          have Heq1 := Lib.hid heq1
          have Hd1 := Lib.hid hd1
          have Hz1 := Lib.hid hz1
          have Hst1 := Lib.hid hst1
          clear heq1 hd1 hz1 hst1
          clear hb1 hs1
          go_wp2_with fail
          refine Heq1.out.mono ?_
          rintro e w' ⟨rfl, rfl⟩
          go_wp2_with fail
          go_round
          case rel => exact ⟨i + 1, τ1, by omega, by simp, by rw [Hsucc.out, HC.out], by rw [Hsucc.out, HE.out]; exact Hd1.out, Hz1.out, Hst1.out⟩
          case measure => simp [intOf]; omega
        · rw [if_neg heq] at hsucc
          have Hd := Lib.hid hd
          have Hz := Lib.hid hz
          have Hst := Lib.hid hst
          have Hlr := Lib.hid hlr
          have HlE := Lib.hid hlE
          have HlimE := Lib.hid hlimE
          have Hsucc := Lib.hid hsucc
          have HE := Lib.hid hE
          have HC := Lib.hid hC
          have Hvb := Lib.hid hvb
          have Hgb := Lib.hid hgb
          have Hw128 := Lib.hid hw128
          have Hrd := Lib.hid hrd
          have Hl128 := Lib.hid hl128
          have Heq := Lib.hid heq
          have Hla := Lib.hid hla
          clear hd hz hst hlr hlE hlimE hsucc hE hC hvb hgb hw128 hrd hl128 heq hla
          go_wp2_with fail
          refine Hrd.out.mono ?_
          rintro e w1 ⟨u1, τ1, rfl, hb1, hs1⟩
          obtain ⟨p1, k1, rfl, -, -⟩ := hb1.any
          rw [Hl128.out] at hb1 ⊢
          have heq1 := equal_any hb1 (Hvb.out.step hs1 (fun h => h))
          rw [decide_eq_false Heq.out] at heq1
          have hlr1 := Hlr.out.step hs1 (fun _ _ h => h)
          obtain ⟨vs1, vt1, ho1, -, -⟩ := hlr1.is
          have c41 := ho1.at 4 (v := .pointer (some ⟨bd, 0, none⟩)) rfl
          have hd1 := Hd.out.step hs1 (fun _ h => h.elim)
          have hwt := write_any hd1 0 (by omega) (from_ + i) (by have := HlE.out; have hq : E.file 0 = E.f0 := rfl; rw [hq] at this ⊢; omega) (Hvb.out.step hs1 (fun h => h)) Hw128.out Hgb.out (Dev.lim_mono HlimE.out (by omega))
          rw [Int.natCast_add] at hwt
          have hz1 := Hz.out.step hs1 (fun h => h)
          have hst1 := Hst.out.trans (hs1.mono (fun _ h => h.elim))
          have Heq1 := Lib.hid heq1
          have Hwt := Lib.hid hwt
          have Hz1 := Lib.hid hz1
          have Hst1 := Lib.hid hst1
          clear heq1 hwt hz1 hst1
          clear hb1 hs1 hlr1 ho1 hd1
          go_wp2_with fail
          refine Heq1.out.mono ?_
          rintro e w' ⟨rfl, rfl⟩
          go_wp2_with fail
          refine Hwt.out.mono ?_
          rintro e w2 ⟨rfl, τ2, hd2, hs2⟩
          have hz2 := Hz1.out.step hs2 devtag_data
          have hst2 := Hst1.out.trans hs2
          have Hd2 := Lib.hid hd2
          have Hz2 := Lib.hid hz2
          have Hst2 := Lib.hid hst2
          clear hd2 hz2 hst2
          clear hs2
          go_wp2_with fail
          go_round
          case rel => exact ⟨i + 1, τ2, by omega, by simp, by rw [Hsucc.out], by rw [Hsucc.out]; exact Hd2.out, Hz2.out, Hst2.out⟩
          case measure => simp [intOf]; omega
      · by_cases heq : y = x
        · rw [if_pos heq] at hsucc
          cases hvz
          have Hd := Lib.hid hd
          have Hz := Lib.hid hz
          have Hst := Lib.hid hst
          have Hlr := Lib.hid hlr
          have HlE := Lib.hid hlE
          have HlimE := Lib.hid hlimE
          have Hsucc := Lib.hid hsucc
          have HE := Lib.hid hE
          have HC := Lib.hid hC
          have Hvb := Lib.hid hvb
          have Hgb := Lib.hid hgb
          have Hw128 := Lib.hid hw128
          have Hrd := Lib.hid hrd
          have Hl128 := Lib.hid hl128
          have Heq := Lib.hid heq
          have Hla := Lib.hid hla
          clear hd hz hst hlr hlE hlimE hsucc hE hC hvb hgb hw128 hrd hl128 heq hla
          go_wp2_with fail
          refine Hrd.out.mono ?_
          rintro e w1 ⟨u1, τ1, rfl, hb1, hs1⟩
          obtain ⟨p1, k1, rfl, -, -⟩ := hb1.any
          rw [Hl128.out] at hb1 ⊢
          have heq1 := equal_any hb1 (Hvb.out.step hs1 (fun h => h))
          rw [decide_eq_true Heq.out] at heq1
          have hd1 := Hd.out.step hs1 (fun _ h => h.elim)
          have hz1 := Hz.out.step hs1 (fun h => h)
          have hst1 := Hst.out.trans (hs1.mono (fun _ h => h.elim))
          have Heq1 := Lib.hid heq1
          have Hd1 := Lib.hid hd1
          have Hz1 := Lib.hid hz1
          have Hst1 := Lib.hid hst1
          clear heq1 hd1 hz1 hst1
          clear hb1 hs1
          go_wp2_with fail
          refine Heq1.out.mono ?_
          rintro e w' ⟨rfl, rfl⟩
          go_wp2_with fail
          go_round
          case rel => exact ⟨i + 1, τ1, by omega, by simp, by rw [Hsucc.out, HC.out], by rw [Hsucc.out, HE.out]; exact Hd1.out, Hz1.out, Hst1.out⟩
          case measure => simp [intOf]; omega
        · rw [if_neg heq] at hsucc
          cases hvz
          have Hd := Lib.hid hd
          have Hz := Lib.hid hz
          have Hst := Lib.hid hst
          have Hlr := Lib.hid hlr
          have HlE := Lib.hid hlE
          have HlimE := Lib.hid hlimE
          have Hsucc := Lib.hid hsucc
          have HE := Lib.hid hE
          have HC := Lib.hid hC
          have Hvb := Lib.hid hvb
          have Hgb := Lib.hid hgb
          have Hw128 := Lib.hid hw128
          have Hrd := Lib.hid hrd
          have Hl128 := Lib.hid hl128
          have Heq := Lib.hid heq
          have Hla := Lib.hid hla
          clear hd hz hst hlr hlE hlimE hsucc hE hC hvb hgb hw128 hrd hl128 heq hla
          go_wp2_with fail
          refine Hrd.out.mono ?_
          rintro e w1 ⟨u1, τ1, rfl, hb1, hs1⟩
          obtain ⟨p1, k1, rfl, -, -⟩ := hb1.any
          rw [Hl128.out] at hb1 ⊢
          have heq1 := equal_any hb1 (Hvb.out.step hs1 (fun h => h))
          rw [decide_eq_false Heq.out] at heq1
          have hlr1 := Hlr.out.step hs1 (fun _ _ h => h)
          obtain ⟨vs1, vt1, ho1, -, -⟩ := hlr1.is
          have c41 := ho1.at 4 (v := .pointer (some ⟨bd, 0, none⟩)) rfl
          have hd1 := Hd.out.step hs1 (fun _ h => h.elim)
          have hwt := write_any hd1 0 (by omega) (from_ + i) (by have := HlE.out; have hq : E.file 0 = E.f0 := rfl; rw [hq] at this ⊢; omega) (Hvb.out.step hs1 (fun h => h)) Hw128.out Hgb.out (Dev.lim_mono HlimE.out (by omega))
          rw [Int.natCast_add] at hwt
          have hz1 := Hz.out.step hs1 (fun h => h)
          have hst1 := Hst.out.trans (hs1.mono (fun _ h => h.elim))
          have Heq1 := Lib.hid heq1
          have Hwt := Lib.hid hwt
          have Hz1 := Lib.hid hz1
          have Hst1 := Lib.hid hst1
          clear heq1 hwt hz1 hst1
          clear hb1 hs1 hlr1 ho1 hd1
          go_wp2_with fail
          refine Heq1.out.mono ?_
          rintro e w' ⟨rfl, rfl⟩
          go_wp2_with fail
          refine Hwt.out.mono ?_
          rintro e w2 ⟨rfl, τ2, hd2, hs2⟩
          have hz2 := Hz1.out.step hs2 devtag_data
          have hst2 := Hst1.out.trans hs2
          have Hd2 := Lib.hid hd2
          have Hz2 := Lib.hid hz2
          have Hst2 := Lib.hid hst2
          clear hd2 hz2 hst2
          clear hs2
          go_wp2_with fail
          go_round
          case rel => exact ⟨i + 1, τ2, by omega, by simp, by rw [Hsucc.out], by rw [Hsucc.out]; exact Hd2.out, Hz2.out, Hst2.out⟩
          case measure => simp [intOf]; omega
    · have hin : i = n := by omega
      subst hin
      have hmk : D.make from_ i want = if C = true then E.sync 0 else E := by unfold Dev.make; rw [hC, hE]
      clear ho hsucc
      cases C with
      | false =>
        rw [if_neg (by simp)] at hmk
        have Hd := Lib.hid hd
        have Hst := Lib.hid hst
        have Hmk := Lib.hid hmk
        clear hd hst hmk
        go_wp2_with fail
        go_returns
        exact ⟨rfl, τr, by rw [Hmk.out]; exact Hd.out, Hst.out⟩
      | true =>
        rw [if_pos rfl] at hmk
        have hsy := sync_any hd 0 (by omega)
        have Hd := Lib.hid hd
        have Hst := Lib.hid hst
        have Hmk := Lib.hid hmk
        have Hsy := Lib.hid hsy
        clear hd hst hmk hsy
        go_wp2_with fail
        refine Hsy.out.mono ?_
        rintro e w2 ⟨rfl, τ2, hd2, hs2⟩
        have Hd2 := Lib.hid hd2
        have Hs2 := Lib.hid hs2
        clear hd2 hs2
        go_wp2_with fail
        go_returns
        exact ⟨rfl, τ2, by rw [Hmk.out]; exact Hd2.out, Hst.out.trans Hs2.out⟩
end Go.Proofs.YtgjoahddbieliaaGreat
