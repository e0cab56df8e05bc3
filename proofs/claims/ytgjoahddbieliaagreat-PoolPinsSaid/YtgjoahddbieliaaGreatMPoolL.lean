/-
  Pools: Get of a page that is not at hand.
-/
import Derived.Test.YtgjoahddbieliaaGreatMPoolI
import Derived.Test.YtgjoahddbieliaaGreatMInts
namespace Go.Proofs.YtgjoahddbieliaaGreat
open Go.RowKit
set_option linter.unusedVariables false

set_option maxRecDepth 100000 in
theorem get_full {w : World} {τ : Tags} {bp bf : Nat} {H : PoolH} {F : List Fr} {s : Ck.Clk.St} (h : PoolAt w τ bp bf H F s) (n : Nat) (hn : n < H.n) (hw : whereOf F n = none) (hno : Ck.Clk.pickB s = false) :
    Calls Tryz.prog 12 #[.pointer (some ⟨bp, 0, none⟩), .int .u32 (n : Int)] w fun e w' => e = .returned (.tuple #[.pointer none, .int .u16 120]) ∧ PoolAt w' τ bp bf H F (Ck.Clk.pickS s) ∧ Step w τ w' τ PoolTag := by
  have h512 := h.n1
  have d1 := h.hd.at 1 (v := .int .i64 (H.n : Int)) rfl
  have d3 := h.hd.at 3 (v := .map (some H.bm)) rfl
  have hwr := u32_wrap' H.n (by omega)
  have hlk := h.mp.look n (by omega)
  rw [hw] at hlk
  simp only [Option.getD_none, Option.isSome_none] at hlk
  have h1 := bring_full h n hno
  have H_h := Lib.hid h
  have H1 := Lib.hid h1
  clear h h1
  go_enter Tryz.func12, Tryz.ntmps12
  go_wp2_with fail
  refine H1.out.mono ?_
  rintro e w1 ⟨rfl, hp1, hs1⟩
  have Hp1 := Lib.hid hp1
  have Hs1 := Lib.hid hs1
  clear hp1 hs1
  go_wp2_with fail
  go_ret2
  exact ⟨rfl, Hp1.out, Hs1.out⟩
set_option maxRecDepth 100000 in
/-- by what bring does -/
theorem get_miss {w : World} {τ : Tags} {bp bf : Nat} {H : PoolH} {F : List Fr} {s s1 : Ck.Clk.St} (h : PoolAt w τ bp bf H F s) (n : Nat) (hn : n < H.n) (hw : whereOf F n = none) {i : Nat} (hi : i < F.length)
    (hb : Calls Tryz.prog 45 #[.pointer (some ⟨bp, 0, none⟩), .int .u32 (n : Int)] w fun e w' => e = .returned (.tuple #[.int .i64 (i : Int), .int .u16 0]) ∧ ∃ b τ', PoolAt w' τ' bp bf H (F.set i ⟨some (b, emptyPage n), n, 0⟩) s1 ∧ Step w τ w' τ' PoolTag) (hs : ∀ k, s1.p k ≤ 1000000) :
    Calls Tryz.prog 12 #[.pointer (some ⟨bp, 0, none⟩), .int .u32 (n : Int)] w fun e w' => ∃ b τ', e = .returned (.tuple #[.pointer (some ⟨b, 0, none⟩), .int .u16 0]) ∧ PoolAt w' τ' bp bf H (F.set i ⟨some (b, emptyPage n), n, 0⟩) (Ck.Clk.pinS (Ck.Clk.touchS s1 i) i) ∧ Step w τ w' τ' PoolTag := by
  have h512 := h.n1
  have hk := h.k1
  have d1 := h.hd.at 1 (v := .int .i64 (H.n : Int)) rfl
  have d3 := h.hd.at 3 (v := .map (some H.bm)) rfl
  have hwr := u32_wrap' H.n (by omega)
  have hlk := h.mp.look n (by omega)
  rw [hw] at hlk
  simp only [Option.getD_none, Option.isSome_none] at hlk
  have H_h := Lib.hid h
  have Hb := Lib.hid hb
  clear h hb
  go_enter Tryz.func12, Tryz.ntmps12
  go_wp2_with fail
  refine Hb.out.mono ?_
  rintro e w0 ⟨rfl, b, τ', hp0, hs0⟩
  have hf : (F.set i ⟨some (b, emptyPage n), n, 0⟩)[i]? = some ⟨some (b, emptyPage n), n, 0⟩ := by rw [List.getElem?_set, if_pos rfl, if_pos hi]
  have d4 := hp0.hd.at 4 (v := .pointer (some ⟨H.bc, 0, none⟩)) rfl
  have h1 := clktouch_any hp0.ck (i : Int)
  have hl : (F.set i ⟨some (b, emptyPage n), n, 0⟩).length = F.length := List.length_set
  have Hp0 := Lib.hid hp0
  have Hs0 := Lib.hid hs0
  have H1 := Lib.hid h1
  have Hf := Lib.hid hf
  have Hl := Lib.hid hl
  clear hp0 hs0 h1 hf hl
  go_wp2_with fail
  refine H1.out.mono ?_
  rintro e w1 ⟨rfl, hc1, hs1⟩
  have hp1 := Hp0.out.clk hc1 hs1 (PoolAt.clk_n _).1
  have e4 := hp1.hd.at 4 (v := .pointer (some ⟨H.bc, 0, none⟩)) rfl
  have h2 := clkpin_any hp1.ck (i : Int) (by rw [touch_p]; exact hs)
  have Hp1 := Lib.hid hp1
  have Hs1 := Lib.hid hs1
  have H2 := Lib.hid h2
  clear hp1 hs1 h2
  clear hc1
  go_wp2_with fail
  refine H2.out.mono ?_
  rintro e w2 ⟨rfl, hc2, hs2⟩
  have hp2 := Hp1.out.clk hc2 hs2 (PoolAt.clk_n _).2.1
  have e2 := hp2.hd.at 2 (v := H.vf) rfl
  rw [hp2.vf, Hl.out] at e2
  obtain ⟨c0, c1, c2⟩ := hp2.cells Hf.out
  simp only [Option.map_some] at c0
  generalize F.length = k at *
  have Hp2 := Lib.hid hp2
  have Hs2 := Lib.hid hs2
  clear hp2 hs2
  clear hc2
  go_wp2_with fail
  go_ret2
  exact ⟨b, τ', rfl, Hp2.out, Hs0.out.trans ((Hs1.out.trans Hs2.out).mono (fun g h => .inr (.inr (.inr (.inl h)))))⟩
end Go.Proofs.YtgjoahddbieliaaGreat

/-
  Pools: Put of a page that was not changed; Pages, Log.
-/
namespace Go.Proofs.YtgjoahddbieliaaGreat
open Go.RowKit
set_option linter.unusedVariables false

theorem put_none {w : World} {τ : Tags} {bp bf : Nat} {H : PoolH} {F : List Fr} {s : Ck.Clk.St} (h : PoolAt w τ bp bf H F s) (n lsn : Nat) (hn : n < 4294967296) (hw : whereOf F n = none) :
    Calls Tryz.prog 13 #[.pointer (some ⟨bp, 0, none⟩), .int .u32 (n : Int), .int .u64 (lsn : Int)] w fun e w' => e = .returned (.bool false) ∧ w = w' := by
  have d3 := h.hd.at 3 (v := .map (some H.bm)) rfl
  have hlk := h.mp.look n hn
  rw [hw] at hlk
  simp only [Option.getD_none, Option.isSome_none] at hlk
  have H_h := Lib.hid h
  clear h
  go_enter Tryz.func13, Tryz.ntmps13
  go_wp2_with fail
  go_ret
  exact ⟨rfl, rfl⟩
set_option maxRecDepth 100000 in
theorem put_zero {w : World} {τ : Tags} {bp bf : Nat} {H : PoolH} {F : List Fr} {s : Ck.Clk.St} (h : PoolAt w τ bp bf H F s) (n : Nat) (hn : n < 4294967296) {i : Nat} (hw : whereOf F n = some i) (hi : i < F.length) (hs : ∀ k, s.p k ≤ 1000000) :
    Calls Tryz.prog 13 #[.pointer (some ⟨bp, 0, none⟩), .int .u32 (n : Int), .int .u64 0] w fun e w' => e = .returned (.bool (decide (Ck.Clk.pinsV s i ≠ 0) && Ck.Clk.unpinB s i)) ∧ PoolAt w' τ bp bf H F (if Ck.Clk.pinsV s i = 0 then s else Ck.Clk.unpinS s i) ∧ Step w τ w' τ (fun t => t = tClk) := by
  have hk := h.k1
  have d2 := h.hd.at 2 (v := H.vf) rfl
  rw [h.vf] at d2
  have d3 := h.hd.at 3 (v := .map (some H.bm)) rfl
  have d4 := h.hd.at 4 (v := .pointer (some ⟨H.bc, 0, none⟩)) rfl
  have hlk := h.mp.look n hn
  rw [hw] at hlk
  simp only [Option.getD_some, Option.isSome_some] at hlk
  have h1 := clkpins_any h.ck (i : Int)
  have h2 := clkunpin_any h.ck (i : Int) hs
  generalize hq : Ck.Clk.pinsV s (i : Int) = q at *
  generalize F.length = k at *
  have H_h := Lib.hid h
  have H1 := Lib.hid h1
  have H2 := Lib.hid h2
  clear h h1 h2
  by_cases h0 : q = 0
  · subst h0
    go_enter Tryz.func13, Tryz.ntmps13
    go_wp2_with fail
    refine H1.out.mono ?_
    rintro e w' ⟨rfl, rfl⟩
    go_wp2_with fail
    go_ret
    exact ⟨by simp, H_h.out, Step.refl _ _ _⟩
  · have hq0 : ¬ (q : Int) = 0 := by omega
    go_enter Tryz.func13, Tryz.ntmps13
    go_wp2_with fail
    refine H1.out.mono ?_
    rintro e w' ⟨rfl, rfl⟩
    go_wp2_with fail
    refine H2.out.mono ?_
    rintro e w2 ⟨rfl, hc2, hs2⟩
    have hp2 := H_h.out.clk hc2 hs2 (PoolAt.clk_n _).2.2.1
    have Hp2 := Lib.hid hp2
    have Hs2 := Lib.hid hs2
    clear hp2 hs2
    clear hc2
    go_wp2_with fail
    go_ret
    exact ⟨by simp [], Hp2.out, Hs2.out⟩
theorem pages_any {w : World} {τ : Tags} {bp bf : Nat} {H : PoolH} {F : List Fr} {s : Ck.Clk.St} (h : PoolAt w τ bp bf H F s) :
    Calls Tryz.prog 98 #[.pointer (some ⟨bp, 0, none⟩)] w fun e w' => e = .returned (.int .i64 (H.n : Int)) ∧ w = w' := by
  have d1 := h.hd.at 1 (v := .int .i64 (H.n : Int)) rfl
  clear h
  go_enter Tryz.func98, Tryz.ntmps98
  go_wp2_with fail
  go_ret
  exact ⟨rfl, rfl⟩
theorem poollog_any {w : World} {τ : Tags} {bp bf : Nat} {H : PoolH} {F : List Fr} {s : Ck.Clk.St} (h : PoolAt w τ bp bf H F s) :
    Calls Tryz.prog 99 #[.pointer (some ⟨bp, 0, none⟩)] w fun e w' => e = .returned (.pointer (some ⟨H.bl, 0, none⟩)) ∧ w = w' := by
  have d1 := h.hd.at 0 (v := .pointer (some ⟨H.bl, 0, none⟩)) rfl
  clear h
  go_enter Tryz.func99, Tryz.ntmps99
  go_wp2_with fail
  go_ret
  exact ⟨rfl, rfl⟩
end Go.Proofs.YtgjoahddbieliaaGreat

/-
  Pools: At.
-/
namespace Go.Proofs.YtgjoahddbieliaaGreat
open Go.RowKit
set_option linter.unusedVariables false

def i64z (l : List Int) : List Value := l.map (Value.int .i64)
def Fr.at (f : Fr) : Int := if f.pg.isSome then (f.n : Int) else -1
def atTo (F : List Fr) (i : Nat) : List Int := (F.take i).map Fr.at ++ List.replicate (F.length - i) 0
theorem atTo_length (F : List Fr) (i : Nat) (hi : i ≤ F.length) : (atTo F i).length = F.length := by
  simp [atTo, Nat.min_eq_left hi]; omega
theorem i64z_length (l : List Int) : (i64z l).length = l.length := by simp [i64z]
theorem atTo_set {F : List Fr} {i : Nat} {f : Fr} (hf : F[i]? = some f) : (i64z (atTo F i)).set i (.int .i64 f.at) = i64z (atTo F (i + 1)) := by
  obtain ⟨hi, rfl⟩ := List.getElem?_eq_some_iff.1 hf
  have e : (i64z (atTo F i)).set i (.int .i64 (F[i]).at) = i64z ((atTo F i).set i (F[i]).at) := by simp [i64z, List.map_set]
  rw [e]
  congr 1
  unfold atTo
  rw [List.take_add_one, hf]
  have hl : ((F.take i).map Fr.at).length = i := by simp; omega
  rw [List.set_append_right _ _ (by rw [hl]; exact Nat.le_refl _), hl, Nat.sub_self]
  rw [show F.length - i = (F.length - (i + 1)) + 1 by omega, List.replicate_succ]
  simp only [List.map_append, List.set_cons_zero, Option.toList_some, List.map_cons, List.map_nil, List.append_assoc, List.cons_append, List.nil_append]
set_option maxRecDepth 100000 in
theorem run_ints (k : Nat) (hk : k ≤ 64) (W : World) : (Instr.makeSlice 86 (.int .i64 (k : Int)) (.int .i64 (k : Int))).run Tryz.prog W =
    .ok (.slice (some ⟨W.heap.size, 0, none⟩) k k) (W.alloc (.cells (i64z (List.replicate k 0)).toArray 3)) := by
  obtain ⟨i, hi, hz0, hz1, hz2⟩ := info_parts Tryz.infoInt
  have := run_make (P := Tryz.prog) W 86 3 i (.int .i64 0) Tryz.underlying86 hi hz0 .i64 .i64 k k (by omega) (Int.le_refl _) (by rw [hz2]; omega) (by omega)
  simp only [Int.toNat_natCast, hz1] at this
  rw [this]
  congr 3
  apply Array.ext_getElem?
  intro j
  simp only [Nat.mul_one]
  by_cases hj : j < k
  · have h1 := Ck.made_get #[Value.int .i64 0] k j hj
    have e : (Value.int .i64 0).cells = #[Value.int .i64 0] := rfl
    rw [e, h1]
    simp [i64z, hj, Nat.mod_one]
  · have l : (madeCells (Value.int .i64 0).cells k)[j]? = none := by
      unfold madeCells
      rw [Array.getElem?_map, Array.getElem?_range, if_neg hj]; rfl
    rw [l]
    simp [i64z, hj]
set_option maxRecDepth 100000 in
theorem at_any' {w : World} {τ : Tags} {bp bf : Nat} {H : PoolH} {F : List Fr} {s : Ck.Clk.St} (h : PoolAt w τ bp bf H F s) :
    Calls Tryz.prog 44 #[.pointer (some ⟨bp, 0, none⟩)] w fun e w' => ∃ b τ', e = .returned (.slice (some ⟨b, 0, none⟩) F.length F.length) ∧ w.heap.size ≤ b ∧ Own w' τ' b tOut 3 (i64z (F.map Fr.at)) ∧ Step w τ w' τ' nil := by
  have d2 := h.hd.at 2 (v := H.vf) rfl
  rw [h.vf] at d2
  have hk := h.k1
  have hmk := run_ints F.length hk.2
  have ho := Own.new w τ tOut 3 (i64z (List.replicate F.length 0))
  have hs := (Step.refl w τ nil).alloc (.cells (i64z (List.replicate F.length 0)).toArray 3) tOut
  have hd1 := (h.hd.step hs (fun h => h)).at 2 (v := H.vf) rfl
  rw [h.vf] at hd1
  generalize hl : F.length = k at *
  have H_h := Lib.hid h
  have Ho := Lib.hid ho
  have Hs := Lib.hid hs
  have Hl := Lib.hid hl
  clear h ho hs hl
  go_enter Tryz.func44, Tryz.ntmps44
  go_wp2_with fail
  go_loopw [17] (fun v wr => ∃ (i : Nat) (τr : Tags), i ≤ k ∧ v = .int .i64 (i : Int) ∧ Own wr τr w.heap.size tOut 3 (i64z (atTo F i)) ∧ Step w τ wr τr nil) (fun v _ => k - (intOf v).toNat)
  case atStart => exact ⟨0, _, Nat.zero_le _, rfl, by have e : atTo F 0 = List.replicate k 0 := by { simp [atTo, Hl.out] }
                                                      rw [e]; exact Ho.out, Hs.out⟩
  case round =>
    obtain ⟨i, τr, hi, rfl, hob, hst⟩ := hrel
    by_cases hlt : i < k
    · obtain ⟨f, hf⟩ : ∃ f, F[i]? = some f := ⟨_, List.getElem?_eq_getElem (by rw [Hl.out]; exact hlt)⟩
      have hp := H_h.out.step hst (fun _ _ h => h)
      obtain ⟨c0, c1, c2⟩ := hp.cells hf
      have hset := atTo_set hf
      have lb := hp.fr.lt
      have lo := hob.lt
      have z := hob.fz i
      obtain ⟨u, ci⟩ : ∃ u, wr.cell? ⟨w.heap.size, i, none⟩ = some u := by
        rw [hob.cell i]
        exact ⟨_, List.getElem?_eq_getElem (by rw [i64z_length, atTo_length F i (by rw [Hl.out]; exact hi), Hl.out]; exact hlt)⟩
      have hob1 := (hob.set i (.int .i64 (-1)))
      have hst1 := hst.setNew (o := i) (Nat.le_refl _) (.int .i64 (-1))
      cases hpg : f.pg with
      | none =>
        have hv : f.at = -1 := by simp [Fr.at, hpg]
        rw [hv] at hset
        rw [hpg] at c0
        simp only [Option.map_none] at c0
        rw [hset] at hob1
        have Hob := Lib.hid hob
        have Hst := Lib.hid hst
        have Hob1 := Lib.hid hob1
        have Hst1 := Lib.hid hst1
        have Hset := Lib.hid hset
        have Hp := Lib.hid hp
        have Hf := Lib.hid hf
        clear hob hst hob1 hst1 hset hp hf
        go_wp2_with fail
        go_round
        case rel => exact ⟨i + 1, τr, by omega, by simp, Hob1.out.alloc _, Hst1.out.alloc' _⟩
        case measure => simp [intOf]; omega
      | some x =>
        have hv : f.at = (f.n : Int) := by simp [Fr.at, hpg]
        rw [hv] at hset
        rw [hpg] at c0
        simp only [Option.map_some] at c0
        have hlow := hp.low i f.n f hf (by simp [Fr.has, hpg])
        have h512 := hp.n1
        have hwr : wrap64 (f.n : Int) = (f.n : Int) := by unfold wrap64; omega
        have hset2 : ((i64z (atTo F i)).set i (.int .i64 (-1))).set i (.int .i64 (f.n : Int)) = i64z (atTo F (i + 1)) := by rw [List.set_set]; exact hset
        have Hob := Lib.hid hob
        have Hst := Lib.hid hst
        have Hob1 := Lib.hid hob1
        have Hst1 := Lib.hid hst1
        have Hset2 := Lib.hid hset2
        have Hp := Lib.hid hp
        have Hf := Lib.hid hf
        clear hob hst hob1 hst1 hset2 hp hf
        clear hset
        go_wp2_with fail
        go_round
        case rel =>
          refine ⟨i + 1, τr, by omega, by simp, ?_, ?_⟩
          · rw [← Hset2.out]; try rw [hwr]
            exact (Hob1.out.set i _).alloc _
          · exact (Hst1.out.setNew (Nat.le_refl _) _).alloc' _
        case measure => simp [intOf]; omega
    · obtain rfl : i = k := by omega
      have Hob := Lib.hid hob
      have Hst := Lib.hid hst
      clear hob hst
      go_wp2_with fail
      go_ret
      exact ⟨w.heap.size, τr, rfl, Nat.le_refl _, by have e : atTo F i = F.map Fr.at := by { unfold atTo; rw [Hl.out, Nat.sub_self, ← Hl.out, List.take_length]; simp }
                                                     rw [← e]; exact Hob.out, Hst.out⟩
end Go.Proofs.YtgjoahddbieliaaGreat

/-
  Pools: Dirty, where no frame is other than on the disk.
-/
namespace Go.Proofs.YtgjoahddbieliaaGreat
open Go.RowKit
set_option linter.unusedVariables false

set_option maxRecDepth 100000 in
theorem len64_0 (w : World) : Calls Tryz.prog 209 #[.int .u64 0] w fun e w' => e = .returned (.int .i64 0) ∧ w = w' := by
  go_enter Tryz.func209, Tryz.ntmps209
  go_wp2_with fail
  go_ret
  exact ⟨by kernel_rfl, rfl⟩
theorem len_0 (w : World) : Calls Tryz.prog 134 #[.int .u64 0] w fun e w' => e = .returned (.int .i64 0) ∧ w = w' := by
  have h1 := len64_0 w
  have H1 := Lib.hid h1
  clear h1
  go_enter Tryz.func134, Tryz.ntmps134
  go_wp2_with fail
  refine H1.out.mono ?_
  rintro e w' ⟨rfl, rfl⟩
  go_wp2_with fail
  go_ret
  exact ⟨rfl, rfl⟩
theorem insertion_nil (w : World) (f : Value) : Calls Tryz.prog 200 #[.slice none 0 0, .int .i64 0, .int .i64 0, f] w fun e w' => e = .returned (.tuple #[]) ∧ w = w' := by
  go_enter Tryz.func200, Tryz.ntmps200
  go_wp2_with fail
  go_loopw [8] (fun v wr => v = .int .i64 1 ∧ wr = w) (fun _ _ => 0)
  case atStart => exact ⟨rfl, rfl⟩
  case round =>
    obtain ⟨rfl, rfl⟩ := hrel
    go_wp2_with fail
    go_returns
    exact ⟨rfl, rfl⟩
theorem pdq_nil (w : World) (f : Value) : Calls Tryz.prog 133 #[.slice none 0 0, .int .i64 0, .int .i64 0, .int .i64 0, f] w fun e w' => e = .returned (.tuple #[]) ∧ w = w' := by
  have h1 := insertion_nil w f
  have H1 := Lib.hid h1
  clear h1
  go_enter Tryz.func133, Tryz.ntmps133
  go_wp2_with fail
  go_loopw [1, 2, 3, 10, 11] (fun a b c d e wr => a = .int .i64 0 ∧ b = .int .i64 0 ∧ c = .int .i64 0 ∧ d = .bool true ∧ e = .bool true ∧ wr = w) (fun _ _ _ _ _ _ => 0)
  case atStart => exact ⟨rfl, rfl, rfl, rfl, rfl, rfl⟩
  case round =>
    obtain ⟨rfl, rfl, rfl, rfl, rfl, rfl⟩ := hrel
    go_wp2_with fail
    refine H1.out.mono ?_
    rintro e w' ⟨rfl, rfl⟩
    go_wp2_with fail
    go_returns
    exact ⟨rfl, rfl⟩
theorem sort_nil (w : World) (f : Value) : Calls Tryz.prog 60 #[.slice none 0 0, f] w fun e w' => e = .returned (.tuple #[]) ∧ w = w' := by
  have h1 := len_0 w
  have h2 := pdq_nil w f
  have H1 := Lib.hid h1
  have H2 := Lib.hid h2
  clear h1 h2
  go_enter Tryz.func60, Tryz.ntmps60
  go_wp2_with fail
  refine H1.out.mono ?_
  rintro e w' ⟨rfl, rfl⟩
  go_wp2_with fail
  refine H2.out.mono ?_
  rintro e w' ⟨rfl, rfl⟩
  go_wp2_with fail
  go_returns
  exact ⟨rfl, rfl⟩
theorem dirty_none {w : World} {τ : Tags} {bp bf : Nat} {H : PoolH} {F : List Fr} {s : Ck.Clk.St} (h : PoolAt w τ bp bf H F s) (h0 : ∀ f ∈ F, f.first = 0) :
    Calls Tryz.prog 24 #[.pointer (some ⟨bp, 0, none⟩)] w fun e w' => e = .returned (.slice none 0 0) ∧ ∃ τ', Step w τ w' τ' nil := by
  have d2 := h.hd.at 2 (v := H.vf) rfl
  rw [h.vf] at d2
  have hk := h.k1
  have hso := fun W f => sort_nil W f
  generalize hl : F.length = k at *
  have H_h := Lib.hid h
  have H0 := Lib.hid h0
  have Hl := Lib.hid hl
  have Hso := Lib.hid hso
  clear h h0 hl hso
  go_enter Tryz.func24, Tryz.ntmps24
  go_wp2_with fail
  go_loopw [3, 11] (fun m v wr => ∃ (i : Nat) (τr : Tags), i ≤ k ∧ m = .slice none 0 0 ∧ v = .int .i64 (i : Int) ∧ Step w τ wr τr nil) (fun _ v _ => k - (intOf v).toNat)
  case atStart => exact ⟨0, τ, Nat.zero_le _, rfl, rfl, Step.refl _ _ _⟩
  case round =>
    obtain ⟨i, τr, hi, rfl, rfl, hst⟩ := hrel
    by_cases hlt : i < k
    · obtain ⟨f, hf⟩ : ∃ f, F[i]? = some f := ⟨_, List.getElem?_eq_getElem (by rw [Hl.out]; exact hlt)⟩
      have hp := H_h.out.step hst (fun _ _ h => h)
      obtain ⟨c0, c1, c2⟩ := hp.cells hf
      have hz := H0.out f (List.mem_of_getElem? hf)
      rw [hz] at c2
      generalize Option.map (fun x => (⟨x.1, 0, none⟩ : Addr)) f.pg = pp at *
      generalize f.n = n at *
      have Hst := Lib.hid hst
      have Hf := Lib.hid hf
      clear hst hf
      clear hp hz
      go_wp2_with fail
      go_round
      case rel => exact ⟨i + 1, τr, by omega, rfl, by simp, Hst.out.alloc' _⟩
      case measure => simp [intOf]; omega
    · obtain rfl : i = k := by omega
      have Hst := Lib.hid hst
      clear hst
      go_wp2_with fail
      refine (Hso.out _ _).mono ?_
      rintro e w' ⟨rfl, rfl⟩
      go_wp2_with fail
      go_ret
      exact ⟨rfl, τr, Hst.out⟩
end Go.Proofs.YtgjoahddbieliaaGreat
