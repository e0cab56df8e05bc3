/-
  The reference's pool: how it lies in memory (no page at hand); sectors, mend of a whole home.
-/
import Derived.Test.YtgjoahddbieliaaGreatMR8D
import Derived.Test.YtgjoahddbieliaaGreatMR10
import Derived.Test.YtgjoahddbieliaaGreatMPoolC
import Derived.Test.YtgjoahddbieliaaGreatMCkRefC
namespace Go.Proofs.YtgjoahddbieliaaGreat
open Go.RowKit
set_option linter.unusedVariables false

def tRPool : Tag := (60, 0)
def tRFr : Tag := (61, 0)
def tRClk : Tag := (62, 0)
/-- a pool's own block -/
structure RPoolH where
  bl : Nat
  n : Nat
  vf : Value
  bc : Nat
  st : Nat
def RPoolH.cells (H : RPoolH) : List Value := [.pointer (some ⟨H.bl, 0, none⟩), .int .i64 (H.n : Int), H.vf, .pointer (some ⟨H.bc, 0, none⟩), .int .u64 (H.st : Int)]
abbrev RPoolHd (w : World) (τ : Tags) (bp : Nat) (H : RPoolH) : Prop := Own w τ bp tRPool 215 H.cells
set_option maxRecDepth 100000 in
theorem r12sectors {w : World} {τ : Tags} {bp bd : Nat} {H : RPoolH} {L : LogM} {D : Dev} (h : RPoolHd w τ bp H) (hl : RLogAt w τ H.bl bd L) (hd : RDevAt w τ bd D) (n : Nat) (hn : 4 * n + 4 ≤ D.f1.length) :
    Calls Tryz.prog 145 #[.pointer (some ⟨bp, 0, none⟩), .int .i64 (4 * (n : Int))] w fun e w' => ∃ v τ', e = .returned v ∧ NR w.heap.size w' τ' tOut v (lastTo D n 4) ∧ Step w τ w' τ' nil := by
  have hlen := r5length hd 1 (by omega)
  have hf1 : D.file 1 = D.f1 := rfl
  rw [hf1] at hlen
  have H_h := Lib.hid h
  have Hl := Lib.hid hl
  have Hd := Lib.hid hd
  clear h hl hd
  go_enter Tryz.func145, Tryz.ntmps145
  go_wp2_with fail
  go_loopw [5, 6] (fun m v wr => ∃ (i : Nat) (τr : Tags), i ≤ 4 ∧ v = .int .i64 (i : Int) ∧ NR w.heap.size wr τr tOut m (lastTo D n i) ∧ Step w τ wr τr nil) (fun _ v _ => 4 - (intOf v).toNat)
  case atStart => exact ⟨0, τ, Nat.zero_le _, rfl, NR.nil _ _ _ _, Step.refl _ _ _⟩
  case round =>
    obtain ⟨i, τr, hi, rfl, hni, hst⟩ := hrel
    by_cases hlt : i < 4
    · have hp := H_h.out.step hst (fun h => h)
      obtain ⟨vs, vt, ho, -, -⟩ := (Hl.out.step hst (fun _ _ h => h)).is
      have c0 := hp.at 0 (v := .pointer (some ⟨H.bl, 0, none⟩)) rfl
      have d0 := ho.at 0 (v := .pointer (some ⟨bd, 0, none⟩)) rfl
      have h2 := r5read (Hd.out.step hst (fun _ h => h.elim)) 1 (by omega) (4 * n + i) (by rw [hf1]; omega) tData
      have hx := r5last128 Hd.out 1 (4 * n + i) (by omega) (by rw [hf1]; omega)
      have hs := lastTo_succ D n i
      have hsl := lastTo_length D n i
      rw [show ((4 * n + i : Nat) : Int) = 4 * (n : Int) + (i : Int) by omega] at h2
      generalize hLi : lastTo D n i = Li at *
      obtain ⟨pm, cm, rfl⟩ := hni.val
      have H2 := Lib.hid h2
      have Hx := Lib.hid hx
      have Hs := Lib.hid hs
      have Hni := Lib.hid hni
      have Hst := Lib.hid hst
      have Hsl := Lib.hid hsl
      have HLi := Lib.hid hLi
      clear h2 hx hs hni hst hsl hLi
      clear hp ho
      go_wp2_with fail
      refine H2.out.mono ?_
      rintro e w1 ⟨u, τ1, rfl, hb, hs1⟩
      have hni1 := Hni.out.step hs1 (fun h => h) (fun h => h)
      have hst1 := Hst.out.trans hs1
      obtain ⟨pu, cu, rfl, -, -⟩ := hb.any
      rw [Hx.out.1] at hb ⊢
      have Hb := Lib.hid hb
      have Hni1 := Lib.hid hni1
      have Hst1 := Lib.hid hst1
      clear hb hni1 hst1
      go_wp2_with (at_builtin; refine wpList_append_nr1 Hst1.out (by decide) Hni1.out Hb.out Hx.out.1 (by rw [Hsl.out]; omega) rfl rfl _ _ rfl rfl rfl ?_; intro v' w' τ' hb he hmo; have Hb := Lib.hid hb; have He := Lib.hid he; have Hmo := Lib.hid hmo; clear hb he hmo)
      go_round
      case rel => exact ⟨i + 1, τ', by omega, by simp, by rw [Hs.out]; exact Hb.out, He.out⟩
      case measure => simp [intOf]; omega
    · obtain rfl : i = 4 := by omega
      have Hni := Lib.hid hni
      have Hst := Lib.hid hst
      clear hni hst
      go_wp2_with fail
      go_returns
      exact ⟨_, τr, rfl, Hni.out, Hst.out⟩
theorem r12mend_yes {w : World} {τ : Tags} {bp bd : Nat} {H : RPoolH} {L : LogM} {D : Dev} (h : RPoolHd w τ bp H) (hl : RLogAt w τ H.bl bd L) (hd : RDevAt w τ bd D) (n : Nat) (hn : 4 * n + 4 ≤ D.f1.length) (hw : sealOk (lastTo D n 4) = true) :
    Calls Tryz.prog 143 #[.pointer (some ⟨bp, 0, none⟩), .int .i64 (n : Int)] w fun e w' => e = .returned (.bool true) ∧ ∃ τ', Step w τ w' τ' nil := by
  have h1 := r12sectors h hl hd n hn
  have hlen := r5length hd 1 (by omega)
  have hf1 : D.file 1 = D.f1 := rfl
  rw [hf1] at hlen
  have h4 := lastTo_length D n 4
  generalize lastTo D n 4 = ls at *
  have H1 := Lib.hid h1
  have H4 := Lib.hid h4
  have Hw := Lib.hid hw
  clear h1 h4 hw
  clear h hl hd
  go_enter Tryz.func143, Tryz.ntmps143
  go_wp2_with fail
  refine H1.out.mono ?_
  rintro e w1 ⟨v, τ1, rfl, hr, hs1⟩
  have h2 := r10open hr.row tData H4.out
  obtain ⟨p, c, rfl⟩ := hr.val
  have H2 := Lib.hid h2
  have Hs1 := Lib.hid hs1
  clear h2 hs1
  clear H1 hr
  go_wp2_with fail
  refine H2.out.mono ?_
  rintro e w2 ⟨τ2, hs2, h⟩
  rcases h with ⟨-, u, rfl, -⟩ | ⟨hno, -⟩
  · have Hs2 := Lib.hid hs2
    clear hs2
    go_wp2_with fail
    go_ret
    exact ⟨rfl, τ2, Hs1.out.trans Hs2.out⟩
  · rw [Hw.out] at hno; cases hno
end Go.Proofs.YtgjoahddbieliaaGreat
