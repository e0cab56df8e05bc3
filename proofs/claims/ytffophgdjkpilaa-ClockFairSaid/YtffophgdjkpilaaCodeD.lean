/-
  The program's Pick does what the plain model says.
-/
import Derived.Test.YtffophgdjkpilaaCodeC
import Derived.WalkMore
import Derived.Deep.LoopGhost
namespace Go.Proofs.Ytffophgdjkpilaa
open Go.RowKit Clk
set_option linter.unusedVariables false

def uW (w : World) (bf k : Nat) : Bool := match w.cell? ⟨bf, k * 3 + 1, none⟩ with | some (.bool b) => b | _ => false
def hW (w : World) (bc : Nat) : Nat := match w.cell? ⟨bc, 1, none⟩ with | some (.int _ q) => q.toNat | _ => 0
def mesW (n : Nat) (p : Nat → Nat) (bc bf : Nat) (w : World) : Nat := mes n p (uW w bf) (hW w bc)
theorem mesW_eq {w : World} {bc bf : Nat} {s : St} (h : PC w bc bf s) : mesW s.n s.p bc bf w = mes s.n s.p s.u s.h := by
  unfold mesW mes
  have e1 : hW w bc = s.h := by unfold hW; rw [h.c1]; simp
  have e2 : cnt (fun k => uW w bf k && decide (s.p k = 0)) s.n = cnt (fun k => s.u k && decide (s.p k = 0)) s.n :=
    cnt_congr _ _ _ (fun k hk => by simp [uW, h.cu k hk])
  rw [e1, e2]

theorem pick_any (w : World) (bc bf : Nat) (s : St) (h : PC w bc bf s) :
   Calls Try.prog 14 #[.pointer (some ⟨bc, 0, none⟩)] w (Did w (.tuple #[.int .i64 (pickI s : Int), .bool (pickB s)]) bc bf (pickS s) [bc, bf]) := by
  have hc0 := h.c0
  have hn := h.n64
  have hi := index_28 w bc bf s h
  by_cases hfree : freeK s < s.n
  · have e0 : idx (fun k => !s.t k) s.n = (freeK s : Int) := by unfold freeK at hfree; simp [idx, freeK, hfree]
    have e1 : pickS s = s := by simp [pickS, hfree]
    have e2 : pickI s = freeK s := by simp [pickI, hfree]
    have e3 : pickB s = true := by simp [pickB, hfree]
    rw [e0] at hi
    rw [e1, e2, e3]
    generalize freeK s = k at *
    have Hi := Lib.hid hi
    have Hp := Lib.hid h
    clear hi h e0 e1 e2 e3
    go_enter Try.func14, Try.ntmps14
    go_wp2
    go_step3
    go_wp2_with (go_at_call 27; refine Hi.out.mono ?_; rintro e w1 ⟨rfl, hm1⟩; have Hm1 := Lib.hid hm1; clear hm1)
    go_ret2
    exact ⟨rfl, Hp.out.mod Hm1.out (by simp) (by simp), Hm1.out.mono (by simp)⟩
  · have e0 : idx (fun k => !s.t k) s.n = -1 := by unfold freeK at hfree; simp [idx, hfree]
    rw [e0] at hi
    cases hs0 : some0 s with
    | false =>
      have e1 : pickS s = s := by simp [pickS, hfree, hs0]
      have e2 : pickI s = 0 := by simp [pickI, hfree, hs0]
      have e3 : pickB s = false := by simp [pickB, hfree, hs0]
      rw [e1, e2, e3]
      have Hc := fun w1 h1 => contains_30 w1 bc bf s h1
      rw [hs0] at Hc
      have Hi := Lib.hid hi
      have Hp := Lib.hid h
      have HC := Lib.hid Hc
      clear hi h e0 e1 e2 e3 Hc hs0
      go_enter Try.func14, Try.ntmps14
      go_wp2
      go_step3
      go_wp2_with (first
        | (go_at_call 27; refine Hi.out.mono ?_; rintro e w1 ⟨rfl, hm1⟩; have hc1 := hm1.cell_of hc0 (by simp); have Hm1 := Lib.hid hm1; clear hm1)
        | (go_at_call 29; refine (HC.out _ (Hp.out.mod Hm1.out (by simp) (by simp))).mono ?_; rintro e w2 ⟨rfl, hm2⟩; have Hm2 := Lib.hid hm2; clear hm2))
      go_ret2
      exact ⟨rfl, Hp.out.mod (Hm1.out.trans Hm2.out) (by simp) (by simp), (Hm1.out.trans Hm2.out).mono (by simp)⟩
    | true =>
      have e1 : pickS s = { s with u := (goes s.n s.p s.u s.h).1, h := (goes s.n s.p s.u s.h).2.1 } := by simp [pickS, hfree, hs0]
      have e2 : pickI s = (goes s.n s.p s.u s.h).2.2 := by simp [pickI, hfree, hs0]
      have e3 : pickB s = true := by simp [pickB, hs0]
      rw [e1, e2, e3]
      obtain ⟨k0, hk0, hpk0⟩ := (some0_iff s).1 hs0
      have Hc := fun w1 h1 => contains_30 w1 bc bf s h1
      rw [hs0] at Hc
      have Hi := Lib.hid hi
      have Hp := Lib.hid h
      have HC := Lib.hid Hc
      have Hk0 := Lib.hid hpk0
      clear hi h e0 e1 e2 e3 Hc hs0 hpk0
      generalize hgoes : goes s.n s.p s.u s.h = res
      have Hgoes := Lib.hid hgoes
      clear hgoes
      go_enter Try.func14, Try.ntmps14
      go_wp2
      go_step3
      go_wp2_with (first
        | (go_at_call 27; refine Hi.out.mono ?_; rintro e w1 ⟨rfl, hm1⟩; have hc1 := hm1.cell_of hc0 (by simp); have Hm1 := Lib.hid hm1; clear hm1)
        | (go_at_call 29; refine (HC.out _ (Hp.out.mod Hm1.out (by simp) (by simp))).mono ?_; rintro e w2 ⟨rfl, hm2⟩; have Hm2 := Lib.hid hm2; clear hm2))
      go_step3
      go_wp2
      go_loopw [5] (fun _ wr => ∃ (u : Nat → Bool) (h : Nat), PC wr bc bf { s with u := u, h := h } ∧ Hid (goes s.n s.p u h = res) ∧ Mod w wr [bc, bf]) (fun _ wr => mesW s.n s.p bc bf wr)
      case atStart => exact ⟨s.u, s.h, Hp.out.mod (Hm1.out.trans Hm2.out) (by simp) (by simp), Hgoes, (Hm1.out.trans Hm2.out).mono (by simp)⟩
      case round =>
        clear Hgoes Hm1 Hm2 HC Hi Hp hc1
        obtain ⟨u, h, hPC, hg, hm⟩ := hrel
        have hh : h < s.n := hPC.hh
        have HmW := Lib.hid (mesW_eq hPC)
        have d0 : wr.cell? ⟨bc, 0, none⟩ = some (.slice (some ⟨bf, 0, none⟩) s.n s.n) := hPC.c0
        have d1 : wr.cell? ⟨bc, 1, none⟩ = some (.int .i64 (h : Int)) := hPC.c1
        have d2 := hPC.fc 1
        have hU : wr.cell? ⟨bf, h * 3 + 1, none⟩ = some (.bool (u h)) := hPC.cu h hh
        have hP : wr.cell? ⟨bf, h * 3 + 2, none⟩ = some (.int .i64 (s.p h : Int)) := hPC.cp h hh
        have f1 := hPC.ff (h * 3 + 1)
        have hne := hPC.ne
        have HPC := Lib.hid hPC
        have Hm := Lib.hid hm
        have hn0 : 1 ≤ s.n := hPC.n1
        clear hPC hm
        have hmod : (h + 1) % s.n < s.n := Nat.mod_lt _ (by omega)
        have hcast : (((h + 1) % s.n : Nat) : Int) = ((h : Int) + 1) % (s.n : Int) := by simp
        have Hcast := Lib.hid hcast
        clear hcast
        by_cases hp : s.p h = 0
        · rw [hp] at hP
          have Hpz := Lib.hid hp
          clear hp
          cases hu : u h with
          | false =>
            rw [hu] at hU
            have Hu := Lib.hid hu
            clear hu
            go_wp2
            go_region
            all_goals go_wp2
            go_ret2
            have hset := HPC.out.setH ((h + 1) % s.n) hmod
            rw [Hcast.out] at hset
            have hgo := hg.out
            rw [goes_here s.n s.p u h Hpz.out Hu.out] at hgo
            rw [← hgo]
            exact ⟨rfl, hset.mod (Mod.refl _ []).drew (by simp) (by simp), (Hm.out.setCell (by simp) _).drew⟩
          | true =>
            rw [hu] at hU
            have Hu := Lib.hid hu
            clear hu
            go_wp2
            go_region
            all_goals go_wp2
            have hset := (HPC.out.setH ((h + 1) % s.n) hmod)
            rw [Hcast.out] at hset
            have hset2 := (hset.setU h false).mod (Mod.refl _ []).drew (by simp) (by simp)
            refine ⟨⟨upd u h false, (h + 1) % s.n, hset2, Lib.hid ?_, ((Hm.out.setCell (by simp) _).setCell (by simp) _).drew⟩, ?_⟩
            · rw [← goes_used s.n s.p u h hn hh Hpz.out Hu.out]; exact hg.out
            · have e1 := mesW_eq hset2
              have e2 := HmW.out
              have e3 := mes_used s.n s.p u h hh Hpz.out Hu.out
              simp only at e1 e2
              rw [e1, e2]
              exact e3
        · have hpos : 0 < s.p h := by omega
          have Hpz := Lib.hid hp
          clear hp
          go_wp2
          go_region
          all_goals go_wp2
          have hset := (HPC.out.setH ((h + 1) % s.n) hmod)
          rw [Hcast.out] at hset
          have hset2 := hset.mod (Mod.refl _ []).drew (by simp) (by simp)
          refine ⟨⟨u, (h + 1) % s.n, hset2, Lib.hid ?_, (Hm.out.setCell (by simp) _).drew⟩, ?_⟩
          · rw [← goes_pinned s.n s.p u h hn hh Hpz.out k0 hk0 Hk0.out]; exact hg.out
          · have e1 := mesW_eq hset2
            have e2 := HmW.out
            have e3 := mes_pinned s.n s.p u h hh Hpz.out k0 hk0 Hk0.out
            simp only at e1 e2
            rw [e1, e2]
            exact e3
end Go.Proofs.Ytffophgdjkpilaa
