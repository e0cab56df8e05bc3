/-
  slices.IndexFunc and slices.ContainsFunc at the two closures of the program's Pick: which frame is the first one, whether there is one.
-/
import Derived.Test.YtgjoahddbieliaaGreatMCkModel
import Derived.WalkMore
import Derived.Deep.LoopGhost
namespace Go.Proofs.YtgjoahddbieliaaGreat.Ck
open Go.RowKit Clk
set_option linter.unusedVariables false

/-- the two closures -/
theorem fn28 (t u : Bool) (p : Int) (w : World) : Calls Tryz.prog 184 #[.agg #[.bool t, .bool u, .int .i64 p]] w fun e w' => e = .returned (.bool (!t)) ∧ Mod w w' [] := by
  go_enter Tryz.func184, Tryz.ntmps184
  go_wp2
  go_ret
  exact ⟨rfl, (Mod.refl _ _).alloc _⟩
theorem fn30 (t u : Bool) (p : Nat) (w : World) : Calls Tryz.prog 186 #[.agg #[.bool t, .bool u, .int .i64 (p : Int)]] w fun e w' => e = .returned (.bool (decide (p = 0))) ∧ Mod w w' [] := by
  by_cases h : p = 0
  · subst h
    go_enter Tryz.func186, Tryz.ntmps186
    go_wp2
    go_ret
    exact ⟨rfl, (Mod.refl _ _).alloc _⟩
  · have h1 : ((p : Int) == 0) = false := by simpa using h
    have h2 : decide (p = 0) = false := by simpa using h
    rw [h2]
    clear h h2
    go_enter Tryz.func186, Tryz.ntmps186
    go_wp2
    go_ret
    exact ⟨rfl, (Mod.refl _ _).alloc _⟩

def idx (f : Nat → Bool) (n : Nat) : Int := if first f n < n then (first f n : Int) else -1
theorem idx_at {f : Nat → Bool} {n k : Nat} (hk : k < n) (hy : f k = true) (hno : ∀ j, j < k → f j = false) : idx f n = (k : Int) := by
  unfold idx; rw [first_eq f n k hk hy hno, if_pos hk]
theorem idx_none {f : Nat → Bool} {n : Nat} (hno : ∀ j, j < n → f j = false) : idx f n = -1 := by
  unfold idx; rw [first_none f n hno, if_neg (by omega)]

def DidV (w : World) (r : Value) (e : Ending) (w' : World) : Prop := e = .returned r ∧ Mod w w' []

theorem index_28 (w : World) (bc bf : Nat) (s : St) (h : PC w bc bf s) :
    Calls Tryz.prog 183 #[.slice (some ⟨bf, 0, none⟩) s.n s.n, .func (.func 184) #[] #[]] w (DidV w (.int .i64 (idx (fun k => !s.t k) s.n))) := by
  have hn := h.n64
  go_enter Tryz.func183, Tryz.ntmps183
  go_wp2
  go_loopw [5, 8] (fun a v wr => ∃ k : Nat, k ≤ s.n ∧ v = .int .i64 (k : Int) ∧ Mod w wr [] ∧ ∀ j, j < k → (!s.t j) = false) (fun _ v _ => s.n - (intOf v).toNat)
  case atStart => exact ⟨0, Nat.zero_le _, rfl, Mod.refl _ _, fun j hj => by omega⟩
  case round =>
    obtain ⟨k, hk, rfl, hm, hno⟩ := hrel
    have hPC := h.mod hm (by simp) (by simp)
    have Hno := Lib.hid hno
    have Hm := Lib.hid hm
    by_cases hlt : k < s.n
    · have hT := hPC.ct k hlt
      have hU := hPC.cu k hlt
      have hP := hPC.cp k hlt
      cases hf : (!s.t k : Bool) with
      | true =>
        have hi := idx_at hlt hf hno
        have Hi := Lib.hid hi
        have hc := fn28 (s.t k) (s.u k) (s.p k)
        rw [hf] at hc
        have Hc := Lib.hid hc
        clear hf hc hi hno h hPC hm
        go_wp2_with (go_at_call 184; refine (Hc.out _).mono ?_; rintro e w1 ⟨rfl, hm1⟩; have Hm1 := Lib.hid hm1; clear hm1)
        go_ret
        exact ⟨by rw [Hi.out]; rfl, Hm.out.trans Hm1.out⟩
      | false =>
        have hc := fn28 (s.t k) (s.u k) (s.p k)
        rw [hf] at hc
        have hno' : ∀ j, j < k + 1 → (!s.t j) = false := by
          intro j hj
          by_cases e : j = k
          · subst e; exact hf
          · exact hno j (by omega)
        have Hno' := Lib.hid hno'
        have Hc := Lib.hid hc
        clear hf hc hno h hPC hm hno'
        go_wp2_with (go_at_call 184; refine (Hc.out _).mono ?_; rintro e w1 ⟨rfl, hm1⟩; have Hm1 := Lib.hid hm1; clear hm1)
        go_roundw
        case rel => exact ⟨k + 1, by omega, by go_num, Hm.out.trans Hm1.out, Hno'.out⟩
        case measure => simp [intOf]; omega
    · have hi := idx_none (n := s.n) (f := fun k => !s.t k) (fun j hj => hno j (by omega))
      have Hi := Lib.hid hi
      clear hi hno h hPC hm
      go_wp2
      go_ret
      exact ⟨by rw [Hi.out]; rfl, Hm.out⟩

theorem index_30 (w : World) (bc bf : Nat) (s : St) (h : PC w bc bf s) :
    Calls Tryz.prog 183 #[.slice (some ⟨bf, 0, none⟩) s.n s.n, .func (.func 186) #[] #[]] w (DidV w (.int .i64 (idx (fun k => decide (s.p k = 0)) s.n))) := by
  have hn := h.n64
  go_enter Tryz.func183, Tryz.ntmps183
  go_wp2
  go_loopw [5, 8] (fun a v wr => ∃ k : Nat, k ≤ s.n ∧ v = .int .i64 (k : Int) ∧ Mod w wr [] ∧ ∀ j, j < k → (decide (s.p j = 0)) = false) (fun _ v _ => s.n - (intOf v).toNat)
  case atStart => exact ⟨0, Nat.zero_le _, rfl, Mod.refl _ _, fun j hj => by omega⟩
  case round =>
    obtain ⟨k, hk, rfl, hm, hno⟩ := hrel
    have hPC := h.mod hm (by simp) (by simp)
    have Hno := Lib.hid hno
    have Hm := Lib.hid hm
    by_cases hlt : k < s.n
    · have hT := hPC.ct k hlt
      have hU := hPC.cu k hlt
      have hP := hPC.cp k hlt
      cases hf : (decide (s.p k = 0) : Bool) with
      | true =>
        have hi := idx_at hlt hf hno
        have Hi := Lib.hid hi
        have hc := fn30 (s.t k) (s.u k) (s.p k)
        rw [hf] at hc
        have Hc := Lib.hid hc
        clear hf hc hi hno h hPC hm
        go_wp2_with (go_at_call 186; refine (Hc.out _).mono ?_; rintro e w1 ⟨rfl, hm1⟩; have Hm1 := Lib.hid hm1; clear hm1)
        go_ret
        exact ⟨by rw [Hi.out]; rfl, Hm.out.trans Hm1.out⟩
      | false =>
        have hc := fn30 (s.t k) (s.u k) (s.p k)
        rw [hf] at hc
        have hno' : ∀ j, j < k + 1 → (decide (s.p j = 0)) = false := by
          intro j hj
          by_cases e : j = k
          · subst e; exact hf
          · exact hno j (by omega)
        have Hno' := Lib.hid hno'
        have Hc := Lib.hid hc
        clear hf hc hno h hPC hm hno'
        go_wp2_with (go_at_call 186; refine (Hc.out _).mono ?_; rintro e w1 ⟨rfl, hm1⟩; have Hm1 := Lib.hid hm1; clear hm1)
        go_roundw
        case rel => exact ⟨k + 1, by omega, by go_num, Hm.out.trans Hm1.out, Hno'.out⟩
        case measure => simp [intOf]; omega
    · have hi := idx_none (n := s.n) (f := fun k => decide (s.p k = 0)) (fun j hj => hno j (by omega))
      have Hi := Lib.hid hi
      clear hi hno h hPC hm
      go_wp2
      go_ret
      exact ⟨by rw [Hi.out]; rfl, Hm.out⟩

theorem contains_30 (w : World) (bc bf : Nat) (s : St) (h : PC w bc bf s) :
    Calls Tryz.prog 185 #[.slice (some ⟨bf, 0, none⟩) s.n s.n, .func (.func 186) #[] #[]] w (DidV w (.bool (some0 s))) := by
  have e1 : decide (0 ≤ idx (fun k => decide (s.p k = 0)) s.n) = some0 s := by
    unfold idx some0
    by_cases q : first (fun k => decide (s.p k = 0)) s.n < s.n
    · simp [q]
    · simp [q]
  rw [← e1]
  clear e1
  generalize hi : idx (fun k => decide (s.p k = 0)) s.n = r
  have hc := index_30 w bc bf s h
  rw [hi] at hc
  have Hc := Lib.hid hc
  clear hc hi h
  go_enter Tryz.func185, Tryz.ntmps185
  go_wp2_with (go_at_call 183; refine Hc.out.mono ?_; rintro e w1 ⟨rfl, hm1⟩; have Hm1 := Lib.hid hm1; clear hm1)
  go_ret
  exact ⟨rfl, Hm1.out⟩
end Go.Proofs.YtgjoahddbieliaaGreat.Ck

/-
  The program's Pick does what the plain model says.
-/
namespace Go.Proofs.YtgjoahddbieliaaGreat.Ck
open Go.RowKit Clk
set_option linter.unusedVariables false

def uW (w : World) (bf k : Nat) : Bool := match w.cell? ⟨bf, k * 3 + 1, none⟩ with | some (.bool b) => b | _ => false
def hW (w : World) (bc : Nat) : Nat := match w.cell? ⟨bc, 1, none⟩ with | some (.int _ q) => q.toNat | _ => 0
def mesW (n : Nat) (p : Nat → Nat) (bc bf : Nat) (w : World) : Nat := mes n p (uW w bf) (hW w bc)
theorem mesW_eq {w : World} {bc bf : Nat} {s : St} (h : PC w bc bf s) : mesW s.n s.p bc bf w = mes s.n s.p s.u s.h := by
  unfold mesW mes
  have e1 : hW w bc = s.h := by unfold hW; rw [h.c1]; simp
  have e2 : cnt (fun k => uW w bf k && decide (s.p k = 0)) s.n = cnt (fun k => s.u k && decide (s.p k = 0)) s.n :=
    cnt_congr _ _ _ (fun k hk => by simp [uW, h.cu k hk])
  rw [e1, e2]

theorem pick_any (w : World) (bc bf : Nat) (s : St) (h : PC w bc bf s) :
   Calls Tryz.prog 115 #[.pointer (some ⟨bc, 0, none⟩)] w (Did w (.tuple #[.int .i64 (pickI s : Int), .bool (pickB s)]) bc bf (pickS s) [bc, bf]) := by
  have hc0 := h.c0
  have hn := h.n64
  have hi := index_28 w bc bf s h
  by_cases hfree : freeK s < s.n
  · have e0 : idx (fun k => !s.t k) s.n = (freeK s : Int) := by unfold freeK at hfree; simp [idx, freeK, hfree]
    have e1 : pickS s = s := by simp [pickS, hfree]
    have e2 : pickI s = freeK s := by simp [pickI, hfree]
    have e3 : pickB s = true := by simp [pickB, hfree]
    rw [e0] at hi
    rw [e1, e2, e3]
    generalize freeK s = k at *
    have Hi := Lib.hid hi
    have Hp := Lib.hid h
    clear hi h e0 e1 e2 e3
    go_enter Tryz.func115, Tryz.ntmps115
    go_wp2
    go_step3
    go_wp2_with (go_at_call 183; refine Hi.out.mono ?_; rintro e w1 ⟨rfl, hm1⟩; have Hm1 := Lib.hid hm1; clear hm1)
    go_ret2
    exact ⟨rfl, Hp.out.mod Hm1.out (by simp) (by simp), Hm1.out.mono (by simp)⟩
  · have e0 : idx (fun k => !s.t k) s.n = -1 := by unfold freeK at hfree; simp [idx, hfree]
    rw [e0] at hi
    cases hs0 : some0 s with
    | false =>
      have e1 : pickS s = s := by simp [pickS, hfree, hs0]
      have e2 : pickI s = 0 := by simp [pickI, hfree, hs0]
      have e3 : pickB s = false := by simp [pickB, hfree, hs0]
      rw [e1, e2, e3]
      have Hc := fun w1 h1 => contains_30 w1 bc bf s h1
      rw [hs0] at Hc
      have Hi := Lib.hid hi
      have Hp := Lib.hid h
      have HC := Lib.hid Hc
      clear hi h e0 e1 e2 e3 Hc hs0
      go_enter Tryz.func115, Tryz.ntmps115
      go_wp2
      go_step3
      go_wp2_with (first
        | (go_at_call 183; refine Hi.out.mono ?_; rintro e w1 ⟨rfl, hm1⟩; have hc1 := hm1.cell_of hc0 (by simp); have Hm1 := Lib.hid hm1; clear hm1)
        | (go_at_call 185; refine (HC.out _ (Hp.out.mod Hm1.out (by simp) (by simp))).mono ?_; rintro e w2 ⟨rfl, hm2⟩; have Hm2 := Lib.hid hm2; clear hm2))
      go_ret2
      exact ⟨rfl, Hp.out.mod (Hm1.out.trans Hm2.out) (by simp) (by simp), (Hm1.out.trans Hm2.out).mono (by simp)⟩
    | true =>
      have e1 : pickS s = { s with u := (goes s.n s.p s.u s.h).1, h := (goes s.n s.p s.u s.h).2.1 } := by simp [pickS, hfree, hs0]
      have e2 : pickI s = (goes s.n s.p s.u s.h).2.2 := by simp [pickI, hfree, hs0]
      have e3 : pickB s = true := by simp [pickB, hs0]
      rw [e1, e2, e3]
      obtain ⟨k0, hk0, hpk0⟩ := (some0_iff s).1 hs0
      have Hc := fun w1 h1 => contains_30 w1 bc bf s h1
      rw [hs0] at Hc
      have Hi := Lib.hid hi
      have Hp := Lib.hid h
      have HC := Lib.hid Hc
      have Hk0 := Lib.hid hpk0
      clear hi h e0 e1 e2 e3 Hc hs0 hpk0
      generalize hgoes : goes s.n s.p s.u s.h = res
      have Hgoes := Lib.hid hgoes
      clear hgoes
      go_enter Tryz.func115, Tryz.ntmps115
      go_wp2
      go_step3
      go_wp2_with (first
        | (go_at_call 183; refine Hi.out.mono ?_; rintro e w1 ⟨rfl, hm1⟩; have hc1 := hm1.cell_of hc0 (by simp); have Hm1 := Lib.hid hm1; clear hm1)
        | (go_at_call 185; refine (HC.out _ (Hp.out.mod Hm1.out (by simp) (by simp))).mono ?_; rintro e w2 ⟨rfl, hm2⟩; have Hm2 := Lib.hid hm2; clear hm2))
      go_step3
      go_wp2
      go_loopw [5] (fun _ wr => ∃ (u : Nat → Bool) (h : Nat), PC wr bc bf { s with u := u, h := h } ∧ Hid (goes s.n s.p u h = res) ∧ Mod w wr [bc, bf]) (fun _ wr => mesW s.n s.p bc bf wr)
      case atStart => exact ⟨s.u, s.h, Hp.out.mod (Hm1.out.trans Hm2.out) (by simp) (by simp), Hgoes, (Hm1.out.trans Hm2.out).mono (by simp)⟩
      case round =>
        clear Hgoes Hm1 Hm2 HC Hi Hp hc1
        obtain ⟨u, h, hPC, hg, hm⟩ := hrel
        have hh : h < s.n := hPC.hh
        have HmW := Lib.hid (mesW_eq hPC)
        have d0 : wr.cell? ⟨bc, 0, none⟩ = some (.slice (some ⟨bf, 0, none⟩) s.n s.n) := hPC.c0
        have d1 : wr.cell? ⟨bc, 1, none⟩ = some (.int .i64 (h : Int)) := hPC.c1
        have d2 := hPC.fc 1
        have hU : wr.cell? ⟨bf, h * 3 + 1, none⟩ = some (.bool (u h)) := hPC.cu h hh
        have hP : wr.cell? ⟨bf, h * 3 + 2, none⟩ = some (.int .i64 (s.p h : Int)) := hPC.cp h hh
        have f1 := hPC.ff (h * 3 + 1)
        have hne := hPC.ne
        have HPC := Lib.hid hPC
        have Hm := Lib.hid hm
        have hn0 : 1 ≤ s.n := hPC.n1
        clear hPC hm
        have hmod : (h + 1) % s.n < s.n := Nat.mod_lt _ (by omega)
        have hcast : (((h + 1) % s.n : Nat) : Int) = ((h : Int) + 1) % (s.n : Int) := by simp
        have Hcast := Lib.hid hcast
        clear hcast
        by_cases hp : s.p h = 0
        · rw [hp] at hP
          have Hpz := Lib.hid hp
          clear hp
          cases hu : u h with
          | false =>
            rw [hu] at hU
            have Hu := Lib.hid hu
            clear hu
            go_wp2
            go_region
            all_goals go_wp2
            go_ret2
            have hset := HPC.out.setH ((h + 1) % s.n) hmod
            rw [Hcast.out] at hset
            have hgo := hg.out
            rw [goes_here s.n s.p u h Hpz.out Hu.out] at hgo
            rw [← hgo]
            exact ⟨rfl, hset.mod (Mod.refl _ []).drew (by simp) (by simp), (Hm.out.setCell (by simp) _).drew⟩
          | true =>
            rw [hu] at hU
            have Hu := Lib.hid hu
            clear hu
            go_wp2
            go_region
            all_goals go_wp2
            have hset := (HPC.out.setH ((h + 1) % s.n) hmod)
            rw [Hcast.out] at hset
            have hset2 := (hset.setU h false).mod (Mod.refl _ []).drew (by simp) (by simp)
            refine ⟨⟨upd u h false, (h + 1) % s.n, hset2, Lib.hid ?_, ((Hm.out.setCell (by simp) _).setCell (by simp) _).drew⟩, ?_⟩
            · rw [← goes_used s.n s.p u h hn hh Hpz.out Hu.out]; exact hg.out
            · have e1 := mesW_eq hset2
              have e2 := HmW.out
              have e3 := mes_used s.n s.p u h hh Hpz.out Hu.out
              simp only at e1 e2
              rw [e1, e2]
              exact e3
        · have hpos : 0 < s.p h := by omega
          have Hpz := Lib.hid hp
          clear hp
          go_wp2
          go_region
          all_goals go_wp2
          have hset := (HPC.out.setH ((h + 1) % s.n) hmod)
          rw [Hcast.out] at hset
          have hset2 := hset.mod (Mod.refl _ []).drew (by simp) (by simp)
          refine ⟨⟨u, (h + 1) % s.n, hset2, Lib.hid ?_, (Hm.out.setCell (by simp) _).drew⟩, ?_⟩
          · rw [← goes_pinned s.n s.p u h hn hh Hpz.out k0 hk0 Hk0.out]; exact hg.out
          · have e1 := mesW_eq hset2
            have e2 := HmW.out
            have e3 := mes_pinned s.n s.p u h hh Hpz.out k0 hk0 Hk0.out
            simp only at e1 e2
            rw [e1, e2]
            exact e3
end Go.Proofs.YtgjoahddbieliaaGreat.Ck

/-
  The program's New makes a clock of so many frames, or none.
-/
namespace Go.Proofs.YtgjoahddbieliaaGreat.Ck
open Go.RowKit Clk
set_option linter.unusedVariables false

theorem Ck.info187 : (Tryz.prog.info? 187).map (fun i => (i.zero, i.size, i.bytes)) = some (some (.agg #[.bool false, .bool false, .int .i64 0]), 3, 16) := by kernel_rfl

theorem made_get (z : Array Value) (n j : Nat) (h : j < n) : (madeCells z n)[j]? = some (z[j % z.size]!) := by
  unfold madeCells
  rw [Array.getElem?_map, Array.getElem?_range, if_pos h]; rfl

theorem run_frames (k : Nat) (hk : k ≤ 64) (W : World) : (Instr.makeSlice 203 (.int .i64 (k : Int)) (.int .i64 (k : Int))).run Tryz.prog W =
    .ok (.slice (some ⟨W.heap.size, 0, none⟩) k k) (W.alloc (.cells (madeCells #[.bool false, .bool false, .int .i64 0] (k * 3)) 187)) := by
  obtain ⟨i, hi, hz0, hz1, hz2⟩ := info_parts Ck.info187
  have := run_make (P := Tryz.prog) W 203 187 i (.agg #[.bool false, .bool false, .int .i64 0]) Tryz.underlying203 hi hz0 .i64 .i64 k k (by omega) (Int.le_refl _) (by rw [hz2]; omega) (by omega)
  simp only [Int.toNat_natCast, hz1] at this
  exact this

theorem cell_alloc (w : World) (c : Array Value) (t : TypeId) (o : Nat) : (w.alloc (.cells c t)).cell? ⟨w.heap.size, o, none⟩ = c[o]? := by
  unfold World.cell?
  rw [show (w.alloc (.cells c t)).heap = w.heap.push (.cells c t) from rfl]
  simp
theorem frozen_alloc (w : World) (c : Array Value) (t : TypeId) (o : Nat) : (w.alloc (.cells c t)).frozen? ⟨w.heap.size, o, none⟩ = false := by
  unfold World.frozen?
  rw [show (w.alloc (.cells c t)).heap = w.heap.push (.cells c t) from rfl]
  simp

def Made (w : World) (r : Value) (bc bf : Nat) (s : St) (e : Ending) (w' : World) : Prop := e = .returned r ∧ PC w' bc bf s ∧ Mod w w' []

theorem new_ok (w : World) (k : Nat) (h1 : 1 ≤ k) (h64 : k ≤ 64) :
   Calls Tryz.prog 69 #[.int .i64 (k : Int)] w (Made w (.pointer (some ⟨w.heap.size + 1, 0, none⟩)) (w.heap.size + 1) w.heap.size (newS k)) := by
  have hmk := run_frames k h64
  have a0 : decide ((k : Int) < 1) = false := by simp; omega
  have a1 : decide ((64 : Int) < (k : Int)) = false := by simp; omega
  go_enter Tryz.func69, Tryz.ntmps69
  go_wp2
  go_ret
  have hs : (w.alloc (.cells (madeCells #[.bool false, .bool false, .int .i64 0] (k * 3)) 187)).heap.size = w.heap.size + 1 := by simp
  refine ⟨rfl, ?_, ((Mod.refl _ _).alloc _).alloc _⟩
  have m : Mod (w.alloc (.cells (madeCells #[.bool false, .bool false, .int .i64 0] (k * 3)) 187)) ((w.alloc (.cells (madeCells #[.bool false, .bool false, .int .i64 0] (k * 3)) 187)).alloc (.cells #[.slice (some ⟨w.heap.size, 0, none⟩) k k, .int .i64 0] 205)) [] := (Mod.refl _ _).alloc _
  have hl : w.heap.size < (w.alloc (.cells (madeCells #[.bool false, .bool false, .int .i64 0] (k * 3)) 187)).heap.size := by rw [hs]; omega
  refine ⟨h1, h64, h1, by omega, ?_, ?_, ?_, ?_, ?_, ?_, ?_⟩
  · have := cell_alloc (w.alloc (.cells (madeCells #[.bool false, .bool false, .int .i64 0] (k * 3)) 187)) #[.slice (some ⟨w.heap.size, 0, none⟩) k k, .int .i64 0] 205 0
    rw [hs] at this
    exact this
  · have := cell_alloc (w.alloc (.cells (madeCells #[.bool false, .bool false, .int .i64 0] (k * 3)) 187)) #[.slice (some ⟨w.heap.size, 0, none⟩) k k, .int .i64 0] 205 1
    rw [hs] at this
    exact this
  · intro o
    have := frozen_alloc (w.alloc (.cells (madeCells #[.bool false, .bool false, .int .i64 0] (k * 3)) 187)) #[.slice (some ⟨w.heap.size, 0, none⟩) k k, .int .i64 0] 205 o
    rw [hs] at this
    exact this
  · intro j hj
    have hj : j < k := hj
    refine m.cell_of ?_ (by simp)
    rw [cell_alloc, made_get _ _ _ (by omega)]
    show some (#[Value.bool false, Value.bool false, Value.int .i64 0][j * 3 % 3]!) = _
    rw [show j * 3 % 3 = 0 from by omega]; rfl
  · intro j hj
    have hj : j < k := hj
    refine m.cell_of ?_ (by simp)
    rw [cell_alloc, made_get _ _ _ (by omega)]
    show some (#[Value.bool false, Value.bool false, Value.int .i64 0][(j * 3 + 1) % 3]!) = _
    rw [show (j * 3 + 1) % 3 = 1 from by omega]; rfl
  · intro j hj
    have hj : j < k := hj
    refine m.cell_of ?_ (by simp)
    rw [cell_alloc, made_get _ _ _ (by omega)]
    show some (#[Value.bool false, Value.bool false, Value.int .i64 0][(j * 3 + 2) % 3]!) = _
    rw [show (j * 3 + 2) % 3 = 2 from by omega]; rfl
  · intro o
    rw [m.frozen _ _ hl (by simp)]
    exact frozen_alloc _ _ _ _

theorem new_no (w : World) (n : Int) (h : n < 1 ∨ 64 < n) :
   Calls Tryz.prog 69 #[.int .i64 n] w fun e w' => e = .returned (.pointer none) ∧ w = w' := by
  by_cases h0 : n < 1
  · have a0 : decide (n < 1) = true := by simp; omega
    go_enter Tryz.func69, Tryz.ntmps69
    go_wp2
    go_ret
    exact ⟨rfl, rfl⟩
  · have a0 : decide (n < 1) = false := by simp; omega
    have a1 : decide (64 < n) = true := by simp; omega
    go_enter Tryz.func69, Tryz.ntmps69
    go_wp2
    go_ret
    exact ⟨rfl, rfl⟩
end Go.Proofs.YtgjoahddbieliaaGreat.Ck
