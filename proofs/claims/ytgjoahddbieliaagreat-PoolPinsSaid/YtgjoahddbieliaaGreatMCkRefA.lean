/-
  The reference's clock in memory: stores into it; is.
-/
import Derived.Test.YtgjoahddbieliaaGreatMCkCodeC
namespace Go.Proofs.YtgjoahddbieliaaGreat.Ck
open Go.RowKit Clk
set_option linter.unusedVariables false

/-- the reference's clock: its struct in block br; three rows -/
structure RC (w : World) (br bt bu bp : Nat) (s : St) : Prop where
  n1 : 1 ≤ s.n
  n64 : s.n ≤ 64
  hh : s.h < s.n
  d1 : br ≠ bt
  d2 : br ≠ bu
  d3 : br ≠ bp
  d4 : bt ≠ bu
  d5 : bt ≠ bp
  d6 : bu ≠ bp
  c0 : w.cell? ⟨br, 0, none⟩ = some (.slice (some ⟨bt, 0, none⟩) s.n s.n)
  c1 : w.cell? ⟨br, 1, none⟩ = some (.slice (some ⟨bu, 0, none⟩) s.n s.n)
  c2 : w.cell? ⟨br, 2, none⟩ = some (.slice (some ⟨bp, 0, none⟩) s.n s.n)
  c3 : w.cell? ⟨br, 3, none⟩ = some (.int .i64 (s.h : Int))
  fr : ∀ o, w.frozen? ⟨br, o, none⟩ = false
  ct : ∀ k, k < s.n → w.cell? ⟨bt, k, none⟩ = some (.bool (s.t k))
  ft : ∀ o, w.frozen? ⟨bt, o, none⟩ = false
  cu : ∀ k, k < s.n → w.cell? ⟨bu, k, none⟩ = some (.bool (s.u k))
  fu : ∀ o, w.frozen? ⟨bu, o, none⟩ = false
  cp : ∀ k, k < s.n → w.cell? ⟨bp, k, none⟩ = some (.int .i64 (s.p k : Int))
  fp : ∀ o, w.frozen? ⟨bp, o, none⟩ = false

theorem RC.mod {w w' : World} {br bt bu bp : Nat} {s : St} (h : RC w br bt bu bp s) {bs : List Nat} (m : Mod w w' bs) (h1 : br ∉ bs) (h2 : bt ∉ bs) (h3 : bu ∉ bs) (h4 : bp ∉ bs) : RC w' br bt bu bp s := by
  have l1 := cell_lt h.c0
  have l2 := cell_lt (h.ct 0 h.n1)
  have l3 := cell_lt (h.cu 0 h.n1)
  have l4 := cell_lt (h.cp 0 h.n1)
  refine ⟨h.n1, h.n64, h.hh, h.d1, h.d2, h.d3, h.d4, h.d5, h.d6, m.cell_of h.c0 h1, m.cell_of h.c1 h1, m.cell_of h.c2 h1, m.cell_of h.c3 h1, ?_, ?_, ?_, ?_, ?_, ?_, ?_⟩
  · intro o; rw [m.frozen _ _ l1 h1]; exact h.fr o
  · intro k hk; exact m.cell_of (h.ct k hk) h2
  · intro o; rw [m.frozen _ _ l2 h2]; exact h.ft o
  · intro k hk; exact m.cell_of (h.cu k hk) h3
  · intro o; rw [m.frozen _ _ l3 h3]; exact h.fu o
  · intro k hk; exact m.cell_of (h.cp k hk) h4
  · intro o; rw [m.frozen _ _ l4 h4]; exact h.fp o

theorem cell_set_ne (w : World) {b o b' o' : Nat} {v x : Value} (h : w.cell? ⟨b, o, none⟩ = some x) (hn : ¬ (b = b' ∧ o = o')) :
    (w.setCell ⟨b', o', none⟩ v).cell? ⟨b, o, none⟩ = some x := by rw [cell_set _ _ _ _ _ _ _ h, if_neg hn]

theorem RC.setH {w : World} {br bt bu bp : Nat} {s : St} (h : RC w br bt bu bp s) (h' : Nat) (hh' : h' < s.n) : RC (w.setCell ⟨br, 3, none⟩ (.int .i64 (h' : Int))) br bt bu bp { s with h := h' } := by
  have d1 := h.d1
  have d2 := h.d2
  have d3 := h.d3
  refine ⟨h.n1, h.n64, hh', h.d1, h.d2, h.d3, h.d4, h.d5, h.d6, cell_set_ne _ h.c0 (by omega), cell_set_ne _ h.c1 (by omega), cell_set_ne _ h.c2 (by omega), ?_, ?_, ?_, ?_, ?_, ?_, ?_, ?_⟩
  · rw [cell_set _ _ _ _ _ _ _ h.c3]; simp
  · intro o; rw [frozen_set]; exact h.fr o
  · intro k hk; exact cell_set_ne _ (h.ct k hk) (by omega)
  · intro o; rw [frozen_set]; exact h.ft o
  · intro k hk; exact cell_set_ne _ (h.cu k hk) (by omega)
  · intro o; rw [frozen_set]; exact h.fu o
  · intro k hk; exact cell_set_ne _ (h.cp k hk) (by omega)
  · intro o; rw [frozen_set]; exact h.fp o
theorem RC.setT {w : World} {br bt bu bp : Nat} {s : St} (h : RC w br bt bu bp s) (j : Nat) (v : Bool) : RC (w.setCell ⟨bt, j, none⟩ (.bool v)) br bt bu bp { s with t := upd s.t j v } := by
  have d1 := h.d1
  have d4 := h.d4
  have d5 := h.d5
  refine ⟨h.n1, h.n64, h.hh, h.d1, h.d2, h.d3, h.d4, h.d5, h.d6, cell_set_ne _ h.c0 (by omega), cell_set_ne _ h.c1 (by omega), cell_set_ne _ h.c2 (by omega), cell_set_ne _ h.c3 (by omega), ?_, ?_, ?_, ?_, ?_, ?_, ?_⟩
  · intro o; rw [frozen_set]; exact h.fr o
  · intro k hk; rw [cell_set _ _ _ _ _ _ _ (h.ct k hk)]; unfold upd; by_cases e : k = j <;> simp [e]
  · intro o; rw [frozen_set]; exact h.ft o
  · intro k hk; exact cell_set_ne _ (h.cu k hk) (by omega)
  · intro o; rw [frozen_set]; exact h.fu o
  · intro k hk; exact cell_set_ne _ (h.cp k hk) (by omega)
  · intro o; rw [frozen_set]; exact h.fp o
theorem RC.setU {w : World} {br bt bu bp : Nat} {s : St} (h : RC w br bt bu bp s) (j : Nat) (v : Bool) : RC (w.setCell ⟨bu, j, none⟩ (.bool v)) br bt bu bp { s with u := upd s.u j v } := by
  have d2 := h.d2
  have d4 := h.d4
  have d6 := h.d6
  refine ⟨h.n1, h.n64, h.hh, h.d1, h.d2, h.d3, h.d4, h.d5, h.d6, cell_set_ne _ h.c0 (by omega), cell_set_ne _ h.c1 (by omega), cell_set_ne _ h.c2 (by omega), cell_set_ne _ h.c3 (by omega), ?_, ?_, ?_, ?_, ?_, ?_, ?_⟩
  · intro o; rw [frozen_set]; exact h.fr o
  · intro k hk; exact cell_set_ne _ (h.ct k hk) (by omega)
  · intro o; rw [frozen_set]; exact h.ft o
  · intro k hk; rw [cell_set _ _ _ _ _ _ _ (h.cu k hk)]; unfold upd; by_cases e : k = j <;> simp [e]
  · intro o; rw [frozen_set]; exact h.fu o
  · intro k hk; exact cell_set_ne _ (h.cp k hk) (by omega)
  · intro o; rw [frozen_set]; exact h.fp o
theorem RC.setP {w : World} {br bt bu bp : Nat} {s : St} (h : RC w br bt bu bp s) (j : Nat) (v : Nat) : RC (w.setCell ⟨bp, j, none⟩ (.int .i64 (v : Int))) br bt bu bp { s with p := upd s.p j v } := by
  have d3 := h.d3
  have d5 := h.d5
  have d6 := h.d6
  refine ⟨h.n1, h.n64, h.hh, h.d1, h.d2, h.d3, h.d4, h.d5, h.d6, cell_set_ne _ h.c0 (by omega), cell_set_ne _ h.c1 (by omega), cell_set_ne _ h.c2 (by omega), cell_set_ne _ h.c3 (by omega), ?_, ?_, ?_, ?_, ?_, ?_, ?_⟩
  · intro o; rw [frozen_set]; exact h.fr o
  · intro k hk; exact cell_set_ne _ (h.ct k hk) (by omega)
  · intro o; rw [frozen_set]; exact h.ft o
  · intro k hk; exact cell_set_ne _ (h.cu k hk) (by omega)
  · intro o; rw [frozen_set]; exact h.fu o
  · intro k hk; rw [cell_set _ _ _ _ _ _ _ (h.cp k hk)]; unfold upd; by_cases e : k = j <;> simp [e]
  · intro o; rw [frozen_set]; exact h.fp o

def DidR (w : World) (r : Value) (br bt bu bp : Nat) (s : St) (bs : List Nat) (e : Ending) (w' : World) : Prop := e = .returned r ∧ RC w' br bt bu bp s ∧ Mod w w' bs

theorem is_any (w : World) (br bt bu bp : Nat) (s : St) (h : RC w br bt bu bp s) (i : Int) :
   Calls Tryz.prog 215 #[.pointer (some ⟨br, 0, none⟩), .int .i64 i] w fun e w' => e = .returned (.bool (isT s i)) ∧ w = w' := by
  have hc0 := h.c0
  have hn := h.n64
  rcases inn_cases s i with ⟨k, rfl, hk⟩ | ho
  · have hT := h.ct k hk
    have hi := inn_yes hk
    have e1 : isT s (k : Int) = s.t k := by simp [isT, hi]
    have a1 : decide ((k : Int) < (s.n : Int)) = true := by simp; omega
    rw [e1]
    clear e1 hi
    go_enter Tryz.func215, Tryz.ntmps215
    go_wp2
    go_ret
    exact ⟨rfl, rfl⟩
  · have hi := inn_no ho
    have e1 : isT s i = false := by simp [isT, hi]
    rw [e1]
    clear e1 hi
    by_cases h0 : 0 ≤ i
    · have a1 : decide (i < (s.n : Int)) = false := by simp; omega
      go_enter Tryz.func215, Tryz.ntmps215
      go_wp2
      go_ret
      exact ⟨rfl, rfl⟩
    · have a0 : decide (0 ≤ i) = false := by simp; omega
      go_enter Tryz.func215, Tryz.ntmps215
      go_wp2
      go_ret
      exact ⟨rfl, rfl⟩
end Go.Proofs.YtgjoahddbieliaaGreat.Ck

/-
  The reference's clock: Take, Leave, Touch, Pin, Unpin, Pins: each does what the plain model says (Pin, Unpin: at most a million pins).
-/
namespace Go.Proofs.YtgjoahddbieliaaGreat.Ck
open Go.RowKit Clk
set_option linter.unusedVariables false

theorem rtake_any (w : World) (br bt bu bp : Nat) (s : St) (h : RC w br bt bu bp s) (i : Int) :
   Calls Tryz.prog 155 #[.pointer (some ⟨br, 0, none⟩), .int .i64 i] w (DidR w (.bool (takeB s i)) br bt bu bp (takeS s i) [bt, bu, bp]) := by
  have hc0 := h.c0
  have hc1 := h.c1
  have hc2 := h.c2
  have hn := h.n64
  rcases inn_cases s i with ⟨k, rfl, hk⟩ | ho
  · have hT := h.ct k hk
    have hi := inn_yes hk
    have a0 : decide ((k : Int) < 0) = false := decide_eq_false (by omega)
    have a1 : decide ((s.n : Int) ≤ (k : Int)) = false := by simp; omega
    cases ht : s.t k with
    | true =>
      rw [ht] at hT
      have e1 : takeB s (k : Int) = false := by simp [takeB, ht]
      have e2 : takeS s (k : Int) = s := by simp [takeS, e1]
      rw [e1, e2]
      clear e1 e2 hi ht
      go_enter Tryz.func155, Tryz.ntmps155
      go_wp2
      go_ret
      exact ⟨rfl, h, Mod.refl _ _⟩
    | false =>
      rw [ht] at hT
      have hU := h.cu k hk
      have hP := h.cp k hk
      have f0 := h.ft k
      have f1 := h.fu k
      have f2 := h.fp k
      have d1 := h.d1
      have d2 := h.d2
      have d3 := h.d3
      have d4 := h.d4
      have d5 := h.d5
      have d6 := h.d6
      have e1 : takeB s (k : Int) = true := by simp [takeB, ht, hi]
      have e2 : takeS s (k : Int) = { s with t := upd s.t k true, u := upd s.u k true, p := upd s.p k 0 } := by simp [takeS, e1]
      rw [e1, e2]
      clear e1 e2 hi ht
      go_enter Tryz.func155, Tryz.ntmps155
      go_wp2
      go_ret
      exact ⟨rfl, ((h.setT k true).setU k true).setP k 0, (((Mod.refl _ _).setCell (by simp) _).setCell (by simp) _).setCell (by simp) _⟩
  · have hi := inn_no ho
    have e1 : takeB s i = false := by simp [takeB, hi]
    have e2 : takeS s i = s := by simp [takeS, e1]
    rw [e1, e2]
    clear e1 e2 hi
    by_cases h0 : i < 0
    · have a0 : decide (i < 0) = true := by simp; omega
      go_enter Tryz.func155, Tryz.ntmps155
      go_wp2
      go_ret
      exact ⟨rfl, h, Mod.refl _ _⟩
    · have a0 : decide (i < 0) = false := by simp; omega
      have a1 : decide ((s.n : Int) ≤ i) = true := by simp; omega
      go_enter Tryz.func155, Tryz.ntmps155
      go_wp2
      go_ret
      exact ⟨rfl, h, Mod.refl _ _⟩

theorem rleave_any (w : World) (br bt bu bp : Nat) (s : St) (h : RC w br bt bu bp s) (i : Int) :
   Calls Tryz.prog 151 #[.pointer (some ⟨br, 0, none⟩), .int .i64 i] w (DidR w (.bool (leaveB s i)) br bt bu bp (leaveS s i) [bt, bu]) := by
  have hc0 := h.c0
  have hc1 := h.c1
  have hc2 := h.c2
  have hn := h.n64
  have his := is_any w br bt bu bp s h i
  cases hit : isT s i with
  | false =>
    rw [hit] at his
    have e1 : leaveB s i = false := by simp [leaveB, hit]
    have e2 : leaveS s i = s := by simp [leaveS, e1]
    rw [e1, e2]
    have His := Lib.hid his
    clear e1 e2 hit his
    go_enter Tryz.func151, Tryz.ntmps151
    go_wp2_with (go_at_call 215; refine His.out.mono ?_; rintro e w' ⟨rfl, rfl⟩)
    go_ret
    exact ⟨rfl, h, Mod.refl _ _⟩
  | true =>
    obtain ⟨k, rfl, hk⟩ : ∃ k : Nat, i = (k : Int) ∧ k < s.n := by
      rcases inn_cases s i with h1 | h1
      · exact h1
      · have := inn_no h1; simp [isT, this] at hit
    rw [hit] at his
    have His := Lib.hid his
    have d1 := h.d1
    have d2 := h.d2
    have d3 := h.d3
    have d4 := h.d4
    have d5 := h.d5
    have d6 := h.d6
    have hU := h.cu k hk
    have hP := h.cp k hk
    have f0 := h.ft k
    have f1 := h.fu k
    have f2 := h.fp k
    have hT := h.ct k hk
    by_cases hp : s.p k = 0
    · have e1 : leaveB s (k : Int) = true := by simp [leaveB, hit, hp]
      have e2 : leaveS s (k : Int) = { s with t := upd s.t k false, u := upd s.u k false } := by simp [leaveS, e1]
      rw [e1, e2]
      rw [hp] at hP
      clear e1 e2 hit his hp
      go_enter Tryz.func151, Tryz.ntmps151
      go_wp2_with (go_at_call 215; refine His.out.mono ?_; rintro e w' ⟨rfl, rfl⟩)
      go_ret
      exact ⟨rfl, (h.setT k false).setU k false, ((Mod.refl _ _).setCell (by simp) _).setCell (by simp) _⟩
    · have e1 : leaveB s (k : Int) = false := by simp [leaveB, hp]
      have e2 : leaveS s (k : Int) = s := by simp [leaveS, e1]
      rw [e1, e2]
      have hpos : 0 < s.p k := by omega
      clear e1 e2 hit his hp
      go_enter Tryz.func151, Tryz.ntmps151
      go_wp2_with (go_at_call 215; refine His.out.mono ?_; rintro e w' ⟨rfl, rfl⟩)
      go_ret
      exact ⟨rfl, h, Mod.refl _ _⟩

theorem rtouch_any (w : World) (br bt bu bp : Nat) (s : St) (h : RC w br bt bu bp s) (i : Int) :
   Calls Tryz.prog 147 #[.pointer (some ⟨br, 0, none⟩), .int .i64 i] w (DidR w (.bool (isT s i)) br bt bu bp (touchS s i) [bu]) := by
  have hc0 := h.c0
  have hc1 := h.c1
  have hc2 := h.c2
  have hn := h.n64
  have his := is_any w br bt bu bp s h i
  cases hit : isT s i with
  | false =>
    rw [hit] at his
    have e1 : isT s i = false := hit
    have e2 : touchS s i = s := by simp [touchS, hit]
    rw [e2]
    have His := Lib.hid his
    clear e1 e2 hit his
    go_enter Tryz.func147, Tryz.ntmps147
    go_wp2_with (go_at_call 215; refine His.out.mono ?_; rintro e w' ⟨rfl, rfl⟩)
    go_ret
    exact ⟨rfl, h, Mod.refl _ _⟩
  | true =>
    obtain ⟨k, rfl, hk⟩ : ∃ k : Nat, i = (k : Int) ∧ k < s.n := by
      rcases inn_cases s i with h1 | h1
      · exact h1
      · have := inn_no h1; simp [isT, this] at hit
    rw [hit] at his
    have His := Lib.hid his
    have d1 := h.d1
    have d2 := h.d2
    have d3 := h.d3
    have d4 := h.d4
    have d5 := h.d5
    have d6 := h.d6
    have hU := h.cu k hk
    have hP := h.cp k hk
    have f0 := h.ft k
    have f1 := h.fu k
    have f2 := h.fp k
    have hT := h.ct k hk
    have e1 : isT s (k : Int) = true := hit
    have e2 : touchS s (k : Int) = { s with u := upd s.u k true } := by simp [touchS, e1]
    rw [e2]
    clear e1 e2 hit his
    go_enter Tryz.func147, Tryz.ntmps147
    go_wp2_with (go_at_call 215; refine His.out.mono ?_; rintro e w' ⟨rfl, rfl⟩)
    go_ret
    exact ⟨rfl, h.setU k true, (Mod.refl _ _).setCell (by simp) _⟩

theorem rpin_any (w : World) (br bt bu bp : Nat) (s : St) (h : RC w br bt bu bp s) (i : Int) (hs : ∀ k, s.p k ≤ 1000000) :
   Calls Tryz.prog 148 #[.pointer (some ⟨br, 0, none⟩), .int .i64 i] w (DidR w (.bool (isT s i)) br bt bu bp (pinS s i) [bp]) := by
  have hc0 := h.c0
  have hc1 := h.c1
  have hc2 := h.c2
  have hn := h.n64
  have his := is_any w br bt bu bp s h i
  cases hit : isT s i with
  | false =>
    rw [hit] at his
    have e1 : isT s i = false := hit
    have e2 : pinS s i = s := by simp [pinS, hit]
    rw [e2]
    have His := Lib.hid his
    clear e1 e2 hit his hs
    go_enter Tryz.func148, Tryz.ntmps148
    go_wp2_with (go_at_call 215; refine His.out.mono ?_; rintro e w' ⟨rfl, rfl⟩)
    go_ret
    exact ⟨rfl, h, Mod.refl _ _⟩
  | true =>
    obtain ⟨k, rfl, hk⟩ : ∃ k : Nat, i = (k : Int) ∧ k < s.n := by
      rcases inn_cases s i with h1 | h1
      · exact h1
      · have := inn_no h1; simp [isT, this] at hit
    rw [hit] at his
    have His := Lib.hid his
    have d1 := h.d1
    have d2 := h.d2
    have d3 := h.d3
    have d4 := h.d4
    have d5 := h.d5
    have d6 := h.d6
    have hU := h.cu k hk
    have hP := h.cp k hk
    have f0 := h.ft k
    have f1 := h.fu k
    have f2 := h.fp k
    have hT := h.ct k hk
    have e1 : isT s (k : Int) = true := hit
    have e2 : pinS s (k : Int) = { s with p := upd s.p k (s.p k + 1) } := by simp [pinS, e1]
    rw [e2]
    have hb := hs k
    have hset := h.setP k (s.p k + 1)
    clear e1 e2 hit his hs
    go_enter Tryz.func148, Tryz.ntmps148
    go_wp2_with (go_at_call 215; refine His.out.mono ?_; rintro e w' ⟨rfl, rfl⟩)
    go_ret
    refine ⟨rfl, ?_, (Mod.refl _ _).setCell (by simp) _⟩
    simpa using hset

theorem runpin_any (w : World) (br bt bu bp : Nat) (s : St) (h : RC w br bt bu bp s) (i : Int) (hs : ∀ k, s.p k ≤ 1000000) :
   Calls Tryz.prog 161 #[.pointer (some ⟨br, 0, none⟩), .int .i64 i] w (DidR w (.bool (unpinB s i)) br bt bu bp (unpinS s i) [bp]) := by
  have hc0 := h.c0
  have hc1 := h.c1
  have hc2 := h.c2
  have hn := h.n64
  have his := is_any w br bt bu bp s h i
  cases hit : isT s i with
  | false =>
    rw [hit] at his
    have e1 : unpinB s i = false := by simp [unpinB, hit]
    have e2 : unpinS s i = s := by simp [unpinS, e1]
    rw [e1, e2]
    have His := Lib.hid his
    clear e1 e2 hit his hs
    go_enter Tryz.func161, Tryz.ntmps161
    go_wp2_with (go_at_call 215; refine His.out.mono ?_; rintro e w' ⟨rfl, rfl⟩)
    go_ret
    exact ⟨rfl, h, Mod.refl _ _⟩
  | true =>
    obtain ⟨k, rfl, hk⟩ : ∃ k : Nat, i = (k : Int) ∧ k < s.n := by
      rcases inn_cases s i with h1 | h1
      · exact h1
      · have := inn_no h1; simp [isT, this] at hit
    rw [hit] at his
    have His := Lib.hid his
    have d1 := h.d1
    have d2 := h.d2
    have d3 := h.d3
    have d4 := h.d4
    have d5 := h.d5
    have d6 := h.d6
    have hU := h.cu k hk
    have hP := h.cp k hk
    have f0 := h.ft k
    have f1 := h.fu k
    have f2 := h.fp k
    have hT := h.ct k hk
    by_cases hp : s.p k = 0
    · have e1 : unpinB s (k : Int) = false := by simp [unpinB, hp]
      have e2 : unpinS s (k : Int) = s := by simp [unpinS, e1]
      rw [e1, e2]
      rw [hp] at hP
      clear e1 e2 hit his hp hs
      go_enter Tryz.func161, Tryz.ntmps161
      go_wp2_with (go_at_call 215; refine His.out.mono ?_; rintro e w' ⟨rfl, rfl⟩)
      go_ret
      exact ⟨rfl, h, Mod.refl _ _⟩
    · have e1 : unpinB s (k : Int) = true := by simp [unpinB, hit, hp]
      have e2 : unpinS s (k : Int) = { s with p := upd s.p k (s.p k - 1) } := by simp [unpinS, e1]
      rw [e1, e2]
      have hb := hs k
      have hset := h.setP k (s.p k - 1)
      have hz : ((s.p k : Int) == 0) = false := by simpa using hp
      have hc : ((s.p k - 1 : Nat) : Int) = (s.p k : Int) - 1 := by omega
      rw [hc] at hset
      have hpos : 1 ≤ s.p k := by omega
      clear e1 e2 hit his hs hp hc
      go_enter Tryz.func161, Tryz.ntmps161
      go_wp2_with (go_at_call 215; refine His.out.mono ?_; rintro e w' ⟨rfl, rfl⟩)
      go_ret
      exact ⟨rfl, hset, (Mod.refl _ _).setCell (by simp) _⟩

theorem rpins_any (w : World) (br bt bu bp : Nat) (s : St) (h : RC w br bt bu bp s) (i : Int) :
   Calls Tryz.prog 159 #[.pointer (some ⟨br, 0, none⟩), .int .i64 i] w fun e w' => e = .returned (.int .i64 (pinsV s i : Int)) ∧ w = w' := by
  have hc2 := h.c2
  have hn := h.n64
  rcases inn_cases s i with ⟨k, rfl, hk⟩ | ho
  · have hP := h.cp k hk
    have hi := inn_yes hk
    have a0 : decide ((k : Int) < 0) = false := decide_eq_false (by omega)
    have a1 : decide ((s.n : Int) ≤ (k : Int)) = false := by simp; omega
    have e1 : pinsV s (k : Int) = s.p k := by simp [pinsV, hi]
    rw [e1]
    clear e1 hi
    go_enter Tryz.func159, Tryz.ntmps159
    go_wp2
    go_ret
    exact ⟨rfl, rfl⟩
  · have hi := inn_no ho
    have e1 : pinsV s i = 0 := by simp [pinsV, hi]
    rw [e1]
    clear e1 hi
    by_cases h0 : i < 0
    · have a0 : decide (i < 0) = true := by simp; omega
      go_enter Tryz.func159, Tryz.ntmps159
      go_wp2
      go_ret
      exact ⟨rfl, rfl⟩
    · have a0 : decide (i < 0) = false := by simp; omega
      have a1 : decide ((s.n : Int) ≤ i) = true := by simp; omega
      go_enter Tryz.func159, Tryz.ntmps159
      go_wp2
      go_ret
      exact ⟨rfl, rfl⟩
end Go.Proofs.YtgjoahddbieliaaGreat.Ck
