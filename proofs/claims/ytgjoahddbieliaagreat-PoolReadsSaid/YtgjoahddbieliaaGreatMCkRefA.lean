/-
  The reference's clock in memory: stores into it; is.
-/
import Derived.Test.YtgjoahddbieliaaGreatMCkCodeC
namespace Go.Proofs.YtgjoahddbieliaaGreat.Ck
open Go.RowKit Clk
set_option linter.unusedVariables false

/-- the reference's clock: its struct in block br; three rows -/
structure RC (w : World) (br bt bu bp : Nat) (s : St) : Prop where
  n1 : 1 ≤ s.n
  n64 : s.n ≤ 64
  hh : s.h < s.n
  d1 : br ≠ bt
  d2 : br ≠ bu
  d3 : br ≠ bp
  d4 : bt ≠ bu
  d5 : bt ≠ bp
  d6 : bu ≠ bp
  c0 : w.cell? ⟨br, 0, none⟩ = some (.slice (some ⟨bt, 0, none⟩) s.n s.n)
  c1 : w.cell? ⟨br, 1, none⟩ = some (.slice (some ⟨bu, 0, none⟩) s.n s.n)
  c2 : w.cell? ⟨br, 2, none⟩ = some (.slice (some ⟨bp, 0, none⟩) s.n s.n)
  c3 : w.cell? ⟨br, 3, none⟩ = some (.int .i64 (s.h : Int))
  fr : ∀ o, w.frozen? ⟨br, o, none⟩ = false
  ct : ∀ k, k < s.n → w.cell? ⟨bt, k, none⟩ = some (.bool (s.t k))
  ft : ∀ o, w.frozen? ⟨bt, o, none⟩ = false
  cu : ∀ k, k < s.n → w.cell? ⟨bu, k, none⟩ = some (.bool (s.u k))
  fu : ∀ o, w.frozen? ⟨bu, o, none⟩ = false
  cp : ∀ k, k < s.n → w.cell? ⟨bp, k, none⟩ = some (.int .i64 (s.p k : Int))
  fp : ∀ o, w.frozen? ⟨bp, o, none⟩ = false

theorem RC.mod {w w' : World} {br bt bu bp : Nat} {s : St} (h : RC w br bt bu bp s) {bs : List Nat} (m : Mod w w' bs) (h1 : br ∉ bs) (h2 : bt ∉ bs) (h3 : bu ∉ bs) (h4 : bp ∉ bs) : RC w' br bt bu bp s := by
  have l1 := cell_lt h.c0
  have l2 := cell_lt (h.ct 0 h.n1)
  have l3 := cell_lt (h.cu 0 h.n1)
  have l4 := cell_lt (h.cp 0 h.n1)
  refine ⟨h.n1, h.n64, h.hh, h.d1, h.d2, h.d3, h.d4, h.d5, h.d6, m.cell_of h.c0 h1, m.cell_of h.c1 h1, m.cell_of h.c2 h1, m.cell_of h.c3 h1, ?_, ?_, ?_, ?_, ?_, ?_, ?_⟩
  · intro o; rw [m.frozen _ _ l1 h1]; exact h.fr o
  · intro k hk; exact m.cell_of (h.ct k hk) h2
  · intro o; rw [m.frozen _ _ l2 h2]; exact h.ft o
  · intro k hk; exact m.cell_of (h.cu k hk) h3
  · intro o; rw [m.frozen _ _ l3 h3]; exact h.fu o
  · intro k hk; exact m.cell_of (h.cp k hk) h4
  · intro o; rw [m.frozen _ _ l4 h4]; exact h.fp o

theorem cell_set_ne (w : World) {b o b' o' : Nat} {v x : Value} (h : w.cell? ⟨b, o, none⟩ = some x) (hn : ¬ (b = b' ∧ o = o')) :
    (w.setCell ⟨b', o', none⟩ v).cell? ⟨b, o, none⟩ = some x := by rw [cell_set _ _ _ _ _ _ _ h, if_neg hn]

theorem RC.setH {w : World} {br bt bu bp : Nat} {s : St} (h : RC w br bt bu bp s) (h' : Nat) (hh' : h' < s.n) : RC (w.setCell ⟨br, 3, none⟩ (.int .i64 (h' : Int))) br bt bu bp { s with h := h' } := by
  have d1 := h.d1
  have d2 := h.d2
  have d3 := h.d3
  refine ⟨h.n1, h.n64, hh', h.d1, h.d2, h.d3, h.d4, h.d5, h.d6, cell_set_ne _ h.c0 (by omega), cell_set_ne _ h.c1 (by omega), cell_set_ne _ h.c2 (by omega), ?_, ?_, ?_, ?_, ?_, ?_, ?_, ?_⟩
  · rw [cell_set _ _ _ _ _ _ _ h.c3]; simp
  · intro o; rw [frozen_set]; exact h.fr o
  · intro k hk; exact cell_set_ne _ (h.ct k hk) (by omega)
  · intro o; rw [frozen_set]; exact h.ft o
  · intro k hk; exact cell_set_ne _ (h.cu k hk) (by omega)
  · intro o; rw [frozen_set]; exact h.fu o
  · intro k hk; exact cell_set_ne _ (h.cp k hk) (by omega)
  · intro o; rw [frozen_set]; exact h.fp o
theorem RC.setT {w : World} {br bt bu bp : Nat} {s : St} (h : RC w br bt bu bp s) (j : Nat) (v : Bool) : RC (w.setCell ⟨bt, j, none⟩ (.bool v)) br bt bu bp { s with t := upd s.t j v } := by
  have d1 := h.d1
  have d4 := h.d4
  have d5 := h.d5
  refine ⟨h.n1, h.n64, h.hh, h.d1, h.d2, h.d3, h.d4, h.d5, h.d6, cell_set_ne _ h.c0 (by omega), cell_set_ne _ h.c1 (by omega), cell_set_ne _ h.c2 (by omega), cell_set_ne _ h.c3 (by omega), ?_, ?_, ?_, ?_, ?_, ?_, ?_⟩
  · intro o; rw [frozen_set]; exact h.fr o
  · intro k hk; rw [cell_set _ _ _ _ _ _ _ (h.ct k hk)]; unfold upd; by_cases e : k = j <;> simp [e]
  · intro o; rw [frozen_set]; exact h.ft o
  · intro k hk; exact cell_set_ne _ (h.cu k hk) (by omega)
  · intro o; rw [frozen_set]; exact h.fu o
  · intro k hk; exact cell_set_ne _ (h.cp k hk) (by omega)
  · intro o; rw [frozen_set]; exact h.fp o
theorem RC.setU {w : World} {br bt bu bp : Nat} {s : St} (h : RC w br bt bu bp s) (j : Nat) (v : Bool) : RC (w.setCell ⟨bu, j, none⟩ (.bool v)) br bt bu bp { s with u := upd s.u j v } := by
  have d2 := h.d2
  have d4 := h.d4
  have d6 := h.d6
  refine ⟨h.n1, h.n64, h.hh, h.d1, h.d2, h.d3, h.d4, h.d5, h.d6, cell_set_ne _ h.c0 (by omega), cell_set_ne _ h.c1 (by omega), cell_set_ne _ h.c2 (by omega), cell_set_ne _ h.c3 (by omega), ?_, ?_, ?_, ?_, ?_, ?_, ?_⟩
  · intro o; rw [frozen_set]; exact h.fr o
  · intro k hk; exact cell_set_ne _ (h.ct k hk) (by omega)
  · intro o; rw [frozen_set]; exact h.ft o
  · intro k hk; rw [cell_set _ _ _ _ _ _ _ (h.cu k hk)]; unfold upd; by_cases e : k = j <;> simp [e]
  · intro o; rw [frozen_set]; exact h.fu o
  · intro k hk; exact cell_set_ne _ (h.cp k hk) (by omega)
  · intro o; rw [frozen_set]; exact h.fp o
theorem RC.setP {w : World} {br bt bu bp : Nat} {s : St} (h : RC w br bt bu bp s) (j : Nat) (v : Nat) : RC (w.setCell ⟨bp, j, none⟩ (.int .i64 (v : Int))) br bt bu bp { s with p := upd s.p j v } := by
  have d3 := h.d3
  have d5 := h.d5
  have d6 := h.d6
  refine ⟨h.n1, h.n64, h.hh, h.d1, h.d2, h.d3, h.d4, h.d5, h.d6, cell_set_ne _ h.c0 (by omega), cell_set_ne _ h.c1 (by omega), cell_set_ne _ h.c2 (by omega), cell_set_ne _ h.c3 (by omega), ?_, ?_, ?_, ?_, ?_, ?_, ?_⟩
  · intro o; rw [frozen_set]; exact h.fr o
  · intro k hk; exact cell_set_ne _ (h.ct k hk) (by omega)
  · intro o; rw [frozen_set]; exact h.ft o
  · intro k hk; exact cell_set_ne _ (h.cu k hk) (by omega)
  · intro o; rw [frozen_set]; exact h.fu o
  · intro k hk; rw [cell_set _ _ _ _ _ _ _ (h.cp k hk)]; unfold upd; by_cases e : k = j <;> simp [e]
  · intro o; rw [frozen_set]; exact h.fp o

def DidR (w : World) (r : Value) (br bt bu bp : Nat) (s : St) (bs : List Nat) (e : Ending) (w' : World) : Prop := e = .returned r ∧ RC w' br bt bu bp s ∧ Mod w w' bs

theorem is_any (w : World) (br bt bu bp : Nat) (s : St) (h : RC w br bt bu bp s) (i : Int) :
   Calls Tryz.prog 215 #[.pointer (some ⟨br, 0, none⟩), .int .i64 i] w fun e w' => e = .returned (.bool (isT s i)) ∧ w = w' := by
  have hc0 := h.c0
  have hn := h.n64
  rcases inn_cases s i with ⟨k, rfl, hk⟩ | ho
  · have hT := h.ct k hk
    have hi := inn_yes hk
    have e1 : isT s (k : Int) = s.t k := by simp [isT, hi]
    have a1 : decide ((k : Int) < (s.n : Int)) = true := by simp; omega
    rw [e1]
    clear e1 hi
    go_enter Tryz.func215, Tryz.ntmps215
    go_wp2
    go_ret
    exact ⟨rfl, rfl⟩
  · have hi := inn_no ho
    have e1 : isT s i = false := by simp [isT, hi]
    rw [e1]
    clear e1 hi
    by_cases h0 : 0 ≤ i
    · have a1 : decide (i < (s.n : Int)) = false := by simp; omega
      go_enter Tryz.func215, Tryz.ntmps215
      go_wp2
      go_ret
      exact ⟨rfl, rfl⟩
    · have a0 : decide (0 ≤ i) = false := by simp; omega
      go_enter Tryz.func215, Tryz.ntmps215
      go_wp2
      go_ret
      exact ⟨rfl, rfl⟩
end Go.Proofs.YtgjoahddbieliaaGreat.Ck

/-
  The reference's clock: Take, Leave, Touch, Pin, Unpin, Pins: each does what the plain model says (Pin, Unpin: at most a million pins).
-/
namespace Go.Proofs.YtgjoahddbieliaaGreat.Ck
open Go.RowKit Clk
set_option linter.unusedVariables false

theorem rtake_any (w : World) (br bt bu bp : Nat) (s : St) (h : RC w br bt bu bp s) (i : Int) :
   Calls Tryz.prog 155 #[.pointer (some ⟨br, 0, none⟩), .int .i64 i] w (DidR w (.bool (takeB s i)) br bt bu bp (takeS s i) [bt, bu, bp]) := by
  have hc0 := h.c0
  have hc1 := h.c1
  have hc2 := h.c2
  have hn := h.n64
  rcases inn_cases s i with ⟨k, rfl, hk⟩ | ho
  · have hT := h.ct k hk
    have hi := inn_yes hk
    have a0 : decide ((k : Int) < 0) = false := decide_eq_false (by omega)
    have a1 : decide ((s.n : Int) ≤ (k : Int)) = false := by simp; omega
    cases ht : s.t k with
    | true =>
      rw [ht] at hT
      have e1 : takeB s (k : Int) = false := by simp [takeB, ht]
      have e2 : takeS s (k : Int) = s := by simp [takeS, e1]
      rw [e1, e2]
      clear e1 e2 hi ht
      go_enter Tryz.func155, Tryz.ntmps155
      go_wp2
      go_ret
      exact ⟨rfl, h, Mod.refl _ _⟩
    | false =>
      rw [ht] at hT
      have hU := h.cu k hk
      have hP := h.cp k hk
      have f0 := h.ft k
      have f1 := h.fu k
      have f2 := h.fp k
      have d1 := h.d1
      have d2 := h.d2
      have d3 := h.d3
      have d4 := h.d4
      have d5 := h.d5
      have d6 := h.d6
      have e1 : takeB s (k : Int) = true := by simp [takeB, ht, hi]
      have e2 : takeS s (k : Int) = { s with t := upd s.t k true, u := upd s.u k true, p := upd s.p k 0 } := by simp [takeS, e1]
      rw [e1, e2]
      clear e1 e2 hi ht
      go_enter Tryz.func155, Tryz.ntmps155
      go_wp2
      go_ret
      exact ⟨rfl, ((h.setT k true).setU k true).setP k 0, (((Mod.refl _ _).setCell (by simp) _).setCell (by simp) _).setCell (by simp) _⟩
  · have hi := inn_no ho
    have e1 : takeB s i = false := by simp [takeB, hi]
    have e2 : takeS s i = s := by simp [takeS, e1]
    rw [e1, e2]
    clear e1 e2 hi
    by_cases h0 : i < 0
    · have a0 : decide (i < 0) = true := by simp; omega
      go_enter Tryz.func155, Tryz.ntmps155
      go_wp2
      go_ret
      exact ⟨rfl, h, Mod.refl _ _⟩
    · have a0 : decide (i < 0) = false := by simp; omega
      have a1 : decide ((s.n : Int) ≤ i) = true := by simp; omega
      go_enter Tryz.func155, Tryz.ntmps155
      go_wp2
      go_ret
      exact ⟨rfl, h, Mod.refl _ _⟩

theorem rleave_any (w : World) (br bt bu bp : Nat) (s : St) (h : RC w br bt bu bp s) (i : Int) :
   Calls Tryz.prog 151 #[.pointer (some ⟨br, 0, none⟩), .int .i64 i] w (DidR w (.bool (leaveB s i)) br bt bu bp (leaveS s i) [bt, bu]) := by
  have hc0 := h.c0
  have hc1 := h.c1
  have hc2 := h.c2
  have hn := h.n64
  have his := is_any w br bt bu bp s h i
  cases hit : isT s i with
  | false =>
    rw [hit] at his
    have e1 : leaveB s i = false := by simp [leaveB, hit]
    have e2 : leaveS s i = s := by simp [leaveS, e1]
    rw [e1, e2]
    have His := Lib.hid his
    clear e1 e2 hit his
    go_enter Tryz.func151, Tryz.ntmps151
    go_wp2_with (go_at_call 215; refine His.out.mono ?_; rintro e w' ⟨rfl, rfl⟩)
    go_ret
    exact ⟨rfl, h, Mod.refl _ _⟩
  | true =>
    obtain ⟨k, rfl, hk⟩ : ∃ k : Nat, i = (k : Int) ∧ k < s.n := by
      rcases inn_cases s i with h1 | h1
      · exact h1
      · have := inn_no h1; simp [isT, this] at hit
    rw [hit] at his
    have His := Lib.hid his
    have d1 := h.d1
    have d2 := h.d2
    have d3 := h.d3
    have d4 := h.d4
    have d5 := h.d5
    have d6 := h.d6
    have hU := h.cu k hk
    have hP := h.cp k hk
    have f0 := h.ft k
    have f1 := h.fu k
    have f2 := h.fp k
    have hT := h.ct k hk
    by_cases hp : s.p k = 0
    · have e1 : leaveB s (k : Int) = true := by simp [leaveB, hit, hp]
      have e2 : leaveS s (k : Int) = { s with t := upd s.t k false, u := upd s.u k false } := by simp [leaveS, e1]
      rw [e1, e2]
      rw [hp] at hP
      clear e1 e2 hit his hp
      go_enter Tryz.func151, Tryz.ntmps151
      go_wp2_with (go_at_call 215; refine His.out.mono ?_; rintro e w' ⟨rfl, rfl⟩)
      go_ret
      exact ⟨rfl, (h.setT k false).setU k false, ((Mod.refl _ _).setCell (by simp) _).setCell (by simp) _⟩
    · have e1 : leaveB s (k : Int) = false := by simp [leaveB, hp]
      have e2 : leaveS s (k : Int) = s := by simp [leaveS, e1]
      rw [e1, e2]
      have hpos : 0 < s.p k := by omega
      clear e1 e2 hit his hp
      go_enter Tryz.func151, Tryz.ntmps151
      go_wp2_with (go_at_call 215; refine His.out.mono ?_; rintro e w' ⟨rfl, rfl⟩)
      go_ret
      exact ⟨rfl, h, Mod.refl _ _⟩

theorem rtouch_any (w : World) (br bt bu bp : Nat) (s : St) (h : RC w br bt bu bp s) (i : Int) :
   Calls Tryz.prog 147 #[.pointer (some ⟨br, 0, none⟩), .int .i64 i] w (DidR w (.bool (isT s i)) br bt bu bp (touchS s i) [bu]) := by
  have hc0 := h.c0
  have hc1 := h.c1
  have hc2 := h.c2
  have hn := h.n64
  have his := is_any w br bt bu bp s h i
  cases hit : isT s i with
  | false =>
    rw [hit] at his
    have e1 : isT s i = false := hit
    have e2 : touchS s i = s := by simp [touchS, hit]
    rw [e2]
    have His := Lib.hid his
    clear e1 e2 hit his
    go_enter Tryz.func147, Tryz.ntmps147
    go_wp2_with (go_at_call 215; refine His.out.mono ?_; rintro e w' ⟨rfl, rfl⟩)
    go_ret
    exact ⟨rfl, h, Mod.refl _ _⟩
  | true =>
    obtain ⟨k, rfl, hk⟩ : ∃ k : Nat, i = (k : Int) ∧ k < s.n := by
      rcases inn_cases s i with h1 | h1
      · exact h1
      · have := inn_no h1; simp [isT, this] at hit
    rw [hit] at his
    have His := Lib.hid his
    have d1 := h.d1
    have d2 := h.d2
    have d3 := h.d3
    have d4 := h.d4
    have d5 := h.d5
    have d6 := h.d6
    have hU := h.cu k hk
    have hP := h.cp k hk
    have f0 := h.ft k
    have f1 := h.fu k
    have f2 := h.fp k
    have hT := h.ct k hk
    have e1 : isT s (k : Int) = true := hit
    have e2 : touchS s (k : Int) = { s with u := upd s.u k true } := by simp [touchS, e1]
    rw [e2]
    clear e1 e2 hit his
    go_enter Tryz.func147, Tryz.ntmps147
    go_wp2_with (go_at_call 215; refine His.out.mono ?_; rintro e w' ⟨rfl, rfl⟩)
    go_ret
    exact ⟨rfl, h.setU k true, (Mod.refl _ _).setCell (by simp) _⟩

theorem rpin_any (w : World) (br bt bu bp : Nat) (s : St) (h : RC w br bt bu bp s) (i : Int) (hs : ∀ k, s.p k ≤ 1000000) :
   Calls Tryz.prog 148 #[.pointer (some ⟨br, 0, none⟩), .int .i64 i] w (DidR w (.bool (isT s i)) br bt bu bp (pinS s i) [bp]) := by
  have hc0 := h.c0
  have hc1 := h.c1
  have hc2 := h.c2
  have hn := h.n64
  have his := is_any w br bt bu bp s h i
  cases hit : isT s i with
  | false =>
    rw [hit] at his
    have e1 : isT s i = false := hit
    have e2 : pinS s i = s := by simp [pinS, hit]
    rw [e2]
    have His := Lib.hid his
    clear e1 e2 hit his hs
    go_enter Tryz.func148, Tryz.ntmps148
    go_wp2_with (go_at_call 215; refine His.out.mono ?_; rintro e w' ⟨rfl, rfl⟩)
    go_ret
    exact ⟨rfl, h, Mod.refl _ _⟩
  | true =>
    obtain ⟨k, rfl, hk⟩ : ∃ k : Nat, i = (k : Int) ∧ k < s.n := by
      rcases inn_cases s i with h1 | h1
      · exact h1
      · have := inn_no h1; simp [isT, this] at hit
    rw [hit] at his
    have His := Lib.hid his
    have d1 := h.d1
    have d2 := h.d2
    have d3 := h.d3
    have d4 := h.d4
    have d5 := h.d5
    have d6 := h.d6
    have hU := h.cu k hk
    have hP := h.cp k hk
    have f0 := h.ft k
    have f1 := h.fu k
    have f2 := h.fp k
    have hT := h.ct k hk
    have e1 : isT s (k : Int) = true := hit
    have e2 : pinS s (k : Int) = { s with p := upd s.p k (s.p k + 1) } := by simp [pinS, e1]
    rw [e2]
    have hb := hs k
    have hset := h.setP k (s.p k + 1)
    clear e1 e2 hit his hs
    go_enter Tryz.func148, Tryz.ntmps148
    go_wp2_with (go_at_call 215; refine His.out.mono ?_; rintro e w' ⟨rfl, rfl⟩)
    go_ret
    refine ⟨rfl, ?_, (Mod.refl _ _).setCell (by simp) _⟩
    simpa using hset

theorem runpin_any (w : World) (br bt bu bp : Nat) (s : St) (h : RC w br bt bu bp s) (i : Int) (hs : ∀ k, s.p k ≤ 1000000) :
   Calls Tryz.prog 161 #[.pointer (some ⟨br, 0, none⟩), .int .i64 i] w (DidR w (.bool (unpinB s i)) br bt bu bp (unpinS s i) [bp]) := by
  have hc0 := h.c0
  have hc1 := h.c1
  have hc2 := h.c2
  have hn := h.n64
  have his := is_any w br bt bu bp s h i
  cases hit : isT s i with
  | false =>
    rw [hit] at his
    have e1 : unpinB s i = false := by simp [unpinB, hit]
    have e2 : unpinS s i = s := by simp [unpinS, e1]
    rw [e1, e2]
    have His := Lib.hid his
    clear e1 e2 hit his hs
    go_enter Tryz.func161, Tryz.ntmps161
    go_wp2_with (go_at_call 215; refine His.out.mono ?_; rintro e w' ⟨rfl, rfl⟩)
    go_ret
    exact ⟨rfl, h, Mod.refl _ _⟩
  | true =>
    obtain ⟨k, rfl, hk⟩ : ∃ k : Nat, i = (k : Int) ∧ k < s.n := by
      rcases inn_cases s i with h1 | h1
      · exact h1
      · have := inn_no h1; simp [isT, this] at hit
    rw [hit] at his
    have His := Lib.hid his
    have d1 := h.d1
    have d2 := h.d2
    have d3 := h.d3
    have d4 := h.d4
    have d5 := h.d5
    have d6 := h.d6
    have hU := h.cu k hk
    have hP := h.cp k hk
    have f0 := h.ft k
    have f1 := h.fu k
    have f2 := h.fp k
    have hT := h.ct k hk
    by_cases hp : s.p k = 0
    · have e1 : unpinB s (k : Int) = false := by simp [unpinB, hp]
      have e2 : unpinS s (k : Int) = s := by simp [unpinS, e1]
      rw [e1, e2]
      rw [hp] at hP
      clear e1 e2 hit his hp hs
      go_enter Tryz.func161, Tryz.ntmps161
      go_wp2_with (go_at_call 215; refine His.out.mono ?_; rintro e w' ⟨rfl, rfl⟩)
      go_ret
      exact ⟨rfl, h, Mod.refl _ _⟩
    · have e1 : unpinB s (k : Int) = true := by simp [unpinB, hit, hp]
      have e2 : unpinS s (k : Int) = { s with p := upd s.p k (s.p k - 1) } := by simp [unpinS, e1]
      rw [e1, e2]
      have hb := hs k
      have hset := h.setP k (s.p k - 1)
      have hz : ((s.p k : Int) == 0) = false := by simpa using hp
      have hc : ((s.p k - 1 : Nat) : Int) = (s.p k : Int) - 1 := by omega
      rw [hc] at hset
      have hpos : 1 ≤ s.p k := by omega
      clear e1 e2 hit his hs hp hc
      go_enter Tryz.func161, Tryz.ntmps161
      go_wp2_with (go_at_call 215; refine His.out.mono ?_; rintro e w' ⟨rfl, rfl⟩)
      go_ret
      exact ⟨rfl, hset, (Mod.refl _ _).setCell (by simp) _⟩

theorem rpins_any (w : World) (br bt bu bp : Nat) (s : St) (h : RC w br bt bu bp s) (i : Int) :
   Calls Tryz.prog 159 #[.pointer (some ⟨br, 0, none⟩), .int .i64 i] w fun e w' => e = .returned (.int .i64 (pinsV s i : Int)) ∧ w = w' := by
  have hc2 := h.c2
  have hn := h.n64
  rcases inn_cases s i with ⟨k, rfl, hk⟩ | ho
  · have hP := h.cp k hk
    have hi := inn_yes hk
    have a0 : decide ((k : Int) < 0) = false := decide_eq_false (by omega)
    have a1 : decide ((s.n : Int) ≤ (k : Int)) = false := by simp; omega
    have e1 : pinsV s (k : Int) = s.p k := by simp [pinsV, hi]
    rw [e1]
    clear e1 hi
    go_enter Tryz.func159, Tryz.ntmps159
    go_wp2
    go_ret
    exact ⟨rfl, rfl⟩
  · have hi := inn_no ho
    have e1 : pinsV s i = 0 := by simp [pinsV, hi]
    rw [e1]
    clear e1 hi
    by_cases h0 : i < 0
    · have a0 : decide (i < 0) = true := by simp; omega
      go_enter Tryz.func159, Tryz.ntmps159
      go_wp2
      go_ret
      exact ⟨rfl, rfl⟩
    · have a0 : decide (i < 0) = false := by simp; omega
      have a1 : decide ((s.n : Int) ≤ i) = true := by simp; omega
      go_enter Tryz.func159, Tryz.ntmps159
      go_wp2
      go_ret
      exact ⟨rfl, rfl⟩
end Go.Proofs.YtgjoahddbieliaaGreat.Ck

/-
  The reference's Pick does what the plain model says.
-/
namespace Go.Proofs.YtgjoahddbieliaaGreat.Ck
open Go.RowKit Clk
set_option linter.unusedVariables false

def anyB (p : Nat → Nat) (k : Nat) : Bool := decide (first (fun j => decide (p j = 0)) k < k)
theorem anyB_succ (p : Nat → Nat) (k : Nat) : anyB p (k + 1) = (anyB p k || decide (p k = 0)) := by
  unfold anyB
  have hle := first_le (fun j => decide (p j = 0)) k
  simp only [first]
  by_cases h1 : first (fun j => decide (p j = 0)) k < k
  · simp [h1]; omega
  · by_cases h2 : p k = 0
    · simp [h1, h2]
    · simp [h1, h2]
theorem anyB_all (s : St) : anyB s.p s.n = some0 s := rfl

def uR (w : World) (bu k : Nat) : Bool := match w.cell? ⟨bu, k, none⟩ with | some (.bool b) => b | _ => false
def hR (w : World) (br : Nat) : Nat := match w.cell? ⟨br, 3, none⟩ with | some (.int _ q) => q.toNat | _ => 0
def mesR (n : Nat) (p : Nat → Nat) (br bu : Nat) (w : World) : Nat := mes n p (uR w bu) (hR w br)
theorem mesR_eq {w : World} {br bt bu bp : Nat} {s : St} (h : RC w br bt bu bp s) : mesR s.n s.p br bu w = mes s.n s.p s.u s.h := by
  unfold mesR mes
  have e1 : hR w br = s.h := by unfold hR; rw [h.c3]; simp
  have e2 : cnt (fun k => uR w bu k && decide (s.p k = 0)) s.n = cnt (fun k => s.u k && decide (s.p k = 0)) s.n :=
    cnt_congr _ _ _ (fun k hk => by simp [uR, h.cu k hk])
  rw [e1, e2]

theorem rpick_free (w : World) (br bt bu bp : Nat) (s : St) (h : RC w br bt bu bp s) (hfree : freeK s < s.n) :
   Calls Tryz.prog 149 #[.pointer (some ⟨br, 0, none⟩)] w (DidR w (.tuple #[.int .i64 (pickI s : Int), .bool (pickB s)]) br bt bu bp (pickS s) [br, bu]) := by
  have hc0 := h.c0
  have hc2 := h.c2
  have hn := h.n64
  have e1 : pickS s = s := by simp [pickS, hfree]
  have e2 : pickI s = freeK s := by simp [pickI, hfree]
  have e3 : pickB s = true := by simp [pickB, hfree]
  have hno := first_no (fun k => !s.t k) s.n
  have hyes := first_yes (fun k => !s.t k) s.n hfree
  have hfk : freeK s = first (fun k => !s.t k) s.n := rfl
  rw [← hfk] at hno hyes
  rw [e1, e2, e3]
  clear e1 e2 e3 hfk
  generalize freeK s = f at *
  have Hno := Lib.hid hno
  have Hyes := Lib.hid hyes
  clear hno hyes
  go_enter Tryz.func149, Tryz.ntmps149
  go_wp2
  go_loop [4, 5] (fun b v => ∃ k : Nat, k ≤ f ∧ v = .int .i64 (k : Int) ∧ ∃ c : Bool, b = .bool c) (fun _ v => s.n - (intOf v).toNat)
  case atStart => exact ⟨0, Nat.zero_le _, rfl, false, rfl⟩
  case round =>
    obtain ⟨k, hk, rfl, c, rfl⟩ := hrel
    have hT := h.ct k (by omega)
    have hP := h.cp k (by omega)
    have hkn : k < s.n := by omega
    by_cases e : k = f
    · have ht : s.t k = false := by have := Hyes.out; rw [← e] at this; simpa using this
      rw [ht] at hT
      clear ht
      have He := Lib.hid e
      clear e
      go_wp2
      go_ret2
      exact ⟨by rw [← He.out]; rfl, h, Mod.refl _ _⟩
    · have ht : s.t k = true := by have := Hno.out k (by omega); simpa using this
      rw [ht] at hT
      have hlt : k < f := by omega
      clear ht e
      cases c with
      | true =>
        go_wp2
        go_round
        case rel => exact ⟨k + 1, by omega, by go_num, _, rfl⟩
        case measure => simp [intOf]; omega
      | false =>
        go_wp2
        go_round
        case rel => exact ⟨k + 1, by omega, by go_num, _, rfl⟩
        case measure => simp [intOf]; omega

theorem rpick_none (w : World) (br bt bu bp : Nat) (s : St) (h : RC w br bt bu bp s) (hfree : ¬ freeK s < s.n) (hs0 : some0 s = false) :
   Calls Tryz.prog 149 #[.pointer (some ⟨br, 0, none⟩)] w (DidR w (.tuple #[.int .i64 (pickI s : Int), .bool (pickB s)]) br bt bu bp (pickS s) [br, bu]) := by
  have hc0 := h.c0
  have hc2 := h.c2
  have hn := h.n64
  have e1 : pickS s = s := by simp [pickS, hfree, hs0]
  have e2 : pickI s = 0 := by simp [pickI, hfree, hs0]
  have e3 : pickB s = false := by simp [pickB, hfree, hs0]
  have hno := first_no (fun k => !s.t k) s.n
  have hfk : freeK s = first (fun k => !s.t k) s.n := rfl
  have hle := first_le (fun k => !s.t k) s.n
  rw [← hfk] at hno hle
  rw [e1, e2, e3]
  clear e1 e2 e3 hfk
  have Hno := Lib.hid hno
  have Hp : Hid (∀ j, j < s.n → s.p j ≠ 0) := Lib.hid (fun j hj hz => by
    have := (some0_iff s).2 ⟨j, hj, hz⟩
    rw [hs0] at this; cases this)
  clear hno hs0
  go_enter Tryz.func149, Tryz.ntmps149
  go_wp2
  go_loop [4, 5] (fun b v => ∃ k : Nat, k ≤ s.n ∧ v = .int .i64 (k : Int) ∧ b = .bool false) (fun _ v => s.n - (intOf v).toNat)
  case atStart => exact ⟨0, Nat.zero_le _, rfl, rfl⟩
  case round =>
    obtain ⟨k, hk, rfl, rfl⟩ := hrel
    by_cases hlt : k < s.n
    · have hT := h.ct k hlt
      have hP := h.cp k hlt
      have ht : s.t k = true := by have := Hno.out k (by omega); simpa using this
      rw [ht] at hT
      have hz : ((s.p k : Int) == 0) = false := by have := Hp.out k hlt; simpa using this
      clear ht
      go_wp2
      go_round
      case rel => exact ⟨k + 1, by omega, by go_num, rfl⟩
      case measure => simp [intOf]; omega
    · go_wp2
      go_ret2
      exact ⟨rfl, h, Mod.refl _ _⟩

theorem rpick_goes (w : World) (br bt bu bp : Nat) (s : St) (h : RC w br bt bu bp s) (hfree : ¬ freeK s < s.n) (hs0 : some0 s = true) :
   Calls Tryz.prog 149 #[.pointer (some ⟨br, 0, none⟩)] w (DidR w (.tuple #[.int .i64 (pickI s : Int), .bool (pickB s)]) br bt bu bp (pickS s) [br, bu]) := by
  have hc0 := h.c0
  have hc2 := h.c2
  have hn := h.n64
  have e1 : pickS s = { s with u := (goes s.n s.p s.u s.h).1, h := (goes s.n s.p s.u s.h).2.1 } := by simp [pickS, hfree, hs0]
  have e2 : pickI s = (goes s.n s.p s.u s.h).2.2 := by simp [pickI, hfree, hs0]
  have e3 : pickB s = true := by simp [pickB, hs0]
  have hno := first_no (fun k => !s.t k) s.n
  have hfk : freeK s = first (fun k => !s.t k) s.n := rfl
  have hle := first_le (fun k => !s.t k) s.n
  rw [← hfk] at hno hle
  rw [e1, e2, e3]
  clear e1 e2 e3 hfk
  have Hno := Lib.hid hno
  obtain ⟨k0, hk0, hpk0⟩ := (some0_iff s).1 hs0
  have Hk0 := Lib.hid hpk0
  have Hs0 := Lib.hid hs0
  have Hp := Lib.hid h
  clear hno hs0 hpk0
  generalize hgoes : goes s.n s.p s.u s.h = res
  have Hgoes := Lib.hid hgoes
  clear hgoes
  go_enter Tryz.func149, Tryz.ntmps149
  go_wp2
  go_loop [4, 5] (fun b v => ∃ k : Nat, k ≤ s.n ∧ v = .int .i64 (k : Int) ∧ b = .bool (anyB s.p k)) (fun _ v => s.n - (intOf v).toNat)
  case atStart => exact ⟨0, Nat.zero_le _, rfl, rfl⟩
  case round =>
    obtain ⟨k, hk, rfl, rfl⟩ := hrel
    by_cases hlt : k < s.n
    · have hT := h.ct k hlt
      have hP := h.cp k hlt
      have ht : s.t k = true := by have := Hno.out k (by omega); simpa using this
      rw [ht] at hT
      clear ht
      have hsu := anyB_succ s.p k
      cases hany : anyB s.p k with
      | true =>
        rw [hany] at hsu
        have Hsu : Hid (anyB s.p (k + 1) = true) := Lib.hid (by simpa using hsu)
        clear hsu hany
        go_wp2
        go_round
        case rel => exact ⟨k + 1, by omega, by go_num, by rw [Hsu.out]⟩
        case measure => simp [intOf]; omega
      | false =>
        rw [hany] at hsu
        by_cases hz : s.p k = 0
        · rw [hz] at hP
          have Hsu : Hid (anyB s.p (k + 1) = true) := Lib.hid (by simpa [hz] using hsu)
          clear hsu hany hz
          go_wp2
          go_round
          case rel => exact ⟨k + 1, by omega, by go_num, by rw [Hsu.out]⟩
          case measure => simp [intOf]; omega
        · have Hsu : Hid (anyB s.p (k + 1) = false) := Lib.hid (by simpa [hz] using hsu)
          have hz' : ((s.p k : Int) == 0) = false := by simpa using hz
          clear hsu hany hz
          go_wp2
          go_round
          case rel => exact ⟨k + 1, by omega, by go_num, by rw [Hsu.out]⟩
          case measure => simp [intOf]; omega
    · have e : k = s.n := by omega
      have hany : anyB s.p k = true := by rw [e]; exact Hs0.out
      rw [hany]
      clear e hany h
      go_wp2
      clear hc0 hc2
      go_loopw [6] (fun _ wr => ∃ (u : Nat → Bool) (h : Nat), RC wr br bt bu bp { s with u := u, h := h } ∧ Hid (goes s.n s.p u h = res) ∧ Mod w wr [br, bu]) (fun _ wr => mesR s.n s.p br bu wr)
      case atStart => exact ⟨s.u, s.h, Hp.out, Hgoes, Mod.refl _ _⟩
      case round =>
        clear Hgoes Hp
        obtain ⟨u, h, hRC, hg, hm⟩ := hrel
        have hh : h < s.n := hRC.hh
        have HmW := Lib.hid (mesR_eq hRC)
        have c0 : wr.cell? ⟨br, 0, none⟩ = some (.slice (some ⟨bt, 0, none⟩) s.n s.n) := hRC.c0
        have c1 : wr.cell? ⟨br, 1, none⟩ = some (.slice (some ⟨bu, 0, none⟩) s.n s.n) := hRC.c1
        have c2 : wr.cell? ⟨br, 2, none⟩ = some (.slice (some ⟨bp, 0, none⟩) s.n s.n) := hRC.c2
        have c3 : wr.cell? ⟨br, 3, none⟩ = some (.int .i64 (h : Int)) := hRC.c3
        have f0 := hRC.fr 3
        have hU : wr.cell? ⟨bu, h, none⟩ = some (.bool (u h)) := hRC.cu h hh
        have hP : wr.cell? ⟨bp, h, none⟩ = some (.int .i64 (s.p h : Int)) := hRC.cp h hh
        have f1 := hRC.fu h
        have d1 := hRC.d1
        have d2 := hRC.d2
        have d3 := hRC.d3
        have d4 := hRC.d4
        have d5 := hRC.d5
        have d6 := hRC.d6
        have HRC := Lib.hid hRC
        have Hm := Lib.hid hm
        have hn0 : 1 ≤ s.n := hRC.n1
        have hmod : (h + 1) % s.n < s.n := Nat.mod_lt _ (by omega)
        have hcast : (((h + 1) % s.n : Nat) : Int) = ((h : Int) + 1) % (s.n : Int) := by simp
        have Hcast := Lib.hid hcast
        clear hcast hRC hm
        by_cases hp : s.p h = 0
        · rw [hp] at hP
          have Hpz := Lib.hid hp
          clear hp
          cases hu : u h with
          | false =>
            rw [hu] at hU
            have Hu := Lib.hid hu
            clear hu
            go_wp2
            go_region
            all_goals go_wp2
            go_ret2
            have hset := HRC.out.setH ((h + 1) % s.n) hmod
            rw [Hcast.out] at hset
            have hgo := hg.out
            rw [goes_here s.n s.p u h Hpz.out Hu.out] at hgo
            rw [← hgo]
            exact ⟨rfl, hset.mod (Mod.refl _ []).drew (by simp) (by simp) (by simp) (by simp), (Hm.out.setCell (by simp) _).drew⟩
          | true =>
            rw [hu] at hU
            have Hu := Lib.hid hu
            clear hu
            go_wp2
            go_region
            all_goals go_wp2
            have hset := (HRC.out.setH ((h + 1) % s.n) hmod)
            rw [Hcast.out] at hset
            have hset2 := (hset.setU h false).mod (Mod.refl _ []).drew (by simp) (by simp) (by simp) (by simp)
            refine ⟨⟨upd u h false, (h + 1) % s.n, hset2, Lib.hid ?_, ((Hm.out.setCell (by simp) _).setCell (by simp) _).drew⟩, ?_⟩
            · rw [← goes_used s.n s.p u h hn hh Hpz.out Hu.out]; exact hg.out
            · have e1 := mesR_eq hset2
              have e2 := HmW.out
              have e3 := mes_used s.n s.p u h hh Hpz.out Hu.out
              simp only at e1 e2
              rw [e1, e2]
              exact e3
        · have hz : ((s.p h : Int) == 0) = false := by simpa using hp
          have Hpz := Lib.hid hp
          clear hp
          go_wp2
          go_region
          all_goals go_wp2
          have hset := (HRC.out.setH ((h + 1) % s.n) hmod)
          rw [Hcast.out] at hset
          have hset2 := hset.mod (Mod.refl _ []).drew (by simp) (by simp) (by simp) (by simp)
          refine ⟨⟨u, (h + 1) % s.n, hset2, Lib.hid ?_, (Hm.out.setCell (by simp) _).drew⟩, ?_⟩
          · rw [← goes_pinned s.n s.p u h hn hh Hpz.out k0 hk0 Hk0.out]; exact hg.out
          · have e1 := mesR_eq hset2
            have e2 := HmW.out
            have e3 := mes_pinned s.n s.p u h hh Hpz.out k0 hk0 Hk0.out
            simp only at e1 e2
            rw [e1, e2]
            exact e3

theorem rpick_any (w : World) (br bt bu bp : Nat) (s : St) (h : RC w br bt bu bp s) :
   Calls Tryz.prog 149 #[.pointer (some ⟨br, 0, none⟩)] w (DidR w (.tuple #[.int .i64 (pickI s : Int), .bool (pickB s)]) br bt bu bp (pickS s) [br, bu]) := by
  by_cases h1 : freeK s < s.n
  · exact rpick_free w br bt bu bp s h h1
  · cases h2 : some0 s with
    | true => exact rpick_goes w br bt bu bp s h h1 h2
    | false => exact rpick_none w br bt bu bp s h h1 h2
end Go.Proofs.YtgjoahddbieliaaGreat.Ck

/-
  The reference's New makes a clock of so many frames, or none.
-/
namespace Go.Proofs.YtgjoahddbieliaaGreat.Ck
open Go.RowKit Clk
set_option linter.unusedVariables false

theorem Ck.info4 : (Tryz.prog.info? 4).map (fun i => (i.zero, i.size, i.bytes)) = some (some (.bool false), 1, 1) := by kernel_rfl
theorem Ck.info3 : (Tryz.prog.info? 3).map (fun i => (i.zero, i.size, i.bytes)) = some (some (.int .i64 0), 1, 8) := by kernel_rfl

theorem run_bools (k : Nat) (hk : k ≤ 64) (W : World) : (Instr.makeSlice 197 (.int .i64 (k : Int)) (.int .i64 (k : Int))).run Tryz.prog W =
    .ok (.slice (some ⟨W.heap.size, 0, none⟩) k k) (W.alloc (.cells (madeCells #[.bool false] k) 4)) := by
  obtain ⟨i, hi, hz0, hz1, hz2⟩ := info_parts Ck.info4
  have := run_make (P := Tryz.prog) W 197 4 i (.bool false) Tryz.underlying197 hi hz0 .i64 .i64 k k (by omega) (Int.le_refl _) (by rw [hz2]; omega) (by omega)
  simp only [Int.toNat_natCast, hz1, Nat.mul_one] at this
  exact this
theorem run_ints (k : Nat) (hk : k ≤ 64) (W : World) : (Instr.makeSlice 86 (.int .i64 (k : Int)) (.int .i64 (k : Int))).run Tryz.prog W =
    .ok (.slice (some ⟨W.heap.size, 0, none⟩) k k) (W.alloc (.cells (madeCells #[.int .i64 0] k) 3)) := by
  obtain ⟨i, hi, hz0, hz1, hz2⟩ := info_parts Ck.info3
  have := run_make (P := Tryz.prog) W 86 3 i (.int .i64 0) Tryz.underlying86 hi hz0 .i64 .i64 k k (by omega) (Int.le_refl _) (by rw [hz2]; omega) (by omega)
  simp only [Int.toNat_natCast, hz1, Nat.mul_one] at this
  exact this

def MadeR (w : World) (s : St) (e : Ending) (w' : World) : Prop :=
  ∃ br bt bu bp, e = .returned (.pointer (some ⟨br, 0, none⟩)) ∧ w.heap.size ≤ br ∧ w.heap.size ≤ bt ∧ w.heap.size ≤ bu ∧ w.heap.size ≤ bp ∧ RC w' br bt bu bp s ∧ Mod w w' []

theorem rnew_no (w : World) (n : Int) (h : n < 1 ∨ 64 < n) :
   Calls Tryz.prog 142 #[.int .i64 n] w fun e w' => e = .returned (.pointer none) ∧ w = w' := by
  by_cases h0 : n < 1
  · have a0 : decide (n < 1) = true := by simp; omega
    go_enter Tryz.func142, Tryz.ntmps142
    go_wp2
    go_ret
    exact ⟨rfl, rfl⟩
  · have a0 : decide (n < 1) = false := by simp; omega
    have a1 : decide (64 < n) = true := by simp; omega
    go_enter Tryz.func142, Tryz.ntmps142
    go_wp2
    go_ret
    exact ⟨rfl, rfl⟩

theorem heap_alloc_at (w : World) (o : Obj) (k : Nat) : (w.alloc o).heap[k]? = if k = w.heap.size then some o else w.heap[k]? := by
  rw [show (w.alloc o).heap = w.heap.push o from rfl, Array.getElem?_push]
theorem size_alloc (w : World) (o : Obj) : (w.alloc o).heap.size = w.heap.size + 1 := by simp
theorem heap_drew (w : World) : w.drew.heap = w.heap := rfl

theorem heap4 (w : World) (A B C D : Obj) : ((((w.alloc A).alloc B).alloc C).alloc D).drew.heap[w.heap.size]? = some A ∧ ((((w.alloc A).alloc B).alloc C).alloc D).drew.heap[w.heap.size + 1]? = some B ∧
    ((((w.alloc A).alloc B).alloc C).alloc D).drew.heap[w.heap.size + 1 + 1]? = some C ∧ ((((w.alloc A).alloc B).alloc C).alloc D).drew.heap[w.heap.size + 1 + 1 + 1]? = some D := by
  simp only [heap_drew, heap_alloc_at, size_alloc]
  refine ⟨?_, ?_, ?_, ?_⟩
  · rw [if_neg (by omega), if_neg (by omega), if_neg (by omega), if_pos trivial]
  · rw [if_neg (by omega), if_neg (by omega), if_pos trivial]
  · rw [if_neg (by omega), if_pos trivial]
  · rw [if_pos trivial]

theorem rc_made (W : World) (br bt bu bp k : Nat) (h1 : 1 ≤ k) (h64 : k ≤ 64) (d1 : br ≠ bt) (d2 : br ≠ bu) (d3 : br ≠ bp) (d4 : bt ≠ bu) (d5 : bt ≠ bp) (d6 : bu ≠ bp)
    (ht : W.heap[bt]? = some (.cells (madeCells #[.bool false] k) 4)) (hu : W.heap[bu]? = some (.cells (madeCells #[.bool false] k) 4))
    (hp : W.heap[bp]? = some (.cells (madeCells #[.int .i64 0] k) 3))
    (hr : W.heap[br]? = some (.cells #[.slice (some ⟨bt, 0, none⟩) k k, .slice (some ⟨bu, 0, none⟩) k k, .slice (some ⟨bp, 0, none⟩) k k, .int .i64 0] 267)) : RC W br bt bu bp (newS k) := by
  have gb : ∀ j, j < k → (madeCells #[.bool false] k)[j]? = some (.bool false) := by
    intro j hj
    rw [made_get _ _ _ hj]
    show some (#[Value.bool false][j % 1]!) = _
    rw [Nat.mod_one]; rfl
  have gi : ∀ j, j < k → (madeCells #[.int .i64 0] k)[j]? = some (.int .i64 0) := by
    intro j hj
    rw [made_get _ _ _ hj]
    show some (#[Value.int .i64 0][j % 1]!) = _
    rw [Nat.mod_one]; rfl
  refine ⟨h1, h64, h1, d1, d2, d3, d4, d5, d6, ?_, ?_, ?_, ?_, ?_, ?_, ?_, ?_, ?_, ?_, ?_⟩
  · simp [World.cell?, hr, newS]
  · simp [World.cell?, hr, newS]
  · simp [World.cell?, hr, newS]
  · simp [World.cell?, hr, newS]
  · intro o; simp [World.frozen?, hr]
  · intro j hj; simp only [World.cell?, ht]; simpa [newS] using gb j hj
  · intro o; simp [World.frozen?, ht]
  · intro j hj; simp only [World.cell?, hu]; simpa [newS] using gb j hj
  · intro o; simp [World.frozen?, hu]
  · intro j hj; simp only [World.cell?, hp]; simpa [newS] using gi j hj
  · intro o; simp [World.frozen?, hp]

theorem rnew_ok (w : World) (k : Nat) (h1 : 1 ≤ k) (h64 : k ≤ 64) :
   Calls Tryz.prog 142 #[.int .i64 (k : Int)] w (MadeR w (newS k)) := by
  have hmk := run_bools k h64
  have hmi := run_ints k h64
  have a0 : decide ((k : Int) < 1) = false := by simp; omega
  have a1 : decide ((64 : Int) < (k : Int)) = false := by simp; omega
  go_enter Tryz.func142, Tryz.ntmps142
  go_wp2
  go_region
  all_goals (go_wp2; go_ret)
  all_goals first
    | (refine ⟨_, w.heap.size, (w.heap.size + 1), (w.heap.size + 1 + 1), rfl, ?_, ?_, ?_, ?_, rc_made _ _ _ _ _ k h1 h64 ?_ ?_ ?_ ?_ ?_ ?_ ?_ ?_ ?_ ?_, ?_⟩ <;> first | omega | exact (heap4 _ _ _ _ _).1 | exact (heap4 _ _ _ _ _).2.1 | exact (heap4 _ _ _ _ _).2.2.1 | exact (heap4 _ _ _ _ _).2.2.2 | exact (((((Mod.refl _ _).alloc _).alloc _).alloc _).alloc _).drew)
    | (refine ⟨_, w.heap.size, (w.heap.size + 1 + 1), (w.heap.size + 1), rfl, ?_, ?_, ?_, ?_, rc_made _ _ _ _ _ k h1 h64 ?_ ?_ ?_ ?_ ?_ ?_ ?_ ?_ ?_ ?_, ?_⟩ <;> first | omega | exact (heap4 _ _ _ _ _).1 | exact (heap4 _ _ _ _ _).2.1 | exact (heap4 _ _ _ _ _).2.2.1 | exact (heap4 _ _ _ _ _).2.2.2 | exact (((((Mod.refl _ _).alloc _).alloc _).alloc _).alloc _).drew)
    | (refine ⟨_, (w.heap.size + 1), w.heap.size, (w.heap.size + 1 + 1), rfl, ?_, ?_, ?_, ?_, rc_made _ _ _ _ _ k h1 h64 ?_ ?_ ?_ ?_ ?_ ?_ ?_ ?_ ?_ ?_, ?_⟩ <;> first | omega | exact (heap4 _ _ _ _ _).1 | exact (heap4 _ _ _ _ _).2.1 | exact (heap4 _ _ _ _ _).2.2.1 | exact (heap4 _ _ _ _ _).2.2.2 | exact (((((Mod.refl _ _).alloc _).alloc _).alloc _).alloc _).drew)
    | (refine ⟨_, (w.heap.size + 1), (w.heap.size + 1 + 1), w.heap.size, rfl, ?_, ?_, ?_, ?_, rc_made _ _ _ _ _ k h1 h64 ?_ ?_ ?_ ?_ ?_ ?_ ?_ ?_ ?_ ?_, ?_⟩ <;> first | omega | exact (heap4 _ _ _ _ _).1 | exact (heap4 _ _ _ _ _).2.1 | exact (heap4 _ _ _ _ _).2.2.1 | exact (heap4 _ _ _ _ _).2.2.2 | exact (((((Mod.refl _ _).alloc _).alloc _).alloc _).alloc _).drew)
    | (refine ⟨_, (w.heap.size + 1 + 1), w.heap.size, (w.heap.size + 1), rfl, ?_, ?_, ?_, ?_, rc_made _ _ _ _ _ k h1 h64 ?_ ?_ ?_ ?_ ?_ ?_ ?_ ?_ ?_ ?_, ?_⟩ <;> first | omega | exact (heap4 _ _ _ _ _).1 | exact (heap4 _ _ _ _ _).2.1 | exact (heap4 _ _ _ _ _).2.2.1 | exact (heap4 _ _ _ _ _).2.2.2 | exact (((((Mod.refl _ _).alloc _).alloc _).alloc _).alloc _).drew)
    | (refine ⟨_, (w.heap.size + 1 + 1), (w.heap.size + 1), w.heap.size, rfl, ?_, ?_, ?_, ?_, rc_made _ _ _ _ _ k h1 h64 ?_ ?_ ?_ ?_ ?_ ?_ ?_ ?_ ?_ ?_, ?_⟩ <;> first | omega | exact (heap4 _ _ _ _ _).1 | exact (heap4 _ _ _ _ _).2.1 | exact (heap4 _ _ _ _ _).2.2.1 | exact (heap4 _ _ _ _ _).2.2.2 | exact (((((Mod.refl _ _).alloc _).alloc _).alloc _).alloc _).drew)
end Go.Proofs.YtgjoahddbieliaaGreat.Ck
