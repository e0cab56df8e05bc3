/-
  A call on both clocks, of whatever kind, and what is never otherwise of a clock that was played.
-/
import Derived.Test.YtffophgdjkpilaaDoesC
namespace Go.Proofs.Ytffophgdjkpilaa
open Go.RowKit Clk
set_option linter.unusedVariables false

/-- a call on both: the two clocks behind it, and whether they answered the same -/
def doesF (kd : Nat) (s r : St) (i : Int) : St × St × Bool :=
  if kd % 8 = 0 then (takeS s i, takeS r i, takeB s i == takeB r i)
  else if kd % 8 = 1 then (leaveS s i, leaveS r i, leaveB s i == leaveB r i)
  else if kd % 8 = 2 then (touchS s i, touchS r i, isT s i == isT r i)
  else if kd % 8 = 3 then (pinS s i, pinS r i, isT s i == isT r i)
  else if kd % 8 = 4 then (unpinS s i, unpinS r i, unpinB s i == unpinB r i)
  else if kd % 8 = 5 then (s, r, (pinsV s i : Int) == (pinsV r i : Int))
  else if kd % 8 = 7 ∧ pickB s = true ∧ pickB r = true ∧ pickI s = pickI r then
    if leaveB (pickS s) (pickI s) = leaveB (pickS r) (pickI s) then
      (takeS (leaveS (pickS s) (pickI s)) (pickI s), takeS (leaveS (pickS r) (pickI s)) (pickI s), takeB (leaveS (pickS s) (pickI s)) (pickI s) == takeB (leaveS (pickS r) (pickI s)) (pickI s))
    else (leaveS (pickS s) (pickI s), leaveS (pickS r) (pickI s), false)
  else (pickS s, pickS r, decide (pickI s = pickI r) && (pickB s == pickB r))

theorem does_any (w : World) (K : Blk) (s r : St) (h : Pair w K s r) (kd : Nat) (i : Int) (hk : kd < 256) (hs : ∀ k, s.p k ≤ 1000000) (hr : ∀ k, r.p k ≤ 1000000) :
   Calls Try.prog 10 #[.pointer (some ⟨K.bc, 0, none⟩), .pointer (some ⟨K.br, 0, none⟩), .agg #[.int .u8 (kd : Int), .int .i64 i]] w (DidP w K (doesF kd s r i).1 (doesF kd s r i).2.1 (doesF kd s r i).2.2) := by
  unfold doesF
  split
  · rename_i h0; exact does_0 w K s r h kd i hk h0
  split
  · rename_i h0; exact does_1 w K s r h kd i hk h0
  split
  · rename_i h0; exact does_2 w K s r h kd i hk h0
  split
  · rename_i h0; exact does_3 w K s r h kd i hk h0 hs hr
  split
  · rename_i h0; exact does_4 w K s r h kd i hk h0 hs hr
  split
  · rename_i h0; exact does_5 w K s r h kd i hk h0
  have h67 : kd % 8 = 6 ∨ kd % 8 = 7 := by omega
  have hP := pickP s
  have hR := pickR r
  split
  · rename_i hc
    obtain ⟨h7, hb, hb2, hi⟩ := hc
    rw [hb] at hP
    rw [hb2, ← hi] at hR
    have hL := leaveP (pickS s) (pickI s)
    have hM := leaveR (pickS r) (pickI s)
    split
    · rename_i hl
      rw [← hl] at hM
      cases hlb : leaveB (pickS s) (pickI s) with
      | true => rw [hlb] at hL hM; exact does_7_take_true w K s r _ _ _ _ h kd i _ hk h7 hP hR hL hM
      | false => rw [hlb] at hL hM; exact does_7_take_false w K s r _ _ _ _ h kd i _ hk h7 hP hR hL hM
    · rename_i hl
      cases hlb : leaveB (pickS s) (pickI s) with
      | true =>
        have : leaveB (pickS r) (pickI s) = false := by cases hx : leaveB (pickS r) (pickI s) <;> simp_all
        rw [hlb] at hL; rw [this] at hM; exact does_7_part_true w K s r _ _ _ _ h kd i _ hk h7 hP hR hL hM
      | false =>
        have : leaveB (pickS r) (pickI s) = true := by cases hx : leaveB (pickS r) (pickI s) <;> simp_all
        rw [hlb] at hL; rw [this] at hM; exact does_7_part_false w K s r _ _ _ _ h kd i _ hk h7 hP hR hL hM
  · rename_i hc
    by_cases hi : pickI s = pickI r
    · rw [← hi] at hR
      rw [← hi]
      cases hb : pickB s <;> cases hb2 : pickB r <;> (rw [hb] at hP; rw [hb2] at hR; simp only [decide_true, Bool.true_and])
      · rcases h67 with h6 | h6
        · exact does_6_eq_false_false w K s r _ _ h kd i _ hk h6 hP hR
        · exact does_7_eq_false_false w K s r _ _ h kd i _ hk h6 hP hR
      · rcases h67 with h6 | h6
        · exact does_6_eq_false_true w K s r _ _ h kd i _ hk h6 hP hR
        · exact does_7_eq_false_true w K s r _ _ h kd i _ hk h6 hP hR
      · rcases h67 with h6 | h6
        · exact does_6_eq_true_false w K s r _ _ h kd i _ hk h6 hP hR
        · exact does_7_eq_true_false w K s r _ _ h kd i _ hk h6 hP hR
      · rcases h67 with h6 | h6
        · exact does_6_eq_true_true w K s r _ _ h kd i _ hk h6 hP hR
        · exact absurd ⟨h6, hb, hb2, hi⟩ hc
    · have hd : decide (pickI s = pickI r) = false := by simpa using hi
      rw [hd, Bool.false_and]
      cases hb : pickB s <;> cases hb2 : pickB r <;> (rw [hb] at hP; rw [hb2] at hR)
      · rcases h67 with h6 | h6
        · exact does_6_ne_false_false w K s r _ _ h kd i _ _ hk h6 hi hP hR
        · exact does_7_ne_false_false w K s r _ _ h kd i _ _ hk h6 hi hP hR
      · rcases h67 with h6 | h6
        · exact does_6_ne_false_true w K s r _ _ h kd i _ _ hk h6 hi hP hR
        · exact does_7_ne_false_true w K s r _ _ h kd i _ _ hk h6 hi hP hR
      · rcases h67 with h6 | h6
        · exact does_6_ne_true_false w K s r _ _ h kd i _ _ hk h6 hi hP hR
        · exact does_7_ne_true_false w K s r _ _ h kd i _ _ hk h6 hi hP hR
      · rcases h67 with h6 | h6
        · exact does_6_ne_true_true w K s r _ _ h kd i _ _ hk h6 hi hP hR
        · exact does_7_ne_true_true w K s r _ _ h kd i _ _ hk h6 hi hP hR

theorem doesF_same (kd : Nat) (s : St) (i : Int) : (doesF kd s s i).2.1 = (doesF kd s s i).1 ∧ (doesF kd s s i).2.2 = true := by
  unfold doesF
  repeat' split
  all_goals simp_all

/-- a clock that was played: what is never otherwise -/
structure Ok (s : St) (j : Nat) : Prop where
  n1 : 1 ≤ s.n
  n64 : s.n ≤ 64
  hh : s.h < s.n
  free : ∀ k, s.t k = false → s.p k = 0
  pins : ∀ k, s.p k ≤ j

theorem turn_h (n : Nat) (p : Nat → Nat) (hn : 0 < n) : ∀ (f : Nat) (u : Nat → Bool) (h : Nat), h < n → (turn n p f u h).2.1 < n := by
  intro f
  induction f with
  | zero => intro u h hh; exact hh
  | succ f ih =>
    intro u h hh
    simp only [turn]
    split
    · split
      · exact ih _ _ (Nat.mod_lt _ hn)
      · exact Nat.mod_lt _ hn
    · exact ih _ _ (Nat.mod_lt _ hn)

theorem Ok.mono {s : St} {j j' : Nat} (h : Ok s j) (hj : j ≤ j') : Ok s j' := ⟨h.n1, h.n64, h.hh, h.free, fun k => Nat.le_trans (h.pins k) hj⟩
theorem Ok.take {s : St} {j : Nat} (h : Ok s j) (i : Int) : Ok (takeS s i) j := by
  unfold takeS
  split
  · refine ⟨h.n1, h.n64, h.hh, ?_, ?_⟩
    · intro k hk; simp only [upd] at hk ⊢; split <;> simp_all [h.free]
    · intro k; simp only [upd]; split <;> simp [h.pins]
  · exact h
theorem Ok.leave {s : St} {j : Nat} (h : Ok s j) (i : Int) : Ok (leaveS s i) j := by
  unfold leaveS
  split
  · rename_i hl
    refine ⟨h.n1, h.n64, h.hh, ?_, h.pins⟩
    intro k hk
    simp only [upd] at hk ⊢
    by_cases e : k = i.toNat
    · subst e; simp [leaveB] at hl; exact hl.2
    · simp [e] at hk; exact h.free k hk
  · exact h
theorem Ok.touch {s : St} {j : Nat} (h : Ok s j) (i : Int) : Ok (touchS s i) j := by
  unfold touchS
  split
  · exact ⟨h.n1, h.n64, h.hh, h.free, h.pins⟩
  · exact h
theorem Ok.pin {s : St} {j : Nat} (h : Ok s j) (i : Int) : Ok (pinS s i) (j + 1) := by
  unfold pinS
  split
  · rename_i hl
    refine ⟨h.n1, h.n64, h.hh, ?_, ?_⟩
    · intro k hk; simp only [upd] at hk ⊢
      split
      · rename_i e; subst e; simp [isT] at hl; rw [hl.2] at hk; cases hk
      · exact h.free k hk
    · intro k; simp only [upd]; have := h.pins k; have := h.pins i.toNat; split <;> omega
  · exact h.mono (by omega)
theorem Ok.unpin {s : St} {j : Nat} (h : Ok s j) (i : Int) : Ok (unpinS s i) j := by
  unfold unpinS
  split
  · refine ⟨h.n1, h.n64, h.hh, ?_, ?_⟩
    · intro k hk; simp only [upd] at hk ⊢; have := h.free k hk
      split
      · rename_i e; subst e; omega
      · exact this
    · intro k; simp only [upd]; have := h.pins k; have := h.pins i.toNat; split <;> omega
  · exact h
theorem Ok.pick {s : St} {j : Nat} (h : Ok s j) : Ok (pickS s) j := by
  unfold pickS
  split
  · exact h
  · split
    · exact ⟨h.n1, h.n64, turn_h _ _ h.n1 _ _ _ h.hh, h.free, h.pins⟩
    · exact h
theorem Ok.new {n : Nat} (h1 : 1 ≤ n) (h2 : n ≤ 64) : Ok (newS n) 0 := ⟨h1, h2, h1, fun _ _ => rfl, fun _ => Nat.le_refl _⟩
theorem take_n (s : St) (i : Int) : (takeS s i).n = s.n := by unfold takeS; split <;> rfl
theorem leave_n (s : St) (i : Int) : (leaveS s i).n = s.n := by unfold leaveS; split <;> rfl
theorem touch_n (s : St) (i : Int) : (touchS s i).n = s.n := by unfold touchS; split <;> rfl
theorem pin_n (s : St) (i : Int) : (pinS s i).n = s.n := by unfold pinS; split <;> rfl
theorem unpin_n (s : St) (i : Int) : (unpinS s i).n = s.n := by unfold unpinS; split <;> rfl
theorem pick_n (s : St) : (pickS s).n = s.n := by unfold pickS; split <;> (try split) <;> rfl
theorem doesF_n (kd : Nat) (s r : St) (i : Int) : (doesF kd s r i).1.n = s.n := by
  unfold doesF
  repeat' split
  all_goals simp [take_n, leave_n, touch_n, pin_n, unpin_n, pick_n]
theorem Ok.does {s : St} {j : Nat} (h : Ok s j) (kd : Nat) (r : St) (i : Int) : Ok (doesF kd s r i).1 (j + 1) := by
  unfold doesF
  have e : j ≤ j + 1 := by omega
  split
  · exact (h.take i).mono e
  split
  · exact (h.leave i).mono e
  split
  · exact (h.touch i).mono e
  split
  · exact h.pin i
  split
  · exact (h.unpin i).mono e
  split
  · exact h.mono e
  split
  · split
    · exact ((h.pick.leave _).take _).mono e
    · exact (h.pick.leave _).mono e
  · exact h.pick.mono e
end Go.Proofs.Ytffophgdjkpilaa
