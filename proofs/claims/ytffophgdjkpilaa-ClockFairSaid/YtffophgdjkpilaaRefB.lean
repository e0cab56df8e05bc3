/-
  The reference's clock: Take, Leave, Touch, Pin, Unpin, Pins: each does what the plain model says (Pin, Unpin: at most a million pins).
-/
import Derived.Test.YtffophgdjkpilaaRefA
namespace Go.Proofs.Ytffophgdjkpilaa
open Go.RowKit Clk
set_option linter.unusedVariables false

theorem rtake_any (w : World) (br bt bu bp : Nat) (s : St) (h : RC w br bt bu bp s) (i : Int) :
   Calls Try.prog 19 #[.pointer (some ⟨br, 0, none⟩), .int .i64 i] w (DidR w (.bool (takeB s i)) br bt bu bp (takeS s i) [bt, bu, bp]) := by
  have hc0 := h.c0
  have hc1 := h.c1
  have hc2 := h.c2
  have hn := h.n64
  rcases inn_cases s i with ⟨k, rfl, hk⟩ | ho
  · have hT := h.ct k hk
    have hi := inn_yes hk
    have a0 : decide ((k : Int) < 0) = false := decide_eq_false (by omega)
    have a1 : decide ((s.n : Int) ≤ (k : Int)) = false := by simp; omega
    cases ht : s.t k with
    | true =>
      rw [ht] at hT
      have e1 : takeB s (k : Int) = false := by simp [takeB, ht]
      have e2 : takeS s (k : Int) = s := by simp [takeS, e1]
      rw [e1, e2]
      clear e1 e2 hi ht
      go_enter Try.func19, Try.ntmps19
      go_wp2
      go_ret
      exact ⟨rfl, h, Mod.refl _ _⟩
    | false =>
      rw [ht] at hT
      have hU := h.cu k hk
      have hP := h.cp k hk
      have f0 := h.ft k
      have f1 := h.fu k
      have f2 := h.fp k
      have d1 := h.d1
      have d2 := h.d2
      have d3 := h.d3
      have d4 := h.d4
      have d5 := h.d5
      have d6 := h.d6
      have e1 : takeB s (k : Int) = true := by simp [takeB, ht, hi]
      have e2 : takeS s (k : Int) = { s with t := upd s.t k true, u := upd s.u k true, p := upd s.p k 0 } := by simp [takeS, e1]
      rw [e1, e2]
      clear e1 e2 hi ht
      go_enter Try.func19, Try.ntmps19
      go_wp2
      go_ret
      exact ⟨rfl, ((h.setT k true).setU k true).setP k 0, (((Mod.refl _ _).setCell (by simp) _).setCell (by simp) _).setCell (by simp) _⟩
  · have hi := inn_no ho
    have e1 : takeB s i = false := by simp [takeB, hi]
    have e2 : takeS s i = s := by simp [takeS, e1]
    rw [e1, e2]
    clear e1 e2 hi
    by_cases h0 : i < 0
    · have a0 : decide (i < 0) = true := by simp; omega
      go_enter Try.func19, Try.ntmps19
      go_wp2
      go_ret
      exact ⟨rfl, h, Mod.refl _ _⟩
    · have a0 : decide (i < 0) = false := by simp; omega
      have a1 : decide ((s.n : Int) ≤ i) = true := by simp; omega
      go_enter Try.func19, Try.ntmps19
      go_wp2
      go_ret
      exact ⟨rfl, h, Mod.refl _ _⟩

theorem rleave_any (w : World) (br bt bu bp : Nat) (s : St) (h : RC w br bt bu bp s) (i : Int) :
   Calls Try.prog 20 #[.pointer (some ⟨br, 0, none⟩), .int .i64 i] w (DidR w (.bool (leaveB s i)) br bt bu bp (leaveS s i) [bt, bu]) := by
  have hc0 := h.c0
  have hc1 := h.c1
  have hc2 := h.c2
  have hn := h.n64
  have his := is_any w br bt bu bp s h i
  cases hit : isT s i with
  | false =>
    rw [hit] at his
    have e1 : leaveB s i = false := by simp [leaveB, hit]
    have e2 : leaveS s i = s := by simp [leaveS, e1]
    rw [e1, e2]
    have His := Lib.hid his
    clear e1 e2 hit his
    go_enter Try.func20, Try.ntmps20
    go_wp2_with (go_at_call 32; refine His.out.mono ?_; rintro e w' ⟨rfl, rfl⟩)
    go_ret
    exact ⟨rfl, h, Mod.refl _ _⟩
  | true =>
    obtain ⟨k, rfl, hk⟩ : ∃ k : Nat, i = (k : Int) ∧ k < s.n := by
      rcases inn_cases s i with h1 | h1
      · exact h1
      · have := inn_no h1; simp [isT, this] at hit
    rw [hit] at his
    have His := Lib.hid his
    have d1 := h.d1
    have d2 := h.d2
    have d3 := h.d3
    have d4 := h.d4
    have d5 := h.d5
    have d6 := h.d6
    have hU := h.cu k hk
    have hP := h.cp k hk
    have f0 := h.ft k
    have f1 := h.fu k
    have f2 := h.fp k
    have hT := h.ct k hk
    by_cases hp : s.p k = 0
    · have e1 : leaveB s (k : Int) = true := by simp [leaveB, hit, hp]
      have e2 : leaveS s (k : Int) = { s with t := upd s.t k false, u := upd s.u k false } := by simp [leaveS, e1]
      rw [e1, e2]
      rw [hp] at hP
      clear e1 e2 hit his hp
      go_enter Try.func20, Try.ntmps20
      go_wp2_with (go_at_call 32; refine His.out.mono ?_; rintro e w' ⟨rfl, rfl⟩)
      go_ret
      exact ⟨rfl, (h.setT k false).setU k false, ((Mod.refl _ _).setCell (by simp) _).setCell (by simp) _⟩
    · have e1 : leaveB s (k : Int) = false := by simp [leaveB, hp]
      have e2 : leaveS s (k : Int) = s := by simp [leaveS, e1]
      rw [e1, e2]
      have hpos : 0 < s.p k := by omega
      clear e1 e2 hit his hp
      go_enter Try.func20, Try.ntmps20
      go_wp2_with (go_at_call 32; refine His.out.mono ?_; rintro e w' ⟨rfl, rfl⟩)
      go_ret
      exact ⟨rfl, h, Mod.refl _ _⟩

theorem rtouch_any (w : World) (br bt bu bp : Nat) (s : St) (h : RC w br bt bu bp s) (i : Int) :
   Calls Try.prog 21 #[.pointer (some ⟨br, 0, none⟩), .int .i64 i] w (DidR w (.bool (isT s i)) br bt bu bp (touchS s i) [bu]) := by
  have hc0 := h.c0
  have hc1 := h.c1
  have hc2 := h.c2
  have hn := h.n64
  have his := is_any w br bt bu bp s h i
  cases hit : isT s i with
  | false =>
    rw [hit] at his
    have e1 : isT s i = false := hit
    have e2 : touchS s i = s := by simp [touchS, hit]
    rw [e2]
    have His := Lib.hid his
    clear e1 e2 hit his
    go_enter Try.func21, Try.ntmps21
    go_wp2_with (go_at_call 32; refine His.out.mono ?_; rintro e w' ⟨rfl, rfl⟩)
    go_ret
    exact ⟨rfl, h, Mod.refl _ _⟩
  | true =>
    obtain ⟨k, rfl, hk⟩ : ∃ k : Nat, i = (k : Int) ∧ k < s.n := by
      rcases inn_cases s i with h1 | h1
      · exact h1
      · have := inn_no h1; simp [isT, this] at hit
    rw [hit] at his
    have His := Lib.hid his
    have d1 := h.d1
    have d2 := h.d2
    have d3 := h.d3
    have d4 := h.d4
    have d5 := h.d5
    have d6 := h.d6
    have hU := h.cu k hk
    have hP := h.cp k hk
    have f0 := h.ft k
    have f1 := h.fu k
    have f2 := h.fp k
    have hT := h.ct k hk
    have e1 : isT s (k : Int) = true := hit
    have e2 : touchS s (k : Int) = { s with u := upd s.u k true } := by simp [touchS, e1]
    rw [e2]
    clear e1 e2 hit his
    go_enter Try.func21, Try.ntmps21
    go_wp2_with (go_at_call 32; refine His.out.mono ?_; rintro e w' ⟨rfl, rfl⟩)
    go_ret
    exact ⟨rfl, h.setU k true, (Mod.refl _ _).setCell (by simp) _⟩

theorem rpin_any (w : World) (br bt bu bp : Nat) (s : St) (h : RC w br bt bu bp s) (i : Int) (hs : ∀ k, s.p k ≤ 1000000) :
   Calls Try.prog 23 #[.pointer (some ⟨br, 0, none⟩), .int .i64 i] w (DidR w (.bool (isT s i)) br bt bu bp (pinS s i) [bp]) := by
  have hc0 := h.c0
  have hc1 := h.c1
  have hc2 := h.c2
  have hn := h.n64
  have his := is_any w br bt bu bp s h i
  cases hit : isT s i with
  | false =>
    rw [hit] at his
    have e1 : isT s i = false := hit
    have e2 : pinS s i = s := by simp [pinS, hit]
    rw [e2]
    have His := Lib.hid his
    clear e1 e2 hit his hs
    go_enter Try.func23, Try.ntmps23
    go_wp2_with (go_at_call 32; refine His.out.mono ?_; rintro e w' ⟨rfl, rfl⟩)
    go_ret
    exact ⟨rfl, h, Mod.refl _ _⟩
  | true =>
    obtain ⟨k, rfl, hk⟩ : ∃ k : Nat, i = (k : Int) ∧ k < s.n := by
      rcases inn_cases s i with h1 | h1
      · exact h1
      · have := inn_no h1; simp [isT, this] at hit
    rw [hit] at his
    have His := Lib.hid his
    have d1 := h.d1
    have d2 := h.d2
    have d3 := h.d3
    have d4 := h.d4
    have d5 := h.d5
    have d6 := h.d6
    have hU := h.cu k hk
    have hP := h.cp k hk
    have f0 := h.ft k
    have f1 := h.fu k
    have f2 := h.fp k
    have hT := h.ct k hk
    have e1 : isT s (k : Int) = true := hit
    have e2 : pinS s (k : Int) = { s with p := upd s.p k (s.p k + 1) } := by simp [pinS, e1]
    rw [e2]
    have hb := hs k
    have hset := h.setP k (s.p k + 1)
    clear e1 e2 hit his hs
    go_enter Try.func23, Try.ntmps23
    go_wp2_with (go_at_call 32; refine His.out.mono ?_; rintro e w' ⟨rfl, rfl⟩)
    go_ret
    refine ⟨rfl, ?_, (Mod.refl _ _).setCell (by simp) _⟩
    simpa using hset

theorem runpin_any (w : World) (br bt bu bp : Nat) (s : St) (h : RC w br bt bu bp s) (i : Int) (hs : ∀ k, s.p k ≤ 1000000) :
   Calls Try.prog 24 #[.pointer (some ⟨br, 0, none⟩), .int .i64 i] w (DidR w (.bool (unpinB s i)) br bt bu bp (unpinS s i) [bp]) := by
  have hc0 := h.c0
  have hc1 := h.c1
  have hc2 := h.c2
  have hn := h.n64
  have his := is_any w br bt bu bp s h i
  cases hit : isT s i with
  | false =>
    rw [hit] at his
    have e1 : unpinB s i = false := by simp [unpinB, hit]
    have e2 : unpinS s i = s := by simp [unpinS, e1]
    rw [e1, e2]
    have His := Lib.hid his
    clear e1 e2 hit his hs
    go_enter Try.func24, Try.ntmps24
    go_wp2_with (go_at_call 32; refine His.out.mono ?_; rintro e w' ⟨rfl, rfl⟩)
    go_ret
    exact ⟨rfl, h, Mod.refl _ _⟩
  | true =>
    obtain ⟨k, rfl, hk⟩ : ∃ k : Nat, i = (k : Int) ∧ k < s.n := by
      rcases inn_cases s i with h1 | h1
      · exact h1
      · have := inn_no h1; simp [isT, this] at hit
    rw [hit] at his
    have His := Lib.hid his
    have d1 := h.d1
    have d2 := h.d2
    have d3 := h.d3
    have d4 := h.d4
    have d5 := h.d5
    have d6 := h.d6
    have hU := h.cu k hk
    have hP := h.cp k hk
    have f0 := h.ft k
    have f1 := h.fu k
    have f2 := h.fp k
    have hT := h.ct k hk
    by_cases hp : s.p k = 0
    · have e1 : unpinB s (k : Int) = false := by simp [unpinB, hp]
      have e2 : unpinS s (k : Int) = s := by simp [unpinS, e1]
      rw [e1, e2]
      rw [hp] at hP
      clear e1 e2 hit his hp hs
      go_enter Try.func24, Try.ntmps24
      go_wp2_with (go_at_call 32; refine His.out.mono ?_; rintro e w' ⟨rfl, rfl⟩)
      go_ret
      exact ⟨rfl, h, Mod.refl _ _⟩
    · have e1 : unpinB s (k : Int) = true := by simp [unpinB, hit, hp]
      have e2 : unpinS s (k : Int) = { s with p := upd s.p k (s.p k - 1) } := by simp [unpinS, e1]
      rw [e1, e2]
      have hb := hs k
      have hset := h.setP k (s.p k - 1)
      have hz : ((s.p k : Int) == 0) = false := by simpa using hp
      have hc : ((s.p k - 1 : Nat) : Int) = (s.p k : Int) - 1 := by omega
      rw [hc] at hset
      have hpos : 1 ≤ s.p k := by omega
      clear e1 e2 hit his hs hp hc
      go_enter Try.func24, Try.ntmps24
      go_wp2_with (go_at_call 32; refine His.out.mono ?_; rintro e w' ⟨rfl, rfl⟩)
      go_ret
      exact ⟨rfl, hset, (Mod.refl _ _).setCell (by simp) _⟩

theorem rpins_any (w : World) (br bt bu bp : Nat) (s : St) (h : RC w br bt bu bp s) (i : Int) :
   Calls Try.prog 12 #[.pointer (some ⟨br, 0, none⟩), .int .i64 i] w fun e w' => e = .returned (.int .i64 (pinsV s i : Int)) ∧ w = w' := by
  have hc2 := h.c2
  have hn := h.n64
  rcases inn_cases s i with ⟨k, rfl, hk⟩ | ho
  · have hP := h.cp k hk
    have hi := inn_yes hk
    have a0 : decide ((k : Int) < 0) = false := decide_eq_false (by omega)
    have a1 : decide ((s.n : Int) ≤ (k : Int)) = false := by simp; omega
    have e1 : pinsV s (k : Int) = s.p k := by simp [pinsV, hi]
    rw [e1]
    clear e1 hi
    go_enter Try.func12, Try.ntmps12
    go_wp2
    go_ret
    exact ⟨rfl, rfl⟩
  · have hi := inn_no ho
    have e1 : pinsV s i = 0 := by simp [pinsV, hi]
    rw [e1]
    clear e1 hi
    by_cases h0 : i < 0
    · have a0 : decide (i < 0) = true := by simp; omega
      go_enter Try.func12, Try.ntmps12
      go_wp2
      go_ret
      exact ⟨rfl, rfl⟩
    · have a0 : decide (i < 0) = false := by simp; omega
      have a1 : decide ((s.n : Int) ≤ i) = true := by simp; omega
      go_enter Try.func12, Try.ntmps12
      go_wp2
      go_ret
      exact ⟨rfl, rfl⟩
end Go.Proofs.Ytffophgdjkpilaa
