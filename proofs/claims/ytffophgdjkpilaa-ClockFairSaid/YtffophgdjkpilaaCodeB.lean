/-
  The program's clock: Leave, Touch, Pin, Unpin, Pins: each does what the plain model says (Pin, Unpin: at most a million pins).
-/
import Derived.Test.YtffophgdjkpilaaCodeA
namespace Go.Proofs.Ytffophgdjkpilaa
open Go.RowKit Clk
set_option linter.unusedVariables false

theorem leave_any (w : World) (bc bf : Nat) (s : St) (h : PC w bc bf s) (i : Int) :
   Calls Try.prog 18 #[.pointer (some ⟨bc, 0, none⟩), .int .i64 i] w (Did w (.bool (leaveB s i)) bc bf (leaveS s i) [bf]) := by
  have hc0 := h.c0
  have hn := h.n64
  rcases inn_cases s i with ⟨k, rfl, hk⟩ | ho
  · have hT := h.ct k hk
    have hi := inn_yes hk
    have hP := h.cp k hk
    cases ht : s.t k with
    | false =>
      rw [ht] at hT
      have e1 : leaveB s (k : Int) = false := by simp [leaveB, isT, ht]
      have e2 : leaveS s (k : Int) = s := by simp [leaveS, e1]
      rw [e1, e2]
      clear e1 e2 hi ht
      go_enter Try.func18, Try.ntmps18
      go_wp2_with (go_at_call 31; refine (taken_no _ bc bf s.n k hk hn hc0 hT).mono ?_; rintro e w' ⟨rfl, rfl⟩)
      go_ret
      exact ⟨rfl, h, Mod.refl _ _⟩
    | true =>
      rw [ht] at hT
      by_cases hp : s.p k = 0
      · have e1 : leaveB s (k : Int) = true := by simp [leaveB, isT, ht, hi, hp]
        have e2 : leaveS s (k : Int) = { s with t := upd s.t k false, u := upd s.u k false, p := upd s.p k 0 } := by
          have : upd s.p k 0 = s.p := by rw [← hp]; exact upd_self _ _
          simp [leaveS, e1, this]
        rw [e1, e2]
        rw [hp] at hP
        have hU := h.cu k hk
        have f0 := h.ff (k * 3)
        have f1 := h.ff (k * 3 + 1)
        have f2 := h.ff (k * 3 + 2)
        clear e1 e2 hi ht hp
        go_enter Try.func18, Try.ntmps18
        go_wp2_with (go_at_call 31; refine (taken_yes _ bc bf s.n k hk hn hc0 hT).mono ?_; rintro e w' ⟨rfl, rfl⟩)
        go_ret
        exact ⟨rfl, ((h.setT k false).setU k false).setP k 0, (((Mod.refl _ _).setCell (by simp) _).setCell (by simp) _).setCell (by simp) _⟩
      · have e1 : leaveB s (k : Int) = false := by simp [leaveB, hp]
        have e2 : leaveS s (k : Int) = s := by simp [leaveS, e1]
        rw [e1, e2]
        have hpos : 0 < s.p k := by omega
        clear e1 e2 hi ht hp
        go_enter Try.func18, Try.ntmps18
        go_wp2_with (go_at_call 31; refine (taken_yes _ bc bf s.n k hk hn hc0 hT).mono ?_; rintro e w' ⟨rfl, rfl⟩)
        go_ret
        exact ⟨rfl, h, Mod.refl _ _⟩
  · have hi := inn_no ho
    have e1 : leaveB s i = false := by simp [leaveB, isT, hi]
    have e2 : leaveS s i = s := by simp [leaveS, e1]
    rw [e1, e2]
    clear e1 e2 hi
    go_enter Try.func18, Try.ntmps18
    go_wp2_with (go_at_call 31; refine (taken_out _ bc bf s.n i ho hn hc0).mono ?_; rintro e w' ⟨rfl, rfl⟩)
    go_ret
    exact ⟨rfl, h, Mod.refl _ _⟩

theorem touch_any (w : World) (bc bf : Nat) (s : St) (h : PC w bc bf s) (i : Int) :
   Calls Try.prog 17 #[.pointer (some ⟨bc, 0, none⟩), .int .i64 i] w (Did w (.bool (isT s i)) bc bf (touchS s i) [bf]) := by
  have hc0 := h.c0
  have hn := h.n64
  rcases inn_cases s i with ⟨k, rfl, hk⟩ | ho
  · have hT := h.ct k hk
    have hi := inn_yes hk
    cases ht : s.t k with
    | false =>
      rw [ht] at hT
      have e1 : isT s (k : Int) = false := by simp [isT, ht]
      have e2 : touchS s (k : Int) = s := by simp [touchS, e1]
      rw [e1, e2]
      clear e1 e2 hi ht
      go_enter Try.func17, Try.ntmps17
      go_wp2_with (go_at_call 31; refine (taken_no _ bc bf s.n k hk hn hc0 hT).mono ?_; rintro e w' ⟨rfl, rfl⟩)
      go_ret
      exact ⟨rfl, h, Mod.refl _ _⟩
    | true =>
      rw [ht] at hT
      have e1 : isT s (k : Int) = true := by simp [isT, ht, hi]
      have e2 : touchS s (k : Int) = { s with u := upd s.u k true } := by simp [touchS, e1]
      rw [e1, e2]
      have hU := h.cu k hk
      have f1 := h.ff (k * 3 + 1)
      clear e1 e2 hi ht
      go_enter Try.func17, Try.ntmps17
      go_wp2_with (go_at_call 31; refine (taken_yes _ bc bf s.n k hk hn hc0 hT).mono ?_; rintro e w' ⟨rfl, rfl⟩)
      go_ret
      exact ⟨rfl, h.setU k true, (Mod.refl _ _).setCell (by simp) _⟩
  · have hi := inn_no ho
    have e1 : isT s i = false := by simp [isT, hi]
    have e2 : touchS s i = s := by simp [touchS, e1]
    rw [e1, e2]
    clear e1 e2 hi
    go_enter Try.func17, Try.ntmps17
    go_wp2_with (go_at_call 31; refine (taken_out _ bc bf s.n i ho hn hc0).mono ?_; rintro e w' ⟨rfl, rfl⟩)
    go_ret
    exact ⟨rfl, h, Mod.refl _ _⟩

theorem pin_any (w : World) (bc bf : Nat) (s : St) (h : PC w bc bf s) (i : Int) (hs : ∀ k, s.p k ≤ 1000000) :
   Calls Try.prog 22 #[.pointer (some ⟨bc, 0, none⟩), .int .i64 i] w (Did w (.bool (isT s i)) bc bf (pinS s i) [bf]) := by
  have hc0 := h.c0
  have hn := h.n64
  rcases inn_cases s i with ⟨k, rfl, hk⟩ | ho
  · have hT := h.ct k hk
    have hi := inn_yes hk
    cases ht : s.t k with
    | false =>
      rw [ht] at hT
      have e1 : isT s (k : Int) = false := by simp [isT, ht]
      have e2 : pinS s (k : Int) = s := by simp [pinS, e1]
      rw [e1, e2]
      clear e1 e2 hi ht
      go_enter Try.func22, Try.ntmps22
      go_wp2_with (go_at_call 31; refine (taken_no _ bc bf s.n k hk hn hc0 hT).mono ?_; rintro e w' ⟨rfl, rfl⟩)
      go_ret
      exact ⟨rfl, h, Mod.refl _ _⟩
    | true =>
      rw [ht] at hT
      have e1 : isT s (k : Int) = true := by simp [isT, ht, hi]
      have e2 : pinS s (k : Int) = { s with p := upd s.p k (s.p k + 1) } := by simp [pinS, e1]
      rw [e1, e2]
      have hP := h.cp k hk
      have f2 := h.ff (k * 3 + 2)
      have hb := hs k
      have hset := h.setP k (s.p k + 1)
      clear e1 e2 hi ht hs
      go_enter Try.func22, Try.ntmps22
      go_wp2_with (go_at_call 31; refine (taken_yes _ bc bf s.n k hk hn hc0 hT).mono ?_; rintro e w' ⟨rfl, rfl⟩)
      go_ret
      refine ⟨rfl, ?_, (Mod.refl _ _).setCell (by simp) _⟩
      simpa using hset
  · have hi := inn_no ho
    have e1 : isT s i = false := by simp [isT, hi]
    have e2 : pinS s i = s := by simp [pinS, e1]
    rw [e1, e2]
    clear e1 e2 hi hs
    go_enter Try.func22, Try.ntmps22
    go_wp2_with (go_at_call 31; refine (taken_out _ bc bf s.n i ho hn hc0).mono ?_; rintro e w' ⟨rfl, rfl⟩)
    go_ret
    exact ⟨rfl, h, Mod.refl _ _⟩

theorem unpin_any (w : World) (bc bf : Nat) (s : St) (h : PC w bc bf s) (i : Int) (hs : ∀ k, s.p k ≤ 1000000) :
   Calls Try.prog 15 #[.pointer (some ⟨bc, 0, none⟩), .int .i64 i] w (Did w (.bool (unpinB s i)) bc bf (unpinS s i) [bf]) := by
  have hc0 := h.c0
  have hn := h.n64
  rcases inn_cases s i with ⟨k, rfl, hk⟩ | ho
  · have hT := h.ct k hk
    have hi := inn_yes hk
    have hP := h.cp k hk
    cases ht : s.t k with
    | false =>
      rw [ht] at hT
      have e1 : unpinB s (k : Int) = false := by simp [unpinB, isT, ht]
      have e2 : unpinS s (k : Int) = s := by simp [unpinS, e1]
      rw [e1, e2]
      clear e1 e2 hi ht hs
      go_enter Try.func15, Try.ntmps15
      go_wp2_with (go_at_call 31; refine (taken_no _ bc bf s.n k hk hn hc0 hT).mono ?_; rintro e w' ⟨rfl, rfl⟩)
      go_ret
      exact ⟨rfl, h, Mod.refl _ _⟩
    | true =>
      rw [ht] at hT
      by_cases hp : s.p k = 0
      · have e1 : unpinB s (k : Int) = false := by simp [unpinB, hp]
        have e2 : unpinS s (k : Int) = s := by simp [unpinS, e1]
        rw [e1, e2]
        rw [hp] at hP
        clear e1 e2 hi ht hp hs
        go_enter Try.func15, Try.ntmps15
        go_wp2_with (go_at_call 31; refine (taken_yes _ bc bf s.n k hk hn hc0 hT).mono ?_; rintro e w' ⟨rfl, rfl⟩)
        go_ret
        exact ⟨rfl, h, Mod.refl _ _⟩
      · have e1 : unpinB s (k : Int) = true := by simp [unpinB, isT, ht, hi, hp]
        have e2 : unpinS s (k : Int) = { s with p := upd s.p k (s.p k - 1) } := by simp [unpinS, e1]
        rw [e1, e2]
        have f2 := h.ff (k * 3 + 2)
        have hb := hs k
        have hset := h.setP k (s.p k - 1)
        have hz : ((s.p k : Int) == 0) = false := by simpa using hp
        have hc : ((s.p k - 1 : Nat) : Int) = (s.p k : Int) - 1 := by omega
        rw [hc] at hset
        have hpos : 1 ≤ s.p k := by omega
        clear e1 e2 hi ht hs hp hc
        go_enter Try.func15, Try.ntmps15
        go_wp2_with (go_at_call 31; refine (taken_yes _ bc bf s.n k hk hn hc0 hT).mono ?_; rintro e w' ⟨rfl, rfl⟩)
        go_ret
        exact ⟨rfl, hset, (Mod.refl _ _).setCell (by simp) _⟩
  · have hi := inn_no ho
    have e1 : unpinB s i = false := by simp [unpinB, isT, hi]
    have e2 : unpinS s i = s := by simp [unpinS, e1]
    rw [e1, e2]
    clear e1 e2 hi hs
    go_enter Try.func15, Try.ntmps15
    go_wp2_with (go_at_call 31; refine (taken_out _ bc bf s.n i ho hn hc0).mono ?_; rintro e w' ⟨rfl, rfl⟩)
    go_ret
    exact ⟨rfl, h, Mod.refl _ _⟩

theorem pins_any (w : World) (bc bf : Nat) (s : St) (h : PC w bc bf s) (i : Int) :
   Calls Try.prog 11 #[.pointer (some ⟨bc, 0, none⟩), .int .i64 i] w fun e w' => e = .returned (.int .i64 (pinsV s i : Int)) ∧ w = w' := by
  have hc0 := h.c0
  have hn := h.n64
  rcases inn_cases s i with ⟨k, rfl, hk⟩ | ho
  · have hP := h.cp k hk
    have hi := inn_yes hk
    have e1 : pinsV s (k : Int) = s.p k := by simp [pinsV, hi]
    rw [e1]
    clear e1 hi
    go_enter Try.func11, Try.ntmps11
    go_wp2_with (go_at_call 26; refine (at_in _ bc bf s.n k hk hn hc0).mono ?_; rintro e w' ⟨rfl, rfl⟩)
    go_ret
    exact ⟨rfl, rfl⟩
  · have hi := inn_no ho
    have e1 : pinsV s i = 0 := by simp [pinsV, hi]
    rw [e1]
    clear e1 hi
    go_enter Try.func11, Try.ntmps11
    go_wp2_with (go_at_call 26; refine (at_out _ bc bf s.n i ho hn hc0).mono ?_; rintro e w' ⟨rfl, rfl⟩)
    go_ret
    exact ⟨rfl, rfl⟩
end Go.Proofs.Ytffophgdjkpilaa
