/-
  ClockFair returns true, whatever the arguments.
-/
import Derived.Test.YtffophgdjkpilaaLawStays
namespace Go.Proofs.Ytffophgdjkpilaa
open Go.RowKit Clk
set_option linter.unusedVariables false

/-! plain facts: round the clock -/
theorem mod_inj {n h d e : Nat} (hd : d < n) (he : e < n) (h1 : (h + d) % n = (h + e) % n) : d = e := by
  rcases Nat.lt_trichotomy d e with hl | hl | hl
  · have := Nat.sub_mod_eq_zero_of_mod_eq h1.symm
    rw [show h + e - (h + d) = e - d from by omega, Nat.mod_eq_of_lt (by omega)] at this
    omega
  · exact hl
  · have := Nat.sub_mod_eq_zero_of_mod_eq h1
    rw [show h + d - (h + e) = d - e from by omega, Nat.mod_eq_of_lt (by omega)] at this
    omega
def inT (n h k j : Nat) : Prop := ∃ d, d < k ∧ j = (h + d) % n
theorem inT_succ (n h k j : Nat) : inT n h (k + 1) j ↔ inT n h k j ∨ j = (h + k) % n := by
  constructor
  · rintro ⟨d, hd, hj⟩
    by_cases e : d = k
    · subst e; exact .inr hj
    · exact .inl ⟨d, by omega, hj⟩
  · rintro (⟨d, hd, hj⟩ | hj)
    · exact ⟨d, by omega, hj⟩
    · exact ⟨k, by omega, hj⟩
theorem inT_not (n h k : Nat) (hk : k < n) : ¬ inT n h k ((h + k) % n) := by
  rintro ⟨d, hd, hj⟩
  have := mod_inj hk (by omega) hj
  omega
theorem next_mod (n h d : Nat) : ((h + d) % n + 1) % n = (h + (d + 1)) % n := by
  rw [Nat.add_mod, Nat.mod_mod, ← Nat.add_mod]; rfl

theorem goes_all (n : Nat) (p : Nat → Nat) (hn : n ≤ 64) (h : Nat) (hh : h < n) (hp : ∀ j, j < n → p j = 0) (u : Nat → Bool) (hu : ∀ j, j < n → u j = true) :
    ∀ d, d ≤ n → ∃ u' : Nat → Bool, goes n p u h = goes n p u' ((h + d) % n) ∧ ∀ j, j < n → (u' j = true ↔ ¬ inT n h d j) := by
  intro d
  induction d with
  | zero =>
    intro _
    refine ⟨u, by rw [Nat.add_zero, Nat.mod_eq_of_lt hh], fun j hj => ?_⟩
    constructor
    · rintro _ ⟨e, he, _⟩; omega
    · intro _; exact hu j hj
  | succ d ih =>
    intro hd
    obtain ⟨u', h1, h2⟩ := ih (by omega)
    have hc : (h + d) % n < n := Nat.mod_lt _ (by omega)
    have hcu : u' ((h + d) % n) = true := (h2 _ hc).2 (inT_not n h d (by omega))
    refine ⟨upd u' ((h + d) % n) false, ?_, fun j hj => ?_⟩
    · rw [h1, goes_used n p u' _ hn hc (hp _ hc) hcu, next_mod]
    · rw [inT_succ]
      unfold upd
      by_cases e : j = (h + d) % n
      · simp [e]
      · simp [e, h2 j hj]
theorem goes_round (n : Nat) (p : Nat → Nat) (hn : n ≤ 64) (h : Nat) (hh : h < n) (hp : ∀ j, j < n → p j = 0) (u : Nat → Bool) (hu : ∀ j, j < n → u j = true) :
    (goes n p u h).2.2 = h ∧ (goes n p u h).2.1 = (h + 1) % n ∧ ∀ j, j < n → (goes n p u h).1 j = false := by
  obtain ⟨u', h1, h2⟩ := goes_all n p hn h hh hp u hu n (Nat.le_refl _)
  have hm : (h + n) % n = h := by rw [Nat.add_mod_right, Nat.mod_eq_of_lt hh]
  rw [hm] at h1
  have hall : ∀ j, j < n → u' j = false := by
    intro j hj
    have hin : inT n h n j := by
      refine ⟨(n - h + j) % n, Nat.mod_lt _ (by omega), ?_⟩
      rw [Nat.add_mod, Nat.mod_mod, ← Nat.add_mod, show h + (n - h + j) = j + n from by omega, Nat.add_mod_right, Nat.mod_eq_of_lt hj]
    cases hx : u' j with
    | false => rfl
    | true => exact absurd hin ((h2 j hj).1 hx)
  rw [h1, goes_here n p u' h (hp h hh) (hall h hh)]
  exact ⟨rfl, rfl, hall⟩

structure Fair (s : St) (h0 k : Nat) : Prop where
  n1 : 1 ≤ s.n
  n64 : s.n ≤ 64
  h : s.h = (h0 + k) % s.n
  t : ∀ j, j < s.n → s.t j = true
  p : ∀ j, j < s.n → s.p j = 0
  u : ∀ j, j < s.n → (s.u j = true ↔ (k = 0 ∨ inT s.n h0 k j))

theorem fair_step {s : St} {h0 k : Nat} (f : Fair s h0 k) (hk : k < s.n) :
    pickB s = true ∧ pickI s = (h0 + k) % s.n ∧ leaveB (pickS s) ((h0 + k) % s.n : Nat) = true ∧ takeB (leaveS (pickS s) ((h0 + k) % s.n : Nat)) ((h0 + k) % s.n : Nat) = true ∧
      Fair (takeS (leaveS (pickS s) ((h0 + k) % s.n : Nat)) ((h0 + k) % s.n : Nat)) h0 (k + 1) := by
  have hi : (h0 + k) % s.n < s.n := Nat.mod_lt _ (by omega)
  have hs0 : some0 s = true := (some0_iff s).2 ⟨0, f.n1, f.p 0 f.n1⟩
  have hfree : ¬ freeK s < s.n := fun e => by
    have := free_lt e
    rw [f.t _ e] at this; cases this
  have hgo : (goes s.n s.p s.u s.h).2.2 = (h0 + k) % s.n ∧ (goes s.n s.p s.u s.h).2.1 = ((h0 + k) % s.n + 1) % s.n ∧ ∀ j, j < s.n → ((goes s.n s.p s.u s.h).1 j = true ↔ inT s.n h0 k j) := by
    rw [f.h]
    by_cases e : k = 0
    · subst e
      obtain ⟨g1, g2, g3⟩ := goes_round s.n s.p f.n64 ((h0 + 0) % s.n) hi f.p s.u (fun j hj => (f.u j hj).2 (.inl rfl))
      refine ⟨g1, g2, fun j hj => ?_⟩
      rw [g3 j hj]
      constructor
      · intro x; cases x
      · rintro ⟨d, hd, _⟩; omega
    · have hu : s.u ((h0 + k) % s.n) = false := by
        cases hx : s.u ((h0 + k) % s.n) with
        | false => rfl
        | true =>
          rcases (f.u _ hi).1 hx with h1 | h1
          · exact absurd h1 e
          · exact absurd h1 (inT_not _ _ _ hk)
      rw [goes_here s.n s.p s.u _ (f.p _ hi) hu]
      refine ⟨rfl, rfl, fun j hj => ?_⟩
      rw [f.u j hj]
      constructor
      · rintro (h1 | h1)
        · exact absurd h1 e
        · exact h1
      · exact .inr
  have hpS : pickS s = { s with u := (goes s.n s.p s.u s.h).1, h := (goes s.n s.p s.u s.h).2.1 } := by simp [pickS, hfree, hs0]
  have hpI : pickI s = (h0 + k) % s.n := by simp [pickI, hfree, hs0, hgo.1]
  obtain ⟨_, g2, g3⟩ := hgo
  generalize goes s.n s.p s.u s.h = g at *
  generalize hI : (h0 + k) % s.n = i at *
  have hin : ∀ a : St, a.n = s.n → inn a (i : Int) = true := fun a ha => inn_yes (by omega)
  have hti := f.t i hi
  have hpi := f.p i hi
  have hl : leaveB (pickS s) (i : Int) = true := by
    rw [hpS]
    have := hin { s with u := g.1, h := g.2.1 } rfl
    simp [leaveB, isT, this, hti, hpi]
  have hlS : leaveS (pickS s) (i : Int) = { s with u := upd g.1 i false, h := g.2.1, t := upd s.t i false } := by
    unfold leaveS
    rw [hl, hpS]; simp
  have htk : takeB (leaveS (pickS s) (i : Int)) (i : Int) = true := by
    rw [hlS]
    have := hin { s with u := upd g.1 i false, h := g.2.1, t := upd s.t i false } rfl
    simp [takeB, this, upd]
  have htS : takeS (leaveS (pickS s) (i : Int)) (i : Int) = { s with u := upd (upd g.1 i false) i true, h := g.2.1, t := upd (upd s.t i false) i true, p := upd s.p i 0 } := by
    unfold takeS
    rw [htk, hlS]; simp
  refine ⟨by simp [pickB, hs0], hpI, hl, htk, ?_⟩
  rw [htS]
  refine ⟨f.n1, f.n64, ?_, ?_, ?_, ?_⟩
  · show g.2.1 = (h0 + (k + 1)) % s.n
    rw [g2, ← hI, next_mod]
  · intro j hj
    simp only [upd]
    by_cases e : j = i
    · simp [e]
    · simp [e]; exact f.t j hj
  · intro j hj
    simp only [upd]
    by_cases e : j = i
    · simp [e]
    · simp [e]; exact f.p j hj
  · intro j hj
    rw [inT_succ, hI]
    simp only [upd]
    by_cases e : j = i
    · simp [e]
    · simp [e]; exact g3 j hj

structure Half (s : St) (i len : Nat) : Prop where
  ok : Ok s len
  d : ∀ j, j < i → s.t j = true ∧ s.u j = true ∧ s.p j = 0
theorem half_unpin {s : St} {i len : Nat} (h : Half s i len) (hi : i < s.n) (hp : 0 < s.p i) : Half (unpinS s i) i len ∧ (unpinS s i).p i + 1 = s.p i ∧ (unpinS s i).n = s.n := by
  have ht : s.t i = true := by
    cases hx : s.t i with
    | true => rfl
    | false => have := h.ok.free i hx; omega
  have hin : inn s (i : Int) = true := inn_yes hi
  have hb : unpinB s (i : Int) = true := by
    have : s.p i ≠ 0 := by omega
    simp [unpinB, isT, hin, ht, this]
  have hS : unpinS s (i : Int) = { s with p := upd s.p i (s.p i - 1) } := by unfold unpinS; rw [hb]; simp
  refine ⟨⟨h.ok.unpin i, fun j hj => ?_⟩, ?_, unpin_n _ _⟩
  · rw [hS]
    have := h.d j hj
    have e : j ≠ i := by omega
    simp only [upd, if_neg e]
    exact this
  · rw [hS]; simp only [upd, if_pos]; omega
theorem half_next {s : St} {i len : Nat} (h : Half s i len) (hi : i < s.n) (hp : s.p i = 0) : Half (touchS (takeS s i) i) (i + 1) len ∧ (touchS (takeS s i) i).n = s.n := by
  refine ⟨⟨(h.ok.take i).touch i, fun j hj => ?_⟩, by rw [touch_n, take_n]⟩
  have hin : inn s (i : Int) = true := inn_yes hi
  have hin2 : inn (takeS s i) (i : Int) = true := inn_yes (by rw [take_n]; exact hi)
  have htk : (takeS s i).t i = true ∧ (takeS s i).p i = 0 := by
    unfold takeS
    cases ht : s.t i with
    | true => simp [takeB, ht, hp]
    | false => simp [takeB, ht, hin, upd]
  have hS : touchS (takeS s i) (i : Int) = { takeS s i with u := upd (takeS s i).u i true } := by
    have : isT (takeS s i) (i : Int) = true := by simp [isT, hin2, htk.1]
    unfold touchS; rw [this]; simp
  rw [hS]
  by_cases e : j = i
  · subst e; exact ⟨htk.1, by simp [upd], htk.2⟩
  · have hd := h.d j (by omega)
    have hot : (takeS s i).t j = s.t j ∧ (takeS s i).u j = s.u j ∧ (takeS s i).p j = s.p j := by
      unfold takeS; split <;> simp [upd, e]
    simp only [upd, if_neg e]
    rw [hot.1, hot.2.1, hot.2.2]; exact hd
theorem half_fair {s : St} {len : Nat} (h : Half s s.n len) : Fair s s.h 0 := by
  refine ⟨h.ok.n1, h.ok.n64, by rw [Nat.add_zero, Nat.mod_eq_of_lt h.ok.hh], fun j hj => (h.d j hj).1, fun j hj => (h.d j hj).2.2, fun j hj => ?_⟩
  constructor
  · intro _; exact .inl rfl
  · intro _; exact (h.d j hj).2.1

/-- a row of 64 bools -/
structure BoxB (w : World) (bx : Nat) (f : Nat → Bool) : Prop where
  c : ∀ j, j < 64 → w.cell? ⟨bx, j, none⟩ = some (.bool (f j))
  fz : ∀ o, w.frozen? ⟨bx, o, none⟩ = false
theorem BoxB.mod {w w' : World} {bx : Nat} {f : Nat → Bool} (h : BoxB w bx f) {bs : List Nat} (m : Mod w w' bs) (hn : bx ∉ bs) : BoxB w' bx f :=
  ⟨fun j hj => m.cell_of (h.c j hj) hn, fun o => by rw [m.frozen _ _ (cell_lt (h.c 0 (by omega))) hn]; exact h.fz o⟩
theorem BoxB.set {w : World} {bx : Nat} {f : Nat → Bool} (h : BoxB w bx f) (k : Nat) (v : Bool) : BoxB (w.setCell ⟨bx, k, none⟩ (.bool v)) bx (upd f k v) := by
  refine ⟨fun j hj => ?_, fun o => by rw [frozen_set]; exact h.fz o⟩
  rw [cell_set _ _ _ _ _ _ _ (h.c j hj)]
  unfold upd
  by_cases e : j = k <;> simp [e]
theorem boxB_new (w : World) : BoxB (w.alloc (.cells #[Value.bool false, Value.bool false, Value.bool false, Value.bool false, Value.bool false, Value.bool false, Value.bool false, Value.bool false, Value.bool false, Value.bool false, Value.bool false, Value.bool false, Value.bool false, Value.bool false, Value.bool false, Value.bool false, Value.bool false, Value.bool false, Value.bool false, Value.bool false, Value.bool false, Value.bool false, Value.bool false, Value.bool false, Value.bool false, Value.bool false, Value.bool false, Value.bool false, Value.bool false, Value.bool false, Value.bool false, Value.bool false, Value.bool false, Value.bool false, Value.bool false, Value.bool false, Value.bool false, Value.bool false, Value.bool false, Value.bool false, Value.bool false, Value.bool false, Value.bool false, Value.bool false, Value.bool false, Value.bool false, Value.bool false, Value.bool false, Value.bool false, Value.bool false, Value.bool false, Value.bool false, Value.bool false, Value.bool false, Value.bool false, Value.bool false, Value.bool false, Value.bool false, Value.bool false, Value.bool false, Value.bool false, Value.bool false, Value.bool false, Value.bool false] 37)) w.heap.size (fun _ => false) := by
  refine ⟨fun j hj => ?_, fun o => frozen_alloc _ _ _ _⟩
  rw [cell_alloc]
  rw [show (#[Value.bool false, Value.bool false, Value.bool false, Value.bool false, Value.bool false, Value.bool false, Value.bool false, Value.bool false, Value.bool false, Value.bool false, Value.bool false, Value.bool false, Value.bool false, Value.bool false, Value.bool false, Value.bool false, Value.bool false, Value.bool false, Value.bool false, Value.bool false, Value.bool false, Value.bool false, Value.bool false, Value.bool false, Value.bool false, Value.bool false, Value.bool false, Value.bool false, Value.bool false, Value.bool false, Value.bool false, Value.bool false, Value.bool false, Value.bool false, Value.bool false, Value.bool false, Value.bool false, Value.bool false, Value.bool false, Value.bool false, Value.bool false, Value.bool false, Value.bool false, Value.bool false, Value.bool false, Value.bool false, Value.bool false, Value.bool false, Value.bool false, Value.bool false, Value.bool false, Value.bool false, Value.bool false, Value.bool false, Value.bool false, Value.bool false, Value.bool false, Value.bool false, Value.bool false, Value.bool false, Value.bool false, Value.bool false, Value.bool false, Value.bool false] : Array Value) = Array.replicate 64 (.bool false) from rfl, Array.getElem?_replicate, if_pos hj]

theorem law_fair (w : World) (n : Nat) (hn : n < 256) (b : Option Addr) (len cap : Nat) (hmax : len ≤ maxLen) (hL : Ops w b len) :
   Calls Try.prog 5 #[.int .u8 (n : Int), .slice b len cap] w (DidV w (.bool true)) := by
  unfold maxLen at hmax
  by_cases hlen : 200 < len
  · have a0 : decide ((200 : Int) < (len : Int)) = true := by simp; omega
    clear hL
    go_enter Try.func5, Try.ntmps5
    go_wp2_with fail
    refine (known_any _).mono ?_
    rintro e w1 ⟨rfl, m1⟩
    have M1 := Lib.hid m1
    clear m1
    go_wp2_with fail
    go_ret
    exact ⟨rfl, M1.out⟩
  have a0 : decide ((200 : Int) < (len : Int)) = false := by simp; omega
  obtain ⟨m, hm, hm64⟩ : ∃ m : Nat, (n : Int) % 64 = (m : Int) ∧ m < 64 := ⟨n % 64, by omega, by omega⟩
  have hrun := fun w1 h => run_any w1 (1 + (m : Int) - 1) b len cap (by omega) h
  have hmo : manyOf (1 + (m : Int) - 1) = 1 + m := by unfold manyOf; omega
  rw [hmo] at hrun
  have HR := Lib.hid hrun
  have HL := Lib.hid hL
  clear hL hrun hmo
  go_enter Try.func5, Try.ntmps5
  go_wp2_with fail
  refine (known_any _).mono ?_
  rintro e w0 ⟨rfl, m0⟩
  have M0 := Lib.hid m0
  clear m0
  go_wp2_with fail
  refine (HR.out _ (HL.out.mod M0.out)).mono ?_
  rintro e w1 ⟨bc, bf, s, rfl, q1, q2, p1, ok, hns, m1⟩
  have z0 := M0.out.size
  have l1 := Lib.hid (show w.heap.size ≤ bc by omega)
  have l2 := Lib.hid (show w.heap.size ≤ bf by omega)
  have P1 := Lib.hid p1
  have OK := Lib.hid ok
  have Hn := Lib.hid hns
  have M1 := Lib.hid (M0.out.trans m1)
  clear p1 ok hns m1 q1 q2 z0 M0
  go_wp2_with fail
  go_loopw [7] (fun v wr => ∃ (i : Nat) (s : St), i ≤ 1 + m ∧ v = .int .i64 (i : Int) ∧ PC wr bc bf s ∧ Mod w wr [] ∧ Half s i len ∧ Hid (s.n = 1 + m)) (fun v _ => 1 + m - (intOf v).toNat)
  case atStart => exact ⟨0, s, Nat.zero_le _, rfl, P1.out, M1.out, ⟨OK.out, fun j hj => by omega⟩, Hn⟩
  case round =>
    clear P1 M1 OK Hn
    obtain ⟨i, s, hi, rfl, p, mm, hh, hsn⟩ := hrel
    have P := Lib.hid p
    have M := Lib.hid mm
    have HH := Lib.hid hh
    clear p mm hh
    by_cases hlt : i < 1 + m
    · have a1 : decide ((i : Int) < 1 + (m : Int)) = true := by simp; omega
      go_wp2_with fail
      obtain ⟨wo, rfl⟩ : ∃ wo : World, wo = wr := ⟨_, rfl⟩
      go_loopw [8] (fun v wr => ∃ (k : Nat) (s : St), k ≤ len ∧ v = .int .i64 (k : Int) ∧ PC wr bc bf s ∧ Mod w wr [] ∧ Half s i len ∧ Hid (s.n = 1 + m) ∧ s.p i + k ≤ len) (fun v _ => len - (intOf v).toNat)
      case atStart => exact ⟨0, s, Nat.zero_le _, rfl, P.out, M.out, HH.out, hsn, by have := HH.out.ok.pins i; omega⟩
      case round =>
        clear P M HH hsn
        obtain ⟨k, s, hk, rfl, p, mm, hh, hsn, hpk⟩ := hrel
        have P := Lib.hid p
        have M := Lib.hid mm
        have HH := Lib.hid hh
        clear p mm hh
        have hps := pins_any wr bc bf s P.out i
        have hin : i < s.n := by have := hsn.out; omega
        have hv : pinsV s i = s.p i := by
          have : inn s (i : Int) = true := inn_yes hin
          simp [pinsV, this]
        rw [hv] at hps
        by_cases hz : s.p i = 0
        · rw [hz] at hps
          have Hps := Lib.hid hps
          have hnx := half_next HH.out hin hz
          have hT := take_any wr bc bf s P.out i
          have hU := fun w h => touch_any w bc bf (takeS s i) h i
          have Hnx := Lib.hid hnx
          have HT := Lib.hid hT
          have HU := Lib.hid hU
          clear hps hv hz hnx hT hU hpk hin
          go_wp2_with fail
          refine Hps.out.mono ?_
          rintro e w3 ⟨rfl, rfl⟩
          go_wp2_with fail
          refine HT.out.mono ?_
          rintro e w4 ⟨rfl, p4, m4⟩
          have P4 := Lib.hid p4
          have M4 := Lib.hid (M.out.fresh m4 (by have := l1.out; have := l2.out; simp; omega))
          clear p4 m4
          go_wp2_with fail
          refine (HU.out _ P4.out).mono ?_
          rintro e w5 ⟨rfl, p5, m5⟩
          have P5 := Lib.hid p5
          have M5 := Lib.hid (M4.out.fresh m5 (by have := l1.out; have := l2.out; simp; omega))
          clear p5 m5
          go_wp2_with fail
          go_roundw
          case rel => exact ⟨i + 1, touchS (takeS s i) i, by omega, by go_num, P5.out, M5.out, Hnx.out.1, Lib.hid (by rw [Hnx.out.2]; exact hsn.out)⟩
          case measure => simp [intOf]; omega
        · have hpos : 0 < s.p i := by omega
          have hun := half_unpin HH.out hin hpos
          have hN := unpin_any wr bc bf s P.out i (fun j => Nat.le_trans (HH.out.ok.pins j) (by omega))
          have Hps := Lib.hid hps
          have Hun := Lib.hid hun
          have HN := Lib.hid hN
          have hkl : k < len := by omega
          have Hpk := Lib.hid hpk
          clear hps hv hz hun hN hpk hin
          go_wp2_with fail
          refine Hps.out.mono ?_
          rintro e w3 ⟨rfl, rfl⟩
          go_wp2_with fail
          refine HN.out.mono ?_
          rintro e w4 ⟨rfl, p4, m4⟩
          have P4 := Lib.hid p4
          have M4 := Lib.hid (M.out.fresh m4 (by have := l1.out; have := l2.out; simp; omega))
          clear p4 m4
          go_wp2_with fail
          go_roundw
          case rel => exact ⟨k + 1, unpinS s i, by omega, by go_num, P4.out, M4.out, Hun.out.1, Lib.hid (by rw [Hun.out.2.2]; exact hsn.out), by have := Hun.out.2.1; have := Hpk.out; omega⟩
          case measure => simp [intOf]; omega
    · have a1 : decide ((i : Int) < 1 + (m : Int)) = false := by simp; omega
      have hfair : Fair s s.h 0 := half_fair (len := len) (by have := HH.out; rwa [show i = s.n by have := hsn.out; omega] at this)
      have hh0 : s.h < s.n := HH.out.ok.hh
      have hokp := HH.out.ok
      go_wp2_with fail
      have hb := boxB_new wr
      have hma : Mod wr (wr.alloc (.cells #[Value.bool false, Value.bool false, Value.bool false, Value.bool false, Value.bool false, Value.bool false, Value.bool false, Value.bool false, Value.bool false, Value.bool false, Value.bool false, Value.bool false, Value.bool false, Value.bool false, Value.bool false, Value.bool false, Value.bool false, Value.bool false, Value.bool false, Value.bool false, Value.bool false, Value.bool false, Value.bool false, Value.bool false, Value.bool false, Value.bool false, Value.bool false, Value.bool false, Value.bool false, Value.bool false, Value.bool false, Value.bool false, Value.bool false, Value.bool false, Value.bool false, Value.bool false, Value.bool false, Value.bool false, Value.bool false, Value.bool false, Value.bool false, Value.bool false, Value.bool false, Value.bool false, Value.bool false, Value.bool false, Value.bool false, Value.bool false, Value.bool false, Value.bool false, Value.bool false, Value.bool false, Value.bool false, Value.bool false, Value.bool false, Value.bool false, Value.bool false, Value.bool false, Value.bool false, Value.bool false, Value.bool false, Value.bool false, Value.bool false, Value.bool false] 37)) [] := (Mod.refl _ _).alloc _
      generalize wr.alloc (.cells #[Value.bool false, Value.bool false, Value.bool false, Value.bool false, Value.bool false, Value.bool false, Value.bool false, Value.bool false, Value.bool false, Value.bool false, Value.bool false, Value.bool false, Value.bool false, Value.bool false, Value.bool false, Value.bool false, Value.bool false, Value.bool false, Value.bool false, Value.bool false, Value.bool false, Value.bool false, Value.bool false, Value.bool false, Value.bool false, Value.bool false, Value.bool false, Value.bool false, Value.bool false, Value.bool false, Value.bool false, Value.bool false, Value.bool false, Value.bool false, Value.bool false, Value.bool false, Value.bool false, Value.bool false, Value.bool false, Value.bool false, Value.bool false, Value.bool false, Value.bool false, Value.bool false, Value.bool false, Value.bool false, Value.bool false, Value.bool false, Value.bool false, Value.bool false, Value.bool false, Value.bool false, Value.bool false, Value.bool false, Value.bool false, Value.bool false, Value.bool false, Value.bool false, Value.bool false, Value.bool false, Value.bool false, Value.bool false, Value.bool false, Value.bool false] 37) = W at *
      have lx := cell_lt P.out.c0
      have ly := cell_lt (P.out.ct 0 P.out.n1)
      have hx1 : bc ≠ wr.heap.size := by omega
      have hx2 : bf ≠ wr.heap.size := by omega
      have l3 := Lib.hid (show w.heap.size ≤ wr.heap.size from M.out.size)
      generalize wr.heap.size = bx at *
      have HB := Lib.hid hb
      have P2 := Lib.hid (P.out.mod hma (by simp) (by simp))
      have M2 := Lib.hid (M.out.trans hma)
      have HF := Lib.hid hfair
      have HN0 := hsn
      generalize s.h = h0 at *
      clear hb hma lx ly P M HH hfair hokp a1 hlt
      go_loopw [10, 11] (fun c v wr => ∃ (k : Nat) (s : St) (f : Nat → Bool), k ≤ 1 + m ∧ v = .int .i64 (k : Int) ∧ c = .bool true ∧ PC wr bc bf s ∧ Mod w wr [] ∧ BoxB wr bx f ∧ Hid (Fair s h0 k) ∧ Hid (s.n = 1 + m) ∧ Hid (∀ j, j < s.n → (f j = true ↔ inT s.n h0 k j))) (fun _ v _ => 1 + m - (intOf v).toNat)
      case atStart => exact ⟨0, s, _, Nat.zero_le _, rfl, rfl, P2.out, M2.out, HB.out, HF, HN0, Lib.hid (fun j hj => by
        constructor
        · intro x; cases x
        · rintro ⟨d, hd, _⟩; omega)⟩
      case round =>
        clear P2 M2 HB HF HN0 hsn
        obtain ⟨k, s, f, hk, rfl, rfl, p, mm, hbx, hfa, hsn, hf⟩ := hrel
        have P := Lib.hid p
        have M := Lib.hid mm
        have B := Lib.hid hbx
        clear p mm hbx
        by_cases hlt : k < 1 + m
        · have a1 : decide ((k : Int) < 1 + (m : Int)) = true := by simp; omega
          obtain ⟨e1, e2, e3, e4, e5⟩ := fair_step hfa.out (show k < s.n by have := hsn.out; omega)
          have hi : (h0 + k) % s.n < s.n := Nat.mod_lt _ (by have := hsn.out; omega)
          have hnot : f ((h0 + k) % s.n) = false := by
            cases hx : f ((h0 + k) % s.n) with
            | false => rfl
            | true => exact absurd ((hf.out _ hi).1 hx) (inT_not _ _ _ (by have := hsn.out; omega))
          have hf' : ∀ j, j < s.n → (upd f ((h0 + k) % s.n) true j = true ↔ inT s.n h0 (k + 1) j) := by
            intro j hj
            rw [inT_succ]
            unfold upd
            by_cases e : j = (h0 + k) % s.n
            · simp [e]
            · simp [e, hf.out j hj]
          have hpk := pick_any wr bc bf s P.out
          have hL := fun w h => leave_any w bc bf (pickS s) h ((h0 + k) % s.n : Nat)
          have hT := fun w h => take_any w bc bf (leaveS (pickS s) ((h0 + k) % s.n : Nat)) h ((h0 + k) % s.n : Nat)
          rw [e1, e2] at hpk
          rw [e3] at hL
          rw [e4] at hT
          have en : (takeS (leaveS (pickS s) ((h0 + k) % s.n : Nat)) ((h0 + k) % s.n : Nat)).n = s.n := by rw [take_n, leave_n, pick_n]
          generalize (h0 + k) % s.n = i at *
          generalize pickS s = s1 at *
          generalize leaveS s1 (i : Int) = s2 at *
          generalize takeS s2 (i : Int) = s3 at *
          have hi2 : i < 1 + m := by have := hsn.out; omega
          have hi3 : i < 64 := by omega
          have b1 : decide ((i : Int) < 0) = false := decide_eq_false (by omega)
          have b2 : decide (1 + (m : Int) ≤ (i : Int)) = false := decide_eq_false (by omega)
          have hc := B.out.c i hi3
          rw [hnot] at hc
          have hfz := B.out.fz i
          have Hpk := Lib.hid hpk
          have HLv := Lib.hid hL
          have HTk := Lib.hid hT
          have E5 := Lib.hid e5
          have En := Lib.hid en
          have Hf' := Lib.hid hf'
          clear hpk hL hT e1 e2 e3 e4 e5 en hf' hnot hi
          go_wp2_with fail
          refine Hpk.out.mono ?_
          rintro e w4 ⟨rfl, p4, m4⟩
          have P4 := Lib.hid p4
          have M4 := Lib.hid (M.out.fresh m4 (by have := l1.out; have := l2.out; simp; omega))
          have B4 := Lib.hid (B.out.mod m4 (by simp; exact ⟨fun e => hx1 e.symm, fun e => hx2 e.symm⟩))
          have hc4 := B4.out.c i hi3
          have hfz4 := B4.out.fz i
          have hcf : f i = false := by
            have h1 := B.out.c i hi3
            rw [hc] at h1
            simpa using h1.symm
          rw [hcf] at hc4
          clear p4 m4 hc hfz hcf
          go_wp2_with fail
          have ms : Mod w4 (w4.setCell ⟨bx, i, none⟩ (.bool true)) [bx] := (Mod.refl w4 [bx]).setCell (p := ⟨bx, i, none⟩) (by simp) _
          have P5 := Lib.hid (P4.out.mod ms (by simp; exact hx1) (by simp; exact hx2))
          have M5 := Lib.hid (M4.out.fresh ms (by simp; exact l3.out))
          have B5 := Lib.hid (B4.out.set i true)
          clear ms
          refine (HLv.out _ P5.out).mono ?_
          rintro e w6 ⟨rfl, p6, m6⟩
          have P6 := Lib.hid p6
          have M6 := Lib.hid (M5.out.fresh m6 (by have := l1.out; have := l2.out; simp; omega))
          have B6 := Lib.hid (B5.out.mod m6 (by simp; exact fun e => hx2 e.symm))
          clear p6 m6
          go_wp2_with fail
          refine (HTk.out _ P6.out).mono ?_
          rintro e w7 ⟨rfl, p7, m7⟩
          have P7 := Lib.hid p7
          have M7 := Lib.hid (M6.out.fresh m7 (by have := l1.out; have := l2.out; simp; omega))
          have B7 := Lib.hid (B6.out.mod m7 (by simp; exact fun e => hx2 e.symm))
          clear p7 m7
          go_wp2_with fail
          go_roundw
          case rel => exact ⟨k + 1, s3, upd f i true, by omega, by go_num, rfl, P7.out, M7.out, B7.out, E5, Lib.hid (by rw [En.out]; exact hsn.out), Lib.hid (fun j hj => by rw [En.out] at hj ⊢; exact Hf'.out j hj)⟩
          case measure => simp [intOf]; omega
        · have a1 : decide ((k : Int) < 1 + (m : Int)) = false := by simp; omega
          go_wp2_with fail
          go_ret
          exact ⟨rfl, M.out⟩
end Go.Proofs.Ytffophgdjkpilaa
