/-
  ClockStays returns true, whatever the arguments.
-/
import Derived.Test.YtffophgdjkpilaaLawPicks
namespace Go.Proofs.Ytffophgdjkpilaa
open Go.RowKit Clk
set_option linter.unusedVariables false

/-! plain facts -/
theorem free_le {s : St} {i : Nat} (h : s.t i = false) : freeK s ≤ i := by
  by_cases e : freeK s ≤ i
  · exact e
  · have := first_no (fun k => !s.t k) s.n i (by unfold freeK at e; omega)
    simp [h] at this
theorem stays_plain {s : St} {j : Nat} (h : Ok s j) (hb : pickB s = true) :
    leaveB (touchS (pickS s) (pickI s)) (pickI s) = isT (pickS s) (pickI s) ∧ pickB (leaveS (touchS (pickS s) (pickI s)) (pickI s)) = true ∧ pickI (leaveS (touchS (pickS s) (pickI s)) (pickI s)) ≤ pickI s := by
  obtain ⟨hi, hp⟩ := pick_yes h hb
  have ok1 := (h.pick.touch (pickI s)).leave (pickI s)
  have hpk := pick_pins s
  have hn := pick_n s
  generalize pickI s = i at *
  have ok0 := h.pick
  generalize pickS s = a at *
  have hin : inn a (i : Int) = true := inn_yes (by omega)
  have hpa : a.p i = 0 := by rw [hpk]; exact hp
  have htp : (touchS a (i : Int)).p = a.p := by unfold touchS; split <;> rfl
  have htt : (touchS a (i : Int)).t = a.t := by unfold touchS; split <;> rfl
  have htn := touch_n a (i : Int)
  have h1 : leaveB (touchS a (i : Int)) (i : Int) = isT a (i : Int) := by
    simp [leaveB, isT, inn, htp, htt, htn, hpa]
  have hln : (leaveS (touchS a (i : Int)) (i : Int)).n = a.n := by rw [leave_n, htn]
  have hlp : (leaveS (touchS a (i : Int)) (i : Int)).p = a.p := by unfold leaveS; split <;> exact htp
  have hlt : (leaveS (touchS a (i : Int)) (i : Int)).t i = false := by
    unfold leaveS
    rw [h1]
    cases hx : isT a (i : Int) with
    | true => simp [upd]
    | false => simp [htt]; simpa [isT, hin] using hx
  refine ⟨h1, ?_, ?_⟩
  · rw [pickB_eq ok1]
    exact (some0_iff _).2 ⟨i, by rw [hln]; omega, by rw [hlp]; exact hpa⟩
  · have := free_le hlt
    have hf : freeK (leaveS (touchS a (i : Int)) (i : Int)) < (leaveS (touchS a (i : Int)) (i : Int)).n := by rw [hln]; omega
    unfold pickI
    rw [if_pos hf]; exact this

/-- a row of 64 numbers -/
structure Box (w : World) (bx : Nat) (f : Nat → Nat) : Prop where
  c : ∀ j, j < 64 → w.cell? ⟨bx, j, none⟩ = some (.int .i64 (f j : Int))
  fz : ∀ o, w.frozen? ⟨bx, o, none⟩ = false
theorem Box.mod {w w' : World} {bx : Nat} {f : Nat → Nat} (h : Box w bx f) {bs : List Nat} (m : Mod w w' bs) (hn : bx ∉ bs) : Box w' bx f :=
  ⟨fun j hj => m.cell_of (h.c j hj) hn, fun o => by rw [m.frozen _ _ (cell_lt (h.c 0 (by omega))) hn]; exact h.fz o⟩
theorem Box.set {w : World} {bx : Nat} {f : Nat → Nat} (h : Box w bx f) (k v : Nat) : Box (w.setCell ⟨bx, k, none⟩ (.int .i64 (v : Int))) bx (upd f k v) := by
  refine ⟨fun j hj => ?_, fun o => by rw [frozen_set]; exact h.fz o⟩
  rw [cell_set _ _ _ _ _ _ _ (h.c j hj)]
  unfold upd
  by_cases e : j = k <;> simp [e]
theorem box_new (w : World) : Box (w.alloc (.cells #[Value.int .i64 0, Value.int .i64 0, Value.int .i64 0, Value.int .i64 0, Value.int .i64 0, Value.int .i64 0, Value.int .i64 0, Value.int .i64 0, Value.int .i64 0, Value.int .i64 0, Value.int .i64 0, Value.int .i64 0, Value.int .i64 0, Value.int .i64 0, Value.int .i64 0, Value.int .i64 0, Value.int .i64 0, Value.int .i64 0, Value.int .i64 0, Value.int .i64 0, Value.int .i64 0, Value.int .i64 0, Value.int .i64 0, Value.int .i64 0, Value.int .i64 0, Value.int .i64 0, Value.int .i64 0, Value.int .i64 0, Value.int .i64 0, Value.int .i64 0, Value.int .i64 0, Value.int .i64 0, Value.int .i64 0, Value.int .i64 0, Value.int .i64 0, Value.int .i64 0, Value.int .i64 0, Value.int .i64 0, Value.int .i64 0, Value.int .i64 0, Value.int .i64 0, Value.int .i64 0, Value.int .i64 0, Value.int .i64 0, Value.int .i64 0, Value.int .i64 0, Value.int .i64 0, Value.int .i64 0, Value.int .i64 0, Value.int .i64 0, Value.int .i64 0, Value.int .i64 0, Value.int .i64 0, Value.int .i64 0, Value.int .i64 0, Value.int .i64 0, Value.int .i64 0, Value.int .i64 0, Value.int .i64 0, Value.int .i64 0, Value.int .i64 0, Value.int .i64 0, Value.int .i64 0, Value.int .i64 0] 39)) w.heap.size (fun _ => 0) := by
  refine ⟨fun j hj => ?_, fun o => frozen_alloc _ _ _ _⟩
  rw [cell_alloc]
  rw [show (#[Value.int .i64 0, Value.int .i64 0, Value.int .i64 0, Value.int .i64 0, Value.int .i64 0, Value.int .i64 0, Value.int .i64 0, Value.int .i64 0, Value.int .i64 0, Value.int .i64 0, Value.int .i64 0, Value.int .i64 0, Value.int .i64 0, Value.int .i64 0, Value.int .i64 0, Value.int .i64 0, Value.int .i64 0, Value.int .i64 0, Value.int .i64 0, Value.int .i64 0, Value.int .i64 0, Value.int .i64 0, Value.int .i64 0, Value.int .i64 0, Value.int .i64 0, Value.int .i64 0, Value.int .i64 0, Value.int .i64 0, Value.int .i64 0, Value.int .i64 0, Value.int .i64 0, Value.int .i64 0, Value.int .i64 0, Value.int .i64 0, Value.int .i64 0, Value.int .i64 0, Value.int .i64 0, Value.int .i64 0, Value.int .i64 0, Value.int .i64 0, Value.int .i64 0, Value.int .i64 0, Value.int .i64 0, Value.int .i64 0, Value.int .i64 0, Value.int .i64 0, Value.int .i64 0, Value.int .i64 0, Value.int .i64 0, Value.int .i64 0, Value.int .i64 0, Value.int .i64 0, Value.int .i64 0, Value.int .i64 0, Value.int .i64 0, Value.int .i64 0, Value.int .i64 0, Value.int .i64 0, Value.int .i64 0, Value.int .i64 0, Value.int .i64 0, Value.int .i64 0, Value.int .i64 0, Value.int .i64 0] : Array Value) = Array.replicate 64 (.int .i64 0) from rfl, Array.getElem?_replicate, if_pos hj]
  rfl

theorem law_stays (w : World) (n : Nat) (hn : n < 256) (b : Option Addr) (len cap : Nat) (hmax : len ≤ maxLen) (hL : Ops w b len) :
   Calls Try.prog 6 #[.int .u8 (n : Int), .slice b len cap] w (DidV w (.bool true)) := by
  unfold maxLen at hmax
  by_cases hlen : 200 < len
  · have a0 : decide ((200 : Int) < (len : Int)) = true := by simp; omega
    clear hL
    go_enter Try.func6, Try.ntmps6
    go_wp2_with fail
    refine (known_any _).mono ?_
    rintro e w1 ⟨rfl, m1⟩
    have M1 := Lib.hid m1
    clear m1
    go_wp2_with fail
    go_ret
    exact ⟨rfl, M1.out⟩
  have a0 : decide ((200 : Int) < (len : Int)) = false := by simp; omega
  obtain ⟨m, hm, hm64⟩ : ∃ m : Nat, (n : Int) % 64 = (m : Int) ∧ m < 64 := ⟨n % 64, by omega, by omega⟩
  have hrun := fun w1 h => run_any w1 (1 + (m : Int) - 1) b len cap (by omega) h
  have hmo : manyOf (1 + (m : Int) - 1) = 1 + m := by unfold manyOf; omega
  rw [hmo] at hrun
  have HR := Lib.hid hrun
  have HL := Lib.hid hL
  clear hL hrun hmo
  go_enter Try.func6, Try.ntmps6
  go_wp2_with fail
  refine (known_any _).mono ?_
  rintro e w0 ⟨rfl, m0⟩
  have M0 := Lib.hid m0
  clear m0
  go_wp2_with fail
  refine (HR.out _ (HL.out.mod M0.out)).mono ?_
  rintro e w1 ⟨bc, bf, s, rfl, q1, q2, p1, ok, hns, m1⟩
  have z0 := M0.out.size
  have l1 := Lib.hid (show w.heap.size ≤ bc by omega)
  have l2 := Lib.hid (show w.heap.size ≤ bf by omega)
  have P1 := Lib.hid p1
  have OK := Lib.hid ok
  have Hn := Lib.hid hns
  have M1 := Lib.hid (M0.out.trans m1)
  clear p1 ok hns m1 q1 q2 z0 M0
  go_wp2_with fail
  have hb := box_new w1
  have hma : Mod w1 (w1.alloc (.cells #[Value.int .i64 0, Value.int .i64 0, Value.int .i64 0, Value.int .i64 0, Value.int .i64 0, Value.int .i64 0, Value.int .i64 0, Value.int .i64 0, Value.int .i64 0, Value.int .i64 0, Value.int .i64 0, Value.int .i64 0, Value.int .i64 0, Value.int .i64 0, Value.int .i64 0, Value.int .i64 0, Value.int .i64 0, Value.int .i64 0, Value.int .i64 0, Value.int .i64 0, Value.int .i64 0, Value.int .i64 0, Value.int .i64 0, Value.int .i64 0, Value.int .i64 0, Value.int .i64 0, Value.int .i64 0, Value.int .i64 0, Value.int .i64 0, Value.int .i64 0, Value.int .i64 0, Value.int .i64 0, Value.int .i64 0, Value.int .i64 0, Value.int .i64 0, Value.int .i64 0, Value.int .i64 0, Value.int .i64 0, Value.int .i64 0, Value.int .i64 0, Value.int .i64 0, Value.int .i64 0, Value.int .i64 0, Value.int .i64 0, Value.int .i64 0, Value.int .i64 0, Value.int .i64 0, Value.int .i64 0, Value.int .i64 0, Value.int .i64 0, Value.int .i64 0, Value.int .i64 0, Value.int .i64 0, Value.int .i64 0, Value.int .i64 0, Value.int .i64 0, Value.int .i64 0, Value.int .i64 0, Value.int .i64 0, Value.int .i64 0, Value.int .i64 0, Value.int .i64 0, Value.int .i64 0, Value.int .i64 0] 39)) [] := (Mod.refl _ _).alloc _
  generalize w1.alloc (.cells #[Value.int .i64 0, Value.int .i64 0, Value.int .i64 0, Value.int .i64 0, Value.int .i64 0, Value.int .i64 0, Value.int .i64 0, Value.int .i64 0, Value.int .i64 0, Value.int .i64 0, Value.int .i64 0, Value.int .i64 0, Value.int .i64 0, Value.int .i64 0, Value.int .i64 0, Value.int .i64 0, Value.int .i64 0, Value.int .i64 0, Value.int .i64 0, Value.int .i64 0, Value.int .i64 0, Value.int .i64 0, Value.int .i64 0, Value.int .i64 0, Value.int .i64 0, Value.int .i64 0, Value.int .i64 0, Value.int .i64 0, Value.int .i64 0, Value.int .i64 0, Value.int .i64 0, Value.int .i64 0, Value.int .i64 0, Value.int .i64 0, Value.int .i64 0, Value.int .i64 0, Value.int .i64 0, Value.int .i64 0, Value.int .i64 0, Value.int .i64 0, Value.int .i64 0, Value.int .i64 0, Value.int .i64 0, Value.int .i64 0, Value.int .i64 0, Value.int .i64 0, Value.int .i64 0, Value.int .i64 0, Value.int .i64 0, Value.int .i64 0, Value.int .i64 0, Value.int .i64 0, Value.int .i64 0, Value.int .i64 0, Value.int .i64 0, Value.int .i64 0, Value.int .i64 0, Value.int .i64 0, Value.int .i64 0, Value.int .i64 0, Value.int .i64 0, Value.int .i64 0, Value.int .i64 0, Value.int .i64 0] 39) = W at *
  have lx := cell_lt P1.out.c0
  have ly := cell_lt (P1.out.ct 0 P1.out.n1)
  have hx1 : bc ≠ w1.heap.size := by omega
  have hx2 : bf ≠ w1.heap.size := by omega
  have l3 := Lib.hid (show w.heap.size ≤ w1.heap.size from M1.out.size)
  generalize w1.heap.size = bx at *
  have HB := Lib.hid hb
  have P2 := Lib.hid (P1.out.mod hma (by simp) (by simp))
  have M2 := Lib.hid (M1.out.trans hma)
  clear hb hma lx ly P1 M1
  go_loopw [8] (fun v wr => ∃ (k : Nat) (f : Nat → Nat), k ≤ 1 + m ∧ v = .int .i64 (k : Int) ∧ PC wr bc bf s ∧ Mod w wr [] ∧ Box wr bx f ∧ Hid (∀ j, j < k → f j = s.p j)) (fun v _ => 1 + m - (intOf v).toNat)
  case atStart => exact ⟨0, _, Nat.zero_le _, rfl, P2.out, M2.out, HB.out, Lib.hid (fun j hj => by omega)⟩
  case round =>
    clear P2 M2 HB
    obtain ⟨k, f, hk, rfl, p, mm, hbx, hf⟩ := hrel
    have P := Lib.hid p
    have M := Lib.hid mm
    have B := Lib.hid hbx
    clear p mm hbx
    by_cases hlt : k < 1 + m
    · have hps := pins_any wr bc bf s P.out k
      have hv : pinsV s k = s.p k := by
        have : inn s (k : Int) = true := inn_yes (by have := Hn.out; omega)
        simp [pinsV, this]
      rw [hv] at hps
      have Hps := Lib.hid hps
      have hc := B.out.c k (by omega)
      have hfz := B.out.fz k
      have a1 : decide ((k : Int) < 1 + (m : Int)) = true := by simp; omega
      clear hps hv
      go_wp2_with fail
      refine Hps.out.mono ?_
      rintro e w3 ⟨rfl, rfl⟩
      go_wp2_with fail
      have q1 := P.out.mod ((Mod.refl wr [bx]).setCell (p := ⟨bx, k, none⟩) (by simp) (.int .i64 (s.p k : Int))) (by simp; exact hx1) (by simp; exact hx2)
      have q2 := M.out.fresh ((Mod.refl wr [bx]).setCell (p := ⟨bx, k, none⟩) (by simp) (.int .i64 (s.p k : Int))) (by simp; exact l3.out)
      have q3 := B.out.set k (s.p k)
      go_roundw
      case rel =>
        refine ⟨k + 1, upd f k (s.p k), by omega, by go_num, q1, q2, q3, Lib.hid (fun j hj => ?_)⟩
        unfold upd
        split
        · rename_i e; rw [e]
        · exact hf.out j (by omega)
      case measure => simp [intOf]; omega
    · have a1 : decide ((k : Int) < 1 + (m : Int)) = false := by simp; omega
      have hek : k = 1 + m := by omega
      have Hf : Hid (∀ j, j < 1 + m → f j = s.p j) := Lib.hid (fun j hj => hf.out j (by omega))
      clear hek hf
      have hpk := pick_any wr bc bf s P.out
      have hpi := stays_plain OK.out
      have pin := pick_pins s
      have pn := pick_n s
      have okp := OK.out.pick
      generalize pickS s = s' at *
      generalize pickI s = i at *
      cases hb : pickB s with
      | false =>
        rw [hb] at hpk
        have Hpk := Lib.hid hpk
        have Pin := Lib.hid pin
        have Pn := Lib.hid pn
        clear hpk hpi hb pin pn okp
        go_wp2_with fail
        refine Hpk.out.mono ?_
        rintro e w2 ⟨rfl, p2, m2⟩
        have P2 := Lib.hid p2
        have B2 := Lib.hid (B.out.mod m2 (by simp; exact ⟨fun e => hx1 e.symm, fun e => hx2 e.symm⟩))
        have M2 := Lib.hid (M.out.fresh m2 (by have := l1.out; have := l2.out; simp; omega))
        clear p2 m2 P M B
        go_wp2_with fail
        go_loopw [11] (fun v wr2 => ∃ k : Nat, k ≤ 1 + m ∧ v = .int .i64 (k : Int) ∧ PC wr2 bc bf s' ∧ Box wr2 bx f ∧ Mod w wr2 []) (fun v _ => 1 + m - (intOf v).toNat)
        case atStart => exact ⟨0, Nat.zero_le _, rfl, P2.out, B2.out, M2.out⟩
        case round =>
          clear P2 B2 M2
          obtain ⟨k, hk, rfl, p, hbx, mm⟩ := hrel
          have P := Lib.hid p
          have M := Lib.hid mm
          have B := Lib.hid hbx
          clear p mm hbx
          by_cases hlt : k < 1 + m
          · have hps := pins_any wr.drew bc bf s' (P.out.mod (Mod.refl _ []).drew (by simp) (by simp)) k
            have hv : pinsV s' k = s.p k := by
              have : inn s' (k : Int) = true := inn_yes (by have := Pn.out; have := Hn.out; omega)
              simp [pinsV, this, Pin.out]
            rw [hv] at hps
            have Hps := Lib.hid hps
            have hc := B.out.c k (by omega)
            rw [Hf.out k hlt] at hc
            have a1 : decide ((k : Int) < 1 + (m : Int)) = true := by simp; omega
            have hk64 : k < 64 := by omega
            have hki : (k : Int) < 64 := by omega
            clear hps hv
            go_wp2_with fail
            go_region_held3 (fun w' => w'.cell? ⟨bx, k, none⟩ = some (.int .i64 (s.p k : Int))) (go_keep)
              (first | (go_at_call 11; refine Hps.out.mono ?_; rintro e w3 ⟨rfl, rfl⟩))
            go_wp2_with fail
            go_roundw
            case rel => exact ⟨k + 1, by omega, by go_num, P.out.mod (Mod.refl _ []).drew (by simp) (by simp), B.out.mod (Mod.refl _ []).drew (by simp), M.out.drew⟩
            case measure => simp [intOf]; omega
          · have a1 : decide ((k : Int) < 1 + (m : Int)) = false := by simp; omega
            go_wp2_with fail
            go_ret
            exact ⟨rfl, M.out⟩
      | true =>
        rw [hb] at hpk
        have Hpk := Lib.hid hpk
        have Pin := Lib.hid pin
        have Pn := Lib.hid pn
        obtain ⟨g1, g2, g3⟩ := hpi hb
        have hT := fun w h => touch_any w bc bf s' h i
        have hL := fun w h => leave_any w bc bf (touchS s' i) h i
        have hP := fun w h => pick_any w bc bf (leaveS (touchS s' i) i) h
        rw [g1] at hL
        rw [g2] at hP
        generalize touchS s' (i : Int) = s2 at *
        generalize leaveS s2 (i : Int) = s3 at *
        generalize pickI s3 = again at *
        generalize pickS s3 = s4 at *
        generalize isT s' (i : Int) = x at *
        have HT := Lib.hid hT
        have HL := Lib.hid hL
        have HP := Lib.hid hP
        clear hT hL hP g1 g2
        clear hpk hpi hb pin pn okp
        go_wp2_with fail
        refine Hpk.out.mono ?_
        rintro e w2 ⟨rfl, p2, m2⟩
        have P2 := Lib.hid p2
        have B2 := Lib.hid (B.out.mod m2 (by simp; exact ⟨fun e => hx1 e.symm, fun e => hx2 e.symm⟩))
        have M2 := Lib.hid (M.out.fresh m2 (by have := l1.out; have := l2.out; simp; omega))
        clear p2 m2 P M B
        go_wp2_with fail
        go_loopw [11] (fun v wr2 => ∃ k : Nat, k ≤ 1 + m ∧ v = .int .i64 (k : Int) ∧ PC wr2 bc bf s' ∧ Box wr2 bx f ∧ Mod w wr2 []) (fun v _ => 1 + m - (intOf v).toNat)
        case atStart => exact ⟨0, Nat.zero_le _, rfl, P2.out, B2.out, M2.out⟩
        case round =>
          clear P2 B2 M2
          obtain ⟨k, hk, rfl, p, hbx, mm⟩ := hrel
          have P := Lib.hid p
          have M := Lib.hid mm
          have B := Lib.hid hbx
          clear p mm hbx
          by_cases hlt : k < 1 + m
          · have hps := pins_any wr.drew bc bf s' (P.out.mod (Mod.refl _ []).drew (by simp) (by simp)) k
            have hv : pinsV s' k = s.p k := by
              have : inn s' (k : Int) = true := inn_yes (by have := Pn.out; have := Hn.out; omega)
              simp [pinsV, this, Pin.out]
            rw [hv] at hps
            have Hps := Lib.hid hps
            have hc := B.out.c k (by omega)
            rw [Hf.out k hlt] at hc
            have a1 : decide ((k : Int) < 1 + (m : Int)) = true := by simp; omega
            have hk64 : k < 64 := by omega
            have hki : (k : Int) < 64 := by omega
            clear hps hv
            go_wp2_with fail
            go_region_held3 (fun w' => w'.cell? ⟨bx, k, none⟩ = some (.int .i64 (s.p k : Int))) (go_keep)
              (first | (go_at_call 11; refine Hps.out.mono ?_; rintro e w3 ⟨rfl, rfl⟩))
            go_wp2_with fail
            go_roundw
            case rel => exact ⟨k + 1, by omega, by go_num, P.out.mod (Mod.refl _ []).drew (by simp) (by simp), B.out.mod (Mod.refl _ []).drew (by simp), M.out.drew⟩
            case measure => simp [intOf]; omega
          · have a1 : decide ((k : Int) < 1 + (m : Int)) = false := by simp; omega
            go_wp2_with fail
            refine (HT.out _ P.out).mono ?_
            rintro e w4 ⟨rfl, p4, m4⟩
            have P4 := Lib.hid p4
            have M4 := Lib.hid (M.out.fresh m4 (by have := l1.out; have := l2.out; simp; omega))
            clear p4 m4
            go_wp2_with fail
            refine (HL.out _ P4.out).mono ?_
            rintro e w5 ⟨rfl, p5, m5⟩
            have P5 := Lib.hid p5
            have M5 := Lib.hid (M4.out.fresh m5 (by have := l1.out; have := l2.out; simp; omega))
            clear p5 m5
            go_wp2_with fail
            refine (HP.out _ P5.out).mono ?_
            rintro e w6 ⟨rfl, p6, m6⟩
            have M6 := Lib.hid (M5.out.fresh m6 (by have := l1.out; have := l2.out; simp; omega))
            clear p6 m6
            go_wp2_with fail
            go_ret
            exact ⟨rfl, M6.out⟩
end Go.Proofs.Ytffophgdjkpilaa
