/-
  Pools: a pool, its log and its device; Get of a blank page, whatever the frame that goes holds.
-/
import Derived.Test.YtgjoahddbieliaaGreatMPoolI
namespace Go.Proofs.YtgjoahddbieliaaGreat
open Go.RowKit
set_option linter.unusedVariables false

structure PoolW (w : World) (τ : Tags) (bp bf bd : Nat) (H : PoolH) (L : LogM) (D : Dev) (F : List Fr) (s : Ck.Clk.St) : Prop where
  pool : PoolAt w τ bp bf H F s
  log : LogAt w τ H.bl bd L
  dev : DevAt w τ bd D
theorem PoolW.step {w w' : World} {τ τ' : Tags} {S : Tag → Prop} {bp bf bd : Nat} {H : PoolH} {L : LogM} {D : Dev} {F : List Fr} {s : Ck.Clk.St} (h : PoolW w τ bp bf bd H L D F s) (m : Step w τ w' τ' S) (hs : ∀ g, S g → ¬ PoolTag g ∧ ¬ LogTag g ∧ ¬ DevTag g ∧ g ≠ tData) : PoolW w' τ' bp bf bd H L D F s :=
  ⟨h.pool.step m (fun g hg hS => (hs g hS).1 hg), h.log.step m (fun g hg hS => (hs g hS).2.1 hg), h.dev.step m (fun g hS => (hs g hS).2.2)⟩
theorem PoolW.turn {w w' : World} {τ τ' : Tags} {bp bf bd : Nat} {H : PoolH} {L : LogM} {D : Dev} {F F' : List Fr} {s s' : Ck.Clk.St} (h : PoolW w τ bp bf bd H L D F s) (hp : PoolAt w' τ' bp bf H F' s') (m : Step w τ w' τ' PoolTag) : PoolW w' τ' bp bf bd H L D F' s' :=
  ⟨hp, h.log.step m (fun g hg => pooltag_log hg), h.dev.step m (fun g hg => pooltag_dev hg)⟩
def fillS (s : Ck.Clk.St) (i : Nat) (had : Bool) : Ck.Clk.St := Ck.Clk.pinS (Ck.Clk.touchS (Ck.Clk.takeS (if had then Ck.Clk.leaveS (Ck.Clk.pickS s) i else Ck.Clk.pickS s) i) i) i
theorem pins_le {s : Ck.Clk.St} (i : Int) (h : ∀ k, s.p k ≤ 1000000) : (∀ k, (Ck.Clk.takeS s i).p k ≤ 1000000) ∧ (∀ k, (Ck.Clk.leaveS s i).p k ≤ 1000000) ∧ (∀ k, (Ck.Clk.pickS s).p k ≤ 1000000) ∧ (∀ k, (Ck.Clk.touchS s i).p k ≤ 1000000) := by
  refine ⟨fun k => ?_, fun k => ?_, fun k => ?_, fun k => ?_⟩
  · unfold Ck.Clk.takeS
    split
    · simp only [Ck.Clk.upd]; split
      · omega
      · exact h k
    · exact h k
  · unfold Ck.Clk.leaveS
    split <;> exact h k
  · unfold Ck.Clk.pickS
    split
    · exact h k
    · split <;> exact h k
  · unfold Ck.Clk.touchS
    split <;> exact h k
theorem get_blank {w : World} {τ : Tags} {bp bf bd : Nat} {H : PoolH} {L : LogM} {D : Dev} {F : List Fr} {s : Ck.Clk.St} (h : PoolW w τ bp bf bd H L D F s) (n : Nat) (hn : n < H.n) (hfit : 4 * n + 4 ≤ D.f1.length) (hz : lastTo D n 4 = blank) (hyes : Ck.Clk.pickB s = true) {i : Nat} (hi : Ck.Clk.pickI s = i) {f : Fr} (hf : F[i]? = some f) (hc : f.pg.isSome = true → f.first = 0 ∧ f.n < 4294967296) (hno : whereOf F n = none) (hs : ∀ k, s.p k ≤ 1000000) :
    Calls Tryz.prog 12 #[.pointer (some ⟨bp, 0, none⟩), .int .u32 (n : Int)] w fun e w' => ∃ b τ', e = .returned (.tuple #[.pointer (some ⟨b, 0, none⟩), .int .u16 0]) ∧ PoolW w' τ' bp bf bd H L D (F.set i ⟨some (b, emptyPage n), n, 0⟩) (fillS s i f.pg.isSome) ∧ Step w τ w' τ' PoolTag := by
  have hil := (List.getElem?_eq_some_iff.1 hf).1
  cases hpg : f.pg with
  | none =>
    have hb := bring_new h.pool h.log h.dev n hn hfit hz hyes hi hf hpg hno
    have := get_miss h.pool n hn hno hil hb ((pins_le i ((pins_le i hs).2.2.1)).1)
    refine this.mono ?_
    rintro e w' ⟨b, τ', rfl, hp, hst⟩
    exact ⟨b, τ', rfl, h.turn hp hst, hst⟩
  | some x =>
    obtain ⟨h0, h32⟩ := hc (by rw [hpg]; rfl)
    have hb := bring_over h.pool h.log h.dev n hn hfit hz hyes hi hf hpg h0 h32 hno
    have := get_miss h.pool n hn hno hil hb ((pins_le i (pins_le i ((pins_le i hs).2.2.1)).2.1).1)
    refine this.mono ?_
    rintro e w' ⟨b, τ', rfl, hp, hst⟩
    exact ⟨b, τ', rfl, h.turn hp hst, hst⟩
end Go.Proofs.YtgjoahddbieliaaGreat

/-
  The device: a row of sectors written and synced, where it is not to be halted (plain).
-/
namespace Go.Proofs.YtgjoahddbieliaaGreat
open Go.RowKit
set_option linter.unusedVariables false

/-- the first i of some sectors written, from a on -/
def Dev.writes (D : Dev) (f a : Nat) (ls : List (List Int)) : Nat → Dev
  | 0 => D
  | i + 1 => (D.writes f a ls i).write f (a + i) (ls.getD i [])
def Dev.lay (D : Dev) (f a : Nat) (ls : List (List Int)) : Dev := (D.writes f a ls ls.length).sync f
theorem Dev.writes_length (D : Dev) (f a : Nat) (hf : f < 2) (ls : List (List Int)) (i g : Nat) : ((D.writes f a ls i).file g).length = (D.file g).length := by
  induction i with
  | zero => rfl
  | succ i ih =>
    show (((D.writes f a ls i).write f _ _).file g).length = _
    rw [Dev.write_file _ _ _ hf]; exact ih
theorem Dev.writes_lim {D : Dev} {b : Nat} (h : D.lim b) (f a : Nat) (hf : f < 2) (ls : List (List Int)) (i : Nat) : (D.writes f a ls i).lim (b + i) := by
  induction i with
  | zero => exact h
  | succ i ih => exact Dev.lim_write ih f _ hf _
theorem Dev.lay_length (D : Dev) (f a : Nat) (hf : f < 2) (ls : List (List Int)) (g : Nat) : ((D.lay f a ls).file g).length = (D.file g).length := by
  unfold Dev.lay
  rw [Dev.sync_file _ _ hf, Dev.writes_length _ _ _ hf]
theorem Dev.lay_lim {D : Dev} {b : Nat} (h : D.lim b) (f a : Nat) (hf : f < 2) (ls : List (List Int)) : (D.lay f a ls).lim (b + ls.length) := Dev.lim_sync (Dev.writes_lim h f a hf ls _) f hf

/-- nothing halts it, nothing waits -/
structure Dev.Calm (D : Dev) : Prop where
  left : D.left = none
  waits : ∀ (f k : Nat) (s : Sec), (D.file f)[k]? = some s → s.waits = []
theorem Dev.go_free {D : Dev} (h : D.left = none) : D.go = (true, D) := by unfold Dev.go; rw [h]
theorem Dev.write_free {D : Dev} (h : D.left = none) (f k : Nat) (l : List Int) : (D.write f k l).left = none := by
  unfold Dev.write
  rw [Dev.go_free h, if_pos rfl]
  cases (D.file f)[k]? with
  | none => exact h
  | some s => show (Dev.put _ _ _).left = none; unfold Dev.put; split <;> (try split) <;> exact h
theorem Dev.sync_free {D : Dev} (h : D.left = none) (f : Nat) : (D.sync f).left = none := by
  unfold Dev.sync
  rw [Dev.go_free h, if_pos rfl]
  show (Dev.put _ _ _).left = none; unfold Dev.put; split <;> (try split) <;> exact h
theorem Dev.write_get {D : Dev} (h : D.left = none) {f : Nat} (hf : f < 2) (k : Nat) (l : List Int) (g j : Nat) : ((D.write f k l).file g)[j]? = if g = f ∧ j = k then (D.file g)[j]?.map (fun s => s.add l) else (D.file g)[j]? := by
  unfold Dev.write
  rw [Dev.go_free h, if_pos rfl]
  cases hs : (D.file f)[k]? with
  | none =>
    show (D.file g)[j]? = _
    by_cases e : g = f ∧ j = k
    · rw [if_pos e, e.1, e.2, hs]; rfl
    · rw [if_neg e]
  | some s =>
    show ((Dev.put D f _).file g)[j]? = _
    rw [Dev.put_file _ _ hf]
    by_cases eg : g = f
    · rw [if_pos eg]
      by_cases e : j = k
      · rw [if_pos ⟨eg, e⟩, e, eg, hs, List.getElem?_set_self (List.getElem?_eq_some_iff.1 hs).1]; rfl
      · rw [if_neg (fun q => e q.2), List.getElem?_set_ne (fun q => e q.symm), eg]
    · rw [if_neg eg, if_neg (fun q => eg q.1)]
theorem Dev.sync_get {D : Dev} (h : D.left = none) {f : Nat} (hf : f < 2) (g j : Nat) : ((D.sync f).file g)[j]? = if g = f then (D.file g)[j]?.map Sec.sync else (D.file g)[j]? := by
  unfold Dev.sync
  rw [Dev.go_free h, if_pos rfl]
  show ((Dev.put D f _).file g)[j]? = _
  rw [Dev.put_file _ _ hf]
  by_cases eg : g = f
  · rw [if_pos eg, if_pos eg, List.getElem?_map, eg]
  · rw [if_neg eg, if_neg eg]
theorem Sec.add_newest (s : Sec) (l : List Int) : (s.add l).newest = l := by
  show (s.waits ++ [l]).getLastD s.last = l
  rw [List.getLastD_eq_getLast?, List.getLast?_append]; rfl
theorem Dev.last_write {D : Dev} (h : D.left = none) {f : Nat} (hf : f < 2) {k : Nat} (hk : k < (D.file f).length) (l : List Int) (g j : Nat) : (D.write f k l).last g j = if g = f ∧ j = k then l else D.last g j := by
  unfold Dev.last
  rw [Dev.write_get h hf]
  by_cases e : g = f ∧ j = k
  · rw [if_pos e, if_pos e, e.1, e.2, List.getElem?_eq_getElem hk]
    show (Sec.add _ l).newest = l
    exact Sec.add_newest _ _
  · rw [if_neg e, if_neg e]
theorem Dev.last_sync {D : Dev} (h : D.left = none) {f : Nat} (hf : f < 2) (g j : Nat) : (D.sync f).last g j = D.last g j := by
  unfold Dev.last
  rw [Dev.sync_get h hf]
  by_cases e : g = f
  · rw [if_pos e]
    cases (D.file g)[j]? with
    | none => rfl
    | some s => rfl
  · rw [if_neg e]
theorem Dev.writes_free {D : Dev} (h : D.left = none) (f a : Nat) (ls : List (List Int)) (i : Nat) : (D.writes f a ls i).left = none := by
  induction i with
  | zero => exact h
  | succ i ih => exact Dev.write_free ih _ _ _
theorem Dev.lay_free {D : Dev} (h : D.left = none) (f a : Nat) (ls : List (List Int)) : (D.lay f a ls).left = none := Dev.sync_free (Dev.writes_free h _ _ _ _) _
theorem Dev.last_writes {D : Dev} (h : D.left = none) {f : Nat} (hf : f < 2) (a : Nat) (ls : List (List Int)) (i : Nat) (hi : a + i ≤ (D.file f).length) (g j : Nat) : (D.writes f a ls i).last g j = if g = f ∧ a ≤ j ∧ j < a + i then ls.getD (j - a) [] else D.last g j := by
  induction i with
  | zero => rw [if_neg (by omega)]; rfl
  | succ i ih =>
    show ((D.writes f a ls i).write f (a + i) (ls.getD i [])).last g j = _
    rw [Dev.last_write (Dev.writes_free h _ _ _ _) hf (by rw [Dev.writes_length _ _ _ hf]; omega), ih (by omega)]
    by_cases e : g = f ∧ j = a + i
    · rw [if_pos e, if_pos ⟨e.1, by omega, by omega⟩, e.2, Nat.add_sub_cancel_left]
    · rw [if_neg e]
      by_cases e2 : g = f ∧ a ≤ j ∧ j < a + i
      · rw [if_pos e2, if_pos ⟨e2.1, e2.2.1, by omega⟩]
      · rw [if_neg e2, if_neg (by omega)]
theorem Dev.last_lay {D : Dev} (h : D.left = none) {f : Nat} (hf : f < 2) (a : Nat) (ls : List (List Int)) (hi : a + ls.length ≤ (D.file f).length) (g j : Nat) : (D.lay f a ls).last g j = if g = f ∧ a ≤ j ∧ j < a + ls.length then ls.getD (j - a) [] else D.last g j := by
  unfold Dev.lay
  rw [Dev.last_sync (Dev.writes_free h _ _ _ _) hf, Dev.last_writes h hf a ls _ hi]
theorem Dev.writes_other {D : Dev} (h : D.left = none) {f : Nat} (hf : f < 2) (a : Nat) (ls : List (List Int)) (i g : Nat) (hg : g ≠ f) (j : Nat) : ((D.writes f a ls i).file g)[j]? = (D.file g)[j]? := by
  induction i with
  | zero => rfl
  | succ i ih =>
    show (((D.writes f a ls i).write f _ _).file g)[j]? = _
    rw [Dev.write_get (Dev.writes_free h _ _ _ _) hf, if_neg (fun q => hg q.1)]; exact ih
theorem Dev.Calm.lay {D : Dev} (h : D.Calm) {f : Nat} (hf : f < 2) (a : Nat) (ls : List (List Int)) : (D.lay f a ls).Calm := by
  refine ⟨Dev.lay_free h.left _ _ _, fun g k s hs => ?_⟩
  unfold Dev.lay at hs
  rw [Dev.sync_get (Dev.writes_free h.left _ _ _ _) hf] at hs
  by_cases e : g = f
  · rw [if_pos e] at hs
    obtain ⟨s', _, rfl⟩ := Option.map_eq_some_iff.1 hs
    rfl
  · rw [if_neg e, Dev.writes_other h.left hf _ _ _ _ e] at hs
    exact h.waits g k s hs
theorem Dev.Calm.lim {D : Dev} (h : D.Calm) (b : Nat) : D.lim b := fun f k s hs => by rw [h.waits f k s hs]; exact Nat.zero_le _
theorem lastTo_ext {D E : Dev} {n m : Nat} (h : ∀ i, i < 4 → D.last 1 (4 * n + i) = E.last 1 (4 * m + i)) : lastTo D n 4 = lastTo E m 4 := by
  unfold lastTo
  refine List.map_congr_left (fun k hk => h k (List.mem_range.1 hk))
/-- a page's sectors behind they are laid -/
theorem lastTo_lay {D : Dev} (h : D.left = none) (n : Nat) (ls : List (List Int)) (hl : ls.length = 4) (hi : 4 * n + 4 ≤ D.f1.length) (m : Nat) : lastTo (D.lay 1 (4 * n) ls) m 4 = if m = n then ls else lastTo D m 4 := by
  have hlay := fun j => Dev.last_lay h (f := 1) (by omega) (4 * n) ls (by rw [hl]; exact hi) 1 j
  by_cases e : m = n
  · rw [if_pos e]
    apply List.ext_getElem?
    intro i
    by_cases hi4 : i < 4
    · have e1 : (lastTo (D.lay 1 (4 * n) ls) m 4)[i]? = some ((D.lay 1 (4 * n) ls).last 1 (4 * m + i)) := by
        unfold lastTo
        rw [List.getElem?_map, List.getElem?_range hi4]; rfl
      rw [e1, hlay, if_pos ⟨rfl, by omega, by omega⟩, show 4 * m + i - 4 * n = i by omega, List.getD_eq_getElem?_getD, List.getElem?_eq_getElem (by omega)]; rfl
    · rw [List.getElem?_eq_none (by rw [lastTo_length]; omega), List.getElem?_eq_none (by omega)]
  · rw [if_neg e]
    refine lastTo_ext (fun i hi4 => ?_)
    rw [hlay, if_neg (by omega)]
theorem lastTo_lay0 {D : Dev} (h : D.left = none) (a : Nat) (ls : List (List Int)) (hi : a + ls.length ≤ D.f0.length) (m : Nat) : lastTo (D.lay 0 a ls) m 4 = lastTo D m 4 :=
  lastTo_ext (fun i _ => by rw [Dev.last_lay h (f := 0) (by omega) a ls hi, if_neg (by omega)])
end Go.Proofs.YtgjoahddbieliaaGreat

/-
  Pools that are filled page by page, in plain Lean: which frame goes, in the chapter's example and where all frames are got.
-/
namespace Go.Proofs.YtgjoahddbieliaaGreat
open Go.RowKit
set_option linter.unusedVariables false

/-- the first i of k frames hold a page each, as they were counted -/
structure FirstF (k i : Nat) (F : List Fr) : Prop where
  len : F.length = k
  has : ∀ j, j < i → ∃ b, F[j]? = some ⟨some (b, emptyPage j), j, 0⟩
  no : ∀ j, i ≤ j → j < k → F[j]? = some Fr.no
theorem FirstF.start (k : Nat) : FirstF k 0 (List.replicate k Fr.no) :=
  ⟨List.length_replicate, fun j hj => absurd hj (by omega), fun j _ hj => by rw [List.getElem?_replicate, if_pos hj]⟩
theorem FirstF.next {k i : Nat} {F : List Fr} (h : FirstF k i F) (hi : i < k) (b : Nat) : FirstF k (i + 1) (F.set i ⟨some (b, emptyPage i), i, 0⟩) := by
  refine ⟨by rw [List.length_set]; exact h.len, fun j hj => ?_, fun j hj hk => ?_⟩
  · by_cases e : i = j
    · subst e
      exact ⟨b, by rw [List.getElem?_set_self (by rw [h.len]; exact hi)]⟩
    · obtain ⟨c, hc⟩ := h.has j (by omega)
      exact ⟨c, by rw [List.getElem?_set_ne e]; exact hc⟩
  · rw [List.getElem?_set_ne (by omega)]; exact h.no j (by omega) hk
theorem FirstF.clean {k i : Nat} {F : List Fr} (h : FirstF k i F) : ∀ f ∈ F, f.first = 0 := by
  intro f hf
  obtain ⟨j, hj, rfl⟩ := List.getElem_of_mem hf
  by_cases e : j < i
  · obtain ⟨b, hb⟩ := h.has j e
    rw [List.getElem?_eq_getElem hj] at hb
    rw [Option.some.inj hb]
  · have := h.no j (by omega) (by rw [← h.len]; exact hj)
    rw [List.getElem?_eq_getElem hj] at this
    rw [Option.some.inj this]; rfl
theorem FirstF.yes {k i : Nat} {F : List Fr} (h : FirstF k i F) (one : OneHas F) (n : Nat) (hn : n < i) : whereOf F n = some n := by
  obtain ⟨b, hb⟩ := h.has n hn
  exact (whereOf_iff one n n).2 ⟨_, hb, by simp [Fr.has]⟩
theorem FirstF.not {k i : Nat} {F : List Fr} (h : FirstF k i F) (one : OneHas F) (n : Nat) (hn : i ≤ n) : whereOf F n = none := by
  cases hw : whereOf F n with
  | none => rfl
  | some j =>
    obtain ⟨f, hf, hh⟩ := (whereOf_iff one n j).1 hw
    by_cases e : j < i
    · obtain ⟨b, hb⟩ := h.has j e
      rw [hf] at hb; cases hb
      simp only [Fr.has, Bool.and_eq_true, beq_iff_eq] at hh
      omega
    · have := h.no j (by omega) (by rw [← h.len]; exact (List.getElem?_eq_some_iff.1 hf).1)
      rw [hf] at this; cases this
      simp [Fr.has, Fr.no] at hh

open Ck.Clk
def putS (s : St) (i : Nat) : St := if pinsV s i = 0 then s else unpinS s i
/-- the chapter's example: page after page is got and put -/
def knS : Nat → St
  | 0 => newS 3
  | i + 1 => putS (fillS (knS i) i false) i
theorem knS_pick : ∀ i, i < 3 → pickB (knS i) = true ∧ pickI (knS i) = i := by decide +kernel
theorem knS_put : ∀ i, i < 3 → pinsV (fillS (knS i) i false) i ≠ 0 ∧ unpinB (fillS (knS i) i false) i = true := by decide +kernel
theorem knS_3 : pickB (knS 3) = true ∧ pickI (knS 3) = 0 := by decide +kernel
def hitS (s : St) (i : Nat) : St := pinS (touchS s i) i
theorem knS_full : pickB (hitS (hitS (fillS (knS 3) 0 true) 1) 2) = false := by decide +kernel
/-- all frames are got -/
def allS (k : Nat) : Nat → St
  | 0 => newS k
  | i + 1 => fillS (allS k i) i false
theorem allS_pick : ∀ k, k < 8 → ∀ i, i < k → pickB (allS k i) = true ∧ pickI (allS k i) = i := by decide +kernel
theorem allS_full : ∀ k, k < 8 → pickB (allS k k) = false := by decide +kernel
theorem allS_put : ∀ k, k < 8 → 2 ≤ k → pinsV (pickS (allS k k)) 1 ≠ 0 ∧ unpinB (pickS (allS k k)) 1 = true := by decide +kernel
theorem allS_again : ∀ k, k < 8 → 2 ≤ k → pickB (unpinS (pickS (allS k k)) 1) = true ∧ pickI (unpinS (pickS (allS k k)) 1) = 1 := by decide +kernel
theorem pins_bound (s : St) (c : Nat) (h : ∀ k, s.p k ≤ c) (i : Nat) : (∀ b k, (fillS s i b).p k ≤ c + 1) ∧ (∀ k, (putS s i).p k ≤ c) ∧ (∀ k, (hitS s i).p k ≤ c + 1) ∧ (∀ k, (pickS s).p k ≤ c) ∧ (∀ k, (unpinS s i).p k ≤ c) := by
  have hpick : ∀ (s : St), (∀ k, s.p k ≤ c) → ∀ k, (pickS s).p k ≤ c := fun s h k => by
    unfold pickS
    split
    · exact h k
    · split <;> exact h k
  have htouch : ∀ (s : St) (i : Int), (∀ k, s.p k ≤ c) → ∀ k, (touchS s i).p k ≤ c := fun s i h k => by unfold touchS; split <;> exact h k
  have hleave : ∀ (s : St) (i : Int), (∀ k, s.p k ≤ c) → ∀ k, (leaveS s i).p k ≤ c := fun s i h k => by unfold leaveS; split <;> exact h k
  have htake : ∀ (s : St) (i : Int), (∀ k, s.p k ≤ c) → ∀ k, (takeS s i).p k ≤ c := fun s i h k => by
    unfold takeS
    split
    · simp only [upd]; split
      · omega
      · exact h k
    · exact h k
  have hpin : ∀ (s : St) (i : Int), (∀ k, s.p k ≤ c) → ∀ k, (pinS s i).p k ≤ c + 1 := fun s i h k => by
    unfold pinS
    split
    · simp only [upd]; split
      · have := h i.toNat; omega
      · have := h k; omega
    · have := h k; omega
  have hunpin : ∀ (s : St) (i : Int), (∀ k, s.p k ≤ c) → ∀ k, (unpinS s i).p k ≤ c := fun s i h k => by
    unfold unpinS
    split
    · simp only [upd]; split
      · have := h i.toNat; omega
      · exact h k
    · exact h k
  refine ⟨fun b => ?_, ?_, hpin _ _ (htouch _ _ h), hpick _ h, hunpin _ _ h⟩
  · unfold fillS
    refine hpin _ _ (htouch _ _ (htake _ _ ?_))
    split
    · exact hleave _ _ (hpick _ h)
    · exact hpick _ h
  · unfold putS
    split
    · exact h
    · exact hunpin _ _ h
theorem knS_bound : ∀ i, ∀ k, (knS i).p k ≤ i := by
  intro i
  induction i with
  | zero => intro k; exact Nat.le_refl _
  | succ i ih => exact (pins_bound _ _ ((pins_bound _ _ ih i).1 false) i).2.1
theorem allS_bound (m : Nat) : ∀ i, ∀ k, (allS m i).p k ≤ i := by
  intro i
  induction i with
  | zero => intro k; exact Nat.le_refl _
  | succ i ih => exact (pins_bound _ _ ih i).1 false
end Go.Proofs.YtgjoahddbieliaaGreat
