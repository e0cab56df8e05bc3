/-
  What a clock is, in plain Lean: which frames are taken, used, how often pinned, where the hand is; and what its calls make of it. No program in sight.
-/
import Derived.Test.YtgjoahddbieliaaGreatProg
import Derived.WalkKit
import Derived.ProofKit
import Derived.BigQuiet
import Derived.Deep.QuietTactic
import Derived.RegionTactic
import Derived.ChangeAlike
import Derived.Outline
import Derived.Lib.Hide
namespace Go.Proofs.YtgjoahddbieliaaGreat.Ck.Clk

/-- n frames: taken, used, pins; the hand -/
structure St where
  n : Nat
  t : Nat → Bool
  u : Nat → Bool
  p : Nat → Nat
  h : Nat

def newS (n : Nat) : St := ⟨n, fun _ => false, fun _ => false, fun _ => 0, 0⟩
def upd {α : Type} (f : Nat → α) (k : Nat) (v : α) : Nat → α := fun j => if j = k then v else f j
theorem upd_same {α : Type} (f : Nat → α) (k : Nat) (v : α) : upd f k v k = v := by simp [upd]
theorem upd_ne {α : Type} (f : Nat → α) (k j : Nat) (v : α) (h : j ≠ k) : upd f k v j = f j := by simp [upd, h]

/-- a frame by an int: there is one, and which -/
def inn (s : St) (i : Int) : Bool := decide (0 ≤ i) && decide (i < (s.n : Int))
/-- it is there, and taken -/
def isT (s : St) (i : Int) : Bool := inn s i && s.t i.toNat

def takeB (s : St) (i : Int) : Bool := inn s i && !s.t i.toNat
def takeS (s : St) (i : Int) : St := if takeB s i then { s with t := upd s.t i.toNat true, u := upd s.u i.toNat true, p := upd s.p i.toNat 0 } else s
def leaveB (s : St) (i : Int) : Bool := isT s i && decide (s.p i.toNat = 0)
def leaveS (s : St) (i : Int) : St := if leaveB s i then { s with t := upd s.t i.toNat false, u := upd s.u i.toNat false } else s
def touchS (s : St) (i : Int) : St := if isT s i then { s with u := upd s.u i.toNat true } else s
def pinS (s : St) (i : Int) : St := if isT s i then { s with p := upd s.p i.toNat (s.p i.toNat + 1) } else s
def unpinB (s : St) (i : Int) : Bool := isT s i && decide (s.p i.toNat ≠ 0)
def unpinS (s : St) (i : Int) : St := if unpinB s i then { s with p := upd s.p i.toNat (s.p i.toNat - 1) } else s
def pinsV (s : St) (i : Int) : Nat := if inn s i then s.p i.toNat else 0

/-- the first k below n with f k; n, if there is none -/
def first (f : Nat → Bool) : Nat → Nat
  | 0 => 0
  | n + 1 => if first f n < n then first f n else if f n then n else n + 1

theorem first_le (f : Nat → Bool) (n : Nat) : first f n ≤ n := by
  induction n with
  | zero => exact Nat.le_refl _
  | succ n ih => simp only [first]; split <;> (try split) <;> omega
theorem first_yes (f : Nat → Bool) (n : Nat) (h : first f n < n) : f (first f n) = true := by
  induction n with
  | zero => omega
  | succ n ih =>
    simp only [first] at h ⊢
    split
    · rename_i h1; exact ih h1
    · rename_i h1; rw [if_neg h1] at h; split
      · assumption
      · rename_i h2; rw [if_neg h2] at h; omega
theorem first_no (f : Nat → Bool) (n : Nat) : ∀ k, k < first f n → f k = false := by
  induction n with
  | zero => intro k hk; simp [first] at hk
  | succ n ih =>
    intro k hk
    simp only [first] at hk
    split at hk
    · exact ih k hk
    · rename_i h1
      have hle := first_le f n
      split at hk
      · exact ih k (by omega)
      · rename_i h2
        by_cases e : k = n
        · subst e; simpa using h2
        · exact ih k (by omega)
theorem first_eq (f : Nat → Bool) (n k : Nat) (hk : k < n) (hy : f k = true) (hno : ∀ j, j < k → f j = false) : first f n = k := by
  have h1 : ¬ k < first f n := fun h => by have := first_no f n k h; rw [hy] at this; cases this
  by_cases h2 : first f n < k
  · have := first_yes f n (by omega); rw [hno _ h2] at this; cases this
  · omega
theorem first_none (f : Nat → Bool) (n : Nat) (hno : ∀ j, j < n → f j = false) : first f n = n := by
  by_cases h2 : first f n < n
  · have := first_yes f n h2; rw [hno _ h2] at this; cases this
  · have := first_le f n; omega

/-- the hand goes round: fuel rounds at most; the used bits, the hand, the frame -/
def turn (n : Nat) (p : Nat → Nat) : Nat → (Nat → Bool) → Nat → (Nat → Bool) × Nat × Nat
  | 0, u, h => (u, h, 0)
  | f + 1, u, h => if p h = 0 then (if u h then turn n p f (upd u h false) ((h + 1) % n) else (u, (h + 1) % n, h)) else turn n p f u ((h + 1) % n)

/-- how many of the first n hold -/
def cnt (f : Nat → Bool) : Nat → Nat
  | 0 => 0
  | n + 1 => cnt f n + if f n then 1 else 0
theorem cnt_le (f : Nat → Bool) (n : Nat) : cnt f n ≤ n := by
  induction n with
  | zero => exact Nat.le_refl _
  | succ n ih => simp only [cnt]; split <;> omega
theorem cnt_congr (f g : Nat → Bool) (n : Nat) (h : ∀ k, k < n → f k = g k) : cnt f n = cnt g n := by
  induction n with
  | zero => rfl
  | succ n ih => simp only [cnt]; rw [ih (fun k hk => h k (by omega)), h n (by omega)]
/-- one less -/
theorem cnt_less (f g : Nat → Bool) (n k : Nat) (hk : k < n) (hf : f k = true) (hg : g k = false) (h : ∀ j, j ≠ k → f j = g j) : cnt g n + 1 = cnt f n := by
  induction n with
  | zero => omega
  | succ n ih =>
    simp only [cnt]
    by_cases e : k = n
    · subst e
      rw [cnt_congr g f k (fun j hj => (h j (by omega)).symm), hf, hg]; simp
    · have := ih (by omega)
      rw [h n (fun q => e q.symm)]; omega

/-- how far the hand is from a frame that is not pinned -/
def dist (n : Nat) (p : Nat → Nat) (h : Nat) : Nat := first (fun d => decide (p ((h + d) % n) = 0)) n
def mes (n : Nat) (p : Nat → Nat) (u : Nat → Bool) (h : Nat) : Nat := cnt (fun k => u k && decide (p k = 0)) n * n + dist n p h
/-- some frame is not pinned -/
def some0 (s : St) : Bool := decide (first (fun k => decide (s.p k = 0)) s.n < s.n)
theorem some0_iff (s : St) : some0 s = true ↔ ∃ k, k < s.n ∧ s.p k = 0 := by
  unfold some0
  constructor
  · intro h
    have h := of_decide_eq_true h
    have := first_yes _ _ h
    exact ⟨_, h, by simpa using this⟩
  · rintro ⟨k, hk, hp⟩
    refine decide_eq_true ?_
    have := first_le (fun k => decide (s.p k = 0)) s.n
    by_cases e : first (fun k => decide (s.p k = 0)) s.n < s.n
    · exact e
    · have := first_no (fun k => decide (s.p k = 0)) s.n k (by omega)
      simp [hp] at this
theorem dist_lt (n : Nat) (p : Nat → Nat) (h : Nat) (hn : 0 < n) (k : Nat) (hk : k < n) (hp : p k = 0) : dist n p h < n := by
  have hle := first_le (fun d => decide (p ((h + d) % n) = 0)) n
  by_cases e : dist n p h < n
  · exact e
  · exfalso
    have hd : (n - h % n + k) % n < n := Nat.mod_lt _ hn
    have := first_no (fun d => decide (p ((h + d) % n) = 0)) n ((n - h % n + k) % n) (by unfold dist at e; omega)
    have hh : (h + (n - h % n + k) % n) % n = k := by
      rw [Nat.add_mod, Nat.mod_mod, ← Nat.add_mod]
      have h1 : h % n < n := Nat.mod_lt _ hn
      have h2 : h = n * (h / n) + h % n := (Nat.div_add_mod h n).symm
      have h3 : h + (n - h % n + k) = k + n * (h / n + 1) := by rw [Nat.mul_add]; omega
      rw [h3, Nat.add_mul_mod_self_left, Nat.mod_eq_of_lt hk]
    simp [hh, hp] at this
theorem dist_zero (n : Nat) (p : Nat → Nat) (h : Nat) (hh : h < n) (hp : p h = 0) : dist n p h = 0 :=
  first_eq _ _ _ (by omega) (by simp [Nat.mod_eq_of_lt hh, hp]) (fun j hj => by omega)
theorem dist_next (n : Nat) (p : Nat → Nat) (h : Nat) (hh : h < n) (hp : p h ≠ 0) (k : Nat) (hk : k < n) (hp0 : p k = 0) : dist n p ((h + 1) % n) + 1 = dist n p h := by
  have hd := dist_lt n p h (by omega) k hk hp0
  have hy := first_yes (fun d => decide (p ((h + d) % n) = 0)) n hd
  have hno := first_no (fun d => decide (p ((h + d) % n) = 0)) n
  have hpos : dist n p h ≠ 0 := by
    intro e
    unfold dist at e
    rw [e] at hy
    simp [Nat.mod_eq_of_lt hh] at hy
    exact hp hy
  have key : dist n p ((h + 1) % n) = dist n p h - 1 := by
    refine first_eq _ _ _ (by omega) ?_ ?_
    · have : ((h + 1) % n + (dist n p h - 1)) % n = (h + dist n p h) % n := by
        rw [Nat.add_mod, Nat.mod_mod, ← Nat.add_mod]; congr 1; omega
      simp only [this]; exact hy
    · intro j hj
      have : ((h + 1) % n + j) % n = (h + (j + 1)) % n := by
        rw [Nat.add_mod, Nat.mod_mod, ← Nat.add_mod]; congr 1; omega
      simp only [this]
      exact hno (j + 1) (by unfold dist at hj; omega)
  omega
/-- each round is one nearer to the end -/
theorem mes_pinned (n : Nat) (p : Nat → Nat) (u : Nat → Bool) (h : Nat) (hh : h < n) (hp : p h ≠ 0) (k : Nat) (hk : k < n) (hp0 : p k = 0) :
    mes n p u ((h + 1) % n) < mes n p u h := by
  have := dist_next n p h hh hp k hk hp0
  unfold mes; omega
theorem mes_used (n : Nat) (p : Nat → Nat) (u : Nat → Bool) (h : Nat) (hh : h < n) (hp : p h = 0) (hu : u h = true) :
    mes n p (upd u h false) ((h + 1) % n) < mes n p u h := by
  have h1 := dist_lt n p ((h + 1) % n) (by omega) h hh hp
  have h2 := dist_zero n p h hh hp
  have h3 := cnt_less (fun k => u k && decide (p k = 0)) (fun k => upd u h false k && decide (p k = 0)) n h hh (by simp [hu, hp]) (by simp [upd]) (fun j hj => by simp [upd, hj])
  unfold mes
  rw [← h3, Nat.add_mul]; omega

theorem turn_more (n : Nat) (p : Nat → Nat) (k : Nat) (hk : k < n) (hp0 : p k = 0) : ∀ (f g : Nat) (u : Nat → Bool) (h : Nat), h < n → mes n p u h < f → mes n p u h < g → turn n p f u h = turn n p g u h := by
  intro f
  induction f with
  | zero => intro g u h _ h1; omega
  | succ f ih =>
    intro g u h hh h1 h2
    cases g with
    | zero => omega
    | succ g =>
      have hm : (h + 1) % n < n := Nat.mod_lt _ (by omega)
      simp only [turn]
      by_cases hp : p h = 0
      · simp only [hp, if_true]
        cases hu : u h with
        | false => simp
        | true =>
          have := mes_used n p u h hh hp hu
          simp only [if_true]
          exact ih _ _ _ hm (by omega) (by omega)
      · have := mes_pinned n p u h hh hp k hk hp0
        simp only [hp, if_false]
        exact ih _ _ _ hm (by omega) (by omega)
theorem mes_bound (n : Nat) (p : Nat → Nat) (u : Nat → Bool) (h : Nat) (hn : n ≤ 64) : mes n p u h < 5000 := by
  unfold mes
  have h1 := cnt_le (fun k => u k && decide (p k = 0)) n
  have h2 := first_le (fun d => decide (p ((h + d) % n) = 0)) n
  have h3 : cnt (fun k => u k && decide (p k = 0)) n * n ≤ 64 * 64 := Nat.mul_le_mul (by omega) hn
  unfold dist; omega
theorem turn_succ (n : Nat) (p : Nat → Nat) (f : Nat) (u : Nat → Bool) (h : Nat) : turn n p (f + 1) u h =
    if p h = 0 then (if u h then turn n p f (upd u h false) ((h + 1) % n) else (u, (h + 1) % n, h)) else turn n p f u ((h + 1) % n) := rfl
/-- the hand goes round till it comes to a frame (more rounds than are ever wanted) -/
def goesF (F n : Nat) (p : Nat → Nat) (u : Nat → Bool) (h : Nat) : (Nat → Bool) × Nat × Nat := turn n p (F + 1) u h
theorem goesF_pinned (F n : Nat) (p : Nat → Nat) (u : Nat → Bool) (h : Nat) (hF : mes n p u h < F) (hh : h < n) (hp : p h ≠ 0) (k : Nat) (hk : k < n) (hp0 : p k = 0) :
    goesF F n p u h = goesF F n p u ((h + 1) % n) := by
  have hm : (h + 1) % n < n := Nat.mod_lt _ (by omega)
  have h2 := mes_pinned n p u h hh hp k hk hp0
  unfold goesF
  rw [turn_succ, if_neg hp]
  exact turn_more n p k hk hp0 _ _ _ _ hm (by omega) (by omega)
theorem goesF_used (F n : Nat) (p : Nat → Nat) (u : Nat → Bool) (h : Nat) (hF : mes n p u h < F) (hh : h < n) (hp : p h = 0) (hu : u h = true) :
    goesF F n p u h = goesF F n p (upd u h false) ((h + 1) % n) := by
  have hm : (h + 1) % n < n := Nat.mod_lt _ (by omega)
  have h2 := mes_used n p u h hh hp hu
  unfold goesF
  rw [turn_succ, if_pos hp, hu, if_pos rfl]
  exact turn_more n p h hh hp _ _ _ _ hm (by omega) (by omega)
theorem goesF_here (F n : Nat) (p : Nat → Nat) (u : Nat → Bool) (h : Nat) (hp : p h = 0) (hu : u h = false) : goesF F n p u h = (u, (h + 1) % n, h) := by
  unfold goesF
  rw [turn_succ, if_pos hp, hu]; rfl
def goes (n : Nat) (p : Nat → Nat) (u : Nat → Bool) (h : Nat) : (Nat → Bool) × Nat × Nat := goesF 5000 n p u h
theorem goes_pinned (n : Nat) (p : Nat → Nat) (u : Nat → Bool) (h : Nat) (hn : n ≤ 64) (hh : h < n) (hp : p h ≠ 0) (k : Nat) (hk : k < n) (hp0 : p k = 0) :
    goes n p u h = goes n p u ((h + 1) % n) := goesF_pinned _ n p u h (mes_bound n p u h hn) hh hp k hk hp0
theorem goes_used (n : Nat) (p : Nat → Nat) (u : Nat → Bool) (h : Nat) (hn : n ≤ 64) (hh : h < n) (hp : p h = 0) (hu : u h = true) :
    goes n p u h = goes n p (upd u h false) ((h + 1) % n) := goesF_used _ n p u h (mes_bound n p u h hn) hh hp hu
theorem goes_here (n : Nat) (p : Nat → Nat) (u : Nat → Bool) (h : Nat) (hp : p h = 0) (hu : u h = false) : goes n p u h = (u, (h + 1) % n, h) := goesF_here _ n p u h hp hu

def freeK (s : St) : Nat := first (fun k => !s.t k) s.n
def pickS (s : St) : St :=
  if freeK s < s.n then s else if some0 s then { s with u := (goes s.n s.p s.u s.h).1, h := (goes s.n s.p s.u s.h).2.1 } else s
def pickI (s : St) : Nat :=
  if freeK s < s.n then freeK s else if some0 s then (goes s.n s.p s.u s.h).2.2 else 0
def pickB (s : St) : Bool := decide (freeK s < s.n) || some0 s

end Go.Proofs.YtgjoahddbieliaaGreat.Ck.Clk

/-
  What a call leaves as it was in memory, and how the program's clock lies in it.
-/
namespace Go.Proofs.YtgjoahddbieliaaGreat.Ck
open Go.RowKit Clk
set_option linter.unusedVariables false

/-- all but the blocks of the list is as it was -/
structure Mod (w w' : World) (bs : List Nat) : Prop where
  os : w'.os = w.os
  tape : w'.tape = w.tape
  output : w'.output = w.output
  size : w.heap.size ≤ w'.heap.size
  block : ∀ k, k < w.heap.size → k ∉ bs → w'.heap[k]? = w.heap[k]?

theorem Mod.refl (w : World) (bs : List Nat) : Mod w w bs := ⟨rfl, rfl, rfl, Nat.le_refl _, fun _ _ _ => rfl⟩
theorem Mod.trans {a b c : World} {bs : List Nat} (h : Mod a b bs) (k : Mod b c bs) : Mod a c bs :=
  ⟨k.os.trans h.os, k.tape.trans h.tape, k.output.trans h.output, Nat.le_trans h.size k.size, fun i hi hn => (k.block i (Nat.lt_of_lt_of_le hi h.size) hn).trans (h.block i hi hn)⟩
theorem Mod.mono {a b : World} {bs cs : List Nat} (h : Mod a b bs) (hs : ∀ k, k ∈ bs → k ∈ cs) : Mod a b cs :=
  ⟨h.os, h.tape, h.output, h.size, fun i hi hn => h.block i hi (fun m => hn (hs i m))⟩
theorem Mod.drew {a w : World} {bs : List Nat} (h : Mod a w bs) : Mod a w.drew bs := ⟨h.os, h.tape, h.output, h.size, h.block⟩
theorem Mod.alloc {a w : World} {bs : List Nat} (h : Mod a w bs) (o : Obj) : Mod a (w.alloc o) bs :=
  h.trans ⟨rfl, rfl, rfl, by simp, fun k hk _ => Below.heap_alloc _ _ _ hk⟩
theorem Mod.setCell {a w : World} {bs : List Nat} (h : Mod a w bs) {p : Addr} (hp : p.block ∈ bs) (v : Value) : Mod a (w.setCell p v) bs :=
  h.trans ⟨rfl, rfl, rfl, by simp [World.setCell], fun k hk hn => Below.heap_setCell _ _ _ _ (fun e => hn (e ▸ hp))⟩
theorem Mod.cell {w w' : World} {bs : List Nat} (h : Mod w w' bs) (b o : Nat) (hb : b < w.heap.size) (hn : b ∉ bs) : w'.cell? ⟨b, o, none⟩ = w.cell? ⟨b, o, none⟩ := by
  simp only [World.cell?, h.block b hb hn]
theorem Mod.frozen {w w' : World} {bs : List Nat} (h : Mod w w' bs) (b o : Nat) (hb : b < w.heap.size) (hn : b ∉ bs) : w'.frozen? ⟨b, o, none⟩ = w.frozen? ⟨b, o, none⟩ := by
  simp only [World.frozen?, h.block b hb hn]
theorem cell_lt {w : World} {b o : Nat} {v : Value} (h : w.cell? ⟨b, o, none⟩ = some v) : b < w.heap.size := by
  unfold World.cell? at h
  by_cases hb : b < w.heap.size
  · exact hb
  · simp [Array.getElem?_eq_none (Nat.le_of_not_lt hb)] at h
theorem Mod.cell_of {w w' : World} {bs : List Nat} (h : Mod w w' bs) {b o : Nat} {v : Value} (hc : w.cell? ⟨b, o, none⟩ = some v) (hn : b ∉ bs) : w'.cell? ⟨b, o, none⟩ = some v := by
  rw [h.cell b o (cell_lt hc) hn]; exact hc

/-- the program's clock: its struct in block bc, its frames' row in block bf -/
structure PC (w : World) (bc bf : Nat) (s : St) : Prop where
  n1 : 1 ≤ s.n
  n64 : s.n ≤ 64
  hh : s.h < s.n
  ne : bc ≠ bf
  c0 : w.cell? ⟨bc, 0, none⟩ = some (.slice (some ⟨bf, 0, none⟩) s.n s.n)
  c1 : w.cell? ⟨bc, 1, none⟩ = some (.int .i64 (s.h : Int))
  fc : ∀ o, w.frozen? ⟨bc, o, none⟩ = false
  ct : ∀ k, k < s.n → w.cell? ⟨bf, k * 3, none⟩ = some (.bool (s.t k))
  cu : ∀ k, k < s.n → w.cell? ⟨bf, k * 3 + 1, none⟩ = some (.bool (s.u k))
  cp : ∀ k, k < s.n → w.cell? ⟨bf, k * 3 + 2, none⟩ = some (.int .i64 (s.p k : Int))
  ff : ∀ o, w.frozen? ⟨bf, o, none⟩ = false

theorem PC.mod {w w' : World} {bc bf : Nat} {s : St} (h : PC w bc bf s) {bs : List Nat} (m : Mod w w' bs) (h1 : bc ∉ bs) (h2 : bf ∉ bs) : PC w' bc bf s := by
  have l1 := cell_lt h.c0
  have l2 := cell_lt (h.ct 0 h.n1)
  refine ⟨h.n1, h.n64, h.hh, h.ne, m.cell_of h.c0 h1, m.cell_of h.c1 h1, ?_, ?_, ?_, ?_, ?_⟩
  · intro o; rw [m.frozen _ _ l1 h1]; exact h.fc o
  · intro k hk; exact m.cell_of (h.ct k hk) h2
  · intro k hk; exact m.cell_of (h.cu k hk) h2
  · intro k hk; exact m.cell_of (h.cp k hk) h2
  · intro o; rw [m.frozen _ _ l2 h2]; exact h.ff o

/-- a cell behind a store -/
theorem cell_set (w : World) (b o b' o' : Nat) (v x : Value) (h : w.cell? ⟨b, o, none⟩ = some x) :
    (w.setCell ⟨b', o', none⟩ v).cell? ⟨b, o, none⟩ = some (if b = b' ∧ o = o' then v else x) := by
  unfold World.cell? World.setCell at *
  simp only [Array.getElem?_modify]
  by_cases e : b' = b
  · subst e
    simp only [if_true]
    cases hx : w.heap[b']? with
    | none => simp [hx] at h
    | some ob =>
      simp only [hx] at h ⊢
      cases ob <;> simp_all
      rw [Array.getElem?_setIfInBounds]
      by_cases e2 : o' = o
      · subst e2
        have : o' < _ := (Array.getElem?_eq_some_iff.1 h).1
        simp [this]
      · simp only [e2, if_false, h]
        have : ¬ o = o' := fun q => e2 q.symm
        simp [this]
  · have : ¬ b = b' := fun q => e q.symm
    simp only [if_neg e, this, false_and, if_false]
    exact h
theorem frozen_set (w : World) (p q : Addr) (v : Value) : (w.setCell p v).frozen? q = w.frozen? q := by
  unfold World.frozen? World.setCell
  simp only [Array.getElem?_modify]
  by_cases e : p.block = q.block
  · simp only [e, if_true]
    cases hx : w.heap[q.block]? with
    | none => rfl
    | some ob => cases ob <;> simp
  · simp only [if_neg e]
end Go.Proofs.YtgjoahddbieliaaGreat.Ck

/-
  The program's clock: stores into it; at, taken, Take: each does what the plain model says.
-/
namespace Go.Proofs.YtgjoahddbieliaaGreat.Ck
open Go.RowKit Clk
set_option linter.unusedVariables false

/-! stores into the program's clock -/
theorem off3 (a b c d : Nat) (hc : c < 3) (hd : d < 3) : (a * 3 + c = b * 3 + d) ↔ (a = b ∧ c = d) := by omega

theorem PC.setH {w : World} {bc bf : Nat} {s : St} (h : PC w bc bf s) (h' : Nat) (hh' : h' < s.n) : PC (w.setCell ⟨bc, 1, none⟩ (.int .i64 (h' : Int))) bc bf { s with h := h' } := by
  have hne := h.ne
  refine ⟨h.n1, h.n64, hh', h.ne, ?_, ?_, ?_, ?_, ?_, ?_, ?_⟩
  · rw [cell_set _ _ _ _ _ _ _ h.c0]; simp
  · rw [cell_set _ _ _ _ _ _ _ h.c1]; simp
  · intro o; rw [frozen_set]; exact h.fc o
  · intro k hk; rw [cell_set _ _ _ _ _ _ _ (h.ct k hk)]; simp [Ne.symm hne]
  · intro k hk; rw [cell_set _ _ _ _ _ _ _ (h.cu k hk)]; simp [Ne.symm hne]
  · intro k hk; rw [cell_set _ _ _ _ _ _ _ (h.cp k hk)]; simp [Ne.symm hne]
  · intro o; rw [frozen_set]; exact h.ff o
theorem PC.setT {w : World} {bc bf : Nat} {s : St} (h : PC w bc bf s) (j : Nat) (v : Bool) : PC (w.setCell ⟨bf, j * 3, none⟩ (.bool v)) bc bf { s with t := upd s.t j v } := by
  have hne := h.ne
  refine ⟨h.n1, h.n64, h.hh, h.ne, ?_, ?_, ?_, ?_, ?_, ?_, ?_⟩
  · rw [cell_set _ _ _ _ _ _ _ h.c0]; simp [hne]
  · rw [cell_set _ _ _ _ _ _ _ h.c1]; simp [hne]
  · intro o; rw [frozen_set]; exact h.fc o
  · intro k hk; rw [cell_set _ _ _ _ _ _ _ (h.ct k hk)]
    by_cases e : k = j
    · subst e; simp [upd]
    · have : ¬ (k * 3 = j * 3) := by omega
      simp [upd, e, this]
  · intro k hk; rw [cell_set _ _ _ _ _ _ _ (h.cu k hk)]
    have : ¬ (k * 3 + 1 = j * 3) := by omega
    simp [this]
  · intro k hk; rw [cell_set _ _ _ _ _ _ _ (h.cp k hk)]
    have : ¬ (k * 3 + 2 = j * 3) := by omega
    simp [this]
  · intro o; rw [frozen_set]; exact h.ff o
theorem PC.setU {w : World} {bc bf : Nat} {s : St} (h : PC w bc bf s) (j : Nat) (v : Bool) : PC (w.setCell ⟨bf, j * 3 + 1, none⟩ (.bool v)) bc bf { s with u := upd s.u j v } := by
  have hne := h.ne
  refine ⟨h.n1, h.n64, h.hh, h.ne, ?_, ?_, ?_, ?_, ?_, ?_, ?_⟩
  · rw [cell_set _ _ _ _ _ _ _ h.c0]; simp [hne]
  · rw [cell_set _ _ _ _ _ _ _ h.c1]; simp [hne]
  · intro o; rw [frozen_set]; exact h.fc o
  · intro k hk; rw [cell_set _ _ _ _ _ _ _ (h.ct k hk)]
    have : ¬ (k * 3 = j * 3 + 1) := by omega
    simp [this]
  · intro k hk; rw [cell_set _ _ _ _ _ _ _ (h.cu k hk)]
    by_cases e : k = j
    · subst e; simp [upd]
    · have : ¬ (k * 3 = j * 3) := by omega
      simp [upd, e, this]
  · intro k hk; rw [cell_set _ _ _ _ _ _ _ (h.cp k hk)]
    have : ¬ (k * 3 + 2 = j * 3 + 1) := by omega
    simp [this]
  · intro o; rw [frozen_set]; exact h.ff o
theorem PC.setP {w : World} {bc bf : Nat} {s : St} (h : PC w bc bf s) (j : Nat) (v : Nat) : PC (w.setCell ⟨bf, j * 3 + 2, none⟩ (.int .i64 (v : Int))) bc bf { s with p := upd s.p j v } := by
  have hne := h.ne
  refine ⟨h.n1, h.n64, h.hh, h.ne, ?_, ?_, ?_, ?_, ?_, ?_, ?_⟩
  · rw [cell_set _ _ _ _ _ _ _ h.c0]; simp [hne]
  · rw [cell_set _ _ _ _ _ _ _ h.c1]; simp [hne]
  · intro o; rw [frozen_set]; exact h.fc o
  · intro k hk; rw [cell_set _ _ _ _ _ _ _ (h.ct k hk)]
    have : ¬ (k * 3 = j * 3 + 2) := by omega
    simp [this]
  · intro k hk; rw [cell_set _ _ _ _ _ _ _ (h.cu k hk)]
    have : ¬ (k * 3 = j * 3 + 1) := by omega
    simp [this]
  · intro k hk; rw [cell_set _ _ _ _ _ _ _ (h.cp k hk)]
    by_cases e : k = j
    · subst e; simp [upd]
    · have : ¬ (k * 3 = j * 3) := by omega
      simp [upd, e, this]
  · intro o; rw [frozen_set]; exact h.ff o

theorem upd_self {α : Type} (f : Nat → α) (k : Nat) : upd f k (f k) = f := by
  funext j; unfold upd; split
  · rename_i e; rw [e]
  · rfl

theorem inn_yes {s : St} {k : Nat} (h : k < s.n) : inn s (k : Int) = true := by simp [inn]; omega
theorem inn_no {s : St} {i : Int} (h : i < 0 ∨ (s.n : Int) ≤ i) : inn s i = false := by
  unfold inn
  rcases h with h | h
  · have : ¬ 0 ≤ i := by omega
    simp [this]
  · have : ¬ i < (s.n : Int) := by omega
    simp [this]
theorem inn_cases (s : St) (i : Int) : (∃ k : Nat, i = (k : Int) ∧ k < s.n) ∨ (i < 0 ∨ (s.n : Int) ≤ i) := by
  by_cases h : 0 ≤ i ∧ i < (s.n : Int)
  · exact .inl ⟨i.toNat, by omega, by omega⟩
  · exact .inr (by omega)

theorem at_in (w : World) (bc bf n k : Nat) (h1 : k < n) (hn : n ≤ 64)
   (hc0 : w.cell? ⟨bc, 0, none⟩ = some (.slice (some ⟨bf, 0, none⟩) n n)) :
   Calls Tryz.prog 120 #[.pointer (some ⟨bc, 0, none⟩), .int .i64 (k : Int)] w fun e w' => e = .returned (.pointer (some ⟨bf, k * 3, none⟩)) ∧ w = w' := by
  have a1 : decide ((n : Int) ≤ (k : Int)) = false := by simp; omega
  go_enter Tryz.func120, Tryz.ntmps120
  go_wp2
  go_ret
  exact ⟨rfl, rfl⟩
theorem at_out (w : World) (bc bf n : Nat) (i : Int) (h1 : i < 0 ∨ n ≤ i) (hn : n ≤ 64)
   (hc0 : w.cell? ⟨bc, 0, none⟩ = some (.slice (some ⟨bf, 0, none⟩) n n)) :
   Calls Tryz.prog 120 #[.pointer (some ⟨bc, 0, none⟩), .int .i64 i] w fun e w' => e = .returned (.pointer none) ∧ w = w' := by
  by_cases h0 : i < 0
  · go_enter Tryz.func120, Tryz.ntmps120
    go_wp2
    go_ret
    exact ⟨rfl, rfl⟩
  · have a0 : decide (i < 0) = false := by simp; omega
    have a1 : decide ((n : Int) ≤ i) = true := by simp; omega
    go_enter Tryz.func120, Tryz.ntmps120
    go_wp2
    go_ret
    exact ⟨rfl, rfl⟩
theorem taken_out (w : World) (bc bf n : Nat) (i : Int) (h1 : i < 0 ∨ n ≤ i) (hn : n ≤ 64)
   (hc0 : w.cell? ⟨bc, 0, none⟩ = some (.slice (some ⟨bf, 0, none⟩) n n)) :
   Calls Tryz.prog 119 #[.pointer (some ⟨bc, 0, none⟩), .int .i64 i] w fun e w' => e = .returned (.pointer none) ∧ w = w' := by
  go_enter Tryz.func119, Tryz.ntmps119
  go_wp2_with (go_at_call 120; refine (at_out _ bc bf n i h1 hn hc0).mono ?_; rintro e w' ⟨rfl, rfl⟩)
  go_ret
  exact ⟨rfl, rfl⟩
theorem taken_yes (w : World) (bc bf n k : Nat) (h1 : k < n) (hn : n ≤ 64)
   (hc0 : w.cell? ⟨bc, 0, none⟩ = some (.slice (some ⟨bf, 0, none⟩) n n)) (hT : w.cell? ⟨bf, k * 3, none⟩ = some (.bool true)) :
   Calls Tryz.prog 119 #[.pointer (some ⟨bc, 0, none⟩), .int .i64 (k : Int)] w fun e w' => e = .returned (.pointer (some ⟨bf, k * 3, none⟩)) ∧ w = w' := by
  go_enter Tryz.func119, Tryz.ntmps119
  go_wp2_with (go_at_call 120; refine (at_in _ bc bf n k h1 hn hc0).mono ?_; rintro e w' ⟨rfl, rfl⟩)
  go_ret
  exact ⟨rfl, rfl⟩
theorem taken_no (w : World) (bc bf n k : Nat) (h1 : k < n) (hn : n ≤ 64)
   (hc0 : w.cell? ⟨bc, 0, none⟩ = some (.slice (some ⟨bf, 0, none⟩) n n)) (hT : w.cell? ⟨bf, k * 3, none⟩ = some (.bool false)) :
   Calls Tryz.prog 119 #[.pointer (some ⟨bc, 0, none⟩), .int .i64 (k : Int)] w fun e w' => e = .returned (.pointer none) ∧ w = w' := by
  go_enter Tryz.func119, Tryz.ntmps119
  go_wp2_with (go_at_call 120; refine (at_in _ bc bf n k h1 hn hc0).mono ?_; rintro e w' ⟨rfl, rfl⟩)
  go_ret
  exact ⟨rfl, rfl⟩

def Did (w : World) (r : Value) (bc bf : Nat) (s : St) (bs : List Nat) (e : Ending) (w' : World) : Prop := e = .returned r ∧ PC w' bc bf s ∧ Mod w w' bs

theorem take_any (w : World) (bc bf : Nat) (s : St) (h : PC w bc bf s) (i : Int) :
   Calls Tryz.prog 118 #[.pointer (some ⟨bc, 0, none⟩), .int .i64 i] w (Did w (.bool (takeB s i)) bc bf (takeS s i) [bf]) := by
  have hc0 := h.c0
  have hn := h.n64
  rcases inn_cases s i with ⟨k, rfl, hk⟩ | ho
  · have hT := h.ct k hk
    have hi := inn_yes hk
    cases ht : s.t k with
    | true =>
      rw [ht] at hT
      have e1 : takeB s (k : Int) = false := by simp [takeB, ht]
      have e2 : takeS s (k : Int) = s := by simp [takeS, e1]
      rw [e1, e2]
      clear e1 e2 hi ht
      go_enter Tryz.func118, Tryz.ntmps118
      go_wp2_with (go_at_call 120; refine (at_in _ bc bf s.n k hk hn hc0).mono ?_; rintro e w' ⟨rfl, rfl⟩)
      go_ret
      exact ⟨rfl, h, Mod.refl _ _⟩
    | false =>
      rw [ht] at hT
      have hU := h.cu k hk
      have hP := h.cp k hk
      have f0 := h.ff (k * 3)
      have f1 := h.ff (k * 3 + 1)
      have f2 := h.ff (k * 3 + 2)
      have e1 : takeB s (k : Int) = true := by simp [takeB, ht, hi]
      have e2 : takeS s (k : Int) = { s with t := upd s.t k true, u := upd s.u k true, p := upd s.p k 0 } := by simp [takeS, e1]
      rw [e1, e2]
      clear e1 e2 hi ht
      go_enter Tryz.func118, Tryz.ntmps118
      go_wp2_with (go_at_call 120; refine (at_in _ bc bf s.n k hk hn hc0).mono ?_; rintro e w' ⟨rfl, rfl⟩)
      go_ret
      exact ⟨rfl, ((h.setT k true).setU k true).setP k 0, (((Mod.refl _ _).setCell (by simp) _).setCell (by simp) _).setCell (by simp) _⟩
  · have hi := inn_no ho
    have e1 : takeB s i = false := by simp [takeB, hi]
    have e2 : takeS s i = s := by simp [takeS, e1]
    rw [e1, e2]
    clear e1 e2 hi
    go_enter Tryz.func118, Tryz.ntmps118
    go_wp2_with (go_at_call 120; refine (at_out _ bc bf s.n i ho hn hc0).mono ?_; rintro e w' ⟨rfl, rfl⟩)
    go_ret
    exact ⟨rfl, h, Mod.refl _ _⟩
end Go.Proofs.YtgjoahddbieliaaGreat.Ck

/-
  The program's clock: Leave, Touch, Pin, Unpin, Pins: each does what the plain model says (Pin, Unpin: at most a million pins).
-/
namespace Go.Proofs.YtgjoahddbieliaaGreat.Ck
open Go.RowKit Clk
set_option linter.unusedVariables false

theorem leave_any (w : World) (bc bf : Nat) (s : St) (h : PC w bc bf s) (i : Int) :
   Calls Tryz.prog 187 #[.pointer (some ⟨bc, 0, none⟩), .int .i64 i] w (Did w (.bool (leaveB s i)) bc bf (leaveS s i) [bf]) := by
  have hc0 := h.c0
  have hn := h.n64
  rcases inn_cases s i with ⟨k, rfl, hk⟩ | ho
  · have hT := h.ct k hk
    have hi := inn_yes hk
    have hP := h.cp k hk
    cases ht : s.t k with
    | false =>
      rw [ht] at hT
      have e1 : leaveB s (k : Int) = false := by simp [leaveB, isT, ht]
      have e2 : leaveS s (k : Int) = s := by simp [leaveS, e1]
      rw [e1, e2]
      clear e1 e2 hi ht
      go_enter Tryz.func187, Tryz.ntmps187
      go_wp2_with (go_at_call 119; refine (taken_no _ bc bf s.n k hk hn hc0 hT).mono ?_; rintro e w' ⟨rfl, rfl⟩)
      go_ret
      exact ⟨rfl, h, Mod.refl _ _⟩
    | true =>
      rw [ht] at hT
      by_cases hp : s.p k = 0
      · have e1 : leaveB s (k : Int) = true := by simp [leaveB, isT, ht, hi, hp]
        have e2 : leaveS s (k : Int) = { s with t := upd s.t k false, u := upd s.u k false, p := upd s.p k 0 } := by
          have : upd s.p k 0 = s.p := by rw [← hp]; exact upd_self _ _
          simp [leaveS, e1, this]
        rw [e1, e2]
        rw [hp] at hP
        have hU := h.cu k hk
        have f0 := h.ff (k * 3)
        have f1 := h.ff (k * 3 + 1)
        have f2 := h.ff (k * 3 + 2)
        clear e1 e2 hi ht hp
        go_enter Tryz.func187, Tryz.ntmps187
        go_wp2_with (go_at_call 119; refine (taken_yes _ bc bf s.n k hk hn hc0 hT).mono ?_; rintro e w' ⟨rfl, rfl⟩)
        go_ret
        exact ⟨rfl, ((h.setT k false).setU k false).setP k 0, (((Mod.refl _ _).setCell (by simp) _).setCell (by simp) _).setCell (by simp) _⟩
      · have e1 : leaveB s (k : Int) = false := by simp [leaveB, hp]
        have e2 : leaveS s (k : Int) = s := by simp [leaveS, e1]
        rw [e1, e2]
        have hpos : 0 < s.p k := by omega
        clear e1 e2 hi ht hp
        go_enter Tryz.func187, Tryz.ntmps187
        go_wp2_with (go_at_call 119; refine (taken_yes _ bc bf s.n k hk hn hc0 hT).mono ?_; rintro e w' ⟨rfl, rfl⟩)
        go_ret
        exact ⟨rfl, h, Mod.refl _ _⟩
  · have hi := inn_no ho
    have e1 : leaveB s i = false := by simp [leaveB, isT, hi]
    have e2 : leaveS s i = s := by simp [leaveS, e1]
    rw [e1, e2]
    clear e1 e2 hi
    go_enter Tryz.func187, Tryz.ntmps187
    go_wp2_with (go_at_call 119; refine (taken_out _ bc bf s.n i ho hn hc0).mono ?_; rintro e w' ⟨rfl, rfl⟩)
    go_ret
    exact ⟨rfl, h, Mod.refl _ _⟩

theorem touch_any (w : World) (bc bf : Nat) (s : St) (h : PC w bc bf s) (i : Int) :
   Calls Tryz.prog 46 #[.pointer (some ⟨bc, 0, none⟩), .int .i64 i] w (Did w (.bool (isT s i)) bc bf (touchS s i) [bf]) := by
  have hc0 := h.c0
  have hn := h.n64
  rcases inn_cases s i with ⟨k, rfl, hk⟩ | ho
  · have hT := h.ct k hk
    have hi := inn_yes hk
    cases ht : s.t k with
    | false =>
      rw [ht] at hT
      have e1 : isT s (k : Int) = false := by simp [isT, ht]
      have e2 : touchS s (k : Int) = s := by simp [touchS, e1]
      rw [e1, e2]
      clear e1 e2 hi ht
      go_enter Tryz.func46, Tryz.ntmps46
      go_wp2_with (go_at_call 119; refine (taken_no _ bc bf s.n k hk hn hc0 hT).mono ?_; rintro e w' ⟨rfl, rfl⟩)
      go_ret
      exact ⟨rfl, h, Mod.refl _ _⟩
    | true =>
      rw [ht] at hT
      have e1 : isT s (k : Int) = true := by simp [isT, ht, hi]
      have e2 : touchS s (k : Int) = { s with u := upd s.u k true } := by simp [touchS, e1]
      rw [e1, e2]
      have hU := h.cu k hk
      have f1 := h.ff (k * 3 + 1)
      clear e1 e2 hi ht
      go_enter Tryz.func46, Tryz.ntmps46
      go_wp2_with (go_at_call 119; refine (taken_yes _ bc bf s.n k hk hn hc0 hT).mono ?_; rintro e w' ⟨rfl, rfl⟩)
      go_ret
      exact ⟨rfl, h.setU k true, (Mod.refl _ _).setCell (by simp) _⟩
  · have hi := inn_no ho
    have e1 : isT s i = false := by simp [isT, hi]
    have e2 : touchS s i = s := by simp [touchS, e1]
    rw [e1, e2]
    clear e1 e2 hi
    go_enter Tryz.func46, Tryz.ntmps46
    go_wp2_with (go_at_call 119; refine (taken_out _ bc bf s.n i ho hn hc0).mono ?_; rintro e w' ⟨rfl, rfl⟩)
    go_ret
    exact ⟨rfl, h, Mod.refl _ _⟩

theorem pin_any (w : World) (bc bf : Nat) (s : St) (h : PC w bc bf s) (i : Int) (hs : ∀ k, s.p k ≤ 1000000) :
   Calls Tryz.prog 47 #[.pointer (some ⟨bc, 0, none⟩), .int .i64 i] w (Did w (.bool (isT s i)) bc bf (pinS s i) [bf]) := by
  have hc0 := h.c0
  have hn := h.n64
  rcases inn_cases s i with ⟨k, rfl, hk⟩ | ho
  · have hT := h.ct k hk
    have hi := inn_yes hk
    cases ht : s.t k with
    | false =>
      rw [ht] at hT
      have e1 : isT s (k : Int) = false := by simp [isT, ht]
      have e2 : pinS s (k : Int) = s := by simp [pinS, e1]
      rw [e1, e2]
      clear e1 e2 hi ht
      go_enter Tryz.func47, Tryz.ntmps47
      go_wp2_with (go_at_call 119; refine (taken_no _ bc bf s.n k hk hn hc0 hT).mono ?_; rintro e w' ⟨rfl, rfl⟩)
      go_ret
      exact ⟨rfl, h, Mod.refl _ _⟩
    | true =>
      rw [ht] at hT
      have e1 : isT s (k : Int) = true := by simp [isT, ht, hi]
      have e2 : pinS s (k : Int) = { s with p := upd s.p k (s.p k + 1) } := by simp [pinS, e1]
      rw [e1, e2]
      have hP := h.cp k hk
      have f2 := h.ff (k * 3 + 2)
      have hb := hs k
      have hset := h.setP k (s.p k + 1)
      clear e1 e2 hi ht hs
      go_enter Tryz.func47, Tryz.ntmps47
      go_wp2_with (go_at_call 119; refine (taken_yes _ bc bf s.n k hk hn hc0 hT).mono ?_; rintro e w' ⟨rfl, rfl⟩)
      go_ret
      refine ⟨rfl, ?_, (Mod.refl _ _).setCell (by simp) _⟩
      simpa using hset
  · have hi := inn_no ho
    have e1 : isT s i = false := by simp [isT, hi]
    have e2 : pinS s i = s := by simp [pinS, e1]
    rw [e1, e2]
    clear e1 e2 hi hs
    go_enter Tryz.func47, Tryz.ntmps47
    go_wp2_with (go_at_call 119; refine (taken_out _ bc bf s.n i ho hn hc0).mono ?_; rintro e w' ⟨rfl, rfl⟩)
    go_ret
    exact ⟨rfl, h, Mod.refl _ _⟩

theorem unpin_any (w : World) (bc bf : Nat) (s : St) (h : PC w bc bf s) (i : Int) (hs : ∀ k, s.p k ≤ 1000000) :
   Calls Tryz.prog 51 #[.pointer (some ⟨bc, 0, none⟩), .int .i64 i] w (Did w (.bool (unpinB s i)) bc bf (unpinS s i) [bf]) := by
  have hc0 := h.c0
  have hn := h.n64
  rcases inn_cases s i with ⟨k, rfl, hk⟩ | ho
  · have hT := h.ct k hk
    have hi := inn_yes hk
    have hP := h.cp k hk
    cases ht : s.t k with
    | false =>
      rw [ht] at hT
      have e1 : unpinB s (k : Int) = false := by simp [unpinB, isT, ht]
      have e2 : unpinS s (k : Int) = s := by simp [unpinS, e1]
      rw [e1, e2]
      clear e1 e2 hi ht hs
      go_enter Tryz.func51, Tryz.ntmps51
      go_wp2_with (go_at_call 119; refine (taken_no _ bc bf s.n k hk hn hc0 hT).mono ?_; rintro e w' ⟨rfl, rfl⟩)
      go_ret
      exact ⟨rfl, h, Mod.refl _ _⟩
    | true =>
      rw [ht] at hT
      by_cases hp : s.p k = 0
      · have e1 : unpinB s (k : Int) = false := by simp [unpinB, hp]
        have e2 : unpinS s (k : Int) = s := by simp [unpinS, e1]
        rw [e1, e2]
        rw [hp] at hP
        clear e1 e2 hi ht hp hs
        go_enter Tryz.func51, Tryz.ntmps51
        go_wp2_with (go_at_call 119; refine (taken_yes _ bc bf s.n k hk hn hc0 hT).mono ?_; rintro e w' ⟨rfl, rfl⟩)
        go_ret
        exact ⟨rfl, h, Mod.refl _ _⟩
      · have e1 : unpinB s (k : Int) = true := by simp [unpinB, isT, ht, hi, hp]
        have e2 : unpinS s (k : Int) = { s with p := upd s.p k (s.p k - 1) } := by simp [unpinS, e1]
        rw [e1, e2]
        have f2 := h.ff (k * 3 + 2)
        have hb := hs k
        have hset := h.setP k (s.p k - 1)
        have hz : ((s.p k : Int) == 0) = false := by simpa using hp
        have hc : ((s.p k - 1 : Nat) : Int) = (s.p k : Int) - 1 := by omega
        rw [hc] at hset
        have hpos : 1 ≤ s.p k := by omega
        clear e1 e2 hi ht hs hp hc
        go_enter Tryz.func51, Tryz.ntmps51
        go_wp2_with (go_at_call 119; refine (taken_yes _ bc bf s.n k hk hn hc0 hT).mono ?_; rintro e w' ⟨rfl, rfl⟩)
        go_ret
        exact ⟨rfl, hset, (Mod.refl _ _).setCell (by simp) _⟩
  · have hi := inn_no ho
    have e1 : unpinB s i = false := by simp [unpinB, isT, hi]
    have e2 : unpinS s i = s := by simp [unpinS, e1]
    rw [e1, e2]
    clear e1 e2 hi hs
    go_enter Tryz.func51, Tryz.ntmps51
    go_wp2_with (go_at_call 119; refine (taken_out _ bc bf s.n i ho hn hc0).mono ?_; rintro e w' ⟨rfl, rfl⟩)
    go_ret
    exact ⟨rfl, h, Mod.refl _ _⟩

theorem pins_any (w : World) (bc bf : Nat) (s : St) (h : PC w bc bf s) (i : Int) :
   Calls Tryz.prog 48 #[.pointer (some ⟨bc, 0, none⟩), .int .i64 i] w fun e w' => e = .returned (.int .i64 (pinsV s i : Int)) ∧ w = w' := by
  have hc0 := h.c0
  have hn := h.n64
  rcases inn_cases s i with ⟨k, rfl, hk⟩ | ho
  · have hP := h.cp k hk
    have hi := inn_yes hk
    have e1 : pinsV s (k : Int) = s.p k := by simp [pinsV, hi]
    rw [e1]
    clear e1 hi
    go_enter Tryz.func48, Tryz.ntmps48
    go_wp2_with (go_at_call 120; refine (at_in _ bc bf s.n k hk hn hc0).mono ?_; rintro e w' ⟨rfl, rfl⟩)
    go_ret
    exact ⟨rfl, rfl⟩
  · have hi := inn_no ho
    have e1 : pinsV s i = 0 := by simp [pinsV, hi]
    rw [e1]
    clear e1 hi
    go_enter Tryz.func48, Tryz.ntmps48
    go_wp2_with (go_at_call 120; refine (at_out _ bc bf s.n i ho hn hc0).mono ?_; rintro e w' ⟨rfl, rfl⟩)
    go_ret
    exact ⟨rfl, rfl⟩
end Go.Proofs.YtgjoahddbieliaaGreat.Ck
