/-
  The reference's device: how it lies in memory; stopped, Halted, Size, none, Lent.
-/
import Derived.Test.YtgjoahddbieliaaGreatMGrow
namespace Go.Proofs.YtgjoahddbieliaaGreat
open Go.RowKit
set_option linter.unusedVariables false

def tRDev : Tag := (40, 0)
def tRRow (f : Nat) : Tag := (41, f)
def tRWait (f i : Nat) : Tag := (42, 2 * i + f)
def RDevTag (g : Tag) : Prop := g.1 = 40 ∨ g.1 = 41 ∨ g.1 = 42
structure RSecIn (w : World) (τ : Tags) (f i : Nat) (xs : List Value) (s : Sec) : Prop where
  last : s.last.length = 128 ∧ ∃ v, xs[i * 2]? = some v ∧ Bytes w τ tData v s.last
  waits : ∃ v, xs[i * 2 + 1]? = some v ∧ Waits w τ (tRWait f i) v s.waits
def RFile (w : World) (τ : Tags) (f : Nat) (v : Value) (l : List Sec) : Prop :=
  l.length ≤ 4096 ∧ ∃ xs, Buf w τ (tRRow f) 208 2 v l.length xs ∧ ∀ (i : Nat) (s : Sec), l[i]? = some s → RSecIn w τ f i xs s
structure RDevAs (w : World) (τ : Tags) (b : Nat) (D : Dev) (v0 v1 : Value) : Prop where
  is : ∃ (st : Bool) (n : Int), Own w τ b tRDev 170 [v0, v1, .bool st, .int .i64 n, .bool D.halted] ∧ RFile w τ 0 v0 D.f0 ∧ RFile w τ 1 v1 D.f1 ∧
    ((st = false ∧ D.left = none) ∨ ∃ m : Nat, st = true ∧ n = (m : Int) ∧ D.left = some m ∧ m ≤ maxLen)
def RDevAt (w : World) (τ : Tags) (b : Nat) (D : Dev) : Prop := ∃ v0 v1, RDevAs w τ b D v0 v1
theorem RDevAs.at {w : World} {τ : Tags} {b : Nat} {D : Dev} {v0 v1 : Value} (h : RDevAs w τ b D v0 v1) : RDevAt w τ b D := ⟨v0, v1, h⟩
theorem RSecIn.step {w w' : World} {τ τ' : Tags} {S : Tag → Prop} {f i : Nat} {xs : List Value} {s : Sec} (h : RSecIn w τ f i xs s) (m : Step w τ w' τ' S) (hg : ¬ S (tRWait f i)) (hd : ¬ S tData) : RSecIn w' τ' f i xs s := by
  obtain ⟨⟨a, v, hv, hb⟩, ⟨u, hu, hw⟩⟩ := h
  exact ⟨⟨a, v, hv, hb.step m hd⟩, ⟨u, hu, hw.step m hg hd⟩⟩
theorem RFile.step {w w' : World} {τ τ' : Tags} {S : Tag → Prop} {f : Nat} {v : Value} {l : List Sec} (h : RFile w τ f v l) (m : Step w τ w' τ' S) (hr : ¬ S (tRRow f)) (hg : ∀ i, ¬ S (tRWait f i)) (hd : ¬ S tData) : RFile w' τ' f v l := by
  obtain ⟨h1, xs, hb, hs⟩ := h
  exact ⟨h1, xs, hb.step m hr, fun i s hi => (hs i s hi).step m (hg i) hd⟩
theorem RDevAs.step {w w' : World} {τ τ' : Tags} {S : Tag → Prop} {b : Nat} {D : Dev} {v0 v1 : Value} (h : RDevAs w τ b D v0 v1) (m : Step w τ w' τ' S) (hs : ∀ g, S g → ¬ RDevTag g ∧ g ≠ tData) : RDevAs w' τ' b D v0 v1 := by
  obtain ⟨st, n, ho, h0, h1, hl⟩ := h.is
  have hx : ∀ g, RDevTag g → ¬ S g := fun g hg hS => (hs g hS).1 hg
  have hd : ¬ S tData := fun hS => (hs _ hS).2 rfl
  exact ⟨st, n, ho.step m (hx _ (.inl rfl)), h0.step m (hx _ (.inr (.inl rfl))) (fun i => hx _ (.inr (.inr rfl))) hd, h1.step m (hx _ (.inr (.inl rfl))) (fun i => hx _ (.inr (.inr rfl))) hd, hl⟩
theorem RDevAt.step {w w' : World} {τ τ' : Tags} {S : Tag → Prop} {b : Nat} {D : Dev} (h : RDevAt w τ b D) (m : Step w τ w' τ' S) (hs : ∀ g, S g → ¬ RDevTag g ∧ g ≠ tData) : RDevAt w' τ' b D := by
  obtain ⟨v0, v1, h⟩ := h
  exact ⟨v0, v1, h.step m hs⟩
/-- the file's value -/
theorem RDevAs.file {w : World} {τ : Tags} {b : Nat} {D : Dev} {v0 v1 : Value} (h : RDevAs w τ b D v0 v1) (f : Nat) (hf : f < 2) :
    w.cell? ⟨b, f, none⟩ = some (fileV v0 v1 f) ∧ RFile w τ f (fileV v0 v1 f) (D.file f) := by
  obtain ⟨st, n, ho, h0, h1, hl⟩ := h.is
  rcases (by omega : f = 0 ∨ f = 1) with rfl | rfl
  · exact ⟨ho.at 0 rfl, h0⟩
  · exact ⟨ho.at 1 rfl, h1⟩
theorem RFile.len {w : World} {τ : Tags} {f : Nat} {v : Value} {l : List Sec} (h : RFile w τ f v l) : ∃ p c, v = .slice p l.length c := by
  obtain ⟨_, xs, hb, _⟩ := h
  exact hb.len
theorem RFile.lenp {w : World} {τ : Tags} {f : Nat} {v : Value} {l : List Sec} (h : RFile w τ f v l) (h0 : 0 < l.length) : ∃ bf c xs ys, v = .slice (some ⟨bf, 0, none⟩) l.length c ∧ l.length ≤ c ∧ Own w τ bf (tRRow f) 208 (xs ++ ys) ∧ xs.length = l.length * 2 ∧ ∀ (i : Nat) (s : Sec), l[i]? = some s → RSecIn w τ f i xs s := by
  obtain ⟨_, xs, ⟨h1, ⟨_, h2⟩ | ⟨bf, c, ys, hv, ho, h3, h4, h5⟩⟩, hs⟩ := h
  · omega
  · exact ⟨bf, c, xs, ys, hv, h4, ho, h1, hs⟩
/-- one file turns, and nothing else -/
def RFileTag (f : Nat) (g : Tag) : Prop := g = tRRow f ∨ ∃ i, g = tRWait f i
theorem RFileTag.dev {f : Nat} {g : Tag} (h : RFileTag f g) : RDevTag g := by
  rcases h with rfl | ⟨i, rfl⟩
  · exact .inr (.inl rfl)
  · exact .inr (.inr rfl)
theorem r5stopped {w : World} {τ : Tags} {b : Nat} {D : Dev} {v0 v1 : Value} (h : RDevAs w τ b D v0 v1) :
    Calls Tryz.prog 255 #[.pointer (some ⟨b, 0, none⟩)] w fun e w' => e = .returned (.bool (!D.go.1)) ∧ RDevAs w' τ b D.go.2 v0 v1 ∧ Step w τ w' τ (fun t => t = tRDev) := by
  obtain ⟨st, n, ho, h0, h1, hl⟩ := h.is
  have c2 := ho.at 2 (v := .bool st) rfl
  have c3 := ho.at 3 (v := .int .i64 n) rfl
  have c4 := ho.at 4 (v := .bool D.halted) rfl
  have f3 := ho.fz 3
  have f4 := ho.fz 4
  rcases hl with ⟨rfl, hn⟩ | ⟨m, rfl, rfl, hn, hm⟩
  · have e1 : D.go = (true, D) := by simp [Dev.go, hn]
    rw [e1]
    have H_h := Lib.hid h
    clear h
    clear e1 ho h0 h1 hn
    go_enter Tryz.func255, Tryz.ntmps255
    go_wp2
    go_ret
    exact ⟨rfl, H_h.out, Step.refl _ _ _⟩
  · cases m with
    | zero =>
      have e1 : D.go = (false, { D with halted := true }) := by simp [Dev.go, hn]
      rw [e1]
      have ms : Step w τ (w.setCell ⟨b, 4, none⟩ (.bool true)) τ (fun t => t = tRDev) := (Step.refl w τ (fun t => t = tRDev)).set ho.tag rfl _
      have hd : RDevAs (w.setCell ⟨b, 4, none⟩ (.bool true)) τ b { D with halted := true } v0 v1 :=
        ⟨true, 0, ho.set 4 _, h0.step ms (by simp [tRRow, tRDev]) (by simp [tRWait, tRDev]) (by decide), h1.step ms (by simp [tRRow, tRDev]) (by simp [tRWait, tRDev]) (by decide), .inr ⟨0, rfl, rfl, hn, hm⟩⟩
      have Hd := Lib.hid hd
      have H_ms := Lib.hid ms
      clear hd ms
      clear e1 ho h0 h1 hn h
      go_enter Tryz.func255, Tryz.ntmps255
      go_wp2
      go_ret
      exact ⟨rfl, Hd.out, H_ms.out⟩
    | succ m =>
      have e1 : D.go = (true, { D with left := some m }) := by simp [Dev.go, hn]
      rw [e1]
      have ms : Step w τ (w.setCell ⟨b, 3, none⟩ (.int .i64 (m : Int))) τ (fun t => t = tRDev) := (Step.refl w τ (fun t => t = tRDev)).set ho.tag rfl _
      have hd : RDevAs (w.setCell ⟨b, 3, none⟩ (.int .i64 (m : Int))) τ b { D with left := some m } v0 v1 :=
        ⟨true, m, ho.set 3 _, h0.step ms (by simp [tRRow, tRDev]) (by simp [tRWait, tRDev]) (by decide), h1.step ms (by simp [tRRow, tRDev]) (by simp [tRWait, tRDev]) (by decide), .inr ⟨m, rfl, rfl, rfl, by omega⟩⟩
      have hmx : m + 1 ≤ 9223372036854775807 := by have := hm; unfold maxLen at this; omega
      have Hd := Lib.hid hd
      have H_ms := Lib.hid ms
      clear hd ms
      clear e1 ho h0 h1 hn h
      go_enter Tryz.func255, Tryz.ntmps255
      go_wp2
      go_ret
      exact ⟨rfl, Hd.out, H_ms.out⟩
theorem r5lent {w : World} {τ : Tags} {g : Tag} {v : Value} {l : List Int} (h : Bytes w τ g v l) (g' : Tag) (hbig : l.length ≤ 100000000) :
    Calls Tryz.prog 162 #[v] w fun e w' => ∃ u τ', e = .returned u ∧ Bytes w' τ' g' u l ∧ Step w τ w' τ' nil := by
  obtain ⟨p, c, rfl, hc1, hc2⟩ := h.any
  have H_h := Lib.hid h
  have Hbig := Lib.hid hbig
  clear h hbig
  go_enter Tryz.func162, Tryz.ntmps162
  go_wp2_with (at_builtin; refine wpList_append_nb (Step.refl w τ nil) (NB.nil _ w τ g') H_h.out (by have := Hbig.out; simp; omega) rfl _ _ rfl rfl rfl ?_; intro v' w' τ' hb hs1 hs2; have Hb := Lib.hid hb; have Hs1 := Lib.hid hs1; clear hb hs1)
  go_ret
  exact ⟨_, τ', rfl, by have := Hb.out.bytes; simpa using this, Hs1.out⟩
theorem r5none_no {w : World} {τ : Tags} {b : Nat} {D : Dev} {v0 v1 : Value} (h : RDevAs w τ b D v0 v1) (f : Nat) (hf : f < 2) (k : Nat) (hk : k < (D.file f).length) :
    Calls Tryz.prog 238 #[.pointer (some ⟨b, 0, none⟩), .int .u8 (f : Int), .int .i64 (k : Int)] w fun e w' => e = .returned (.bool false) ∧ w = w' := by
  obtain ⟨cf, hfile⟩ := h.file f hf
  obtain ⟨p, c, hv⟩ := hfile.len
  rw [hv] at cf
  have a1 : decide ((1 : Int) < (f : Int)) = false := by simp; omega
  generalize (D.file f).length = n at *
  have a2 : decide ((n : Int) ≤ (k : Int)) = false := by simp; omega
  clear h hfile hv
  go_enter Tryz.func238, Tryz.ntmps238
  go_wp2_with fail
  go_ret
  refine ⟨?_, rfl⟩
  show Ending.returned (.bool (decide ((k : Int) < 0) || decide (n ≤ k))) = _
  rw [decide_eq_false (show ¬ (k : Int) < 0 by omega), decide_eq_false (show ¬ n ≤ k by omega)]; rfl
theorem r5size {w : World} {τ : Tags} {b : Nat} {D : Dev} {v0 v1 : Value} (h : RDevAs w τ b D v0 v1) (f : Nat) (hf : f < 2) :
    Calls Tryz.prog 140 #[.pointer (some ⟨b, 0, none⟩), .int .u8 (f : Int)] w fun e w' => e = .returned (.int .i64 ((D.file f).length : Int)) ∧ w = w' := by
  obtain ⟨cf, hfile⟩ := h.file f hf
  obtain ⟨p, c, hv⟩ := hfile.len
  rw [hv] at cf
  have a1 : decide ((1 : Int) < (f : Int)) = false := by simp; omega
  generalize (D.file f).length = n at *
  clear h hfile hv
  go_enter Tryz.func140, Tryz.ntmps140
  go_wp2_with fail
  go_ret
  exact ⟨rfl, rfl⟩
theorem r5halted {w : World} {τ : Tags} {b : Nat} {D : Dev} {v0 v1 : Value} (h : RDevAs w τ b D v0 v1) :
    Calls Tryz.prog 227 #[.pointer (some ⟨b, 0, none⟩)] w fun e w' => e = .returned (.bool D.halted) ∧ w = w' := by
  obtain ⟨st, n, ho, -, -, -⟩ := h.is
  have c4 := ho.at 4 (v := .bool D.halted) rfl
  clear h ho
  go_enter Tryz.func227, Tryz.ntmps227
  go_wp2_with fail
  go_ret
  exact ⟨rfl, rfl⟩
end Go.Proofs.YtgjoahddbieliaaGreat

/-
  The reference's device: a sector is laid; a file grows by one sector.
-/
namespace Go.Proofs.YtgjoahddbieliaaGreat
open Go.RowKit
set_option linter.unusedVariables false

theorem Tryz.infoRSector : (Tryz.prog.info? 208).map (fun i => (i.zero, i.size, i.bytes)) = some (some (.agg #[.slice none 0 0, .slice none 0 0]), 2, 48) := by kernel_rfl
theorem RSecIn.set {w : World} {τ : Tags} {f i j : Nat} {xs : List Value} {s : Sec} (h : RSecIn w τ f i xs s) (hj : j ≠ i * 2) (hj1 : j ≠ i * 2 + 1) (v : Value) : RSecIn w τ f i (xs.set j v) s := by
  obtain ⟨⟨a, v, hv, hb⟩, ⟨u, hu, hw⟩⟩ := h
  exact ⟨⟨a, v, by rw [List.getElem?_set_ne hj]; exact hv, hb⟩, ⟨u, by rw [List.getElem?_set_ne hj1]; exact hu, hw⟩⟩
theorem setCell_self {w : World} {τ : Tags} {b : Nat} {g : Tag} {t : TypeId} {xs : List Value} (h : Own w τ b g t xs) {o : Nat} {v : Value} (hv : xs[o]? = some v) : w.setCell ⟨b, o, none⟩ v = w := by
  have hx : xs.set o v = xs := by
    obtain ⟨ho, rfl⟩ := List.getElem?_eq_some_iff.1 hv
    exact List.set_getElem_self ho
  have hh : (w.setCell ⟨b, o, none⟩ v).heap = w.heap := by
    apply Array.ext_getElem?
    intro i
    by_cases e : i = b
    · subst e
      rw [(h.set o v).row, h.row, hx]
    · exact Below.heap_setCell _ _ _ _ e
  cases w
  simp only [World.setCell] at hh ⊢
  rw [hh]
/-- one sector of a file is laid anew: both of its cells -/
theorem RDevAs.lay {w w2 : World} {τ τ2 : Tags} {b : Nat} {D : Dev} {v0 v1 : Value} (h : RDevAs w τ b D v0 v1) (f : Nat) (hf : f < 2) {k bf n c : Nat} (hk : k < (D.file f).length) (hv : fileV v0 v1 f = .slice (some ⟨bf, 0, none⟩) n c)
    {S : Tag → Prop} (m : Step w τ w2 τ2 S) (hS : ∀ g, S g → g = tRWait f k) {v u : Value} {s' : Sec} (hb : Bytes w2 τ2 tData v s'.last) (hl : s'.last.length = 128) (hw : Waits w2 τ2 (tRWait f k) u s'.waits) :
    RDevAs ((w2.setCell ⟨bf, k * 2, none⟩ v).setCell ⟨bf, k * 2 + 1, none⟩ u) τ2 b (D.put f ((D.file f).set k s')) v0 v1 ∧ Step w2 τ2 ((w2.setCell ⟨bf, k * 2, none⟩ v).setCell ⟨bf, k * 2 + 1, none⟩ u) τ2 (fun g => g = tRRow f) := by
  obtain ⟨cf, hfile⟩ := h.file f hf
  obtain ⟨bf', c', xs, ys, hv', hcap, ho, hxl, hsec⟩ := hfile.lenp (by omega)
  rw [hv] at hv'
  simp only [Value.slice.injEq, Option.some.injEq, Addr.mk.injEq] at hv'
  obtain ⟨⟨rfl, -, -⟩, rfl, rfl⟩ := hv'
  have hne : ∀ g : Tag, (∀ i, g ≠ tRWait f i) → ¬ S g := fun g hg hs => hg k (hS g hs)
  have hrow : ¬ S (tRRow f) := hne _ (fun i => by simp [tRRow, tRWait])
  have hdat : ¬ S tData := hne _ (fun i => by simp [tData, tRWait])
  have ho2 := ho.step m hrow
  have ms : Step w2 τ2 ((w2.setCell ⟨bf, k * 2, none⟩ v).setCell ⟨bf, k * 2 + 1, none⟩ u) τ2 (fun g => g = tRRow f) := ((Step.refl w2 τ2 (fun g => g = tRRow f)).set ho2.tag rfl v).set (ho2.set (k * 2) v).tag rfl u
  have ho3 := (ho2.set (k * 2) v).set (k * 2 + 1) u
  have hlx : k * 2 + 1 < xs.length := by omega
  have hset : ((xs ++ ys).set (k * 2) v).set (k * 2 + 1) u = (xs.set (k * 2) v).set (k * 2 + 1) u ++ ys := by
    rw [List.set_append_left _ _ (by omega), List.set_append_left _ _ (by rw [List.length_set]; omega)]
  rw [hset] at ho3
  have hnew : RFile ((w2.setCell ⟨bf, k * 2, none⟩ v).setCell ⟨bf, k * 2 + 1, none⟩ u) τ2 f (.slice (some ⟨bf, 0, none⟩) (D.file f).length c) ((D.file f).set k s') := by
    refine ⟨by rw [List.length_set]; exact hfile.1, (xs.set (k * 2) v).set (k * 2 + 1) u, ⟨by simp only [List.length_set]; exact hxl, .inr ⟨bf, c, ys, by rw [List.length_set], ho3, ?_, by rw [List.length_set]; exact hcap, ?_⟩⟩, fun i s hi => ?_⟩
    · obtain ⟨_, xs', ⟨h1, ⟨h2, _⟩ | ⟨b'', c'', ys', hv2, ho', h3, h4, h5⟩⟩, _⟩ := hfile
      · rw [hv] at h2; cases h2
      · rw [hv] at hv2
        simp only [Value.slice.injEq, Option.some.injEq, Addr.mk.injEq] at hv2
        obtain ⟨⟨rfl, -, -⟩, -, rfl⟩ := hv2
        have e := ho.row.symm.trans ho'.row
        simp only [Option.some.injEq, Obj.cells.injEq, Array.mk.injEq] at e
        have := congrArg List.length e.1
        simp only [List.length_append, List.length_set] at this ⊢
        omega
    · obtain ⟨_, xs', ⟨h1, ⟨h2, _⟩ | ⟨b'', c'', ys', hv2, ho', h3, h4, h5⟩⟩, _⟩ := hfile
      · rw [hv] at h2; cases h2
      · rw [hv] at hv2
        simp only [Value.slice.injEq, Option.some.injEq, Addr.mk.injEq] at hv2
        obtain ⟨-, -, rfl⟩ := hv2
        exact h5
    · by_cases e : k = i
      · subst e
        rw [List.getElem?_set_self hk] at hi
        cases hi
        refine ⟨⟨hl, v, ?_, hb.step ms (by simp [tData, tRRow])⟩, ⟨u, ?_, hw.step ms (by simp [tRWait, tRRow]) (by simp [tData, tRRow])⟩⟩
        · rw [List.getElem?_set_ne (by omega), List.getElem?_set_self (by omega)]
        · rw [List.getElem?_set_self (by rw [List.length_set]; omega)]
      · rw [List.getElem?_set_ne e] at hi
        exact ((((hsec i s hi).step m (fun hs => by have := hS _ hs; simp [tRWait] at this; omega) hdat).step ms (by simp [tRWait, tRRow]) (by simp [tData, tRRow])).set (by omega) (by omega) v).set (by omega) (by omega) u
  obtain ⟨st, n, hod, h0, h1, hleft⟩ := h.is
  have hod2 := (hod.step m (hne _ (fun i => by simp [tRDev, tRWait]))).step ms (by simp [tRDev, tRRow])
  refine ⟨?_, ms⟩
  rw [← hv] at hnew
  rcases (by omega : f = 0 ∨ f = 1) with rfl | rfl
  · refine ⟨st, n, hod2, hnew, ?_, hleft⟩
    exact (h1.step m (hne _ (fun i => by simp [tRRow, tRWait])) (fun i hs => by have := hS _ hs; simp [tRWait] at this; omega) hdat).step ms (by simp [tRRow]) (fun i => by simp [tRWait, tRRow]) (by simp [tData, tRRow])
  · refine ⟨st, n, hod2, ?_, hnew, hleft⟩
    exact (h0.step m (hne _ (fun i => by simp [tRRow, tRWait])) (fun i hs => by have := hS _ hs; simp [tRWait] at this; omega) hdat).step ms (by simp [tRRow]) (fun i => by simp [tRWait, tRRow]) (by simp [tData, tRRow])
/-- the waiting writes alone -/
theorem RDevAs.wait {w w2 : World} {τ τ2 : Tags} {b : Nat} {D : Dev} {v0 v1 : Value} (h : RDevAs w τ b D v0 v1) (f : Nat) (hf : f < 2) {k bf n c : Nat} {s : Sec} (hk : (D.file f)[k]? = some s) (hv : fileV v0 v1 f = .slice (some ⟨bf, 0, none⟩) n c)
    {S : Tag → Prop} (m : Step w τ w2 τ2 S) (hS : ∀ g, S g → g = tRWait f k) {u : Value} {ws : List (List Int)} (hw : Waits w2 τ2 (tRWait f k) u ws) :
    RDevAs (w2.setCell ⟨bf, k * 2 + 1, none⟩ u) τ2 b (D.put f ((D.file f).set k ⟨s.last, ws⟩)) v0 v1 ∧ Step w2 τ2 (w2.setCell ⟨bf, k * 2 + 1, none⟩ u) τ2 (fun g => g = tRRow f) := by
  have hkl := (List.getElem?_eq_some_iff.1 hk).1
  obtain ⟨cf, hfile⟩ := h.file f hf
  obtain ⟨bf', c', xs, ys, hv', hcap, ho, hxl, hsec⟩ := hfile.lenp (by omega)
  rw [hv] at hv'
  simp only [Value.slice.injEq, Option.some.injEq, Addr.mk.injEq] at hv'
  obtain ⟨⟨rfl, -, -⟩, rfl, rfl⟩ := hv'
  obtain ⟨⟨a, v, hvv, hb⟩, -⟩ := hsec k s hk
  have hrow : ¬ S (tRRow f) := fun hs => by have := hS _ hs; simp [tRRow, tRWait] at this
  have hdat : ¬ S tData := fun hs => by have := hS _ hs; simp [tData, tRWait] at this
  have hcell : w2.setCell ⟨bf, k * 2, none⟩ v = w2 := by
    exact setCell_self (ho.step m hrow) (by rw [List.getElem?_append_left (by omega)]; exact hvv)
  have := h.lay f hf hkl hv m hS (s' := ⟨s.last, ws⟩) (hb.step m hdat) a hw
  rw [hcell] at this
  exact this
/-- one sector more: the new element lies in a block of two cells, k -/
theorem run_append_sec {w : World} {τ : Tags} {f : Nat} {v u : Value} {l : List Sec} {x : List Int} (hown : RFile w τ f v l) (hb : Bytes w τ tData u x) (h128 : x.length = 128) (hsz : l.length < 4096) {k : Nat}
    (hk : w.heap[k]? = some (.cells #[u, .slice none 0 0] 208 (0, 0))) (ty : TypeId) :
    ∃ v' w' τ', (Builtin.append_ #[165, 165] ty #[v, .slice (some ⟨k, 0, none⟩) 1 1]).run Tryz.prog w = .ok v' w' ∧ RFile w' τ' f v' (l ++ [⟨x, []⟩]) ∧ Step w τ w' τ' (fun t => t = tRRow f) := by
  obtain ⟨i0, hi, hz0, hz1, hz2⟩ := info_parts Tryz.infoRSector
  obtain ⟨hl, xs, hbuf, hxs⟩ := hown
  obtain ⟨p, c, rfl, _⟩ := hb.any
  obtain ⟨v', w', τ', hr, hb', he, hm, hnw⟩ := run_append_buf (P := Tryz.prog) w τ (tRRow f) 165 ty 208 i0 (.agg #[.slice none 0 0, .slice none 0 0]) 2 48 Tryz.underlying165 hi hz0 hz1 hz2 rfl (by decide) v l.length xs hbuf
    (some ⟨k, 0, none⟩) 1 1 [.slice p x.length c, .slice none 0 0] rfl (fun h => by cases h) (by
      intro ad had; cases had; exact World.news_of_block (cs := #[.slice p x.length c, .slice none 0 0]) (t := 208) (fr := (0, 0)) hk) (by simp [Value.oneCell']) (by unfold maxLen; omega) (by omega)
  have hmd : Step w τ w' τ' (fun t => t = tRRow f) := ⟨hm.mono (fun k hk hS => (hbuf.own k hS).1), he⟩
  have hxl : xs.length = l.length * 2 := hbuf.1
  refine ⟨v', w', τ', hr, ⟨by simp; omega, xs ++ [.slice p x.length c, .slice none 0 0], by rw [List.length_append]; exact hb', fun i s hi => ?_⟩, hmd⟩
  by_cases hlt : i < l.length
  · rw [List.getElem?_append_left hlt] at hi
    obtain ⟨⟨a, v, hv, hbv⟩, ⟨q, hq, hwq⟩⟩ := (hxs i s hi).step hmd (by simp [tRWait, tRRow]) (by simp [tData, tRRow])
    exact ⟨⟨a, v, by rw [List.getElem?_append_left (by omega)]; exact hv, hbv⟩, ⟨q, by rw [List.getElem?_append_left (by omega)]; exact hq, hwq⟩⟩
  · have hi0 : i = l.length := by
      have := (List.getElem?_eq_some_iff.1 hi).1
      simp at this; omega
    subst hi0
    rw [List.getElem?_append_right (Nat.le_refl _), Nat.sub_self] at hi
    cases hi
    refine ⟨⟨h128, _, ?_, hb.step hmd (by simp [tData, tRRow])⟩, ⟨_, ?_, .inl ⟨rfl, rfl⟩⟩⟩
    · rw [List.getElem?_append_right (by omega), hxl, Nat.sub_self]; rfl
    · rw [List.getElem?_append_right (by omega), hxl, show l.length * 2 + 1 - l.length * 2 = 1 by omega]; rfl
/-- a file's value is laid anew -/
theorem RDevAs.grow {w w2 : World} {τ τ2 : Tags} {b : Nat} {D : Dev} {v0 v1 : Value} (h : RDevAs w τ b D v0 v1) (f : Nat) (hf : f < 2) {S : Tag → Prop} (m : Step w τ w2 τ2 S) (hS : ∀ g, S g → g = tRRow f) {u : Value} {l : List Sec} (hl : RFile w2 τ2 f u l) :
    RDevAs (w2.setCell ⟨b, f, none⟩ u) τ2 b (D.put f l) (if f = 0 then u else v0) (if f = 0 then v1 else u) ∧ Step w2 τ2 (w2.setCell ⟨b, f, none⟩ u) τ2 (fun g => g = tRDev) := by
  obtain ⟨st, n, ho, h0, h1, hleft⟩ := h.is
  have hne : ∀ g : Tag, g ≠ tRRow f → ¬ S g := fun g hg hs => hg (hS g hs)
  have ho2 := ho.step m (hne _ (by simp [tRDev, tRRow]))
  have ms : Step w2 τ2 (w2.setCell ⟨b, f, none⟩ u) τ2 (fun g => g = tRDev) := (Step.refl w2 τ2 (fun g => g = tRDev)).set ho2.tag rfl u
  refine ⟨?_, ms⟩
  have hl' := hl.step ms (by simp [tRRow, tRDev]) (fun i => by simp [tRWait, tRDev]) (by simp [tData, tRDev])
  rcases (by omega : f = 0 ∨ f = 1) with rfl | rfl
  · refine ⟨st, n, ho2.set 0 u, hl', ?_, hleft⟩
    exact (h1.step m (hne _ (by simp [tRRow])) (fun i => hne _ (by simp [tRWait, tRRow])) (hne _ (by simp [tData, tRRow]))).step ms (by simp [tRRow, tRDev]) (fun i => by simp [tRWait, tRDev]) (by simp [tData, tRDev])
  · refine ⟨st, n, ho2.set 1 u, ?_, hl', hleft⟩
    exact (h0.step m (hne _ (by simp [tRRow])) (fun i => hne _ (by simp [tRWait, tRRow])) (hne _ (by simp [tData, tRRow]))).step ms (by simp [tRRow, tRDev]) (fun i => by simp [tRWait, tRDev]) (by simp [tData, tRDev])
end Go.Proofs.YtgjoahddbieliaaGreat
