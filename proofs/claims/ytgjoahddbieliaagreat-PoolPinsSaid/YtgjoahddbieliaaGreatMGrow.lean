/-
  Slices of a call's own that grow: bytes, and rows of sectors; what append makes of them.
-/
import Derived.Test.YtgjoahddbieliaaGreatMNum
import Derived.Deep.AppendLies
import Derived.Deep.RegionLaw
namespace Go.Proofs.YtgjoahddbieliaaGreat
open Go.RowKit
set_option linter.unusedVariables false

theorem Bytes.any {w : World} {τ : Tags} {g : Tag} {v : Value} {l : List Int} (h : Bytes w τ g v l) : ∃ p c, v = .slice p l.length c ∧ l.length ≤ c ∧ c ≤ maxLen := by
  obtain ⟨p, c, hv, h1, h2, _⟩ := h.is
  exact ⟨p, c, hv, h1, h2⟩
theorem Bytes.pos {w : World} {τ : Tags} {g : Tag} {v : Value} {l : List Int} (h : Bytes w τ g v l) (h0 : 0 < l.length) : ∃ b o c, v = .slice (some ⟨b, o, none⟩) l.length c ∧ l.length ≤ c ∧ c ≤ maxLen ∧ τ b = g ∧ b < w.heap.size ∧ ∀ i, i < l.length → w.cell? ⟨b, o + i, none⟩ = some (.int .u8 (l.getD i 0)) := by
  obtain ⟨p, c, hv, h1, h2, hc⟩ := h.is
  obtain ⟨b, o, rfl, ht, hx⟩ := hc h0
  exact ⟨b, o, c, hv, h1, h2, ht, cell_lt (hx 0 h0), hx⟩
theorem Bytes.empty (w : World) (τ : Tags) (g : Tag) : Bytes w τ g (.slice none 0 0) [] := ⟨fun x hx => by simp at hx, none, 0, rfl, Nat.le_refl _, Nat.zero_le _, fun hx => by simp at hx⟩

/-- bytes of a call's own that lie in a block from n0 on -/
structure NB (n0 : Nat) (w : World) (τ : Tags) (g : Tag) (v : Value) (l : List Int) : Prop where
  buf : Buf w τ g 5 1 v l.length (u8s l)
  isB : IsB l
  low : ∀ k, v.ownBlock = some k → n0 ≤ k
theorem NB.nil (n0 : Nat) (w : World) (τ : Tags) (g : Tag) : NB n0 w τ g (.slice none 0 0) [] := ⟨Buf.nil _ _ _ _ _, fun x hx => by simp at hx, fun k hk => by simp [Value.ownBlock] at hk⟩
theorem NB.bytes {n0 : Nat} {w : World} {τ : Tags} {g : Tag} {v : Value} {l : List Int} (h : NB n0 w τ g v l) : Bytes w τ g v l := h.buf.bytes h.isB
theorem NB.step {n0 : Nat} {w w' : World} {τ τ' : Tags} {S : Tag → Prop} {g : Tag} {v : Value} {l : List Int} (h : NB n0 w τ g v l) (m : Step w τ w' τ' S) (hs : ¬ S g) : NB n0 w' τ' g v l := ⟨h.buf.step m hs, h.isB, h.low⟩
theorem NB.drew {n0 : Nat} {w : World} {τ : Tags} {g : Tag} {v : Value} {l : List Int} (h : NB n0 w τ g v l) : NB n0 w.drew τ g v l := h.step (Step.refl w τ Go.Proofs.YtgjoahddbieliaaGreat.nil).drew (fun h => h)
theorem NB.val {n0 : Nat} {w : World} {τ : Tags} {g : Tag} {v : Value} {l : List Int} (h : NB n0 w τ g v l) : ∃ p c, v = .slice p l.length c := by
  obtain ⟨p, c, hv, _⟩ := h.bytes.any
  exact ⟨p, c, hv⟩
theorem IsB.append {l m : List Int} (h : IsB l) (k : IsB m) : IsB (l ++ m) := fun x hx => (List.mem_append.1 hx).elim (h x) (k x)
theorem u8s_append (l m : List Int) : u8s (l ++ m) = u8s l ++ u8s m := by simp [u8s]

theorem run_append_nb {w0 w : World} {τ0 τ : Tags} {S : Tag → Prop} (hst : Step w0 τ0 w τ S) {g g2 : Tag} {v vx : Value} {l m : List Int} (hown : NB w0.heap.size w τ g v l) (hb : Bytes w τ g2 vx m) (hsz : l.length + m.length ≤ 100000000000) (ty : TypeId) :
    ∃ v' w' τ', (Builtin.append_ #[43, 43] ty #[v, vx]).run Tryz.prog w = .ok v' w' ∧ NB w0.heap.size w' τ' g v' (l ++ m) ∧ Step w0 τ0 w' τ' S ∧ Step w τ w' τ' (fun t => t = g) := by
  obtain ⟨i0, hi, hz0, hz1, hz2⟩ := info_parts Tryz.infoU8
  obtain ⟨p, c, rfl, h1, h2⟩ := hb.any
  have hnews := hb.news.2
  by_cases hp : p = none
  · subst hp
    obtain ⟨p', c', hv, h3, h4, hc⟩ := hb.is
    simp only [Value.slice.injEq] at hv
    obtain ⟨rfl, _, rfl⟩ := hv
    cases m with
    | nil =>
      refine ⟨v, w, τ, ?_, by simpa using hown, hst, Step.refl _ _ _⟩
      rcases hown.buf.2 with ⟨rfl, _⟩ | ⟨b, cap, ys, rfl, ho, _, hnc, _⟩
      · simp [Builtin.append_, run_underlying Tryz.underlying43, sizeOf, typeInfo, hi, Builtin.lenOf, Builtin.firstCells]
      · simp [Builtin.append_, run_underlying Tryz.underlying43, sizeOf, typeInfo, hi, Builtin.lenOf, Builtin.firstCells, hnc, storeCells]
    | cons x r => obtain ⟨b, o, hq, _⟩ := hc (by simp); cases hq
  obtain ⟨v', w', τ', hr, hb', he, hm, hnw⟩ := run_append_buf (P := Tryz.prog) w τ g 43 ty 5 i0 (.int .u8 0) 1 1 Tryz.underlying43 hi hz0 hz1 hz2 rfl (by decide) v l.length (u8s l) hown.buf
    p m.length c (u8s m) (by rw [u8s_length, Nat.mul_one]) (fun h => absurd h hp) (fun a ha => hnews a ha) (u8s_one m) (by unfold maxLen; omega) (by omega)
  refine ⟨v', w', τ', hr, ⟨by rw [List.length_append, u8s_append]; exact hb', hown.isB.append hb.isB, fun k hk => ?_⟩, ⟨hst.mod.seq hm (fun k hk hS => absurd (hown.low k hS) (by omega)), hst.ext.trans he hst.size⟩, ⟨hm.mono (fun k hk hS => (hown.buf.own k hS).1), he⟩⟩
  rcases hnw k hk with h | h
  · exact hown.low k h
  · have := hst.size; omega
/-- append, in a walk -/
theorem wpList_append_nb {w0 w : World} {τ0 τ : Tags} {S : Tag → Prop} (hst : Step w0 τ0 w τ S) {g g2 : Tag} {v vx : Value} {l m : List Int} (hown : NB w0.heap.size w τ g v l) (hb : Bytes w τ g2 vx m) (hsz : l.length + m.length ≤ 100000000000)
    {ops : Array Oper} {rest : List Oper} {o : Oper} {a : Act} {Q : Exit → Act → World → Prop} (hgd : o.guard = none) (s x : Operand)
    (ho : o.op = .call { callee := .builtin .append, args := #[s, x], argTypes := #[43, 43] }) (hs : a.eval s = v) (hx : a.eval x = vx)
    (h : ∀ v' w' τ', NB w0.heap.size w' τ' g v' (l ++ m) → Step w0 τ0 w' τ' S → Step w τ w' τ' (fun t => t = g) → wpList Tryz.prog ops Q rest (a.put o.dst v') w') : wpList Tryz.prog ops Q (o :: rest) a w := by
  refine wpList_plain hgd fun K hK => ?_
  obtain ⟨v', w', τ', hr, h2, h3, h4⟩ := run_append_nb hst hown hb hsz o.type
  unfold Oper.wp execOp
  simp only [ho, resolve, invoke, builtin, Sem.run_bind, Sem.run_pure, Result.andThen_ok, List.map_toArray, List.map_cons, List.map_nil, hs, hx, hr]
  exact hK _ _ (h v' w' τ' h2 h3 h4)
/-- append, at a step of a region that draws its order -/
theorem step_append_nb {w0 w : World} {τ0 τ : Tags} {S : Tag → Prop} (hst : Step w0 τ0 w τ S) {g g2 : Tag} {v vx : Value} {l m : List Int} (hown : NB w0.heap.size w τ g v l) (hb : Bytes w τ g2 vx m) (hsz : l.length + m.length ≤ 100000000000)
    {ops : Array Oper} {o : Oper} {a : Act} {K : Act → World → Prop} {Q : Exit → Act → World → Prop} {E : Prop} (hgd : o.guard = none) (s x : Operand)
    (ho : o.op = .call { callee := .builtin .append, args := #[s, x], argTypes := #[43, 43] }) (hs : a.eval s = v) (hx : a.eval x = vx)
    (h : ∀ v' w' τ', NB w0.heap.size w' τ' g v' (l ++ m) → Step w0 τ0 w' τ' S → Step w τ w' τ' (fun t => t = g) → K (a.put o.dst v') w') : if Region.wanted o (yielded ops a.tmps) = true then Oper.wp Tryz.prog o a w K Q else E := by
  have hw : Region.wanted o (yielded ops a.tmps) = true := by simp [Region.wanted, hgd]
  rw [if_pos hw]
  obtain ⟨v', w', τ', hr, h2, h3, h4⟩ := run_append_nb hst hown hb hsz o.type
  unfold Oper.wp execOp
  simp only [ho, resolve, invoke, builtin, Sem.run_bind, Sem.run_pure, Result.andThen_ok, List.map_toArray, List.map_cons, List.map_nil, hs, hx, hr]
  exact h v' w' τ' h2 h3 h4

/-- a row of sectors of a call's own, in a block from n0 on -/
structure NR (n0 : Nat) (w : World) (τ : Tags) (g : Tag) (v : Value) (ls : List (List Int)) : Prop where
  row : Waits w τ g v ls
  low : ∀ k, v.ownBlock = some k → n0 ≤ k
theorem NR.nil (n0 : Nat) (w : World) (τ : Tags) (g : Tag) : NR n0 w τ g (.slice none 0 0) [] := ⟨.inl ⟨rfl, rfl⟩, fun k hk => by simp [Value.ownBlock] at hk⟩
theorem NR.step {n0 : Nat} {w w' : World} {τ τ' : Tags} {S : Tag → Prop} {g : Tag} {v : Value} {ls : List (List Int)} (h : NR n0 w τ g v ls) (m : Step w τ w' τ' S) (hs : ¬ S g) (hd : ¬ S tData) : NR n0 w' τ' g v ls := ⟨h.row.step m hs hd, h.low⟩
theorem NR.drew {n0 : Nat} {w : World} {τ : Tags} {g : Tag} {v : Value} {ls : List (List Int)} (h : NR n0 w τ g v ls) : NR n0 w.drew τ g v ls := h.step (Step.refl w τ Go.Proofs.YtgjoahddbieliaaGreat.nil).drew (fun h => h) (fun h => h)
theorem NR.val {n0 : Nat} {w : World} {τ : Tags} {g : Tag} {v : Value} {ls : List (List Int)} (h : NR n0 w τ g v ls) : ∃ p c, v = .slice p ls.length c := h.row.len
/-- one sector more: the new element lies in a block of one cell, k -/
theorem run_append_nr {w0 w : World} {τ0 τ : Tags} {S : Tag → Prop} (hst : Step w0 τ0 w τ S) {g : Tag} (hg : g ≠ tData) {v u : Value} {ls : List (List Int)} {x : List Int} (hown : NR w0.heap.size w τ g v ls) (hb : Bytes w τ tData u x) (h128 : x.length = 128) (hsz : ls.length ≤ 1000000000) {k : Nat}
    (hk : w.heap[k]? = some (.cells #[u] 43 (0, 0))) (ty : TypeId) :
    ∃ v' w' τ', (Builtin.append_ #[47, 47] ty #[v, .slice (some ⟨k, 0, none⟩) 1 1]).run Tryz.prog w = .ok v' w' ∧ NR w0.heap.size w' τ' g v' (ls ++ [x]) ∧ Step w0 τ0 w' τ' S ∧ Step w τ w' τ' (fun t => t = g) ∧ Mod w w' (fun k => v.ownBlock = some k) := by
  obtain ⟨i0, hi, hz0, hz1, hz2⟩ := info_parts Tryz.infoU8s
  obtain ⟨xs, hbuf, hxs⟩ := hown.row.buf
  obtain ⟨p, c, rfl, _⟩ := hb.any
  obtain ⟨v', w', τ', hr, hb', he, hm, hnw⟩ := run_append_buf (P := Tryz.prog) w τ g 47 ty 43 i0 (.slice none 0 0) 1 24 Tryz.underlying47 hi hz0 hz1 hz2 rfl (by decide) v ls.length xs hbuf
    (some ⟨k, 0, none⟩) 1 1 [.slice p x.length c] rfl (fun h => by cases h) (by
      intro ad had; cases had; exact World.news_of_block (cs := #[.slice p x.length c]) (t := 43) (fr := (0, 0)) hk) (by simp [Value.oneCell']) (by unfold maxLen; omega) (by omega)
  have hmd : Step w τ w' τ' (fun t => t = g) := ⟨hm.mono (fun k hk hS => (hbuf.own k hS).1), he⟩
  have hxl : xs.length = ls.length := by have := hbuf.1; omega
  refine ⟨v', w', τ', hr, ⟨?_, fun k hk => ?_⟩, ⟨hst.mod.seq hm (fun k hk hS => absurd (hown.low k hS) (by omega)), hst.ext.trans he hst.size⟩, hmd, hm⟩
  · have hb2 : Buf w' τ' g 43 1 v' (ls ++ [x]).length (xs ++ [.slice p x.length c]) := by rw [List.length_append]; exact hb'
    refine hb2.waits (fun j y hj => ?_)
    by_cases hlt : j < ls.length
    · rw [List.getElem?_append_left hlt] at hj
      obtain ⟨a, u, hu, hbu⟩ := hxs j y hj
      exact ⟨a, u, by rw [List.getElem?_append_left (by omega)]; exact hu, hbu.step hmd (fun e => hg e.symm)⟩
    · rw [List.getElem?_append_right (by omega)] at hj
      have hj0 : j - ls.length = 0 := by
        have := (List.getElem?_eq_some_iff.1 hj).1
        simp at this; omega
      rw [hj0] at hj
      have hxy : x = y := by simpa using hj
      subst hxy
      refine ⟨h128, _, by rw [List.getElem?_append_right (by omega), show j - xs.length = 0 by omega]; rfl, hb.step hmd (fun e => hg e.symm)⟩
  · rcases hnw k hk with h | h
    · exact hown.low k h
    · have := hst.size; omega
theorem wpList_append_nr {w0 w : World} {τ0 τ : Tags} {S : Tag → Prop} (hst : Step w0 τ0 w τ S) {g : Tag} (hg : g ≠ tData) {v u : Value} {ls : List (List Int)} {x : List Int} (hown : NR w0.heap.size w τ g v ls) (hb : Bytes w τ tData u x) (h128 : x.length = 128) (hsz : ls.length ≤ 1000000000) {k : Nat}
    (hk : w.heap[k]? = some (.cells #[u] 43 (0, 0)))
    {ops : Array Oper} {rest : List Oper} {o : Oper} {a : Act} {Q : Exit → Act → World → Prop} (hgd : o.guard = none) (s y : Operand)
    (ho : o.op = .call { callee := .builtin .append, args := #[s, y], argTypes := #[47, 47] }) (hs : a.eval s = v) (hy : a.eval y = .slice (some ⟨k, 0, none⟩) 1 1)
    (h : ∀ v' w' τ', NR w0.heap.size w' τ' g v' (ls ++ [x]) → Step w0 τ0 w' τ' S → Step w τ w' τ' (fun t => t = g) → wpList Tryz.prog ops Q rest (a.put o.dst v') w') : wpList Tryz.prog ops Q (o :: rest) a w := by
  refine wpList_plain hgd fun K hK => ?_
  obtain ⟨v', w', τ', hr, h2, h3, h4, -⟩ := run_append_nr hst hg hown hb h128 hsz hk o.type
  unfold Oper.wp execOp
  simp only [ho, resolve, invoke, builtin, Sem.run_bind, Sem.run_pure, Result.andThen_ok, List.map_toArray, List.map_cons, List.map_nil, hs, hy, hr]
  exact hK _ _ (h v' w' τ' h2 h3 h4)
theorem step_append_nr {w0 w : World} {τ0 τ : Tags} {S : Tag → Prop} (hst : Step w0 τ0 w τ S) {g : Tag} (hg : g ≠ tData) {v u : Value} {ls : List (List Int)} {x : List Int} (hown : NR w0.heap.size w τ g v ls) (hb : Bytes w τ tData u x) (h128 : x.length = 128) (hsz : ls.length ≤ 1000000000) {k : Nat}
    (hk : w.heap[k]? = some (.cells #[u] 43 (0, 0)))
    {ops : Array Oper} {o : Oper} {a : Act} {K : Act → World → Prop} {Q : Exit → Act → World → Prop} {E : Prop} (hgd : o.guard = none) (s y : Operand)
    (ho : o.op = .call { callee := .builtin .append, args := #[s, y], argTypes := #[47, 47] }) (hs : a.eval s = v) (hy : a.eval y = .slice (some ⟨k, 0, none⟩) 1 1)
    (h : ∀ v' w' τ', NR w0.heap.size w' τ' g v' (ls ++ [x]) → Step w0 τ0 w' τ' S → Step w τ w' τ' (fun t => t = g) → K (a.put o.dst v') w') : if Region.wanted o (yielded ops a.tmps) = true then Oper.wp Tryz.prog o a w K Q else E := by
  have hw : Region.wanted o (yielded ops a.tmps) = true := by simp [Region.wanted, hgd]
  rw [if_pos hw]
  obtain ⟨v', w', τ', hr, h2, h3, h4, -⟩ := run_append_nr hst hg hown hb h128 hsz hk o.type
  unfold Oper.wp execOp
  simp only [ho, resolve, invoke, builtin, Sem.run_bind, Sem.run_pure, Result.andThen_ok, List.map_toArray, List.map_cons, List.map_nil, hs, hy, hr]
  exact h v' w' τ' h2 h3 h4
theorem NR.alloc {n0 : Nat} {w : World} {τ : Tags} {g : Tag} {v : Value} {ls : List (List Int)} (h : NR n0 w τ g v ls) (o : Obj) : NR n0 (w.alloc o) τ g v ls := h.step ((Step.refl w τ Go.Proofs.YtgjoahddbieliaaGreat.nil).alloc' o) (fun h => h) (fun h => h)
theorem Bytes.alloc {w : World} {τ : Tags} {g : Tag} {v : Value} {l : List Int} (h : Bytes w τ g v l) (o : Obj) : Bytes (w.alloc o) τ g v l := h.step ((Step.refl w τ Go.Proofs.YtgjoahddbieliaaGreat.nil).alloc' o) (fun h => h)
theorem NB.alloc {n0 : Nat} {w : World} {τ : Tags} {g : Tag} {v : Value} {l : List Int} (h : NB n0 w τ g v l) (o : Obj) : NB n0 (w.alloc o) τ g v l := h.step ((Step.refl w τ Go.Proofs.YtgjoahddbieliaaGreat.nil).alloc' o) (fun h => h)
/-- the same, the new element's block just made -/
theorem wpList_append_nr1 {w0 w : World} {τ0 τ : Tags} {S : Tag → Prop} (hst : Step w0 τ0 w τ S) {g : Tag} (hg : g ≠ tData) {v u : Value} {ls : List (List Int)} {x : List Int} (hown : NR w0.heap.size w τ g v ls) (hb : Bytes w τ tData u x) (h128 : x.length = 128) (hsz : ls.length ≤ 1000000000) {kb : Nat} (hkb : kb = w.heap.size)
    {ops : Array Oper} {rest : List Oper} {o : Oper} {a : Act} {Q : Exit → Act → World → Prop} (hgd : o.guard = none) (s y : Operand)
    (ho : o.op = .call { callee := .builtin .append, args := #[s, y], argTypes := #[47, 47] }) (hs : a.eval s = v) (hy : a.eval y = .slice (some ⟨kb, 0, none⟩) 1 1)
    (h : ∀ v' w' τ', NR w0.heap.size w' τ' g v' (ls ++ [x]) → Step w0 τ0 w' τ' S → Step w τ w' τ' (fun t => t = g) → wpList Tryz.prog ops Q rest (a.put o.dst v') w') : wpList Tryz.prog ops Q (o :: rest) a (w.alloc (.cells #[u] 43)) := by
  subst hkb
  refine wpList_append_nr (hst.alloc' (.cells #[u] 43)) hg (hown.alloc _) (hb.alloc _) h128 hsz (heap_alloc_new w _) hgd s y ho hs hy (fun v' w' τ' h1 h2 h3 => h v' w' τ' h1 h2 ?_)
  exact ((Step.refl w τ _).alloc' _).trans h3
theorem step_append_nr1 {w0 w : World} {τ0 τ : Tags} {S : Tag → Prop} (hst : Step w0 τ0 w τ S) {g : Tag} (hg : g ≠ tData) {v u : Value} {ls : List (List Int)} {x : List Int} (hown : NR w0.heap.size w τ g v ls) (hb : Bytes w τ tData u x) (h128 : x.length = 128) (hsz : ls.length ≤ 1000000000) {kb : Nat} (hkb : kb = w.heap.size)
    {ops : Array Oper} {o : Oper} {a : Act} {K : Act → World → Prop} {Q : Exit → Act → World → Prop} {E : Prop} (hgd : o.guard = none) (s y : Operand)
    (ho : o.op = .call { callee := .builtin .append, args := #[s, y], argTypes := #[47, 47] }) (hs : a.eval s = v) (hy : a.eval y = .slice (some ⟨kb, 0, none⟩) 1 1)
    (h : ∀ v' w' τ', NR w0.heap.size w' τ' g v' (ls ++ [x]) → Step w0 τ0 w' τ' S → Step w τ w' τ' (fun t => t = g) → K (a.put o.dst v') w') : if Region.wanted o (yielded ops a.tmps) = true then Oper.wp Tryz.prog o a (w.alloc (.cells #[u] 43)) K Q else E := by
  subst hkb
  refine step_append_nr (hst.alloc' (.cells #[u] 43)) hg (hown.alloc _) (hb.alloc _) h128 hsz (heap_alloc_new w _) hgd s y ho hs hy (fun v' w' τ' h1 h2 h3 => h v' w' τ' h1 h2 ?_)
  exact ((Step.refl w τ _).alloc' _).trans h3
end Go.Proofs.YtgjoahddbieliaaGreat
