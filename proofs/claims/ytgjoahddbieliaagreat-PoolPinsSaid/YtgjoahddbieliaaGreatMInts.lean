/-
  Rows of ints of a call's own that grow.
-/
import Derived.Test.YtgjoahddbieliaaGreatMPage
import Derived.Deep.MidRow
import Derived.Deep.WholeRow
import Derived.Laws.Cover3
import Derived.Stop.BytesEq
namespace Go.Proofs.YtgjoahddbieliaaGreat
open Go.RowKit
set_option linter.unusedVariables false

theorem Tryz.infoInt : (Tryz.prog.info? 3).map (fun i => (i.zero, i.size, i.bytes)) = some (some (.int .i64 0), 1, 8) := by kernel_rfl
theorem i64s_length (l : List Nat) : (i64s l).length = l.length := by simp [i64s]
theorem i64s_append (l m : List Nat) : i64s (l ++ m) = i64s l ++ i64s m := by simp [i64s]
theorem i64s_at (l : List Nat) (i : Nat) (h : i < l.length) : (i64s l)[i]? = some (.int .i64 ((l.getD i 0 : Nat) : Int)) := by
  simp [i64s, List.getD, List.getElem?_eq_getElem h]
/-- ints in a row -/
def Ints (w : World) (τ : Tags) (g : Tag) (v : Value) (l : List Nat) : Prop := Buf w τ g 3 1 v l.length (i64s l)
theorem Ints.step {w w' : World} {τ τ' : Tags} {S : Tag → Prop} {g : Tag} {v : Value} {l : List Nat} (h : Ints w τ g v l) (m : Step w τ w' τ' S) (hs : ¬ S g) : Ints w' τ' g v l := Buf.step h m hs
theorem Ints.read {w : World} {τ : Tags} {g : Tag} {v : Value} {l : List Nat} (h : Ints w τ g v l) : ∃ p c, v = .slice p l.length c ∧ l.length ≤ maxLen ∧ ∀ i, i < l.length → ∃ b, p = some ⟨b, 0, none⟩ ∧ w.cell? ⟨b, i, none⟩ = some (.int .i64 ((l.getD i 0 : Nat) : Int)) := by
  obtain ⟨h1, ⟨rfl, h2⟩ | ⟨b, cap, ys, rfl, ho, h3, h4, h5⟩⟩ := h
  · refine ⟨none, 0, by rw [h2], by rw [h2]; exact Nat.zero_le _, fun i hi => by omega⟩
  · refine ⟨_, cap, rfl, by omega, fun i hi => ⟨b, rfl, ho.at i ?_⟩⟩
    rw [List.getElem?_append_left (by rw [i64s_length]; exact hi), i64s_at l i hi]
structure NI (n0 : Nat) (w : World) (τ : Tags) (g : Tag) (v : Value) (l : List Nat) : Prop where
  buf : Ints w τ g v l
  low : ∀ k, v.ownBlock = some k → n0 ≤ k
theorem NI.nil (n0 : Nat) (w : World) (τ : Tags) (g : Tag) : NI n0 w τ g (.slice none 0 0) [] := ⟨Buf.nil _ _ _ _ _, fun k hk => by simp [Value.ownBlock] at hk⟩
theorem NI.step {n0 : Nat} {w w' : World} {τ τ' : Tags} {S : Tag → Prop} {g : Tag} {v : Value} {l : List Nat} (h : NI n0 w τ g v l) (m : Step w τ w' τ' S) (hs : ¬ S g) : NI n0 w' τ' g v l := ⟨h.buf.step m hs, h.low⟩
theorem NI.val {n0 : Nat} {w : World} {τ : Tags} {g : Tag} {v : Value} {l : List Nat} (h : NI n0 w τ g v l) : ∃ p c, v = .slice p l.length c := Buf.len h.buf
theorem wpList_append_ni {w0 w : World} {τ0 τ : Tags} {S : Tag → Prop} (hst : Step w0 τ0 w τ S) {g : Tag} {v : Value} {l : List Nat} (hown : NI w0.heap.size w τ g v l) (x : Nat) {xv : Int} (hxv : xv = (x : Int)) (hsz : l.length ≤ 1000000000) {kb : Nat} (hkb : kb = w.heap.size)
    {ops : Array Oper} {rest : List Oper} {o : Oper} {a : Act} {Q : Exit → Act → World → Prop} (hgd : o.guard = none) (s y : Operand)
    (hop : o.op = .call { callee := .builtin .append, args := #[s, y], argTypes := #[86, 86] }) (hs : a.eval s = v) (hy : a.eval y = .slice (some ⟨kb, 0, none⟩) 1 1)
    (h : ∀ v' w' τ', NI w0.heap.size w' τ' g v' (l ++ [x]) → Step w0 τ0 w' τ' S → Step w τ w' τ' (fun t => t = g) → wpList Tryz.prog ops Q rest (a.put o.dst v') w') : wpList Tryz.prog ops Q (o :: rest) a (w.alloc (.cells #[.int .i64 xv] 3)) := by
  subst hkb
  subst hxv
  refine wpList_plain hgd fun K hK => ?_
  obtain ⟨i0, hi, hz0, hz1, hz2⟩ := info_parts Tryz.infoInt
  have hst1 := hst.alloc' (.cells #[.int .i64 (x : Int)] 3)
  have hn1 := hown.step ((Step.refl w τ Go.Proofs.YtgjoahddbieliaaGreat.nil).alloc' (.cells #[.int .i64 (x : Int)] 3)) (fun h => h)
  obtain ⟨v', w', τ', hr, hb', he, hm, hnw⟩ := run_append_buf (P := Tryz.prog) (w.alloc (.cells #[.int .i64 (x : Int)] 3)) τ g 86 o.type 3 i0 (.int .i64 0) 1 8 Tryz.underlying86 hi hz0 hz1 hz2 rfl (by decide) v l.length (i64s l) hn1.buf
    (some ⟨w.heap.size, 0, none⟩) 1 1 [.int .i64 (x : Int)] rfl (fun h => by cases h) (by
      intro ad had; cases had; exact World.news_of_block (cs := #[.int .i64 (x : Int)]) (t := 3) (fr := (0, 0)) (heap_alloc_new w _)) (by simp [Value.oneCell']) (by unfold maxLen; omega) (by omega)
  unfold Oper.wp execOp
  simp only [hop, resolve, invoke, builtin, Sem.run_bind, Sem.run_pure, Result.andThen_ok, List.map_toArray, List.map_cons, List.map_nil, hs, hy, hr]
  refine hK _ _ (h v' w' τ' ⟨?_, fun k hk => ?_⟩ ⟨hst1.mod.seq hm (fun k hk hS => absurd (hn1.low k hS) (by omega)), hst1.ext.trans he hst1.size⟩ (((Step.refl w τ _).alloc' _).trans ⟨hm.mono (fun k hk hS => (hn1.buf.own k hS).1), he⟩))
  · show Buf _ _ _ _ _ _ _ _
    rw [List.length_append, i64s_append]; exact hb'
  · rcases hnw k hk with h | h
    · exact hn1.low k h
    · have := hst1.size; omega
end Go.Proofs.YtgjoahddbieliaaGreat

/-
  Pages: Slots, used, list, settle.
-/
namespace Go.Proofs.YtgjoahddbieliaaGreat
open Go.RowKit
set_option linter.unusedVariables false

def slotsTo (P : List Int) (i : Nat) : List Nat := (List.range i).filter (fun s => decide (0 < pLen P s))
def pSlots (P : List Int) : List Nat := slotsTo P (pageCount P)
theorem slotsTo_succ (P : List Int) (i : Nat) : slotsTo P (i + 1) = slotsTo P i ++ (if 0 < pLen P i then [i] else []) := by
  unfold slotsTo
  rw [List.range_succ, List.filter_append]
  congr 1
  by_cases h : 0 < pLen P i <;> simp [h]
theorem slotsTo_length (P : List Int) (i : Nat) : (slotsTo P i).length ≤ i := by
  unfold slotsTo
  exact Nat.le_trans (List.length_filter_le _ _) (by simp)
theorem slotsTo_mem {P : List Int} {i s : Nat} (h : s ∈ slotsTo P i) : s < i ∧ 0 < pLen P s := by
  unfold slotsTo at h
  obtain ⟨h1, h2⟩ := List.mem_filter.1 h
  exact ⟨List.mem_range.1 h1, by simpa using h2⟩

set_option maxRecDepth 100000 in
theorem pageslots_any {w : World} {τ : Tags} {g : Tag} {b : Nat} {P : List Int} (h : PageAt w τ g b P) (hf : Fit P) :
    Calls Tryz.prog 188 #[.pointer (some ⟨b, 0, none⟩)] w fun e w' => ∃ v τ', e = .returned v ∧ NI w.heap.size w' τ' tOut v (pSlots P) ∧ Step w τ w' τ' nil := by
  have h1 := pagecount_any h
  have hc := hf.count
  have hps : pSlots P = slotsTo P (pageCount P) := rfl
  generalize hq : pageCount P = q at *
  have H1 := Lib.hid h1
  have Hps := Lib.hid hps
  have Hq := Lib.hid hq
  clear h1 hps hq
  have H_h := Lib.hid h
  have Hf := Lib.hid hf
  clear h hf
  go_enter Tryz.func188, Tryz.ntmps188
  go_wp2_with fail
  refine H1.out.mono ?_
  rintro e w' ⟨rfl, rfl⟩
  go_wp2_with fail
  go_loopw [3, 7] (fun m v wr => ∃ (i : Nat) (τr : Tags), i ≤ q ∧ v = .int .i64 (i : Int) ∧ NI w.heap.size wr τr tOut m (slotsTo P i) ∧ Step w τ wr τr nil) (fun _ v _ => q - (intOf v).toNat)
  case atStart => exact ⟨0, τ, Nat.zero_le _, rfl, NI.nil _ _ _ _, Step.refl _ _ _⟩
  case round =>
    obtain ⟨i, τr, hi, rfl, hni, hst⟩ := hrel
    by_cases hlt : i < q
    · have hd := pagedata_any (H_h.out.step hst (fun h => h)) Hf.out i (by omega)
      have hs := slotsTo_succ P i
      have hsl := slotsTo_length P i
      obtain ⟨pm, cm, rfl⟩ := hni.val
      generalize pLen P i = n at *
      by_cases h0 : 0 < n
      · rw [if_pos h0] at hs
        have hsz : (slotsTo P i).length ≤ 1000000000 := by omega
        have Hd := Lib.hid hd
        have Hs := Lib.hid hs
        have Hni := Lib.hid hni
        have Hst := Lib.hid hst
        have Hsz := Lib.hid hsz
        clear hd hs hni hst hsz
        go_wp2_with fail
        refine Hd.out.mono ?_
        rintro e w' ⟨o, rfl, -, rfl⟩
        go_wp2_with (at_builtin; refine wpList_append_ni Hst.out Hni.out i rfl Hsz.out rfl rfl _ _ rfl rfl rfl ?_; intro v' w' τ' hb he hmo; have Hb := Lib.hid hb; have He := Lib.hid he; have Hmo := Lib.hid hmo; clear hb he hmo)
        go_round
        case rel => exact ⟨i + 1, τ', by omega, by simp, by rw [Hs.out]; exact Hb.out, He.out⟩
        case measure => simp [intOf]; omega
      · rw [if_neg h0, List.append_nil] at hs
        obtain rfl : n = 0 := by omega
        have Hd := Lib.hid hd
        have Hs := Lib.hid hs
        have Hni := Lib.hid hni
        have Hst := Lib.hid hst
        clear hd hs hni hst
        go_wp2_with fail
        refine Hd.out.mono ?_
        rintro e w' ⟨o, rfl, -, rfl⟩
        go_wp2_with fail
        go_round
        case rel => exact ⟨i + 1, τr, by omega, by simp, by rw [Hs.out]; exact Hni.out, Hst.out⟩
        case measure => simp [intOf]; omega
    · have hin : i = q := by omega
      subst hin
      have Hni := Lib.hid hni
      have Hst := Lib.hid hst
      clear hni hst
      go_wp2_with fail
      go_returns
      exact ⟨_, τr, rfl, by rw [Hps.out]; exact Hni.out, Hst.out⟩

/-- the lengths of the first i slots' data -/
def usedTo (P : List Int) : Nat → Nat
  | 0 => 0
  | i + 1 => usedTo P i + pLen P i
def pUsed (P : List Int) : Nat := usedTo P (pageCount P)
set_option maxRecDepth 100000 in
theorem pageused_any {w : World} {τ : Tags} {g : Tag} {b : Nat} {P : List Int} (h : PageAt w τ g b P) (hf : Fit P) :
    Calls Tryz.prog 190 #[.pointer (some ⟨b, 0, none⟩)] w fun e w' => e = .returned (.int .i64 (pUsed P : Int)) ∧ w = w' := by
  have h1 := pagecount_any h
  have hc := hf.count
  have hps : pUsed P = usedTo P (pageCount P) := rfl
  have hle : ∀ i, usedTo P i ≤ i * 448 := by
    intro i
    induction i with
    | zero => simp [usedTo]
    | succ i ih => have := hf.ends i; unfold usedTo; omega
  rw [hps]
  generalize hq : pageCount P = q at *
  have H1 := Lib.hid h1
  have Hps := Lib.hid hps
  have Hq := Lib.hid hq
  have Hle := Lib.hid hle
  clear h1 hps hq hle
  have H_h := Lib.hid h
  have Hf := Lib.hid hf
  clear h hf
  go_enter Tryz.func190, Tryz.ntmps190
  go_wp2_with fail
  refine H1.out.mono ?_
  rintro e w' ⟨rfl, rfl⟩
  go_wp2_with fail
  go_loopw [3, 7] (fun m v wr => ∃ (i : Nat), i ≤ q ∧ v = .int .i64 (i : Int) ∧ m = .int .i64 (usedTo P i : Int) ∧ wr = w) (fun _ v _ => q - (intOf v).toNat)
  case atStart => exact ⟨0, Nat.zero_le _, rfl, rfl, rfl⟩
  case round =>
    obtain ⟨i, hi, rfl, rfl, rfl⟩ := hrel
    by_cases hlt : i < q
    · have hd := pagedata_any H_h.out Hf.out i (by omega)
      have hs : usedTo P (i + 1) = usedTo P i + pLen P i := rfl
      have hl := Hle.out i
      have he := Hf.out.ends i
      generalize pLen P i = n at *
      generalize pOff P i = o at *
      generalize usedTo P i = u at *
      have Hd := Lib.hid hd
      have Hs := Lib.hid hs
      clear hd hs
      go_wp2_with fail
      refine Hd.out.mono ?_
      rintro e w' ⟨o, rfl, -, rfl⟩
      go_wp2_with fail
      go_round
      case rel => exact ⟨i + 1, by omega, by simp, by rw [Hs.out]; simp, trivial⟩
      case measure => simp [intOf]; omega
    · have hin : i = q := by omega
      subst hin
      go_wp2_with fail
      go_returns
      exact ⟨rfl, rfl⟩
end Go.Proofs.YtgjoahddbieliaaGreat

/-
  Pages: Read of noughts.
-/
namespace Go.Proofs.YtgjoahddbieliaaGreat
open Go.RowKit
set_option linter.unusedVariables false

theorem foldl_set (l : List Value) (k : Nat) (z : List Value) (h : k + l.length ≤ z.length) :
    (l.zipIdx k).foldl (fun cs (p : Value × Nat) => cs.setIfInBounds (0 + p.2) p.1) z.toArray = (z.take k ++ l ++ z.drop (k + l.length)).toArray := by
  induction l generalizing k z with
  | nil => simp
  | cons x l ih =>
    rw [List.zipIdx_cons, List.foldl_cons]
    have e : z.toArray.setIfInBounds (0 + k) x = (z.set k x).toArray := by simp
    show List.foldl _ (z.toArray.setIfInBounds (0 + k) x) _ = _
    rw [e, ih (k + 1) (z.set k x) (by rw [List.length_set]; simp at h; omega)]
    congr 1
    simp at h
    rw [List.length_cons, List.take_set, List.drop_set_of_lt (by omega)]
    have hk : k < z.length := by omega
    have e2 : (z.take (k + 1)).set k x = z.take k ++ [x] := by
      rw [List.take_add_one]
      rw [List.getElem?_eq_getElem hk]
      rw [List.set_append_right _ _ (by simp; omega)]
      simp [Nat.min_eq_left (Nat.le_of_lt hk)]
    rw [e2, show k + 1 + l.length = k + (l.length + 1) by omega]
    simp
theorem fill_whole (cs z : Array Value) (h : cs.size = z.size) :
    cs.zipIdx.foldl (fun (acc : Array Value) (p : Value × Nat) => acc.setIfInBounds (0 + p.2) p.1) z = cs := by
  obtain ⟨l⟩ := cs
  obtain ⟨m⟩ := z
  have := foldl_set l 0 m (by simp at h; omega)
  rw [← Array.foldl_toList, Array.toList_zipIdx]
  rw [this]
  simp at h
  simp [h]
theorem fold_page (cs : Array Value) (h : cs.size = 448) : Array.foldl (fun (a : Array Value) (x : Value × Nat) => a.setIfInBounds x.snd x.fst) Tryz.zeroCells110 cs.zipIdx 0 448 = cs := by
  have := fill_whole cs Tryz.zeroCells110 (by rw [h, Tryz.zeroCells110_size])
  rw [Array.size_zipIdx, h] at this
  simpa using this
theorem wpList_binop {P : Program} {ops : Array Oper} {rest : List Oper} {op : Oper} {a : Act} {w : World} {Q : Exit → Act → World → Prop} (hgd : op.guard = none) (o : BinOp) (t r : TypeId) (x y : Operand) (ho : op.op = .binOp o t x y r)
    (vx vy v : Value) (hx : a.eval x = vx) (hy : a.eval y = vy) (hq : (eqGuard o t x y vx vy).run P w = .ok () w) (hb : (binOp o t vx vy).run P w = .ok v w)
    (h : wpList P ops Q rest (a.put op.dst v) w) : wpList P ops Q (op :: rest) a w :=
  wpList_plain hgd fun _ hK => by
    unfold Oper.wp execOp
    simp only [ho, hx, hy, Sem.run_bind, Sem.run_pure, Result.andThen_ok, hq, hb]
    exact hK _ _ h
theorem u8s_bytes {l : List Int} (h : IsB l) : u8s l = (l.map (fun x => x.toNat.toUInt8)).map Extern.Stop.cell := by
  unfold u8s
  rw [List.map_map]
  refine List.map_congr_left (fun x hx => ?_)
  have := h x hx
  simp only [Function.comp, Extern.Stop.cell]
  congr 1
  have h2 : x.toNat.toUInt8.toNat = x.toNat := by simp; omega
  show x = ((x.toNat.toUInt8.toNat : Nat) : Int)
  rw [h2]; omega
theorem bytes_beq {l m : List Int} (hl : IsB l) (hm : IsB m) : (l.map (fun x => x.toNat.toUInt8) == m.map (fun x => x.toNat.toUInt8)) = decide (l = m) := by
  rw [Bool.eq_iff_iff]
  simp only [beq_iff_eq, decide_eq_true_eq]
  constructor
  · intro h
    have h1 := congrArg (List.map (fun (b : UInt8) => (b.toNat : Int))) h
    have h2 : ∀ {k : List Int}, IsB k → (k.map (fun x => x.toNat.toUInt8)).map (fun (b : UInt8) => (b.toNat : Int)) = k := by
      intro k hk
      rw [List.map_map]
      conv => rhs; rw [← List.map_id k]
      refine List.map_congr_left (fun x hx => ?_)
      have := hk x hx
      simp only [Function.comp, id]
      have h3 : x.toNat.toUInt8.toNat = x.toNat := by simp; omega
      omega
    rw [h2 hl, h2 hm] at h1
    exact h1
  · rintro rfl; rfl
theorem run_sizeOf_row {P : Program} {t : TypeId} {n : Nat} (h : (P.info? t).map (·.size) = some n) (w : World) : (sizeOf t).run P w = .ok n w := by
  cases hq : P.info? t with
  | none => simp [hq] at h
  | some i => simp [sizeOf, typeInfo, hq]; simpa [hq] using h
theorem run_eql_page (w : World) {X Y : List Int} (hX : IsB X) (hY : IsB Y) (lX : X.length = 448) (lY : Y.length = 448) :
    (binOp .eql 108 (.agg (u8s X).toArray) (.agg (u8s Y).toArray)).run Tryz.prog w = .ok (.bool (decide (X = Y))) w := by
  have hz : ∀ w, (sizeOf 5).run Tryz.prog w = .ok 1 w := run_sizeOf_row (by kernel_rfl)
  rw [← bytes_beq hX hY, u8s_bytes hX, u8s_bytes hY]
  exact run_eql_bytes w _ _ 448 Tryz.underlying108 Tryz.underlying5 hz _ _ (by rw [List.length_map]; exact lX) (by rw [List.length_map]; exact lY)
theorem run_eqGuard_page (w : World) (x y : Operand) (xs ys : Array Value) : (eqGuard .eql 108 x y (.agg xs) (.agg ys)).run Tryz.prog w = .ok () w :=
  run_eqGuard_agg _ _ _ _ _ _ _ (by kernel_rfl)
theorem rangeAt_bytes {w : World} {b o : Nat} {l : List Int} (hc : ∀ i, i < l.length → w.cell? ⟨b, o + i, none⟩ = some (.int .u8 (l.getD i 0))) : w.rangeAt b o (u8s l) := by
  intro j v hv
  have hj : j < l.length := by
    rcases Nat.lt_or_ge j l.length with h | h
    · exact h
    · rw [List.getElem?_eq_none (by rw [u8s_length]; exact h)] at hv; simp at hv
  rw [u8s_at l j hj] at hv
  cases hv
  exact hc j hj
set_option maxRecDepth 100000 in
theorem pageread_zero {w : World} {τ : Tags} {g0 g : Tag} {v : Value} (h : Bytes w τ g0 v zeros448) :
    Calls Tryz.prog 18 #[v] w fun e w' => ∃ b τ', e = .returned (.tuple #[.pointer (some ⟨b, 0, none⟩), .int .u16 0]) ∧ w.heap.size ≤ b ∧ PageAt w' τ' g b (emptyPage 0) ∧ Step w τ w' τ' nil := by
  have hl : zeros448.length = 448 := by simp [zeros448]
  generalize hz : zeros448 = Z at *
  obtain ⟨hB, p, c, rfl, h1, h2, h3⟩ := h
  obtain ⟨bb, o, rfl, htag, hc⟩ := h3 (by omega)
  have hr := rangeAt_bytes hc
  have hsz0 : (Tryz.prog.info? 108).map (·.size) = some 448 := by kernel_rfl
  have hsz : (Tryz.prog.info? 108).map (·.size) = some (u8s Z).length := by rw [u8s_length, hl]; exact hsz0
  have hat : ∀ w, (Instr.arrayAt 108 (.slice (some ⟨bb, o, none⟩) 448 c)).run Tryz.prog w = .ok (.pointer (some ⟨bb, o, none⟩)) w := fun w => run_arrayAt w _ _ 448 _ _ c Tryz.underlying108 (by omega)
  have hld : (Instr.loadAt 108 (.pointer (some ⟨bb, o, none⟩))).run Tryz.prog w = .ok (.agg (u8s Z).toArray) w := run_loadAt_mid w bb o _ _ _ hr Tryz.underlying108 rfl hsz
  rw [hl]
  have Hc := Lib.hid hc
  have Htag := Lib.hid htag
  have Hr := Lib.hid hr
  clear hc htag hr
  clear h1 h3 hB
  have Hl := Lib.hid hl
  clear hl
  clear hld hsz0
  have Hat := Lib.hid hat
  have Hsz := Lib.hid hsz
  clear hat hsz
  go_enter Tryz.func18, Tryz.ntmps18
  go_wp2_with fail
  simp only [Hat.out]
  simp only [Result.andThen_ok]
  go_step
  go_step
  refine wpList_load_mid rfl 108 _ rfl bb o rfl (u8s Z) _ Hr.out Tryz.underlying108 rfl Hsz.out ?_
  have hsize : (u8s Z).toArray.size = 448 := by rw [List.size_toArray, u8s_length]; exact Hl.out
  have hfold := fold_page _ hsize
  have hr2 : (w.alloc (.cells (u8s Z).toArray 110)).rangeAt w.heap.size 0 (u8s Z).toArray.toList := by
    intro j v hv
    rw [Nat.zero_add]
    exact (Own.new w τ g 110 (u8s Z)).at j hv
  have hsz2 : (Tryz.prog.info? 108).map (·.size) = some (u8s Z).toArray.toList.length := Hsz.out
  generalize hcs : (u8s Z).toArray = cs at *
  have Hr2 := Lib.hid hr2
  have Hsz2 := Lib.hid hsz2
  have Hcs := Lib.hid hcs
  clear hr2 hsz2 hcs
  go_step
  go_step
  go_step
  go_step
  go_step
  go_step
  go_step
  go_step
  go_step
  go_step
  go_step
  go_step
  go_step
  go_step
  go_step
  go_step
  go_step
  go_step
  go_step
  go_step
  go_step
  go_step
  go_step
  go_step
  refine wpList_load_mid rfl 108 (.tmp 15) rfl w.heap.size 0 rfl cs.toList _ Hr2.out Tryz.underlying108 rfl Hsz2.out ?_
  simp only [Array.toArray_toList]
  go_step
  go_step
  go_step
  have hq : Tryz.zeroCells108 = (u8s zeros448).toArray := by kernel_rfl
  refine wpList_binop rfl .eql 108 108 (.tmp 16) (.tmp 17) rfl (.agg cs) (.agg Tryz.zeroCells108) (.bool true) rfl rfl (run_eqGuard_page _ _ _ _ _) (by rw [hq, ← Hcs.out, ← hz, run_eql_page _ zeros448_isB zeros448_isB (by simp [zeros448]) (by simp [zeros448])]; simp) ?_
  clear hq
  have hnew := pagenew_any (w.alloc (.cells cs 110)) (τ.put w.heap.size g) g 0 (by omega)
  have hst := (Step.refl w τ nil).alloc (.cells cs 110) g
  have Hnew := Lib.hid hnew
  have Hst := Lib.hid hst
  clear hnew hst
  go_wp2_with fail
  refine Hnew.out.mono ?_
  rintro e w' ⟨b, τ', rfl, hlow, hpg, hs⟩
  have Hpg := Lib.hid hpg
  have Hs := Lib.hid hs
  have Hlow := Lib.hid hlow
  clear hpg hs hlow
  go_wp2_with fail
  go_ret2
  exact ⟨b, τ', rfl, Nat.le_trans Hst.out.size Hlow.out, Hpg.out, Hst.out.trans Hs.out⟩
end Go.Proofs.YtgjoahddbieliaaGreat
