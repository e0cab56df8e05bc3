/-
  strip.Lay: a stream as sectors.
-/
import Derived.Test.YtgjoahddbieliaaGreatMConcat
namespace Go.Proofs.YtgjoahddbieliaaGreat
open Go.RowKit Go.Shelf
set_option linter.unusedVariables false
attribute [local go_sem] Oper.semAt_some

/-- the j-th sector of a stream: its bytes, noughts, how many count -/
def stripPart (st : List Int) (j : Nat) : List Int := (st.drop (j * 127)).take 127
def stripOf (st : List Int) (j : Nat) : List Int := stripPart st j ++ List.replicate (127 - (stripPart st j).length) 0 ++ [((stripPart st j).length : Int)]
def stripTo (st : List Int) (k : Nat) : List (List Int) := (List.range k).map (stripOf st)
def stripAll (st : List Int) : List (List Int) := stripTo st (parts st.length 127)
theorem stripTo_succ (st : List Int) (k : Nat) : stripTo st (k + 1) = stripTo st k ++ [stripOf st k] := by simp [stripTo, List.range_succ]
theorem stripPart_length (st : List Int) (j : Nat) : (stripPart st j).length = min 127 (st.length - j * 127) := by
  unfold stripPart; rw [List.length_take, List.length_drop]
theorem stripOf_length (st : List Int) (j : Nat) : (stripOf st j).length = 128 := by
  have := stripPart_length st j
  unfold stripOf; simp only [List.length_append, List.length_replicate, List.length_cons, List.length_nil]; omega
theorem stripOf_isB {st : List Int} (h : IsB st) (j : Nat) : IsB (stripOf st j) := by
  have := stripPart_length st j
  intro x hx
  unfold stripOf at hx
  rcases List.mem_append.1 hx with hx | hx
  · rcases List.mem_append.1 hx with hx | hx
    · exact h x (List.mem_of_mem_drop (List.mem_of_mem_take hx))
    · rw [(List.mem_replicate.1 hx).2]; omega
  · rw [List.mem_singleton.1 hx]; omega
def tBox : Tag := (90, 0)
def tOut : Tag := (91, 0)

theorem zeros_u8s (n : Nat) : (madeCells #[Value.int .u8 0] n).toList = u8s (List.replicate n 0) := by
  rw [bytesTo_zero 0 n]
  apply List.ext_getElem?
  intro j
  by_cases hj : j < n
  · rw [bytesTo_get _ _ _ _ hj, if_neg (by omega)]
    simp [u8s, hj]
  · rw [List.getElem?_eq_none (by rw [bytesTo_length]; omega), List.getElem?_eq_none (by rw [u8s_length, List.length_replicate]; omega)]
/-- the sector's row, when it is filled -/
theorem strip_row (st : List Int) (j n : Nat) (hn : n = Nat.min (stripPart st j).length 128) :
    (over (u8s (List.replicate 128 0)) 0 (u8s ((stripPart st j).take n))).set 127 (.int .u8 (n : Int)) = u8s (stripOf st j) := by
  have hl := stripPart_length st j
  have hm : Nat.min (stripPart st j).length 128 = (stripPart st j).length := Nat.min_eq_left (by omega)
  rw [hm] at hn
  subst hn
  unfold stripOf
  generalize stripPart st j = x at *
  have hx : x.length ≤ 127 := by omega
  apply List.ext_getElem?
  intro i
  rw [List.take_length]
  unfold over
  simp only [List.take_zero, List.nil_append, Nat.zero_add, u8s, List.map_append, List.map_replicate, List.map_cons, List.map_nil]
  by_cases hi : i = 127
  · subst hi
    rw [List.getElem?_set_self (by simp only [List.length_append, List.length_map, List.length_drop, List.length_replicate]; omega), List.getElem?_append_right (by simp only [List.length_append, List.length_map, List.length_replicate]; omega)]
    simp only [List.length_append, List.length_map, List.length_replicate]
    rw [show 127 - (x.length + (127 - x.length)) = 0 by omega]; rfl
  · rw [List.getElem?_set_ne (by omega)]
    by_cases h1 : i < x.length
    · rw [List.getElem?_append_left (by simpa using h1), List.append_assoc, List.getElem?_append_left (by simpa using h1)]
    · rw [List.getElem?_append_right (by simpa using h1), List.append_assoc, List.getElem?_append_right (by simpa using h1), List.getElem?_drop, List.length_map]
      by_cases h2 : i < 127
      · rw [List.getElem?_append_left (by simp only [List.length_replicate]; omega), List.getElem?_replicate, List.getElem?_replicate, if_pos (by omega), if_pos (by omega)]
      · rw [List.getElem?_append_right (by simp only [List.length_replicate]; omega), List.getElem?_replicate, if_neg (by omega)]
        rw [List.getElem?_eq_none (by simp only [List.length_replicate, List.length_cons, List.length_nil]; omega)]
/-- a part of the stream -/
theorem Bytes.part {w : World} {τ : Tags} {g : Tag} {a : Option Addr} {c : Nat} {st : List Int} (h : Bytes w τ g (.slice a st.length c) st) {b off : Nat} (ha : 0 < st.length → a = some ⟨b, off, none⟩) (k : Nat) (j : Nat) :
    Bytes w τ g (partV b off st.length k j) ((st.drop (j * k)).take k) := by
  have hl : ((st.drop (j * k)).take k).length = min k (st.length - j * k) := by rw [List.length_take, List.length_drop]
  obtain ⟨p, c', hv, h1, h2, _⟩ := h.is
  cases hv
  by_cases h0 : 0 < min k (st.length - j * k)
  · obtain rfl := ha (by omega)
    have := h.sub (j * k) (j * k + min k (st.length - j * k)) (min k (st.length - j * k)) (by omega) (by omega) (by omega) (by omega)
    rw [Nat.add_sub_cancel_left] at this
    have e : (st.drop (j * k)).take k = (st.drop (j * k)).take (min k (st.length - j * k)) := by
      by_cases hk : k ≤ st.length - j * k
      · rw [Nat.min_eq_left hk]
      · rw [Nat.min_eq_right (by omega), List.take_of_length_le (by rw [List.length_drop]; omega), List.take_of_length_le (by rw [List.length_drop]; omega)]
    rw [e]
    exact this
  · have e : (st.drop (j * k)).take k = [] := List.eq_nil_of_length_eq_zero (by omega)
    rw [e]
    unfold partV
    have hz : min k (st.length - j * k) = 0 := by omega
    rw [hz]
    exact ⟨fun x hx => by simp at hx, _, 0, rfl, Nat.le_refl _, Nat.zero_le _, fun hx => by simp at hx⟩

/-- what stands between two rounds -/
def LayI (w W0 : World) (τ : Tags) (b : Nat) (st : List Int) (pre : List (PartNo st.length 127)) (W : World) : Prop :=
  ∃ τ' vo, Step w τ W τ' nil ∧ Own W τ' w.heap.size tBox 47 [vo] ∧ NR w.heap.size W τ' tOut vo (pre.map (fun x => stripOf st x.1)) ∧ Keep3 b (w.heap.size + 1) (w.heap.size + 1 + 1) W0 W ∧ τ' (w.heap.size + 1) = tBox ∧ τ' (w.heap.size + 1 + 1) = tBox

set_option maxRecDepth 100000 in
set_option maxHeartbeats 2000000 in
theorem lay_any {w : World} {τ : Tags} {g : Tag} {v : Value} {st : List Int} (h : Bytes w τ g v st) (hbig : st.length ≤ 1000000) :
    Calls Tryz.prog 106 #[v] w fun e w' => ∃ u τ', e = .returned u ∧ NR w.heap.size w' τ' tOut u (stripAll st) ∧ Step w τ w' τ' nil := by
  obtain ⟨p, c, rfl, hc1, hc2⟩ := h.any
  obtain ⟨b, off, ha, hbl, hbk⟩ : ∃ b off, (0 < st.length → p = some ⟨b, off, none⟩) ∧ b < w.heap.size + 1 + 1 ∧ (b < w.heap.size ∨ b = w.heap.size + 1) := by
    by_cases h0 : 0 < st.length
    · obtain ⟨b, o, c', hv, -, -, -, hlt, -⟩ := h.pos h0
      cases hv
      exact ⟨b, o, fun _ => rfl, by omega, .inl hlt⟩
    · exact ⟨w.heap.size + 1, 0, fun h => absurd h h0, by omega, .inr rfl⟩
  have hch : ∀ (m : Nat) (W : World), CallsIn Fence.wide m Tryz.prog 171 #[.slice p st.length c, .int .i64 127] W fun e w' => e = .returned (.func (.func 237) #[] #[.pointer (some ⟨W.heap.size, 0, none⟩), .pointer (some ⟨W.heap.size + 1, 0, none⟩)]) ∧
      w' = (W.alloc (.cells #[.slice p st.length c] 43)).alloc (.cells #[.int .i64 127] 3) := fun m W => (callsIn_wide (n := m)).2 (chunk_any p st.length c 127 (by omega) W)
  have H_h := Lib.hid h
  have Hch := Lib.hid hch
  have Ha := Lib.hid ha
  have hst0 := ((((Step.refl w τ nil).alloc (.cells #[Value.slice none 0 0] 47) tBox).alloc (.cells #[Value.slice p st.length c] 43) tBox).alloc (.cells #[Value.int .i64 127] 3) tBox)
  have hbox0 := ((Own.new w τ tBox 47 [.slice none 0 0]).step_new (.cells #[Value.slice p st.length c] 43) tBox).step_new (.cells #[Value.int .i64 127] 3) tBox
  simp only [World.size_alloc] at hst0 hbox0
  have ht1 : ((τ.put w.heap.size tBox).put (w.heap.size + 1) tBox).put (w.heap.size + 1 + 1) tBox (w.heap.size + 1) = tBox := by rw [Tags.put_ne _ _ _ _ (by omega), Tags.put_same]
  have ht2 : ((τ.put w.heap.size tBox).put (w.heap.size + 1) tBox).put (w.heap.size + 1 + 1) tBox (w.heap.size + 1 + 1) = tBox := Tags.put_same _ _ _
  have cs0 : (((w.alloc (.cells #[.slice none 0 0] 47)).alloc (.cells #[.slice p st.length c] 43)).alloc (.cells #[.int .i64 127] 3)).cell? ⟨w.heap.size + 1, 0, none⟩ = some (.slice p st.length c) := by
    have := (Own.new (w.alloc (.cells #[.slice none 0 0] 47)) τ tBox 43 [.slice p st.length c]).alloc (.cells #[Value.int .i64 127] 3)
    rw [World.size_alloc] at this
    exact this.at 0 rfl
  have cn0 : (((w.alloc (.cells #[.slice none 0 0] 47)).alloc (.cells #[.slice p st.length c] 43)).alloc (.cells #[.int .i64 127] 3)).cell? ⟨w.heap.size + 1 + 1, 0, none⟩ = some (.int .i64 127) := by
    have := Own.new ((w.alloc (.cells #[.slice none 0 0] 47)).alloc (.cells #[.slice p st.length c] 43)) τ tBox 3 [.int .i64 127]
    rw [World.size_alloc, World.size_alloc] at this
    exact this.at 0 rfl
  have hsz0 : (((w.alloc (.cells #[.slice none 0 0] 47)).alloc (.cells #[.slice p st.length c] 43)).alloc (.cells #[.int .i64 127] 3)).heap.size = w.heap.size + 1 + 1 + 1 := by simp
  have Hst0 := Lib.hid hst0
  have Hbox0 := Lib.hid hbox0
  have H_cs0 := Lib.hid cs0
  have H_cn0 := Lib.hid cn0
  have Hsz0 := Lib.hid hsz0
  have Ht1 := Lib.hid ht1
  have Ht2 := Lib.hid ht2
  clear hst0 hbox0 cs0 cn0 hsz0 ht1 ht2
  clear h hch ha
  refine (callsIn_wide (n := 4)).1 ?_
  refine callsIn_of_wp_marks Tryz.func106 rfl trivial ?_ rfl
  simp only [Tryz.ntmps106, List.size_toArray, List.length_cons, List.length_nil, Nat.reduceAdd, Nat.reduceSub, Array.replicate_succ, Array.replicate_zero, List.push_toArray, List.append_toArray, List.nil_append, List.cons_append]
  gi_wp2_with (refine ⟨trivial, ?_⟩; gi_at_call 171; refine (Hch.out _ _).mono ?_; rintro e w' ⟨rfl, rfl⟩)
  generalize ((w.alloc (.cells #[.slice none 0 0] 47)).alloc (.cells #[.slice p st.length c] 43)).alloc (.cells #[.int .i64 127] 3) = W0 at *
  refine wpIn_rangeFunc_ownG rfl (by omega) (gf := 237) (lb := #[.pointer (some ⟨w.heap.size + 1, 0, none⟩), .pointer (some ⟨w.heap.size + 1 + 1, 0, none⟩)]) rfl trivial (enters_of Tryz.func237 (by kernel_rfl) rfl)
    (chunk_stops Fence.wide 3 trivial rfl (by omega) (w.heap.size + 1) (w.heap.size + 1 + 1) b off st.length c 127 p Ha.out (by omega) (by omega) (by omega) hc1 hc2 W0 H_cs0.out H_cn0.out)
    keep3_t (keep3_b (by have := Hsz0.out; omega) (by have := Hsz0.out; omega) (by have := Hsz0.out; omega)) (Below.refl _ _) (fun _ => rfl)
    (LayI w W0 τ b st) (fun _ _ _ => False) ?hI (fun _ _ _ _ _ hs _ _ => hs) ?h0
    (fun j => { tmps := #[.slice p st.length c, undef, .slice none 0 0, .pointer (some ⟨w.heap.size, 0, none⟩), partV b off st.length 127 j.1, undef, .slice p st.length c, .func (.func 237) #[] #[.pointer (some ⟨w.heap.size + 1, 0, none⟩), .pointer (some ⟨w.heap.size + 1 + 1, 0, none⟩)], partV b off st.length 127 j.1, undef, undef, undef, undef, undef, undef, undef, undef, undef, undef, undef, undef], defers := [] }) ?assign ?body ?done ?stop
  case hI =>
    rintro pre W W' row ⟨τ', vo, h1, h2, h3, h4, ht1, ht2⟩ hg hr
    have hnc : NotCells W row := fun r e => (hr r e).2
    exact ⟨τ', vo, h1.turn hg (fun r e => by have := (hr r e).1; rw [Hsz0.out] at this; omega), h2.turn hg hnc, h3.turn hg hnc, h4.turn (B := w.heap.size + 1 + 1 + 1) hg (fun r e => by have := (hr r e).1; rw [Hsz0.out] at this; exact this) (by omega) (by omega) (by omega) (by
      have h5 := h4 (w.heap.size + 1 + 1) (.inr (.inr rfl))
      have h6 := cell_lt H_cn0.out
      have h7 := (Array.getElem?_eq_some_iff.1 (h5.trans (Array.getElem?_eq_getElem h6))).1
      omega), ht1, ht2⟩
  case h0 => exact ⟨_, _, Hst0.out, Hbox0.out, NR.nil _ _ _ _, Keep3.refl _ _ _ _, Ht1.out, Ht2.out⟩
  case assign =>
    intro l x W K hK
    gi_wp2
    exact hK
  case body =>
    rintro l pre ⟨j, hjN⟩ W ⟨τ', vo, hst, hbox, hnr, hkp, ht1, ht2⟩ hlt
    obtain ⟨po, co, rfl⟩ := hnr.val
    have hpl := stripPart_length st j
    have hbp : Bytes W τ' g (partV b off st.length 127 j) (stripPart st j) := (H_h.out.step hst (fun h => h)).part Ha.out 127 j
    have hlx := stripOf_length st j
    have hBx := stripOf_isB H_h.out.isB j
    obtain ⟨n, hn⟩ : ∃ n, n = Nat.min (stripPart st j).length 128 := ⟨_, rfl⟩
    have hrow := strip_row st j n hn
    have hn127 : n ≤ 127 := by rw [hn]; exact Nat.le_trans (Nat.min_le_left _ _) (by omega)
    have hnr128 : ((pre.map (fun x => stripOf st x.1)).length : Nat) ≤ 1000000000 := by
      rw [List.length_map]
      have : parts st.length 127 ≤ 1000000 := by unfold parts; omega
      omega
    have hltb := hbox.lt
    have c0 := hbox.at 0 rfl
    have z0 := hbox.fz 0
    have hb1 := (hbp.alloc (.cells (madeCells #[.int .u8 0] 128) 5))
    have ho1 : Own (W.alloc (.cells (madeCells #[.int .u8 0] 128) 5)) (τ'.put W.heap.size tFill) W.heap.size tFill 5 (u8s (List.replicate 128 0)) := by
      have := Own.born W τ' tFill 5 (madeCells #[.int .u8 0] 128)
      rwa [zeros_u8s] at this
    have hs1 := hst.alloc (.cells (madeCells #[.int .u8 0] 128) 5) tFill
    have hW1 := (Step.refl W τ' nil).alloc (.cells (madeCells #[.int .u8 0] 128) 5) tFill
    have hb1' := hbp.step hW1 (fun h => h)
    have hbox1 := hbox.step hW1 (fun h => h)
    have hnr1 := hnr.step hW1 (fun h => h) (fun h => h)
    have rn := run_noughts
    have e128 : (u8s (List.replicate 128 0)).length = 128 := by rw [u8s_length, List.length_replicate]
    have hfit : 0 + n ≤ (u8s (List.replicate 128 0)).length := by rw [e128]; omega
    have hlow : nil tFill ∨ W.heap.size ≤ W.heap.size := .inr (Nat.le_refl _)
    have hsz3 : w.heap.size + 1 + 1 < W.heap.size := by
      have h5 := hkp (w.heap.size + 1 + 1) (.inr (.inr rfl))
      have h6 := cell_lt H_cn0.out
      exact (Array.getElem?_eq_some_iff.1 (h5.trans (Array.getElem?_eq_getElem h6))).1
    have hcb := hbox.row
    have hcv := fun k => hnr.cells (k := k)
    have hlow' := hst.size
    have hne : W.heap.size ≠ w.heap.size := by omega
    have hne' : w.heap.size ≠ W.heap.size := by omega
    have hwr : IntKind.u8.wrap (n : Int) = (n : Int) := by
      have : IntKind.u8.wrap (n : Int) = (n : Int) % 256 := by simp [IntKind.wrap, IntKind.bits, IntKind.signed]
      rw [this]; omega
    have h127 : ∃ u, (over (u8s (List.replicate 128 0)) 0 (u8s ((stripPart st j).take n)))[127]? = some u := by
      refine ⟨_, List.getElem?_eq_getElem ?_⟩
      rw [over_length _ _ _ (by rw [u8s_length, e128, List.length_take]; omega), e128]; omega
    have hmap : (pre ++ [(⟨j, hjN⟩ : PartNo st.length 127)]).map (fun x => stripOf st x.1) = pre.map (fun x => stripOf st x.1) ++ [stripOf st j] := by simp
    generalize hpv : partV b off st.length 127 j = pv at *
    generalize hsp : stripPart st j = x at *
    generalize hso : stripOf st j = y at *
    generalize hml : pre.map (fun x => stripOf st x.1) = ls at *
    generalize hcur : over (u8s (List.replicate 128 0)) 0 (u8s (x.take n)) = cur at *
    obtain ⟨u127, h127⟩ := h127
    have hts : tBox ≠ tFill := by simp [tBox, tFill]
    have htd : ¬ tData = tFill := by simp [tData, tFill]
    have hto : ¬ tOut = tFill := by simp [tOut, tFill]
    have hodt : tOut ≠ tData := by simp [tOut, tData]
    have hbo : ¬ tBox = tOut := by simp [tOut, tBox]
    have Hs1 := Lib.hid hs1
    have Ho1 := Lib.hid ho1
    have Hlow := Lib.hid hlow
    have Hb1' := Lib.hid hb1'
    have Hn := Lib.hid hn
    have Hfit := Lib.hid hfit
    have Hbox1 := Lib.hid hbox1
    have Hnr1 := Lib.hid hnr1
    have Hrow := Lib.hid hrow
    have Hlx := Lib.hid hlx
    have HBx := Lib.hid hBx
    have Hnr128 := Lib.hid hnr128
    have Hkp := Lib.hid hkp
    have Hcur := Lib.hid hcur
    have H127 := Lib.hid h127
    have HW1 := Lib.hid hW1
    have Hlow' := Lib.hid hlow'
    have Hmap := Lib.hid hmap
    have Hst := Lib.hid hst
    have Hsz3 := Lib.hid hsz3
    have Hcb := Lib.hid hcb
    have Hcv := Lib.hid hcv
    have Ht1 := Lib.hid ht1
    have Ht2 := Lib.hid ht2
    clear hs1 ho1 hlow hb1' hn hfit hbox1 hnr1 hrow hlx hBx hnr128 hkp hcur h127 hW1 hlow' hmap hst hsz3 hcb hcv ht1 ht2
    clear hbp hbox hb1 hnr H_h Ha hpl e128 hpv hsp hso hml
    gi_wp2_with (first
      | (refine wpListIn_copy_ob HW1.out Ho1.out Hlow.out Hb1'.out n Hn.out Hfit.out rfl _ _ rfl rfl rfl ?_
         intro w2 ho2 hs2 hW2
         rw [Hcur.out] at ho2
         have c127 := ho2.at 127 H127.out
         have z127 := ho2.fz 127
         have hbox2 := Hbox1.out.step hW2 hts
         have c02 := hbox2.at 0 rfl
         have z02 := hbox2.fz 0
         have hnr2 := Hnr1.out.step hW2 hto htd
         have ho3 := ho2.set 127 (.int .u8 (n : Int))
         rw [Hrow.out] at ho3
         have hb2 := ho2.lt
         have hw2s : w2.heap.size = (w2.setCell ⟨W.heap.size, 127, none⟩ (.int .u8 (n : Int))).heap.size := by simp [World.setCell]
         have htag2 := ho2.tag
         have hW3 := (Step.refl w2 (τ'.put W.heap.size tFill) (fun t => t = tFill)).set (o := 127) htag2 rfl (.int .u8 (n : Int))
         have hbox3 := (hbox2.step hW3 hts).agree (Agree.put htag2 tData) hts
         have hnr3 := (hnr2.step hW3 hto htd).agree (Agree.put htag2 tData) hto
         have hs3 := (hs2.setNew (b := W.heap.size) (o := 127) (Nat.le_refl _) (.int .u8 (n : Int))).retag (Nat.le_refl _) tData
         have hst3 := Hst.out.trans hs3
         have hb3 := (ho3.retag tData).bytes HBx.out (by rw [Hlx.out]; unfold maxLen; omega)
         rw [Hlx.out] at hb3
         have c03 := hbox3.at 0 rfl
         have z03 := hbox3.fz 0
         have Hs2 := Lib.hid hs2
         have HW2 := Lib.hid hW2
         have Ho3 := Lib.hid ho3
         have Hbox2 := Lib.hid hbox2
         have Hnr2 := Lib.hid hnr2
         have Htag2 := Lib.hid htag2
         have HW3 := Lib.hid hW3
         have Hbox3 := Lib.hid hbox3
         have Hnr3 := Lib.hid hnr3
         have Hs3 := Lib.hid hs3
         have Hst3 := Lib.hid hst3
         have Hb3 := Lib.hid hb3
         have Hw2s := Lib.hid hw2s
         clear hs2 hW2 ho3 hbox2 hnr2 htag2 hW3 hbox3 hnr3 hs3 hst3 hb3 hw2s
         clear ho2)
      | (refine wpListIn_append_nr1 Hst3.out hodt Hnr3.out Hb3.out Hlx.out Hnr128.out Hw2s.out rfl _ _ rfl rfl rfl ?_
         intro v4 w4 τ4 hnr4 hs4 hW4 hM4
         obtain ⟨p4, c4, rfl⟩ := hnr4.val
         have hbox4 := Hbox3.out.step hW4 hbo
         have c04 := hbox4.at 0 rfl
         have z04 := hbox4.fz 0
         have htag4 := hbox4.tag
         have Hnr4 := Lib.hid hnr4
         have Hs4 := Lib.hid hs4
         have HW4 := Lib.hid hW4
         have HM4 := Lib.hid hM4
         have Hbox4 := Lib.hid hbox4
         have Htag4 := Lib.hid htag4
         clear hnr4 hs4 hW4 hM4 hbox4 htag4))
    have hmW : Mod W w4 (fun k => (Value.slice po ls.length co).ownBlock = some k) := (Hs3.out.no.mono (fun _ _ h => h.elim)).seq HM4.out (fun _ _ h => h)
    have hmW' : Mod W (w4.setCell ⟨w.heap.size, 0, none⟩ (.slice p4 (ls.length + 1) c4)) (fun k => k = w.heap.size ∨ (Value.slice po ls.length co).ownBlock = some k) := (hmW.mono (fun _ _ h => .inr h)).setCell (p := ⟨w.heap.size, 0, none⟩) (fun _ => .inl rfl) _
    have heW : Ext W τ' τ4 := Hs3.out.ext.trans HW4.out.ext Hs3.out.size
    have hlen : (ls ++ [y]).length = ls.length + 1 := by simp
    have hnr5 := Hnr4.out.step ((Step.refl w4 τ4 (fun t => t = tBox)).set (o := 0) Htag4.out rfl (.slice p4 (ls.length + 1) c4)) (fun h => by simp [tOut, tBox] at h) (fun h => by simp [tData, tBox] at h)
    rw [hlen] at hnr5
    have hk3 : Keep3 b (w.heap.size + 1) (w.heap.size + 1 + 1) W (w4.setCell ⟨w.heap.size, 0, none⟩ (.slice p4 (ls.length + 1) c4)) := by
      intro k hk
      have h3 := Hsz3.out
      refine hmW'.block k (by omega) ?_
      rintro (h | h)
      · omega
      · obtain ⟨h1, h2, _⟩ := Hcv.out k h
        have hn1 : k ≠ w.heap.size + 1 := fun e => by rw [e, Ht1.out] at h1; simp [tBox, tOut] at h1
        have hn2 : k ≠ w.heap.size + 1 + 1 := fun e => by rw [e, Ht2.out] at h1; simp [tBox, tOut] at h1
        omega
    refine ⟨keepsFrom_mod hmW' ?_, hk3, τ4, .slice p4 (ls.length + 1) c4, Hs4.out.setNew (Nat.le_refl _) _, Hbox4.out.set 0 _, ?_, Hkp.out.trans hk3, ?_, ?_⟩
    · rintro k o (rfl | hk) ho
      · rw [Hcb.out] at ho; cases ho; rfl
      · obtain ⟨_, _, xs, hx⟩ := Hcv.out k hk
        rw [hx] at ho; cases ho; rfl
    · rw [Hmap.out]; exact hnr5
    · rw [heW _ (by have := Hsz3.out; omega)]; exact Ht1.out
    · rw [heW _ (by have := Hsz3.out; omega)]; exact Ht2.out
  case done =>
    rintro D ys W hD hys ⟨τ', vo, hst, hbox, hnr, hkp, ht1, ht2⟩ hK
    have hys2 : ys.map (fun x => stripOf st x.1) = (List.range (parts st.length 127)).map (stripOf st) := by rw [← hys, List.map_map]; rfl
    rw [hys2] at hnr
    clear hys hys2
    obtain ⟨po, co, rfl⟩ := hnr.val
    have c0 := hbox.at 0 rfl
    have hl : ((List.range (parts st.length 127)).map (stripOf st)).length = parts st.length 127 := by simp
    have Hst := Lib.hid hst
    have Hnr := Lib.hid hnr
    have HK := Lib.hid hK
    clear hst hnr hK
    gi_wp2
    refine ⟨by simp, .inl ⟨_, _, rfl, run_takeDeferred HK.out, ?_⟩⟩
    have hg := grownBy_putObj' W D (.deferred none)
    have hnc : NotCells W (some D) := fun r e => by cases e; exact ⟨_, HK.out, rfl⟩
    exact ⟨_, results_tmp rfl _ _ _, .slice po ((List.range (parts st.length 127)).map (stripOf st)).length co, τ', by first | rfl | (rw [hl]; rfl), Hnr.out.turn hg hnc, Hst.out.turn hg (fun r e => by cases e; have := Hsz0.out; omega)⟩
  case stop =>
    rintro D c pre W _ _ h _
    exact h.elim
end Go.Proofs.YtgjoahddbieliaaGreat

/-
  strip.Read: the stream that sectors hold.
-/
namespace Go.Proofs.YtgjoahddbieliaaGreat
open Go.RowKit
set_option linter.unusedVariables false

def stripRead : List (List Int) → List Int
  | [] => []
  | x :: r => if 127 < x.getD 127 0 then [] else x.take (x.getD 127 0).toNat ++ (if x.getD 127 0 < 127 then [] else stripRead r)

/-- the first bytes of a slice -/
theorem Bytes.fst {w : World} {τ : Tags} {g : Tag} {b o n c : Nat} {l : List Int} (h : Bytes w τ g (.slice (some ⟨b, o, none⟩) n c) l) (k : Nat) (hk : k ≤ n) : Bytes w τ g (.slice (some ⟨b, o, none⟩) k c) (l.take k) := by
  obtain ⟨p', c2, hv, h1, h2, hc⟩ := h.is
  simp only [Value.slice.injEq] at hv
  obtain ⟨rfl, rfl, rfl⟩ := hv
  have hl : (l.take k).length = k := by rw [List.length_take]; omega
  refine ⟨fun x hx => h.isB x (List.mem_of_mem_take hx), _, c, by rw [hl], by omega, h2, fun h0 => ?_⟩
  obtain ⟨b', o', hp, ht, hcell⟩ := hc (by omega)
  refine ⟨b', o', hp, ht, fun i hi => ?_⟩
  rw [hl] at hi
  rw [hcell i (by omega)]
  congr 2
  simp only [List.getD_eq_getElem?_getD, List.getElem?_take, if_pos hi]
theorem stripRead_isB {ls : List (List Int)} (h : ∀ x ∈ ls, IsB x) : IsB (stripRead ls) := by
  induction ls with
  | nil => intro x hx; simp [stripRead] at hx
  | cons y r ih =>
    intro x hx
    unfold stripRead at hx
    split at hx
    · simp at hx
    · rcases List.mem_append.1 hx with hx | hx
      · exact h y (by simp) x (List.mem_of_mem_take hx)
      · split at hx
        · simp at hx
        · exact ih (fun z hz => h z (by simp [hz])) x hx
theorem stripRead_length (ls : List (List Int)) : (stripRead ls).length ≤ 127 * ls.length := by
  induction ls with
  | nil => simp [stripRead]
  | cons y r ih =>
    unfold stripRead
    split
    · simp
    · rename_i h1
      have h3 : (y.take (y.getD 127 0).toNat).length ≤ 127 := by rw [List.length_take]; omega
      rw [List.length_append, List.length_cons]
      split
      · rw [List.length_nil]; omega
      · omega

set_option maxRecDepth 100000 in
theorem stripread_any {w : World} {τ : Tags} {g : Tag} {v : Value} {ls : List (List Int)} (h : Waits w τ g v ls) (g' : Tag) (hbig : ls.length ≤ 100000) :
    Calls Tryz.prog 103 #[v] w fun e w' => ∃ u τ', e = .returned u ∧ NB w.heap.size w' τ' g' u (stripRead ls) ∧ Step w τ w' τ' nil := by
  obtain ⟨p, c, rfl, hm, hr⟩ := h.read
  generalize hn : ls.length = n at *
  generalize hres : stripRead ls = res
  have hle := stripRead_length ls
  rw [hres, hn] at hle
  have Hr := Lib.hid hr
  have Hn := Lib.hid hn
  have Hres := Lib.hid hres
  clear hr hn hres
  clear hm h
  go_enter Tryz.func103, Tryz.ntmps103
  go_wp2_with fail
  go_loopw [3, 9] (fun m v wr => ∃ (i : Nat) (τr : Tags) (acc : List Int), i ≤ n ∧ v = .int .i64 (i : Int) ∧ NB w.heap.size wr τr g' m acc ∧ Step w τ wr τr nil ∧ Hid (acc ++ stripRead (ls.drop i) = res)) (fun _ v _ => n - (intOf v).toNat)
  case atStart => exact ⟨0, τ, [], Nat.zero_le _, rfl, NB.nil _ _ _ _, Step.refl _ _ _, Lib.hid (by simpa using Hres.out)⟩
  case round =>
    obtain ⟨i, τr, acc, hi, rfl, hnb, hst, HO⟩ := hrel
    by_cases hlt : i < n
    · obtain ⟨x, hx⟩ : ∃ x, ls[i]? = some x := ⟨_, List.getElem?_eq_getElem (by rw [Hn.out]; exact hlt)⟩
      obtain ⟨h128, b, u, rfl, hc, hb⟩ := Hr.out i x hx
      have c1 := (hst.no.cell b i (cell_lt hc) (fun h => h)).trans hc
      have hb1 := hb.step hst (fun h => h)
      obtain ⟨bb, oo, cu, rfl, h1c, h2c, -, -, hcell⟩ := hb1.pos (by omega)
      have c127 := hcell 127 (by omega)
      have hB := hb1.isB.at 127
      rw [h128] at hb1 c1 h1c
      have hdr : ls.drop i = x :: ls.drop (i + 1) := by
        rw [List.drop_eq_getElem_cons (by rw [Hn.out]; exact hlt)]
        congr 1
        rw [List.getElem?_eq_getElem (by rw [Hn.out]; exact hlt)] at hx
        exact Option.some.inj hx
      have hres2 := HO.out
      rw [hdr, stripRead] at hres2
      obtain ⟨q, hq⟩ := Int.eq_ofNat_of_zero_le hB.1
      rw [hq] at c127 hres2 hB
      clear hb hcell hx hc h128 hdr hq HO
      by_cases hbad : 127 < q
      · rw [if_pos (by omega), List.append_nil] at hres2
        subst hres2
        have Hnb := Lib.hid hnb
        have Hst := Lib.hid hst
        clear hnb hst
        clear hb1
        go_wp2_with fail
        go_returns
        exact ⟨_, τr, rfl, Hnb.out, Hst.out⟩
      · rw [if_neg (by omega)] at hres2
        have hf := hb1.fst q (by omega)
        have htn : ((q : Nat) : Int).toNat = q := by omega
        rw [htn] at hres2
        have hql : (x.take q).length ≤ 127 := by rw [List.length_take]; omega
        have hsz : acc.length + (x.take q).length ≤ 100000000000 := by
          have : acc.length ≤ res.length := by rw [← hres2, List.length_append]; omega
          omega
        have hqc : q ≤ cu := by omega
        have hqi : (q : Int) ≤ (cu : Int) := by omega
        obtain ⟨pm, cm, rfl⟩ := hnb.val
        clear htn hql hB
        by_cases h7 : q < 127
        · rw [if_pos (by omega), List.append_nil] at hres2
          have Hnb := Lib.hid hnb
          have Hst := Lib.hid hst
          have Hf := Lib.hid hf
          have Hsz := Lib.hid hsz
          have Hres2 := Lib.hid hres2
          clear hnb hst hf hsz hres2
          clear hb1
          go_wp2_with (at_builtin; refine wpList_append_nb Hst.out Hnb.out Hf.out Hsz.out rfl _ _ rfl rfl rfl ?_; intro v' w' τ' hb he hmo; have Hb := Lib.hid hb; have He := Lib.hid he; have Hmo := Lib.hid hmo; clear hb he hmo)
          go_returns
          exact ⟨_, τ', rfl, by rw [← Hres2.out]; exact Hb.out, He.out⟩
        · rw [if_neg (by omega), ← List.append_assoc] at hres2
          have Hnb := Lib.hid hnb
          have Hst := Lib.hid hst
          have Hf := Lib.hid hf
          have Hsz := Lib.hid hsz
          have Hres2 := Lib.hid hres2
          clear hnb hst hf hsz hres2
          clear hb1
          go_wp2_with (at_builtin; refine wpList_append_nb Hst.out Hnb.out Hf.out Hsz.out rfl _ _ rfl rfl rfl ?_; intro v' w' τ' hb he hmo; have Hb := Lib.hid hb; have He := Lib.hid he; have Hmo := Lib.hid hmo; clear hb he hmo)
          go_round
          case rel => exact ⟨i + 1, τ', acc ++ x.take q, by omega, by simp, Hb.out, He.out, Lib.hid Hres2.out⟩
          case measure => simp [intOf]; omega
    · have hin : i = n := by omega
      subst hin
      have hres2 := HO.out
      rw [List.drop_eq_nil_of_le (by rw [Hn.out]; omega), stripRead, List.append_nil] at hres2
      subst hres2
      have Hnb := Lib.hid hnb
      have Hst := Lib.hid hst
      clear hnb hst
      go_wp2_with fail
      go_returns
      exact ⟨_, τr, rfl, Hnb.out, Hst.out⟩
end Go.Proofs.YtgjoahddbieliaaGreat
