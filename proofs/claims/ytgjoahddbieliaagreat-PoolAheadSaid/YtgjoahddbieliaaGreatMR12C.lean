/-
  The reference's pool without a page at hand: At, find, Dirty.
-/
import Derived.Test.YtgjoahddbieliaaGreatMR12
import Derived.Test.YtgjoahddbieliaaGreatMPoolI
namespace Go.Proofs.YtgjoahddbieliaaGreat
open Go.RowKit
set_option linter.unusedVariables false

structure NZ (n0 : Nat) (w : World) (τ : Tags) (g : Tag) (v : Value) (l : List Int) : Prop where
  buf : IntsZ w τ g v l
  low : ∀ k, v.ownBlock = some k → n0 ≤ k
theorem NZ.nil (n0 : Nat) (w : World) (τ : Tags) (g : Tag) : NZ n0 w τ g (.slice none 0 0) [] := ⟨Buf.nil _ _ _ _ _, fun k hk => by simp [Value.ownBlock] at hk⟩
theorem wpList_append_nz {w0 w : World} {τ0 τ : Tags} {S : Tag → Prop} (hst : Step w0 τ0 w τ S) {g : Tag} {v : Value} {l : List Int} (hown : NZ w0.heap.size w τ g v l) (x : Int) (hsz : l.length ≤ 1000000) {kb : Nat} (hkb : kb = w.heap.size)
    {ops : Array Oper} {rest : List Oper} {o : Oper} {a : Act} {Q : Exit → Act → World → Prop} (hgd : o.guard = none) (s y : Operand)
    (hop : o.op = .call { callee := .builtin .append, args := #[s, y], argTypes := #[86, 86] }) (hs : a.eval s = v) (hy : a.eval y = .slice (some ⟨kb, 0, none⟩) 1 1)
    (h : ∀ v' w' τ', NZ w0.heap.size w' τ' g v' (l ++ [x]) → Step w0 τ0 w' τ' S → wpList Tryz.prog ops Q rest (a.put o.dst v') w') : wpList Tryz.prog ops Q (o :: rest) a (w.alloc (.cells #[.int .i64 x] 3)) := by
  subst hkb
  refine wpList_plain hgd fun K hK => ?_
  obtain ⟨i0, hi, hz0, hz1, hz2⟩ := info_parts Tryz.infoInt
  have hal : Step w τ (w.alloc (.cells #[.int .i64 x] 3)) τ nil := (Step.refl w τ nil).alloc' _
  have hbuf2 : Buf (w.alloc (.cells #[.int .i64 x] 3)) τ g 3 1 v l.length (i64z l) := Buf.step hown.buf hal (fun h => h)
  have hst2 := hst.alloc' (.cells #[.int .i64 x] 3)
  obtain ⟨v', w', τ', hr, hb', he, hm, hnw⟩ := run_append_buf (P := Tryz.prog) (w.alloc (.cells #[.int .i64 x] 3)) τ g 86 o.type 3 i0 (.int .i64 0) 1 8 Tryz.underlying86 hi hz0 hz1 hz2 rfl (by decide) v l.length (i64z l) hbuf2
    (some ⟨w.heap.size, 0, none⟩) 1 1 [.int .i64 x] rfl (fun h => by cases h) (by
      intro ad had; cases had; exact World.news_of_block (cs := #[.int .i64 x]) (t := 3) (fr := (0, 0)) (heap_alloc_new w _)) (by simp [Value.oneCell']) (by unfold maxLen; omega) (by omega)
  unfold Oper.wp execOp
  simp only [hop, resolve, invoke, builtin, Sem.run_bind, Sem.run_pure, Result.andThen_ok, List.map_toArray, List.map_cons, List.map_nil, hs, hy, hr]
  have hb2 : IntsZ w' τ' g v' (l ++ [x]) := by
    unfold IntsZ
    rw [List.length_append]
    have e : i64z (l ++ [x]) = i64z l ++ [.int .i64 x] := by simp [i64z]
    rw [e]; exact hb'
  refine hK _ _ (h v' w' τ' ⟨hb2, fun k hk => ?_⟩ ⟨hst2.mod.seq hm (fun k hk hS => absurd (hown.low k hS) (by omega)), hst2.ext.trans he hst2.size⟩)
  rcases hnw k hk with h1 | h1
  · exact hown.low k h1
  · have := hst.size; simp at h1; omega
theorem NZ.val {n0 : Nat} {w : World} {τ : Tags} {g : Tag} {v : Value} {l : List Int} (h : NZ n0 w τ g v l) : ∃ p c, v = .slice p l.length c := Buf.len h.buf
theorem RPoolAt0.row {w : World} {τ : Tags} {bp k : Nat} {H : RPoolH} (h : RPoolAt0 w τ bp H k) (h0 : 0 < k) : ∃ bf c, H.vf = .slice (some ⟨bf, 0, none⟩) k c ∧ ∀ i, i < k → w.cell? ⟨bf, i * 3, none⟩ = some (.int .i64 (-1)) := by
  obtain ⟨h1, ⟨_, h2⟩ | ⟨b, cap, ys, hv, ho, h3, h4, h5⟩⟩ := h.fr
  · omega
  · refine ⟨b, cap, hv, fun i hi => ho.at _ ?_⟩
    rw [List.getElem?_append_left (by rw [rnoCells_length]; omega)]
    exact rnoCells_at k i hi
set_option maxRecDepth 100000 in
theorem r12at {w : World} {τ : Tags} {bp k : Nat} {H : RPoolH} (h : RPoolAt0 w τ bp H k) (h0 : 0 < k) :
    Calls Tryz.prog 95 #[.pointer (some ⟨bp, 0, none⟩)] w fun e w' => ∃ v τ', e = .returned v ∧ IntsZ w' τ' tOut v (List.replicate k (-1)) ∧ Step w τ w' τ' nil := by
  have hk := h.k1
  have H_h := Lib.hid h
  clear h
  go_enter Tryz.func95, Tryz.ntmps95
  go_wp2_with fail
  go_loopw [3, 4] (fun m iv wr => ∃ (i : Nat) (τr : Tags), i ≤ k ∧ iv = .int .i64 (i : Int) ∧ NZ w.heap.size wr τr tOut m (List.replicate i (-1)) ∧ Step w τ wr τr nil) (fun _ iv _ => k - (intOf iv).toNat)
  case atStart => exact ⟨0, τ, Nat.zero_le _, rfl, NZ.nil _ _ _ _, Step.refl _ _ _⟩
  case round =>
    obtain ⟨i, τr, hi, rfl, hz, hst⟩ := hrel
    have hp := H_h.out.step hst (fun _ _ h => h)
    obtain ⟨bf, c, hvf, hrow⟩ := hp.row h0
    have c2 := hp.hd.at 2 (v := H.vf) rfl
    rw [hvf] at c2
    by_cases hlt : i < k
    · have ci := hrow i hlt
      have hlen : (List.replicate i (-1 : Int)).length = i := List.length_replicate
      have hs := rep_snoc i (-1 : Int)
      generalize hL : List.replicate i (-1 : Int) = L at *
      obtain ⟨pm, cm, rfl⟩ := hz.val
      rw [hlen] at hz
      rw [hlen]
      have Hz := Lib.hid hz
      have Hst := Lib.hid hst
      have Hlen := Lib.hid hlen
      have Hs := Lib.hid hs
      have HL := Lib.hid hL
      clear hz hst hlen hs hL
      clear hp hvf hrow
      go_wp2_with (at_builtin; refine wpList_append_nz Hst.out Hz.out (-1) (by rw [Hlen.out]; omega) rfl rfl _ _ rfl rfl rfl ?_; intro v' w' τ' hb he; have Hb := Lib.hid hb; have He := Lib.hid he; clear hb he)
      go_round
      case rel => exact ⟨i + 1, τ', by omega, by simp, by rw [Hs.out]; exact Hb.out, He.out⟩
      case measure => simp [intOf]; omega
    · obtain rfl : i = k := by omega
      have Hz := Lib.hid hz
      have Hst := Lib.hid hst
      clear hz hst
      clear hp hvf hrow
      go_wp2_with fail
      go_returns
      exact ⟨_, τr, rfl, Hz.out.buf, Hst.out⟩
theorem r12find {w : World} {τ : Tags} {bp k : Nat} {H : RPoolH} (h : RPoolAt0 w τ bp H k) (h0 : 0 < k) (n : Nat) (hn : n < 4294967296) :
    Calls Tryz.prog 146 #[.pointer (some ⟨bp, 0, none⟩), .int .u32 (n : Int)] w fun e w' => e = .returned (.int .i64 (-1)) ∧ w = w' := by
  have hk := h.k1
  obtain ⟨bf, c, hvf, hrow⟩ := h.row h0
  have c2 := h.hd.at 2 (v := H.vf) rfl
  rw [hvf] at c2
  have hwr : wrap64 (n : Int) = (n : Int) := by unfold wrap64; omega
  have hne : ((-1 : Int) == (n : Int)) = false := by rw [beq_eq_false_iff_ne]; omega
  have Hrow := Lib.hid hrow
  clear hrow
  clear h hvf
  go_enter Tryz.func146, Tryz.ntmps146
  go_wp2_with fail
  go_loopw [5] (fun iv wr => ∃ (i : Nat), i ≤ k ∧ iv = .int .i64 (i : Int) ∧ wr = w) (fun iv _ => k - (intOf iv).toNat)
  case atStart => exact ⟨0, Nat.zero_le _, rfl, rfl⟩
  case round =>
    obtain ⟨i, hi, rfl, rfl⟩ := hrel
    by_cases hlt : i < k
    · have ci := Hrow.out i hlt
      go_wp2_with fail
      go_round
      case rel => exact ⟨i + 1, by omega, by simp, trivial⟩
      case measure => simp [intOf]; omega
    · obtain rfl : i = k := by omega
      go_wp2_with fail
      go_ret
      exact ⟨rfl, rfl⟩
theorem r12dirty {w : World} {τ : Tags} {bp k : Nat} {H : RPoolH} (h : RPoolAt0 w τ bp H k) (h0 : 0 < k) :
    Calls Tryz.prog 97 #[.pointer (some ⟨bp, 0, none⟩)] w fun e w' => e = .returned (.slice none 0 0) ∧ w = w' := by
  have hn := h.n1
  have c1 := h.hd.at 1 (v := .int .i64 (H.n : Int)) rfl
  have hf := fun (n : Nat) (hn : n < 4294967296) => r12find h h0 n hn
  generalize H.n = m at *
  have Hf := Lib.hid hf
  clear hf
  clear h
  go_enter Tryz.func97, Tryz.ntmps97
  go_wp2_with fail
  go_loopw [3, 4] (fun mv iv wr => ∃ (i : Nat), i ≤ m ∧ iv = .int .i64 (i : Int) ∧ mv = .slice none 0 0 ∧ wr = w) (fun _ iv _ => m - (intOf iv).toNat)
  case atStart => exact ⟨0, Nat.zero_le _, rfl, rfl, rfl⟩
  case round =>
    obtain ⟨i, hi, rfl, rfl, rfl⟩ := hrel
    by_cases hlt : i < m
    · have hfi := Hf.out i (by omega)
      have hwr := u32_wrap' i (by omega)
      have Hfi := Lib.hid hfi
      clear hfi
      go_wp2_with fail
      refine Hfi.out.mono ?_
      rintro e w' ⟨rfl, rfl⟩
      go_wp2_with fail
      go_round
      case rel => exact ⟨i + 1, by omega, by simp, rfl, trivial⟩
      case measure => simp [intOf]; omega
    · obtain rfl : i = m := by omega
      go_wp2_with fail
      go_ret
      exact ⟨rfl, rfl⟩
end Go.Proofs.YtgjoahddbieliaaGreat
