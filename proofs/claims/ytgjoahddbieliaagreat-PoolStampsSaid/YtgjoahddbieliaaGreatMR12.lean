/-
  The reference's pool: how it lies in memory (no page at hand); sectors, mend of a whole home.
-/
import Derived.Test.YtgjoahddbieliaaGreatMR8C
import Derived.Test.YtgjoahddbieliaaGreatMR1
import Derived.Test.YtgjoahddbieliaaGreatMPoolC
import Derived.Test.YtgjoahddbieliaaGreatMCkRefA
namespace Go.Proofs.YtgjoahddbieliaaGreat
open Go.RowKit
set_option linter.unusedVariables false

def tRPool : Tag := (60, 0)
def tRFr : Tag := (61, 0)
def tRClk : Tag := (62, 0)
/-- a pool's own block -/
structure RPoolH where
  bl : Nat
  n : Nat
  vf : Value
  bc : Nat
  st : Nat
def RPoolH.cells (H : RPoolH) : List Value := [.pointer (some ⟨H.bl, 0, none⟩), .int .i64 (H.n : Int), H.vf, .pointer (some ⟨H.bc, 0, none⟩), .int .u64 (H.st : Int)]
abbrev RPoolHd (w : World) (τ : Tags) (bp : Nat) (H : RPoolH) : Prop := Own w τ bp tRPool 215 H.cells
set_option maxRecDepth 100000 in
theorem r12sectors {w : World} {τ : Tags} {bp bd : Nat} {H : RPoolH} {L : LogM} {D : Dev} (h : RPoolHd w τ bp H) (hl : RLogAt w τ H.bl bd L) (hd : RDevAt w τ bd D) (n : Nat) (hn : 4 * n + 4 ≤ D.f1.length) :
    Calls Tryz.prog 145 #[.pointer (some ⟨bp, 0, none⟩), .int .i64 (4 * (n : Int))] w fun e w' => ∃ v τ', e = .returned v ∧ NR w.heap.size w' τ' tOut v (lastTo D n 4) ∧ Step w τ w' τ' nil := by
  have hlen := r5length hd 1 (by omega)
  have hf1 : D.file 1 = D.f1 := rfl
  rw [hf1] at hlen
  have H_h := Lib.hid h
  have Hl := Lib.hid hl
  have Hd := Lib.hid hd
  clear h hl hd
  go_enter Tryz.func145, Tryz.ntmps145
  go_wp2_with fail
  go_loopw [5, 6] (fun m v wr => ∃ (i : Nat) (τr : Tags), i ≤ 4 ∧ v = .int .i64 (i : Int) ∧ NR w.heap.size wr τr tOut m (lastTo D n i) ∧ Step w τ wr τr nil) (fun _ v _ => 4 - (intOf v).toNat)
  case atStart => exact ⟨0, τ, Nat.zero_le _, rfl, NR.nil _ _ _ _, Step.refl _ _ _⟩
  case round =>
    obtain ⟨i, τr, hi, rfl, hni, hst⟩ := hrel
    by_cases hlt : i < 4
    · have hp := H_h.out.step hst (fun h => h)
      obtain ⟨vs, vt, ho, -, -⟩ := (Hl.out.step hst (fun _ _ h => h)).is
      have c0 := hp.at 0 (v := .pointer (some ⟨H.bl, 0, none⟩)) rfl
      have d0 := ho.at 0 (v := .pointer (some ⟨bd, 0, none⟩)) rfl
      have h2 := r5read (Hd.out.step hst (fun _ h => h.elim)) 1 (by omega) (4 * n + i) (by rw [hf1]; omega) tData
      have hx := r5last128 Hd.out 1 (4 * n + i) (by omega) (by rw [hf1]; omega)
      have hs := lastTo_succ D n i
      have hsl := lastTo_length D n i
      rw [show ((4 * n + i : Nat) : Int) = 4 * (n : Int) + (i : Int) by omega] at h2
      generalize hLi : lastTo D n i = Li at *
      obtain ⟨pm, cm, rfl⟩ := hni.val
      have H2 := Lib.hid h2
      have Hx := Lib.hid hx
      have Hs := Lib.hid hs
      have Hni := Lib.hid hni
      have Hst := Lib.hid hst
      have Hsl := Lib.hid hsl
      have HLi := Lib.hid hLi
      clear h2 hx hs hni hst hsl hLi
      clear hp ho
      go_wp2_with fail
      refine H2.out.mono ?_
      rintro e w1 ⟨u, τ1, rfl, hb, hs1⟩
      have hni1 := Hni.out.step hs1 (fun h => h) (fun h => h)
      have hst1 := Hst.out.trans hs1
      obtain ⟨pu, cu, rfl, -, -⟩ := hb.any
      rw [Hx.out.1] at hb ⊢
      have Hb := Lib.hid hb
      have Hni1 := Lib.hid hni1
      have Hst1 := Lib.hid hst1
      clear hb hni1 hst1
      go_wp2_with (at_builtin; refine wpList_append_nr1 Hst1.out (by decide) Hni1.out Hb.out Hx.out.1 (by rw [Hsl.out]; omega) rfl rfl _ _ rfl rfl rfl ?_; intro v' w' τ' hb he hmo; have Hb := Lib.hid hb; have He := Lib.hid he; have Hmo := Lib.hid hmo; clear hb he hmo)
      go_round
      case rel => exact ⟨i + 1, τ', by omega, by simp, by rw [Hs.out]; exact Hb.out, He.out⟩
      case measure => simp [intOf]; omega
    · obtain rfl : i = 4 := by omega
      have Hni := Lib.hid hni
      have Hst := Lib.hid hst
      clear hni hst
      go_wp2_with fail
      go_returns
      exact ⟨_, τr, rfl, Hni.out, Hst.out⟩
theorem r12mend_yes {w : World} {τ : Tags} {bp bd : Nat} {H : RPoolH} {L : LogM} {D : Dev} (h : RPoolHd w τ bp H) (hl : RLogAt w τ H.bl bd L) (hd : RDevAt w τ bd D) (n : Nat) (hn : 4 * n + 4 ≤ D.f1.length) (hw : sealOk (lastTo D n 4) = true) :
    Calls Tryz.prog 143 #[.pointer (some ⟨bp, 0, none⟩), .int .i64 (n : Int)] w fun e w' => e = .returned (.bool true) ∧ ∃ τ', Step w τ w' τ' nil := by
  have h1 := r12sectors h hl hd n hn
  have hlen := r5length hd 1 (by omega)
  have hf1 : D.file 1 = D.f1 := rfl
  rw [hf1] at hlen
  have h4 := lastTo_length D n 4
  generalize lastTo D n 4 = ls at *
  have H1 := Lib.hid h1
  have H4 := Lib.hid h4
  have Hw := Lib.hid hw
  clear h1 h4 hw
  clear h hl hd
  go_enter Tryz.func143, Tryz.ntmps143
  go_wp2_with fail
  refine H1.out.mono ?_
  rintro e w1 ⟨v, τ1, rfl, hr, hs1⟩
  have h2 := r10open hr.row tData H4.out
  obtain ⟨p, c, rfl⟩ := hr.val
  have H2 := Lib.hid h2
  have Hs1 := Lib.hid hs1
  clear h2 hs1
  clear H1 hr
  go_wp2_with fail
  refine H2.out.mono ?_
  rintro e w2 ⟨τ2, hs2, h⟩
  rcases h with ⟨-, u, rfl, -⟩ | ⟨hno, -⟩
  · have Hs2 := Lib.hid hs2
    clear hs2
    go_wp2_with fail
    go_ret
    exact ⟨rfl, τ2, Hs1.out.trans Hs2.out⟩
  · rw [Hw.out] at hno; cases hno
end Go.Proofs.YtgjoahddbieliaaGreat

/-
  The reference's pool: New over homes that are whole.
-/
namespace Go.Proofs.YtgjoahddbieliaaGreat
open Go.RowKit
set_option linter.unusedVariables false

theorem Tryz.infoRFrame : (Tryz.prog.info? 217).map (fun i => (i.zero, i.size, i.bytes)) = some (some (.agg #[.int .i64 0, .pointer none, .int .u64 0]), 3, 24) := by kernel_rfl
def rnoCells (k : Nat) : List Value := (List.replicate k [Value.int .i64 (-1), .pointer none, .int .u64 0]).flatten
theorem rnoCells_succ (k : Nat) : rnoCells (k + 1) = rnoCells k ++ [Value.int .i64 (-1), .pointer none, .int .u64 0] := by
  unfold rnoCells
  rw [List.replicate_succ', List.flatten_append]; simp
theorem rnoCells_length (k : Nat) : (rnoCells k).length = k * 3 := by
  induction k with
  | zero => rfl
  | succ k ih => rw [rnoCells_succ, List.length_append, ih]; simp; omega
theorem rnoCells_at (k i : Nat) (h : i < k) : (rnoCells k)[i * 3]? = some (.int .i64 (-1)) := by
  induction k with
  | zero => omega
  | succ k ih =>
    rw [rnoCells_succ]
    by_cases e : i < k
    · rw [List.getElem?_append_left (by rw [rnoCells_length]; omega)]; exact ih e
    · obtain rfl : i = k := by omega
      rw [List.getElem?_append_right (by rw [rnoCells_length]; exact Nat.le_refl _), rnoCells_length, Nat.sub_self]; rfl
/-- no page is at hand -/
structure RPoolAt0 (w : World) (τ : Tags) (bp : Nat) (H : RPoolH) (k : Nat) : Prop where
  hd : RPoolHd w τ bp H
  fr : Buf w τ tRFr 217 3 H.vf k (rnoCells k)
  n1 : 1 ≤ H.n ∧ H.n ≤ 512
  k1 : k ≤ 64
def RPoolTag (g : Tag) : Prop := g = tRPool ∨ g = tRFr ∨ g = tRClk
theorem RPoolAt0.step {w w' : World} {τ τ' : Tags} {S : Tag → Prop} {bp k : Nat} {H : RPoolH} (h : RPoolAt0 w τ bp H k) (m : Step w τ w' τ' S) (hs : ∀ g, RPoolTag g → ¬ S g) : RPoolAt0 w' τ' bp H k :=
  ⟨h.hd.step m (hs _ (.inl rfl)), h.fr.step m (hs _ (.inr (.inl rfl))), h.n1, h.k1⟩
theorem RPoolAt0.setSt {w : World} {τ : Tags} {bp k : Nat} {H : RPoolH} (h : RPoolAt0 w τ bp H k) (n : Nat) : RPoolAt0 (w.setCell ⟨bp, 4, none⟩ (.int .u64 (n : Int))) τ bp { H with st := n } k ∧ Step w τ (w.setCell ⟨bp, 4, none⟩ (.int .u64 (n : Int))) τ (fun g => g = tRPool) := by
  have m : Step w τ (w.setCell ⟨bp, 4, none⟩ (.int .u64 (n : Int))) τ (fun g => g = tRPool) := (Step.refl w τ (fun g => g = tRPool)).set h.hd.tag rfl _
  exact ⟨⟨h.hd.set 4 _, h.fr.step m (by decide), h.n1, h.k1⟩, m⟩
theorem RPoolAt0.setVf {w w2 : World} {τ τ2 : Tags} {bp k k2 : Nat} {H : RPoolH} (h : RPoolAt0 w τ bp H k) (m : Step w τ w2 τ2 (fun t => t = tRFr)) {v : Value} (hb : Buf w2 τ2 tRFr 217 3 v k2 (rnoCells k2)) (hk : k2 ≤ 64) :
    RPoolAt0 (w2.setCell ⟨bp, 2, none⟩ v) τ2 bp { H with vf := v } k2 ∧ Step w2 τ2 (w2.setCell ⟨bp, 2, none⟩ v) τ2 (fun g => g = tRPool) := by
  have ho := h.hd.step m (by decide)
  have ms : Step w2 τ2 (w2.setCell ⟨bp, 2, none⟩ v) τ2 (fun g => g = tRPool) := (Step.refl w2 τ2 (fun g => g = tRPool)).set ho.tag rfl _
  exact ⟨⟨ho.set 2 v, hb.step ms (by decide), h.n1, hk⟩, ms⟩
theorem wpList_append_rfr {w : World} {τ : Tags} {v : Value} {n : Nat} (hbuf : Buf w τ tRFr 217 3 v n (rnoCells n)) (hn : n ≤ 1000) {kb : Nat} (hkb : kb = w.heap.size)
    {ops : Array Oper} {rest : List Oper} {o : Oper} {a : Act} {Q : Exit → Act → World → Prop} (hgd : o.guard = none) (s y : Operand)
    (ho : o.op = .call { callee := .builtin .append, args := #[s, y], argTypes := #[213, 213] }) (hs : a.eval s = v) (hy : a.eval y = .slice (some ⟨kb, 0, none⟩) 1 1)
    (h : ∀ v' w' τ', Buf w' τ' tRFr 217 3 v' (n + 1) (rnoCells (n + 1)) → Step w τ w' τ' (fun t => t = tRFr) → wpList Tryz.prog ops Q rest (a.put o.dst v') w') : wpList Tryz.prog ops Q (o :: rest) a (w.alloc (.cells #[.int .i64 (-1), .pointer none, .int .u64 0] 217)) := by
  subst hkb
  refine wpList_plain hgd fun K hK => ?_
  obtain ⟨i0, hi, hz0, hz1, hz2⟩ := info_parts Tryz.infoRFrame
  have hal : Step w τ (w.alloc (.cells #[.int .i64 (-1), .pointer none, .int .u64 0] 217)) τ nil := (Step.refl w τ nil).alloc' _
  have hbuf2 := hbuf.step hal (fun h => h)
  obtain ⟨v', w', τ', hr, hb', he, hm, hnw⟩ := run_append_buf (P := Tryz.prog) (w.alloc (.cells #[.int .i64 (-1), .pointer none, .int .u64 0] 217)) τ tRFr 213 o.type 217 i0 (.agg #[.int .i64 0, .pointer none, .int .u64 0]) 3 24 Tryz.underlying213 hi hz0 hz1 hz2 rfl (by decide) v n (rnoCells n) hbuf2
    (some ⟨w.heap.size, 0, none⟩) 1 1 [.int .i64 (-1), .pointer none, .int .u64 0] rfl (fun h => by cases h) (by
      intro ad had; cases had; exact World.news_of_block (cs := #[.int .i64 (-1), .pointer none, .int .u64 0]) (t := 217) (fr := (0, 0)) (heap_alloc_new w _)) (by simp [Value.oneCell']) (by unfold maxLen; omega) (by omega)
  unfold Oper.wp execOp
  simp only [ho, resolve, invoke, builtin, Sem.run_bind, Sem.run_pure, Result.andThen_ok, List.map_toArray, List.map_cons, List.map_nil, hs, hy, hr]
  rw [← rnoCells_succ] at hb'
  refine hK _ _ (h v' w' τ' hb' ((hal.mono (fun _ h => h.elim)).trans ⟨hm.mono (fun k hk hS => (hbuf2.own k hS).1), he⟩))
set_option maxHeartbeats 8000000 in
set_option maxRecDepth 100000 in
theorem r12new_yes {w : World} {τ : Tags} {bl bd : Nat} {L : LogM} {D : Dev} (hl : RLogAt w τ bl bd L) (hd : RDevAt w τ bd D) (n k : Nat) (h1 : 1 ≤ n) (h5 : n ≤ 512) (h3 : 3 ≤ k) (h64 : k ≤ 64) (hn : 4 * (n + 1) ≤ D.f1.length) (hw : ∀ i, i < n → sealOk (lastTo D i 4) = true) (hst64 : ∀ i, i ≤ n + 1 → stampTo D i < 18446744073709551616) :
    Calls Tryz.prog 77 #[.pointer (some ⟨bl, 0, none⟩), .int .i64 (n : Int), .int .i64 (k : Int)] w fun e w' => ∃ bp τ' H, e = .returned (.tuple #[.pointer (some ⟨bp, 0, none⟩), .int .i64 0]) ∧ RPoolAt0 w' τ' bp H k ∧ H.bl = bl ∧ H.n = n ∧ H.st = stampTo D (n + 1) ∧ w.heap.size ≤ bp ∧ Step w τ w' τ' RPoolTag := by
  obtain ⟨vs, vt, ho, -, -⟩ := hl.is
  have c0 := ho.at 0 (v := .pointer (some ⟨bd, 0, none⟩)) rfl
  have hsz := r5size' hd 1 (by omega)
  have hf1 : D.file 1 = D.f1 := rfl
  have hlen := r5length hd 1 (by omega)
  rw [hf1] at hsz hlen
  generalize hm : D.f1.length = m at *
  have a1 : decide ((m : Int) < 4 * ((n : Int) + 1)) = false := by simp; omega
  have a2 : decide ((n : Int) < 1) = false := by simp; omega
  have a3 : decide ((512 : Int) < (n : Int)) = false := by simp; omega
  have a4 : decide ((k : Int) < 3) = false := by simp; omega
  have a5 : decide ((64 : Int) < (k : Int)) = false := by simp; omega
  have hck := Ck.rnew_ok w k (by omega) h64
  have Hsz := Lib.hid hsz
  have Hl := Lib.hid hl
  have Hd := Lib.hid hd
  have Hck := Lib.hid hck
  have Hw := Lib.hid hw
  have Hst64 := Lib.hid hst64
  have Hm := Lib.hid hm
  clear hsz hl hd hck hw hst64 hm
  clear ho
  go_enter Tryz.func77, Tryz.ntmps77
  go_wp2_with fail
  refine Hsz.out.mono ?_
  rintro e w' ⟨rfl, rfl⟩
  go_wp2_with fail
  refine Hck.out.mono ?_
  rintro e wc ⟨br, bt, bu, bp0, rfl, l1, l2, l3, l4, hrc, hmc⟩
  have hsc : Step w τ wc τ RPoolTag := ⟨⟨hmc.os, hmc.tape, hmc.output, hmc.size, fun j hj _ => hmc.block j hj (by simp)⟩, Ext.refl _ _⟩
  have hcells : (RPoolH.mk bl n (.slice none 0 0) br 0).cells = [.pointer (some ⟨bl, 0, none⟩), .int .i64 (n : Int), .slice none 0 0, .pointer (some ⟨br, 0, none⟩), .int .u64 0] := rfl
  have hb0 := Own.new wc τ tRPool 215 (RPoolH.mk bl n (.slice none 0 0) br 0).cells
  have hs0 := hsc.alloc (.cells ⟨(RPoolH.mk bl n (.slice none 0 0) br 0).cells⟩ 215) tRPool
  rw [hcells] at hb0 hs0
  have hp0 : RPoolAt0 (wc.alloc (.cells #[.pointer (some ⟨bl, 0, none⟩), .int .i64 (n : Int), .slice none 0 0, .pointer (some ⟨br, 0, none⟩), .int .u64 0] 215)) (τ.put wc.heap.size tRPool) wc.heap.size ⟨bl, n, .slice none 0 0, br, 0⟩ 0 :=
    ⟨hb0, Buf.nil _ _ _ _ _, ⟨h1, h5⟩, by omega⟩
  have hlow : w.heap.size ≤ wc.heap.size := hmc.size
  generalize τ.put wc.heap.size tRPool = τ0 at *
  obtain ⟨bp, hbp⟩ : ∃ bp, wc.heap.size = bp := ⟨_, rfl⟩
  rw [hbp] at hp0 hlow
  have Hp0 := Lib.hid hp0
  have Hs0 := Lib.hid hs0
  have Hlow := Lib.hid hlow
  have Hbp := Lib.hid hbp
  clear hp0 hs0 hlow hbp
  clear hrc hmc hsc hb0 hcells
  go_wp2_with fail
  rw [Hbp.out]
  generalize wc.alloc (.cells #[.pointer (some ⟨bl, 0, none⟩), .int .i64 (n : Int), .slice none 0 0, .pointer (some ⟨br, 0, none⟩), .int .u64 0] 215) = W0 at *
  go_loopw [9] (fun v wr => ∃ (i : Nat) (τr : Tags), i ≤ n ∧ v = .int .i64 (i : Int) ∧ RPoolAt0 wr τr bp ⟨bl, n, .slice none 0 0, br, 0⟩ 0 ∧ Step w τ wr τr RPoolTag) (fun v _ => n - (intOf v).toNat)
  case atStart => exact ⟨0, _, Nat.zero_le _, rfl, Hp0.out, Hs0.out⟩
  case round =>
    clear Hp0 Hs0
    obtain ⟨i, τr, hi, rfl, hp, hst⟩ := hrel
    have hlr := Hl.out.step hst (fun g hg hS => by rcases hg with rfl | rfl | rfl <;> simp [RPoolTag, tRPool, tRFr, tRClk, tRLog, tRStream, tRStarts] at hS)
    have hdr := Hd.out.step hst (fun g hg => by rcases hg with rfl | rfl | rfl <;> simp [RDevTag, tRPool, tRFr, tRClk, tData])
    by_cases hlt : i < n
    · have hm1 := r12mend_yes hp.hd hlr hdr i (by rw [Hm.out]; omega) (Hw.out i hlt)
      have Hm1 := Lib.hid hm1
      have Hp := Lib.hid hp
      have Hst := Lib.hid hst
      clear hm1 hp hst
      clear hlr hdr
      go_wp2_with fail
      refine Hm1.out.mono ?_
      rintro e w2 ⟨rfl, τ2, hs2⟩
      have Hs2 := Lib.hid hs2
      clear hs2
      go_wp2_with fail
      go_round
      case rel => exact ⟨i + 1, τ2, by omega, by simp, Hp.out.step Hs2.out (fun _ _ h => h), Hst.out.trans (Hs2.out.mono (fun _ h => h.elim))⟩
      case measure => simp [intOf]; omega
    · obtain rfl : i = n := by omega
      have Hp := Lib.hid hp
      have Hst := Lib.hid hst
      clear hp hst
      clear hlr hdr
      go_wp2_with fail
      go_loopw [11] (fun v wr => ∃ (j : Nat) (τr : Tags), j ≤ i + 1 ∧ v = .int .i64 (j : Int) ∧ RPoolAt0 wr τr bp ⟨bl, i, .slice none 0 0, br, stampTo D j⟩ 0 ∧ Step w τ wr τr RPoolTag) (fun v _ => i + 1 - (intOf v).toNat)
      case atStart => exact ⟨0, τr, Nat.zero_le _, rfl, Hp.out, Hst.out⟩
      case round =>
        clear Hp Hst
        obtain ⟨j, τr, hj, rfl, hp, hst⟩ := hrel
        by_cases hlt : j < i + 1
        · have hstd := hst.drew
          have hsec := r12sectors hp.hd.drew (by show RLogAt _ _ bl _ _; exact Hl.out.step hstd (fun g hg hS => by rcases hg with rfl | rfl | rfl <;> simp [RPoolTag, tRPool, tRFr, tRClk, tRLog, tRStream, tRStarts] at hS)) (Hd.out.step hstd (fun g hg => by rcases hg with rfl | rfl | rfl <;> simp [RDevTag, tRPool, tRFr, tRClk, tData])) j (by rw [Hm.out]; omega)
          have hmax : stampTo D (j + 1) = max (stampTo D j) (greatTo (lastTo D j 4) 4) := rfl
          have hmx := fun (W : World) (ts : Array TypeId) (t : TypeId) => run_max2 (P := Tryz.prog) W ts t _ _ _ hmax
          have c5 := hp.hd.at 4 (v := .int .u64 (stampTo D j : Int)) rfl
          have hj4 : IntKind.i64.wrap (4 * (j : Int)) = 4 * (j : Int) := by rw [IntKind.wrap_i64]; omega
          have Hsec := Lib.hid hsec
          have Hp := Lib.hid hp
          have Hst := Lib.hid hst
          clear hsec hp hst
          generalize hS1 : stampTo D (j + 1) = s1 at *
          generalize hS0 : stampTo D j = s0 at *
          go_wp2_with fail
          refine wp_region_L (S := fun w' : World => w'.cell? ⟨bp, 4, none⟩ = some (.int .u64 (s0 : Int))) (by kernel_rfl) ?_
          have hSS : wr.drew.cell? ⟨bp, 4, none⟩ = some (.int .u64 (s0 : Int)) := c5
          refine wpAnyL_take (i := 0) (v := ?_) rfl (by decide +kernel) (by decide +kernel) (by decide +kernel) (by decide +kernel) (fun _ _ _ h => h) (Or.inl ⟨by rfl, ?_⟩) (by assumption) ?_
          rotate_left
          · intro w hSw
            (try dsimp only at hSw)
            go_simp
            all_goals with_reducible rfl
          try simp only [Act.put]
          try simp only [List.setIfInBounds_toArray]
          try simp only [List.set_cons_succ]
          try simp only [List.set_cons_zero]
          refine wpAnyL_take (i := 1) (v := ?_) rfl (by decide +kernel) (by decide +kernel) (by decide +kernel) (by decide +kernel) (fun _ _ _ h => h) (Or.inl ⟨by rfl, ?_⟩) (by assumption) ?_
          rotate_left
          · intro w hSw
            (try dsimp only at hSw)
            go_simp
            all_goals with_reducible rfl
          try simp only [Act.put]
          try simp only [List.setIfInBounds_toArray]
          try simp only [List.set_cons_succ]
          try simp only [List.set_cons_zero]
          refine wpAnyL_take (i := 2) (v := ?_) rfl (by decide +kernel) (by decide +kernel) (by decide +kernel) (by decide +kernel) (fun _ _ _ h => h) (Or.inl ⟨by rfl, ?_⟩) (by assumption) ?_
          rotate_left
          · intro w hSw
            (try dsimp only at hSw)
            go_simp
            all_goals with_reducible rfl
          try simp only [Act.put]
          try simp only [List.setIfInBounds_toArray]
          try simp only [List.set_cons_succ]
          try simp only [List.set_cons_zero]
          refine wpAnyL_take (i := 3) (v := ?_) rfl (by decide +kernel) (by decide +kernel) (by decide +kernel) (by decide +kernel) (fun _ _ _ h => h) (Or.inl ⟨by rfl, ?_⟩) (by assumption) ?_
          rotate_left
          · intro w hSw
            (try dsimp only at hSw)
            go_simp
            all_goals with_reducible rfl
          try simp only [Act.put]
          try simp only [List.setIfInBounds_toArray]
          try simp only [List.set_cons_succ]
          try simp only [List.set_cons_zero]
          refine wpAnyL_take (i := 4) (v := ?_) rfl (by decide +kernel) (by decide +kernel) (by decide +kernel) (by decide +kernel) (fun _ _ _ h => h) (Or.inl ⟨by rfl, ?_⟩) (by assumption) ?_
          rotate_left
          · intro w hSw
            (try dsimp only at hSw)
            go_simp
            all_goals with_reducible rfl
          try simp only [Act.put]
          try simp only [List.setIfInBounds_toArray]
          try simp only [List.set_cons_succ]
          try simp only [List.set_cons_zero]
          refine wpAnyL_take (i := 5) (v := ?_) rfl (by decide +kernel) (by decide +kernel) (by decide +kernel) (by decide +kernel) (fun _ _ _ h => h) (Or.inl ⟨by rfl, ?_⟩) (by assumption) ?_
          rotate_left
          · intro w hSw
            (try dsimp only at hSw)
            go_simp
            all_goals with_reducible rfl
          try simp only [Act.put]
          try simp only [List.setIfInBounds_toArray]
          try simp only [List.set_cons_succ]
          try simp only [List.set_cons_zero]
          refine wpAnyL_take (i := 6) (v := ?_) rfl (by decide +kernel) (by decide +kernel) (by decide +kernel) (by decide +kernel) (fun _ _ _ h => h) (Or.inl ⟨by rfl, ?_⟩) (by assumption) ?_
          rotate_left
          · intro w hSw
            (try dsimp only at hSw)
            go_simp
            all_goals with_reducible rfl
          try simp only [Act.put]
          try simp only [List.setIfInBounds_toArray]
          try simp only [List.set_cons_succ]
          try simp only [List.set_cons_zero]
          refine wpAnyL_take (i := 7) (v := ?_) rfl (by decide +kernel) (by decide +kernel) (by decide +kernel) (by decide +kernel) (fun _ _ _ h => h) (Or.inl ⟨by rfl, ?_⟩) (by assumption) ?_
          rotate_left
          · intro w hSw
            (try dsimp only at hSw)
            go_simp
            all_goals with_reducible rfl
          try simp only [Act.put]
          try simp only [List.setIfInBounds_toArray]
          try simp only [List.set_cons_succ]
          try simp only [List.set_cons_zero]
          clear hSS
          refine wpAnyL_one (i := 8) (by decide +kernel) rfl (fun K hK => ?_)
          go_simp
          go_at_call 145
          refine Hsec.out.mono ?_
          rintro e w2 ⟨u2, τ2, rfl, hr2, hs2⟩
          have hp2 := (Hp.out.step (Step.refl wr τr nil).drew (fun _ _ h => h)).step hs2 (fun _ _ h => h)
          have d5 := hp2.hd.at 4 (v := .int .u64 (s0 : Int)) rfl
          have hgr := r10greatest hr2.row
          rw [lastTo_length] at hgr
          obtain ⟨pu, cu, rfl⟩ := hr2.val
          have Hp2 := Lib.hid hp2
          have Hs2 := Lib.hid hs2
          have Hgr := Lib.hid hgr
          clear hp2 hs2 hgr
          clear hr2
          refine hK.out _ _ (fun _ => d5) ?_
          clear hK K
          refine wpAnyL_one (i := 9) (by decide +kernel) rfl (fun K hK => ?_)
          go_simp
          go_at_call 144
          refine Hgr.out.mono ?_
          rintro e w3 ⟨rfl, hs3⟩
          have hp3 := Hp2.out.step hs3 (fun _ _ h => h)
          have e5 := hp3.hd.at 4 (v := .int .u64 (s0 : Int)) rfl
          have f5 := hp3.hd.fz 4
          have hpf := hp3.setSt (max s0 (greatTo (lastTo D j 4) 4))
          have Hp3 := Lib.hid hp3
          have Hs3 := Lib.hid hs3
          have Hpf := Lib.hid hpf
          clear hp3 hs3 hpf
          refine hK.out _ _ (fun _ => e5) ?_
          clear hK K
          refine wpAnyL_one (i := 10) (by decide +kernel) rfl (fun K hK => ?_)
          go_simp
          refine hK.out _ _ (fun _ => e5) ?_
          clear hK K
          refine wpAnyL_one (i := 11) (by decide +kernel) rfl (fun K hK => ?_)
          go_simp
          refine hK.out _ _ (fun _ => e5) ?_
          clear hK K
          refine wpAnyL_one (i := 12) (by decide +kernel) rfl (fun K hK => ?_)
          go_simp
          refine hK.out _ _ (fun _ => e5) ?_
          clear hK K
          refine wpAnyL_one (i := 13) (by decide +kernel) rfl (fun K hK => ?_)
          go_simp
          refine hK.out _ _ (fun h => absurd h (by decide +kernel)) ?_
          clear hK K
          refine wpAnyL_done (by kernel_rfl) ?_ _
          go_wp2_with fail
          go_round
          case rel => exact ⟨j + 1, τ2, by omega, by simp, by rw [hS1, hmax]; exact Hpf.out.1, Hst.out.drew.trans (((Hs2.out.trans Hs3.out).mono (T := RPoolTag) (fun _ h => h.elim)).trans (Hpf.out.2.mono (T := RPoolTag) (fun _ h => .inl h)))⟩
          case measure => simp [intOf]; omega
        · obtain rfl : j = i + 1 := by omega
          generalize hS : stampTo D (i + 1) = S1 at *
          have Hp := Lib.hid hp
          have Hst := Lib.hid hst
          have HS := Lib.hid hS
          clear hp hst hS
          go_wp2_with fail
          go_loopw [12] (fun v wr => ∃ (q : Nat) (τr : Tags) (vf : Value), q ≤ k ∧ v = .int .i64 (q : Int) ∧ RPoolAt0 wr τr bp ⟨bl, i, vf, br, S1⟩ q ∧ Step w τ wr τr RPoolTag) (fun v _ => k - (intOf v).toNat)
          case atStart => exact ⟨0, τr, _, Nat.zero_le _, rfl, Hp.out, Hst.out⟩
          case round =>
            clear Hp Hst
            obtain ⟨q, τr, vf, hq, rfl, hp, hst⟩ := hrel
            by_cases hlt : q < k
            · have c2 := hp.hd.at 2 (v := vf) rfl
              have hpd := hp.step (Step.refl wr τr nil).drew (fun _ _ h => h)
              clear hpd
              have Hp := Lib.hid hp
              have Hst := Lib.hid hst
              clear hp hst
              go_wp2_with (at_builtin; refine wpList_append_rfr Hp.out.fr (by omega) rfl rfl _ _ rfl rfl rfl ?_; intro v3 w3 τ3 hb3 hs3
                           obtain ⟨p3, n3, rfl⟩ := hb3.len
                           have hpv := Hp.out.setVf hs3 hb3 (by omega)
                           have hd3 := Hp.out.hd.step hs3 (by decide)
                           have c3 := hd3.at 2 (v := vf) rfl
                           have z3 := hd3.fz 2
                           have Hpv := Lib.hid hpv
                           have Hs3 := Lib.hid hs3
                           clear hpv hs3
                           clear hb3 hd3)
              go_round
              case rel =>
                have hr1 := Hpv.out.1
                have hr2 := Hst.out.trans ((Hs3.out.mono (T := RPoolTag) (fun _ h => .inr (.inl h))).trans (Hpv.out.2.mono (T := RPoolTag) (fun _ h => .inl h)))
                first
                  | exact ⟨q + 1, τ3, _, by omega, by simp, hr1, hr2⟩
                  | exact ⟨q + 1, by omega, by simp, τ3, ⟨_, hr1⟩, hr2⟩
                  | exact ⟨q + 1, by omega, τ3, ⟨_, hr1⟩, hr2⟩
                  | exact ⟨q + 1, by omega, ⟨by simp, τ3, ⟨_, hr1⟩, hr2⟩⟩
              case measure => simp [intOf]; omega
            · obtain rfl : q = k := by omega
              have Hp := Lib.hid hp
              have Hst := Lib.hid hst
              clear hp hst
              go_wp2_with fail
              go_ret2
              exact ⟨bp, τr, _, rfl, Hp.out, rfl, rfl, HS.out.symm, Hlow.out, Hst.out⟩
end Go.Proofs.YtgjoahddbieliaaGreat
