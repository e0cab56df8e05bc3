/-
  Two devices that hold the same: Image, SameBlocks, alike, Same.
-/
import Derived.Test.YtgjoahddbieliaaGreatMR5F
import Derived.Test.YtgjoahddbieliaaGreatMR8
namespace Go.Proofs.YtgjoahddbieliaaGreat
open Go.RowKit
set_option linter.unusedVariables false

theorem DevAt.file' {w : World} {τ : Tags} {b : Nat} {D : Dev} (h : DevAt w τ b D) (f : Nat) (hf : f < 256) :
    ∃ v, (Calls Tryz.prog 124 #[.pointer (some ⟨b, 0, none⟩), .int .u8 (f : Int)] w fun e w' => e = .returned v ∧ w = w') ∧ File w τ f v (D.file f) := file_any h f hf
set_option maxRecDepth 100000 in
theorem image_any {w : World} {τ : Tags} {b : Nat} {D : Dev} (h : DevAt w τ b D) (f : Nat) (hf : f < 256) :
    Calls Tryz.prog 225 #[.pointer (some ⟨b, 0, none⟩), .int .u8 (f : Int)] w fun e w' => ∃ v τ', e = .returned v ∧ NR w.heap.size w' τ' tOut v ((D.file f).map Sec.last) ∧ Step w τ w' τ' nil := by
  obtain ⟨v, hfc, hfile⟩ := file_any h f hf
  have hn4096 := h.length f
  have htk : (D.file f).take (D.file f).length = D.file f := List.take_length
  generalize hl : D.file f = l at *
  obtain ⟨p, cap, rfl, hcap, -, -⟩ := id hfile
  generalize hn : l.length = n at *
  have Hfc := Lib.hid hfc
  have Hfile := Lib.hid hfile
  have Hn := Lib.hid hn
  have Hl := Lib.hid hl
  have Htk := Lib.hid htk
  clear hfc hfile hn hl htk
  clear h
  go_enter Tryz.func225, Tryz.ntmps225
  go_wp2_with fail
  refine Hfc.out.mono ?_
  rintro e w' ⟨rfl, rfl⟩
  go_wp2_with fail
  go_loopw [5, 12] (fun m iv wr => ∃ (i : Nat) (τr : Tags), i ≤ n ∧ iv = .int .i64 (i : Int) ∧ NR w.heap.size wr τr tOut m ((l.take i).map Sec.last) ∧ Step w τ wr τr nil) (fun _ iv _ => n - (intOf iv).toNat)
  case atStart => exact ⟨0, τ, Nat.zero_le _, rfl, NR.nil _ _ _ _, Step.refl _ _ _⟩
  case round =>
    obtain ⟨i, τr, hi, rfl, hnr, hst⟩ := hrel
    by_cases hlt : i < n
    · obtain ⟨s, hs⟩ : ∃ s, l[i]? = some s := ⟨_, List.getElem?_eq_getElem (by rw [Hn.out]; exact hlt)⟩
      have hsu := lastsTo_succ hs
      obtain ⟨p', cap', hv, -, -, hpos⟩ := Hfile.out.mod hst.no hst.ext (fun _ _ _ h => h) (fun _ _ _ _ h => h) (fun _ _ _ h => h)
      obtain ⟨bf, xs, hpx, ho, hsec⟩ := hpos (by rw [Hn.out]; omega)
      rw [Hn.out, hpx] at hv
      simp only [Value.slice.injEq, true_and] at hv
      obtain ⟨rfl, rfl⟩ := hv
      obtain ⟨⟨hl128, v, hvv, hb⟩, ⟨u, hu, hw⟩⟩ := hsec i s hs
      have c0 := ho.at (i * 2) hvv
      have c1 := ho.at (i * 2 + 1) hu
      obtain ⟨pu, cu, rfl⟩ := hw.len
      have hln := fun W (m : Step wr τr W τr nil) => clone_any (hb.step m (fun h => h)) tData (by omega)
      obtain ⟨pv, cv, rfl, -, -⟩ := hb.any
      rw [hl128] at hln c0
      have hlen : ((l.take i).map Sec.last).length = i := by rw [List.length_map, List.length_take, Hn.out]; omega
      have hi64 : i ≤ 1000000000 := by omega
      generalize hls : (l.take i).map Sec.last = ls at *
      generalize s.waits.length = sw at *
      obtain ⟨pm, cm, rfl⟩ := hnr.val
      have Hls := Lib.hid hls
      have Hst := Lib.hid hst
      have Hln := Lib.hid hln
      have Hl128 := Lib.hid hl128
      have Hsu := Lib.hid hsu
      have Hnr := Lib.hid hnr
      have Hlen := Lib.hid hlen
      clear hls hst hln hl128 hsu hnr hlen
      clear hsec ho hb hvv hs hw hu hpos
      go_wp2_with fail
      refine (Hln.out _ ((Step.refl wr τr nil).alloc' _)).mono ?_
      rintro e w2 ⟨uu, τ2, rfl, hb2, he2, hm2⟩
      have hs2 := ((Step.refl wr τr nil).alloc' (.cells #[.slice pv 128 cv, .slice pu sw cu] 133)).trans (Step.of nil hm2 he2)
      have hnr2 := Hnr.out.step hs2 (fun h => h) (fun h => h)
      have hst2 := Hst.out.trans hs2
      obtain ⟨pq, cq, rfl, -, -⟩ := hb2.any
      rw [Hl128.out] at hb2 ⊢
      have Hb2 := Lib.hid hb2
      have Hnr2 := Lib.hid hnr2
      have Hst2 := Lib.hid hst2
      clear hb2 hnr2 hst2
      clear hs2 he2 hm2
      go_wp2_with (at_builtin; refine wpList_append_nr1 Hst2.out (by decide) Hnr2.out Hb2.out Hl128.out (by rw [Hlen.out]; exact hi64) rfl rfl _ _ rfl rfl rfl ?_; intro v' w' τ' hb he hmo; have Hb := Lib.hid hb; have He := Lib.hid he; have Hmo := Lib.hid hmo; clear hb he hmo)
      go_round
      case rel => exact ⟨i + 1, τ', by omega, by simp, by rw [Hsu.out]; exact Hb.out, He.out⟩
      case measure => simp [intOf]; omega
    · obtain rfl : i = n := by omega
      rw [show l.take i = l from Htk.out] at hnr
      have Hnr := Lib.hid hnr
      have Hst := Lib.hid hst
      clear hnr hst
      go_wp2_with fail
      go_returns
      exact ⟨_, τr, rfl, Hnr.out, Hst.out⟩
set_option maxRecDepth 100000 in
theorem sameblocks_yes {w : World} {τ : Tags} {g g2 : Tag} {v u : Value} {l : List (List Int)} (h : Waits w τ g v l) (k : Waits w τ g2 u l) :
    Calls Tryz.prog 22 #[v, u] w fun e w' => e = .returned (.bool true) ∧ ∃ q, w' = w.drewN q := by
  obtain ⟨p, c, rfl, h1, hr⟩ := h.read
  obtain ⟨p2, d, rfl, -, kr⟩ := k.read
  generalize hn : l.length = n at *
  have hmx : n ≤ 9223372036854775807 := by unfold maxLen at h1; omega
  have Hr := Lib.hid hr
  have H_kr := Lib.hid kr
  have Hn := Lib.hid hn
  clear hr kr hn
  clear h1 h k
  go_enter Tryz.func22, Tryz.ntmps22
  go_wp2_with fail
  go_loopw [5] (fun v wr => ∃ i q : Nat, i ≤ n ∧ v = .int .i64 (i : Int) ∧ wr = w.drewN q) (fun v _ => n - (intOf v).toNat)
  case atStart => exact ⟨0, 0, Nat.zero_le _, rfl, rfl⟩
  case round =>
    obtain ⟨i, q, hi, rfl, hwr⟩ := hrel
    by_cases hlt : i < n
    · obtain ⟨x, hx⟩ : ∃ x, l[i]? = some x := ⟨_, List.getElem?_eq_getElem (by rw [Hn.out]; exact hlt)⟩
      obtain ⟨h128, b, u1, rfl, hc, hb⟩ := Hr.out i x hx
      obtain ⟨-, b2, u2, rfl, hc2, hb2⟩ := H_kr.out i x hx
      obtain ⟨q1, e1, rfl, -, -⟩ := hb.any
      obtain ⟨q2, e2, rfl, -, -⟩ := hb2.any
      rw [h128] at hc hc2 hb hb2
      have ci' : wr.cell? ⟨b, i, none⟩ = some (.slice q1 128 e1) := by rw [hwr]; exact hc
      have di' : wr.cell? ⟨b2, i, none⟩ = some (.slice q2 128 e2) := by rw [hwr]; exact hc2
      have k1 := fun n => (hb.step (show Step w τ (wr.drewN n) τ nil by rw [hwr]; exact ((Step.refl w τ nil).drews q).drews n) (fun h => h)).conv
      have k2 := fun n => (hb2.step (show Step w τ (wr.drewN n) τ nil by rw [hwr]; exact ((Step.refl w τ nil).drews q).drews n) (fun h => h)).conv
      have hin : (i : Int) < (n : Int) := by omega
      generalize toU8 x = xs at *
      have Hwr := Lib.hid hwr
      clear hwr
      clear hc hc2 hb hb2 hx
      go_wp2_with fail
      go_quiet (fail)
      go_wp2_with fail
      go_round
      case rel => exact ⟨i + 1, q + nq, by omega, by simp, by rw [Hwr.out, World.drewN_drewN]⟩
      case measure => simp [intOf]; omega
    · obtain rfl : i = n := by omega
      have Hwr := Lib.hid hwr
      clear hwr
      go_wp2_with fail
      go_ret
      exact ⟨rfl, q, Hwr.out⟩
end Go.Proofs.YtgjoahddbieliaaGreat

/-
  Two devices that hold the same: alike, Same.
-/
namespace Go.Proofs.YtgjoahddbieliaaGreat
open Go.RowKit
set_option linter.unusedVariables false

set_option maxHeartbeats 1000000 in
set_option maxRecDepth 100000 in
theorem alike_yes {w : World} {τ : Tags} {bd br : Nat} {D : Dev} (hd : DevAt w τ bd D) (hr : RDevAt w τ br D) :
    Calls Tryz.prog 165 #[.pointer (some ⟨bd, 0, none⟩), .pointer (some ⟨br, 0, none⟩)] w fun e w' => e = .returned (.bool true) ∧ ∃ τ', Step w τ w' τ' nil := by
  have Hd := Lib.hid hd
  have Hr := Lib.hid hr
  clear hd hr
  go_enter Tryz.func165, Tryz.ntmps165
  go_wp2_with fail
  go_loopw [5] (fun fv wr => ∃ (f : Nat) (τr : Tags), f ≤ 2 ∧ fv = .int .u8 (f : Int) ∧ Step w τ wr τr nil) (fun fv _ => 2 - (intOf fv).toNat)
  case atStart => exact ⟨0, τ, Nat.zero_le _, rfl, Step.refl _ _ _⟩
  case round =>
    obtain ⟨f, τr, hf, rfl, hst⟩ := hrel
    by_cases hlt : f < 2
    · have hlt' : (f : Int) < 2 := by omega
      generalize hl : D.file f = l at *
      have hlen := (Hd.out.length f)
      rw [hl] at hlen
      have Hl := Lib.hid hl
      clear hl
      have Hst := Lib.hid hst
      clear hst
      go_wp2_with fail
      go_loopw [6] (fun iv wr => ∃ (i : Nat) (τr : Tags), i ≤ l.length ∧ iv = .int .i64 (i : Int) ∧ Step w τ wr τr nil) (fun iv _ => l.length - (intOf iv).toNat)
      case atStart => exact ⟨0, τr, Nat.zero_le _, rfl, Hst.out⟩
      case round =>
        clear Hst
        obtain ⟨i, τr, hi, rfl, hst⟩ := hrel
        have hd1 := Hd.out.step hst (fun _ h => h.elim)
        have hr1 := Hr.out.step hst (fun _ h => h.elim)
        have hsz := r5size' hr1 f (by omega)
        rw [Hl.out] at hsz
        generalize hn : l.length = n at *
        by_cases hli : i < n
        · have hil : i < (D.file f).length := by rw [Hl.out, hn]; exact hli
          obtain ⟨s, hs⟩ : ∃ s, (D.file f)[i]? = some s := ⟨_, List.getElem?_eq_getElem hil⟩
          have hrd := read_any hd1 f (by omega) i hil tData
          have hl128 := (hd1.last128 f i hil).1
          generalize hx : D.last f i = x at *
          have Hsz := Lib.hid hsz
          have Hrd := Lib.hid hrd
          have Hd1 := Lib.hid hd1
          have Hr1 := Lib.hid hr1
          have Hst := Lib.hid hst
          have Hs := Lib.hid hs
          have Hl128 := Lib.hid hl128
          have Hx := Lib.hid hx
          have Hn := Lib.hid hn
          have Hil := Lib.hid hil
          clear hsz hrd hd1 hr1 hst hs hl128 hx hn hil
          go_wp2_with fail
          refine Hsz.out.mono ?_
          rintro e w' ⟨rfl, rfl⟩
          go_wp2_with fail
          refine Hrd.out.mono ?_
          rintro e w2 ⟨u2, τ2, rfl, hb2, hs2⟩
          have hrr := r5read (Hr1.out.step hs2 (fun _ h => h.elim)) f hlt i Hil.out tData
          rw [Hx.out] at hrr
          obtain ⟨p2, k2, rfl, -, -⟩ := hb2.any
          rw [Hl128.out] at hb2 ⊢
          have Hrr := Lib.hid hrr
          have Hb2 := Lib.hid hb2
          have Hs2 := Lib.hid hs2
          clear hrr hb2 hs2
          go_wp2_with fail
          refine Hrr.out.mono ?_
          rintro e w3 ⟨u3, τ3, rfl, hb3, hs3⟩
          have hsb := samebytes_any (Hb2.out.step hs3 (fun h => h)) hb3
          rw [decide_eq_true rfl] at hsb
          obtain ⟨p3, k3, rfl, -, -⟩ := hb3.any
          rw [Hl128.out] at hsb ⊢
          have hs23 := Hs2.out.trans hs3
          have hwd := waits_yes (Hd1.out.step hs23 (fun _ h => h.elim)) f (by omega) i s Hs.out
          have hwr := r5waits (Hr1.out.step hs23 (fun _ h => h.elim)) f hlt i Hs.out
          have hst3 := Hst.out.trans hs23
          generalize s.waits.length = sw at *
          have Hsb := Lib.hid hsb
          have Hwd := Lib.hid hwd
          have Hwr := Lib.hid hwr
          have Hst3 := Lib.hid hst3
          clear hsb hwd hwr hst3
          clear hb3 hs3 hs23
          go_wp2_with fail
          refine Hsb.out.mono ?_
          rintro e w' ⟨rfl, rfl⟩
          go_wp2_with fail
          refine Hwd.out.mono ?_
          rintro e w' ⟨rfl, rfl⟩
          go_wp2_with fail
          refine Hwr.out.mono ?_
          rintro e w' ⟨rfl, rfl⟩
          go_wp2_with fail
          go_round
          case rel => exact ⟨i + 1, τ3, by omega, by simp, Hst3.out⟩
          case measure => simp [intOf]; omega
        · have hii : i = n := by omega
          have him := image_any hd1 f (by omega)
          obtain ⟨LL, hLL⟩ : ∃ LL, (D.file f).map Sec.last = LL := ⟨_, rfl⟩
          rw [hLL] at him
          have Hsz := Lib.hid hsz
          have Hd1 := Lib.hid hd1
          have Hr1 := Lib.hid hr1
          have Hst := Lib.hid hst
          have Him := Lib.hid him
          have Hii := Lib.hid hii
          have Hn := Lib.hid hn
          have HLL := Lib.hid hLL
          clear hsz hd1 hr1 hst him hii hn hLL
          go_wp2_with fail
          refine Hsz.out.mono ?_
          rintro e w' ⟨rfl, rfl⟩
          go_wp2_with fail
          refine Him.out.mono ?_
          rintro e w2 ⟨u2, τ2, rfl, hn2, hs2⟩
          have hir := r5image (Hr1.out.step hs2 (fun _ h => h.elim)) f hlt
          rw [HLL.out] at hir
          obtain ⟨p2, k2, rfl⟩ := hn2.val
          have Hir := Lib.hid hir
          have Hn2 := Lib.hid hn2
          have Hs2 := Lib.hid hs2
          clear hir hn2 hs2
          go_wp2_with fail
          refine Hir.out.mono ?_
          rintro e w3 ⟨u3, τ3, rfl, hn3, hs3⟩
          have hsb := sameblocks_yes (Hn2.out.row.step hs3 (fun h => h) (fun h => h)) hn3.row
          obtain ⟨p3, k3, rfl⟩ := hn3.val
          have hs23 := Hs2.out.trans hs3
          have Hsb := Lib.hid hsb
          have Hs23 := Lib.hid hs23
          clear hsb hs23
          clear hn3 hs3
          go_wp2_with fail
          refine Hsb.out.mono ?_
          rintro e w4 ⟨rfl, q, hw4⟩
          have hs4 : Step wr τr w4 τ3 nil := Hs23.out.trans (by rw [hw4]; exact (Step.refl w3 τ3 nil).drews q)
          have hsd := size_any (Hd1.out.step hs4 (fun _ h => h.elim)) f (by omega)
          have hsr := r5size' (Hr1.out.step hs4 (fun _ h => h.elim)) f hlt
          rw [Hl.out, Hn.out] at hsd hsr
          have hst4 := Hst.out.trans hs4
          have hu8 : IntKind.u8.wrap ((f : Int) + 1) = (f : Int) + 1 := by
            have : IntKind.u8.wrap ((f : Int) + 1) = ((f : Int) + 1) % 256 := by simp [IntKind.wrap, IntKind.bits, IntKind.signed]
            rw [this]; omega
          have Hsd := Lib.hid hsd
          have Hsr := Lib.hid hsr
          have Hst4 := Lib.hid hst4
          clear hsd hsr hst4
          clear hw4 hs4
          go_wp2_with fail
          refine Hsd.out.mono ?_
          rintro e w' ⟨rfl, rfl⟩
          go_wp2_with fail
          refine Hsr.out.mono ?_
          rintro e w' ⟨rfl, rfl⟩
          go_wp2_with fail
          go_round
          case rel => exact ⟨f + 1, τ3, by omega, by simp, Hst4.out⟩
          case measure => simp [intOf]; omega
    · obtain rfl : f = 2 := by omega
      have h1 := halted_any (Hd.out.step hst (fun _ h => h.elim))
      obtain ⟨v0, v1, hra⟩ := Hr.out.step hst (fun _ h => h.elim)
      have h2 := r5halted hra
      generalize D.halted = hh at *
      have H1 := Lib.hid h1
      have H2 := Lib.hid h2
      have Hst := Lib.hid hst
      clear h1 h2 hst
      clear hra
      go_wp2_with fail
      refine H1.out.mono ?_
      rintro e w' ⟨rfl, rfl⟩
      go_wp2_with fail
      refine H2.out.mono ?_
      rintro e w' ⟨rfl, rfl⟩
      go_wp2_with fail
      go_ret
      exact ⟨by simp, τr, Hst.out⟩
theorem same_yes {w : World} {τ : Tags} {bd br : Nat} {D : Dev} (hd : DevAt w τ bd D) (hr : RDevAt w τ br D) :
    Calls Tryz.prog 93 #[.pointer (some ⟨bd, 0, none⟩), .pointer (some ⟨br, 0, none⟩)] w fun e w' => e = .returned (.int .i64 1) ∧ ∃ τ', Step w τ w' τ' nil := by
  have h1 := alike_yes hd hr
  have H1 := Lib.hid h1
  clear h1
  clear hd hr
  go_enter Tryz.func93, Tryz.ntmps93
  go_wp2_with fail
  refine H1.out.mono ?_
  rintro e w1 ⟨rfl, τ1, hs⟩
  have Hs := Lib.hid hs
  clear hs
  go_wp2_with fail
  go_ret
  exact ⟨rfl, τ1, Hs.out⟩
end Go.Proofs.YtgjoahddbieliaaGreat
