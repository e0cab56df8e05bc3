/-
  The reference's device: New; Read, Waits.
-/
import Derived.Test.YtgjoahddbieliaaGreatMR5
import Derived.Test.YtgjoahddbieliaaGreatMCrc
namespace Go.Proofs.YtgjoahddbieliaaGreat
open Go.RowKit
set_option linter.unusedVariables false

theorem r5size' {w : World} {τ : Tags} {b : Nat} {D : Dev} (h : RDevAt w τ b D) (f : Nat) (hf : f < 2) :
    Calls Tryz.prog 140 #[.pointer (some ⟨b, 0, none⟩), .int .u8 (f : Int)] w fun e w' => e = .returned (.int .i64 ((D.file f).length : Int)) ∧ w = w' := by
  obtain ⟨v0, v1, h⟩ := h
  exact r5size h f hf
theorem r5length {w : World} {τ : Tags} {b : Nat} {D : Dev} (h : RDevAt w τ b D) (f : Nat) (hf : f < 2) : (D.file f).length ≤ 4096 := by
  obtain ⟨v0, v1, h⟩ := h
  exact (h.file f hf).2.1
theorem r5last128 {w : World} {τ : Tags} {b : Nat} {D : Dev} (h : RDevAt w τ b D) (f k : Nat) (hf : f < 2) (hk : k < (D.file f).length) : (D.last f k).length = 128 ∧ IsB (D.last f k) := by
  obtain ⟨v0, v1, h⟩ := h
  obtain ⟨bf, c, xs, ys, hv, hcap, ho, hxl, hsec⟩ := (h.file f hf).2.lenp (by omega)
  have hx : (D.file f)[k]? = some (D.file f)[k] := List.getElem?_eq_getElem hk
  obtain ⟨⟨hl, v, hv, hb⟩, ⟨u, hu, hw⟩⟩ := hsec k _ hx
  unfold Dev.last
  rw [hx]
  show (Sec.newest _).length = 128 ∧ IsB (Sec.newest _)
  generalize (D.file f)[k] = s at *
  by_cases hz : s.waits = []
  · have hnew : s.newest = s.last := by simp [Sec.newest, hz]
    rw [hnew]
    exact ⟨hl, hb.isB⟩
  · obtain ⟨p', c', hv', _, hr⟩ := hw.read
    obtain ⟨m, hm⟩ : ∃ m, s.waits.length = m + 1 := ⟨s.waits.length - 1, by have := List.length_pos_iff.2 hz; omega⟩
    have hlast : s.waits[m]? = some s.newest := by
      unfold Sec.newest
      rw [List.getLastD_eq_getLast?, List.getLast?_eq_getElem?, hm]
      simp only [Nat.add_sub_cancel]
      rw [List.getElem?_eq_getElem (by omega)]; rfl
    obtain ⟨a, b, u, _, _, hb⟩ := hr m _ hlast
    exact ⟨a, hb.isB⟩
set_option maxRecDepth 100000 in
theorem r5read {w : World} {τ : Tags} {b : Nat} {D : Dev} (h : RDevAt w τ b D) (f : Nat) (hf : f < 2) (k : Nat) (hk : k < (D.file f).length) (g : Tag) :
    Calls Tryz.prog 172 #[.pointer (some ⟨b, 0, none⟩), .int .u8 (f : Int), .int .i64 (k : Int)] w fun e w' => ∃ u τ', e = .returned (.tuple #[u, .int .i64 0]) ∧ Bytes w' τ' g u (D.last f k) ∧ Step w τ w' τ' nil := by
  obtain ⟨v0, v1, h⟩ := h
  have h1 := r5none_no h f hf k hk
  obtain ⟨cf, hfile⟩ := h.file f hf
  obtain ⟨bf, c, xs, ys, hv, hcap, ho, hxl, hsec⟩ := hfile.lenp (by omega)
  rw [hv] at cf
  have hx : (D.file f)[k]? = some (D.file f)[k] := List.getElem?_eq_getElem hk
  obtain ⟨⟨hl, v, hv0, hb⟩, ⟨u, hu, hw⟩⟩ := hsec k _ hx
  have c0 := ho.at (k * 2) (v := v) (by rw [List.getElem?_append_left (by omega)]; exact hv0)
  have c1 := ho.at (k * 2 + 1) (v := u) (by rw [List.getElem?_append_left (by omega)]; exact hu)
  have hla : D.last f k = (D.file f)[k].newest := by unfold Dev.last; rw [hx]; rfl
  rw [hla]
  have hn4096 := hfile.1
  generalize (D.file f)[k] = s at *
  generalize (D.file f).length = n at *
  by_cases hz : s.waits = []
  · have hnew : s.newest = s.last := by simp [Sec.newest, hz]
    rw [hnew]
    obtain ⟨pu, cu, rfl⟩ := hw.len
    rw [hz] at c1
    simp only [List.length_nil] at c1
    obtain ⟨pv, cv, rfl, -, -⟩ := hb.any
    rw [hl] at hb c0
    have hln := fun W (m : Step w τ W τ nil) => r5lent (hb.step m (fun h => h)) g (by omega)
    have H1 := Lib.hid h1
    have Hln := Lib.hid hln
    clear h1 hln
    clear h hfile hv hsec hw hu hz hx hb hla ho hv0 hnew
    go_enter Tryz.func172, Tryz.ntmps172
    go_wp2_with fail
    refine H1.out.mono ?_
    rintro e w' ⟨rfl, rfl⟩
    go_wp2_with fail
    refine (Hln.out _ ((Step.refl w τ nil).alloc' _)).mono ?_
    rintro e w2 ⟨uu, τ2, rfl, hb2, hs2⟩
    have Hb2 := Lib.hid hb2
    have Hs2 := Lib.hid hs2
    clear hb2 hs2
    go_wp2_with fail
    go_ret2
    exact ⟨uu, τ2, rfl, Hb2.out, ((Step.refl w τ nil).alloc' _).trans Hs2.out⟩
  · obtain ⟨pu, cu, rfl, hwm, hr⟩ := hw.read
    obtain ⟨m, hm⟩ : ∃ m, s.waits.length = m + 1 := ⟨s.waits.length - 1, by have := List.length_pos_iff.2 hz; omega⟩
    have hlast : s.waits[m]? = some s.newest := by
      unfold Sec.newest
      rw [List.getLastD_eq_getLast?, List.getLast?_eq_getElem?, hm]
      simp only [Nat.add_sub_cancel]
      rw [List.getElem?_eq_getElem (by omega)]; rfl
    obtain ⟨hl2, bw, ul, rfl, cm, hbl⟩ := hr m _ hlast
    obtain ⟨pv, cv, rfl, -, -⟩ := hb.any
    obtain ⟨pl, cl, rfl, -, -⟩ := hbl.any
    rw [hl2] at hbl cm
    rw [hl] at c0
    have hln := fun W (mm : Step w τ W τ nil) => r5lent (hbl.step mm (fun h => h)) g (by omega)
    have hmx : m + 1 ≤ 9223372036854775807 := by unfold maxLen at hwm; omega
    rw [hm] at c1
    have hbw := cell_lt cm
    have H1 := Lib.hid h1
    have Hln := Lib.hid hln
    clear h1 hln
    clear h hfile hv hsec hw hu hz hx hb hla ho hv0 hr hlast hbl hm hwm
    go_enter Tryz.func172, Tryz.ntmps172
    go_wp2_with fail
    refine H1.out.mono ?_
    rintro e w' ⟨rfl, rfl⟩
    go_wp2_with fail
    refine (Hln.out _ ((Step.refl w τ nil).alloc' _)).mono ?_
    rintro e w2 ⟨uu, τ2, rfl, hb2, hs2⟩
    have Hb2 := Lib.hid hb2
    have Hs2 := Lib.hid hs2
    clear hb2 hs2
    go_wp2_with fail
    go_ret2
    exact ⟨uu, τ2, rfl, Hb2.out, ((Step.refl w τ nil).alloc' _).trans Hs2.out⟩
set_option maxRecDepth 100000 in
theorem r5waits {w : World} {τ : Tags} {b : Nat} {D : Dev} (h : RDevAt w τ b D) (f : Nat) (hf : f < 2) (k : Nat) {s : Sec} (hx : (D.file f)[k]? = some s) :
    Calls Tryz.prog 224 #[.pointer (some ⟨b, 0, none⟩), .int .u8 (f : Int), .int .i64 (k : Int)] w fun e w' => e = .returned (.int .i64 (s.waits.length : Int)) ∧ w = w' := by
  obtain ⟨v0, v1, h⟩ := h
  have hk := (List.getElem?_eq_some_iff.1 hx).1
  have h1 := r5none_no h f hf k hk
  obtain ⟨cf, hfile⟩ := h.file f hf
  obtain ⟨bf, c, xs, ys, hv, hcap, ho, hxl, hsec⟩ := hfile.lenp (by omega)
  rw [hv] at cf
  obtain ⟨⟨hl, v, hv0, hb⟩, ⟨u, hu, hw⟩⟩ := hsec k _ hx
  obtain ⟨pu, cu, rfl⟩ := hw.len
  have c1 := ho.at (k * 2 + 1) (by rw [List.getElem?_append_left (by omega)]; exact hu)
  have hn4096 := hfile.1
  generalize (D.file f).length = n at *
  generalize s.waits.length = m at *
  have H1 := Lib.hid h1
  clear h1
  clear h hfile hv hsec hw hu hx hb ho hv0
  go_enter Tryz.func224, Tryz.ntmps224
  go_wp2_with fail
  refine H1.out.mono ?_
  rintro e w' ⟨rfl, rfl⟩
  go_wp2_with fail
  go_ret
  exact ⟨rfl, rfl⟩
end Go.Proofs.YtgjoahddbieliaaGreat
