/-
  Pools: load of a page that was written.
-/
import Derived.Test.YtgjoahddbieliaaGreatMPoolP
import Derived.Test.YtgjoahddbieliaaGreatMPageW
import Derived.Test.YtgjoahddbieliaaGreatMSealD
namespace Go.Proofs.YtgjoahddbieliaaGreat
open Go.RowKit
set_option linter.unusedVariables false

set_option maxRecDepth 100000 in
theorem load_sealed {w : World} {τ : Tags} {bp bd : Nat} {H : PoolH} {L : LogM} {D : Dev} (h : PoolHd w τ bp H) (hl : LogAt w τ H.bl bd L) (hd : DevAt w τ bd D) (n : Nat) (hn : 4 * n + 4 ≤ D.f1.length) {P : List Int} {ls : List (List Int)} (hb4 : ls.length = 4) (hok : sealOk ls = true) (hbody : sealBody ls = P) (hP : Sound P) {k m : Nat} (hkn : pageNumber P = k) (hml : pageLSN P = m) (hlsn : 0 < m) (hz : lastTo D n 4 = ls) (g : Tag) :
    Calls Tryz.prog 117 #[.pointer (some ⟨bp, 0, none⟩), .int .u32 (n : Int)] w fun e w' => ∃ b τ', e = .returned (.tuple #[.pointer (some ⟨b, 0, none⟩), .int .u16 0]) ∧ w.heap.size ≤ b ∧ PageAt w' τ' g b P ∧ Step w τ w' τ' nil := by
  have h1 := sectors_any h hl hd n hn
  have hlen := hd.length 1
  have hf1 : D.file 1 = D.f1 := rfl
  rw [hf1] at hlen
  rw [hz] at h1
  have H1 := Lib.hid h1
  have Hb4 := Lib.hid hb4
  have Hok := Lib.hid hok
  have Hbody := Lib.hid hbody
  have HP := Lib.hid hP
  have Hkn := Lib.hid hkn
  have Hml := Lib.hid hml
  clear h1 hb4 hok hbody hP hkn hml
  clear h hl hd hz
  go_enter Tryz.func117, Tryz.ntmps117
  go_wp2_with fail
  refine H1.out.mono ?_
  rintro e w1 ⟨v, τ1, rfl, hr, hs1⟩
  have h2 := open_any hr.row tData Hb4.out
  obtain ⟨p, c, rfl⟩ := hr.val
  have H2 := Lib.hid h2
  have Hs1 := Lib.hid hs1
  clear h2 hs1
  clear H1 hr
  go_wp2_with fail
  refine H2.out.mono ?_
  rintro e w2 ⟨τ2, hs2, hq⟩
  rcases hq with ⟨-, u, rfl, hb⟩ | ⟨hno, -⟩
  · rw [Hbody.out] at hb
    have h3 := pageread_sound (g := g) hb HP.out
    obtain ⟨pu, cu, rfl, -, -⟩ := hb.any
    have H3 := Lib.hid h3
    have Hs2 := Lib.hid hs2
    clear h3 hs2
    clear H2 hb
    go_wp2_with fail
    refine H3.out.mono ?_
    rintro e w3 ⟨b0, τ3, rfl, hlow3, hpg, hs3⟩
    have h4 := pagenumber_any hpg
    have h5 := pagelsn_any hpg
    rw [Hkn.out] at h4
    rw [Hml.out] at h5
    have hm : ¬ (m : Int) = 0 := by omega
    have H4 := Lib.hid h4
    have H5 := Lib.hid h5
    have Hs3 := Lib.hid hs3
    have Hpg := Lib.hid hpg
    have Hlow3 := Lib.hid hlow3
    clear h4 h5 hs3 hpg hlow3
    clear H3
    by_cases hk : k = 0
    · subst hk
      go_wp2_with fail
      refine H4.out.mono ?_
      rintro e w' ⟨rfl, rfl⟩
      go_wp2_with fail
      refine H5.out.mono ?_
      rintro e w' ⟨rfl, rfl⟩
      go_wp2_with fail
      go_ret2
      exact ⟨b0, τ3, rfl, Nat.le_trans (Hs1.out.trans Hs2.out).size Hlow3.out, Hpg.out, (Hs1.out.trans Hs2.out).trans Hs3.out⟩
    · have hk' : ¬ (k : Int) = 0 := by omega
      go_wp2_with fail
      refine H4.out.mono ?_
      rintro e w' ⟨rfl, rfl⟩
      go_wp2_with fail
      go_ret2
      exact ⟨b0, τ3, rfl, Nat.le_trans (Hs1.out.trans Hs2.out).size Hlow3.out, Hpg.out, (Hs1.out.trans Hs2.out).trans Hs3.out⟩
  · rw [Hok.out] at hno; cases hno
theorem load_page {w : World} {τ : Tags} {bp bd : Nat} {H : PoolH} {L : LogM} {D : Dev} (h : PoolHd w τ bp H) (hl : LogAt w τ H.bl bd L) (hd : DevAt w τ bd D) (n : Nat) (hn : 4 * n + 4 ≤ D.f1.length) {P : List Int} {st : Nat} (hst : st < 2 ^ 64) (hP : Sound P) (hlsn : 0 < pageLSN P) (hz : lastTo D n 4 = sealAll P st) (g : Tag) :
    Calls Tryz.prog 117 #[.pointer (some ⟨bp, 0, none⟩), .int .u32 (n : Int)] w fun e w' => ∃ b τ', e = .returned (.tuple #[.pointer (some ⟨b, 0, none⟩), .int .u16 0]) ∧ w.heap.size ≤ b ∧ PageAt w' τ' g b P ∧ Step w τ w' τ' nil := by
  have hok := sealAll_ok hP.tidy.len st hst
  exact load_sealed h hl hd n hn (sealAll_length P st) hok.1 hok.2.2.1 hP rfl rfl hlsn hz g
end Go.Proofs.YtgjoahddbieliaaGreat

/-
  Pools: lay: a page's sectors written, for good.
-/
namespace Go.Proofs.YtgjoahddbieliaaGreat
open Go.RowKit
set_option linter.unusedVariables false

theorem devtag_pool (g : Tag) (h : g = tPool ∨ LogTag g) : ¬ DevTag g := by
  rcases h with rfl | h
  · simp [DevTag, tPool]
  · exact devtag_log g h
set_option maxRecDepth 100000 in
theorem poollay_any {w : World} {τ : Tags} {bp bd : Nat} {H : PoolH} {L : LogM} {D : Dev} (h : PoolHd w τ bp H) (hl : LogAt w τ H.bl bd L) (hd : DevAt w τ bd D) (n : Nat) (hn : 4 * n + 4 ≤ D.f1.length) {g : Tag} {v : Value} {ls : List (List Int)} (hw : Waits w τ g v ls) (hg : ¬ DevTag g) (h4 : ls.length = 4) (hlim : D.lim 800000) :
    Calls Tryz.prog 132 #[.pointer (some ⟨bp, 0, none⟩), .int .i64 (n : Int), v] w (DevR w τ bd (D.lay 1 (4 * n) ls) (.tuple #[])) := by
  have hlen := hd.length 1
  have hf1 : D.file 1 = D.f1 := rfl
  rw [hf1] at hlen
  obtain ⟨pw, cw, rfl, hwm, -⟩ := hw.read
  have hlay : D.lay 1 (4 * n) ls = (D.writes 1 (4 * n) ls 4).sync 1 := by unfold Dev.lay; rw [h4]
  rw [hlay, h4]
  rw [h4] at hwm
  have H_h := Lib.hid h
  have Hl := Lib.hid hl
  have Hw := Lib.hid hw
  have Hlim := Lib.hid hlim
  have H4 := Lib.hid h4
  clear h hl hw hlim h4
  have Hd := Lib.hid hd
  clear hd hlay
  go_enter Tryz.func132, Tryz.ntmps132
  go_wp2_with fail
  go_loopw [10] (fun v wr => ∃ (i : Nat) (τr : Tags), i ≤ 4 ∧ v = .int .i64 (i : Int) ∧ DevAt wr τr bd (D.writes 1 (4 * n) ls i) ∧ Step w τ wr τr DevTag) (fun v _ => 4 - (intOf v).toNat)
  case atStart => exact ⟨0, τ, Nat.zero_le _, rfl, Hd.out, Step.refl _ _ _⟩
  case round =>
    obtain ⟨i, τr, hi, rfl, hd, hst⟩ := hrel
    have hpr := H_h.out.step hst (devtag_pool _ (.inl rfl))
    have hlr := Hl.out.step hst (fun g h => devtag_pool g (.inr h))
    have hdev := pooldev_any hpr hlr
    by_cases hlt : i < 4
    · obtain ⟨p', c', hv', _, hr⟩ := (Hw.out.step hst hg devtag_data).read
      rw [H4.out] at hv'
      cases hv'
      obtain ⟨x, hx⟩ : ∃ x, ls[i]? = some x := ⟨_, List.getElem?_eq_getElem (by rw [H4.out]; exact hlt)⟩
      obtain ⟨hx128, b, u, rfl, hc, hb⟩ := hr i x hx
      have hwl := Dev.writes_length D 1 (4 * n) (by omega) ls i 1
      rw [hf1] at hwl
      have hwt := write_any hd 1 (by omega) (4 * n + i) (by rw [hwl]; omega) hb hx128 devtag_data (Dev.lim_mono (Dev.writes_lim Hlim.out 1 (4 * n) (by omega) ls i) (by omega))
      rw [show ((4 * n + i : Nat) : Int) = 4 * (n : Int) + (i : Int) by omega] at hwt
      have hsucc : D.writes 1 (4 * n) ls (i + 1) = (D.writes 1 (4 * n) ls i).write 1 (4 * n + i) x := by
        show (D.writes 1 (4 * n) ls i).write 1 (4 * n + i) (ls.getD i []) = _
        rw [List.getD_eq_getElem?_getD, hx]; rfl
      generalize D.writes 1 (4 * n) ls i = E at *
      obtain ⟨pb, kb, rfl, -, -⟩ := hb.any
      have Hd := Lib.hid hd
      have Hst := Lib.hid hst
      have Hdev := Lib.hid hdev
      have Hwt := Lib.hid hwt
      have Hsucc := Lib.hid hsucc
      have Hx := Lib.hid hx
      have Hx128 := Lib.hid hx128
      clear hd hst hdev hwt hsucc hx hx128
      clear hr hb hpr hlr hwl
      go_wp2_with fail
      refine Hdev.out.mono ?_
      rintro e w1 ⟨rfl, rfl⟩
      go_wp2_with fail
      refine Hwt.out.mono ?_
      rintro e w2 ⟨rfl, τ2, hd2, hs2⟩
      have Hd2 := Lib.hid hd2
      have Hs2 := Lib.hid hs2
      clear hd2 hs2
      go_wp2_with fail
      go_round
      case rel => exact ⟨i + 1, τ2, by omega, by simp, by rw [Hsucc.out]; exact Hd2.out, Hst.out.trans Hs2.out⟩
      case measure => simp [intOf]; omega
    · obtain rfl : i = 4 := by omega
      have hsy := sync_any hd 1 (by omega)
      have Hdev := Lib.hid hdev
      have Hst := Lib.hid hst
      have Hsy := Lib.hid hsy
      clear hdev hst hsy
      clear hd hpr hlr
      go_wp2_with fail
      refine Hdev.out.mono ?_
      rintro e w1 ⟨rfl, rfl⟩
      go_wp2_with fail
      refine Hsy.out.mono ?_
      rintro e w2 ⟨rfl, τ2, hd2, hs2⟩
      have Hd2 := Lib.hid hd2
      have Hs2 := Lib.hid hs2
      clear hd2 hs2
      go_wp2_with fail
      go_returns
      exact ⟨rfl, τ2, Hd2.out, Hst.out.trans Hs2.out⟩
end Go.Proofs.YtgjoahddbieliaaGreat

/-
  The log: which record stands at a place: binary search; at, behind, first.
-/
namespace Go.Proofs.YtgjoahddbieliaaGreat
open Go.RowKit
set_option linter.unusedVariables false

theorem cisnan_any (w : World) (x : Int) : Calls Tryz.prog 267 #[.int .i64 x] w fun e w' => e = .returned (.bool false) ∧ w = w' := by
  go_enter Tryz.func267, Tryz.ntmps267
  go_wp2_with fail
  go_ret
  exact ⟨rfl, rfl⟩
theorem sisnan_any (w : World) (x : Int) : Calls Tryz.prog 244 #[.int .i64 x] w fun e w' => e = .returned (.bool false) ∧ w = w' := by
  go_enter Tryz.func244, Tryz.ntmps244
  go_wp2_with fail
  go_ret
  exact ⟨rfl, rfl⟩
theorem cless_any (w : World) (x y : Int) : Calls Tryz.prog 243 #[.int .i64 x, .int .i64 y] w fun e w' => e = .returned (.bool (decide (x < y))) ∧ w = w' := by
  have h1 := cisnan_any w x
  have H1 := Lib.hid h1
  clear h1
  go_enter Tryz.func243, Tryz.ntmps243
  go_wp2_with fail
  refine H1.out.mono ?_
  rintro e w' ⟨rfl, rfl⟩
  go_wp2_with fail
  go_ret
  exact ⟨rfl, rfl⟩
/-- where a number stands in a rising row, or would -/
structure Found (l : List Nat) (x r : Nat) (f : Bool) : Prop where
  le : r ≤ l.length
  lo : ∀ j, j < r → l.getD j 0 < x
  hi : ∀ j, r ≤ j → j < l.length → x ≤ l.getD j 0
  is : f = decide (r < l.length ∧ l.getD r 0 = x)
set_option maxRecDepth 100000 in
theorem bsearch_any {w : World} {p : Option Addr} {c : Nat} {l : List Nat} (hr : Rising l) (hrd : ∀ i, i < l.length → ∃ b, p = some ⟨b, 0, none⟩ ∧ w.cell? ⟨b, i, none⟩ = some (.int .i64 ((l.getD i 0 : Nat) : Int))) (hn : l.length ≤ 1000000) (x : Nat) :
    Calls Tryz.prog 179 #[.slice p l.length c, .int .i64 (x : Int)] w fun e w' => (∃ (r : Nat) (f : Bool), e = .returned (.tuple #[.int .i64 (r : Int), .bool f]) ∧ Found l x r f) ∧ w = w' := by
  have hcl := fun (a b : Int) => cless_any w a b
  have hsn := fun (a : Int) => sisnan_any w a
  have hmono : ∀ i j, i ≤ j → j < l.length → l.getD i 0 ≤ l.getD j 0 := fun i j hij hj => by
    rcases Nat.lt_or_ge i j with h | h
    · exact Nat.le_of_lt (hr i j h hj)
    · have : i = j := by omega
      rw [this]; exact Nat.le_refl _
  generalize hln : l.length = n at *
  have Hrd := Lib.hid hrd
  have Hcl := Lib.hid hcl
  have Hsn := Lib.hid hsn
  have Hmono := Lib.hid hmono
  have Hln := Lib.hid hln
  clear hrd hcl hsn hmono hln
  clear hr
  go_enter Tryz.func179, Tryz.ntmps179
  go_wp2_with fail
  go_loopw [7, 8] (fun a v wr => ∃ (i j : Nat), i ≤ j ∧ j ≤ n ∧ a = .int .i64 (i : Int) ∧ v = .int .i64 (j : Int) ∧ (∀ k, k < i → l.getD k 0 < x) ∧ (∀ k, j ≤ k → k < n → x ≤ l.getD k 0) ∧ wr = w) (fun a v _ => (intOf v).toNat - (intOf a).toNat)
  case atStart => exact ⟨0, n, Nat.zero_le _, Nat.le_refl _, rfl, rfl, fun k hk => by omega, fun k h1 h2 => by omega, rfl⟩
  case round =>
    obtain ⟨i, j, hij, hjn, rfl, rfl, hlo, hhi, rfl⟩ := hrel
    by_cases hlt : i < j
    · have hh1 : i ≤ (i + j) / 2 := by omega
      have hh2 : (i + j) / 2 < j := by omega
      have hhh : ((i : Int) + (j : Int)) / 2 = (((i + j) / 2 : Nat) : Int) := by omega
      obtain ⟨b, rfl, hcell⟩ := Hrd.out ((i + j) / 2) (by omega)
      have hc := Hcl.out ((l.getD ((i + j) / 2) 0 : Nat) : Int) (x : Int)
      have hm1 := fun k (hk : k ≤ (i + j) / 2) => Hmono.out k ((i + j) / 2) hk (by omega)
      have hm2 := fun k (hk : (i + j) / 2 ≤ k) (hkn : k < n) => Hmono.out ((i + j) / 2) k hk hkn
      generalize hh : (i + j) / 2 = h at *
      generalize hy : l.getD h 0 = y at *
      by_cases hyx : y < x
      · have hyx' : (y : Int) < (x : Int) := by omega
        rw [decide_eq_true hyx'] at hc
        have Hc := Lib.hid hc
        have Hlo := Lib.hid hlo
        have Hhi := Lib.hid hhi
        have Hm1 := Lib.hid hm1
        have Hm2 := Lib.hid hm2
        clear hc hlo hhi hm1 hm2
        go_wp2_with fail
        refine Hc.out.mono ?_
        rintro e w' ⟨rfl, rfl⟩
        go_wp2_with fail
        go_round
        case rel => exact ⟨h + 1, j, by omega, by omega, by simp, rfl, fun k hk => by have := Hm1.out k (by omega); omega, Hhi.out, trivial⟩
        case measure => simp [intOf]; omega
      · have hyx' : ¬ (y : Int) < (x : Int) := by omega
        rw [decide_eq_false hyx'] at hc
        have Hc := Lib.hid hc
        have Hlo := Lib.hid hlo
        have Hhi := Lib.hid hhi
        have Hm1 := Lib.hid hm1
        have Hm2 := Lib.hid hm2
        clear hc hlo hhi hm1 hm2
        go_wp2_with fail
        refine Hc.out.mono ?_
        rintro e w' ⟨rfl, rfl⟩
        go_wp2_with fail
        go_round
        case rel => exact ⟨i, h, by omega, by omega, rfl, rfl, Hlo.out, fun k h1 h2 => by have := Hm2.out k h1 h2; omega, trivial⟩
        case measure => simp [intOf]; omega
    · have hij' : i = j := by omega
      subst hij'
      by_cases hin : i < n
      · obtain ⟨b, rfl, hcell⟩ := Hrd.out i hin
        have hs1 := Hsn.out ((l.getD i 0 : Nat) : Int)
        generalize hy : l.getD i 0 = y at *
        by_cases hyx : y = x
        · subst hyx
          have Hs1 := Lib.hid hs1
          have Hlo := Lib.hid hlo
          have Hhi := Lib.hid hhi
          clear hs1 hlo hhi
          go_wp2_with fail
          go_returns
          exact ⟨⟨i, true, rfl, ⟨by rw [Hln.out]; exact hjn, Hlo.out, fun k h1 h2 => Hhi.out k h1 (by rw [← Hln.out]; exact h2), by rw [Hln.out, decide_eq_true ⟨hin, hy⟩]⟩⟩, rfl⟩
        · have hyx' : ¬ (y : Int) = (x : Int) := by omega
          have Hs1 := Lib.hid hs1
          have Hlo := Lib.hid hlo
          have Hhi := Lib.hid hhi
          clear hs1 hlo hhi
          go_wp2_with fail
          refine Hs1.out.mono ?_
          rintro e w' ⟨rfl, rfl⟩
          go_wp2_with fail
          go_returns
          exact ⟨⟨i, false, by first | rfl | simp [hyx'], ⟨by rw [Hln.out]; exact hjn, Hlo.out, fun k h1 h2 => Hhi.out k h1 (by rw [← Hln.out]; exact h2), by rw [Hln.out, decide_eq_false (fun h => hyx (hy ▸ h.2))]⟩⟩, rfl⟩
      · have Hlo := Lib.hid hlo
        have Hhi := Lib.hid hhi
        clear hlo hhi
        go_wp2_with fail
        go_returns
        exact ⟨⟨i, false, rfl, ⟨by rw [Hln.out]; exact hjn, Hlo.out, fun k h1 h2 => Hhi.out k h1 (by rw [← Hln.out]; exact h2), by rw [Hln.out, decide_eq_false (fun h => hin h.1)]⟩⟩, rfl⟩
/-- the records begin one behind the other, within the stream -/
structure LogM.Rise (L : LogM) : Prop where
  rise : Rising L.starts
  low : ∀ s ∈ L.starts, s < L.stream.length
/-- which record stands at a place -/
structure LogM.AtR (L : LogM) (lsn k : Nat) (f : Bool) : Prop where
  before : lsn < L.base → k = 0 ∧ f = false
  behind : L.base ≤ lsn → L.base + L.stream.length ≤ lsn → k = L.starts.length ∧ f = false
  within : L.base ≤ lsn → lsn < L.base + L.stream.length → Found L.starts (lsn - L.base) k f
theorem i64_of_u64 (n : Nat) (h : n < 9223372036854775808) : IntKind.i64.wrap (n : Int) = (n : Int) := by
  unfold IntKind.wrap
  simp [IntKind.bits, IntKind.signed]
  omega
set_option maxRecDepth 100000 in
theorem walat_any {w : World} {τ : Tags} {bl bd : Nat} {L : LogM} (h : LogAt w τ bl bd L) (hr : L.Rise) (lsn : Nat) (hl : lsn < 18446744073709551616) :
    Calls Tryz.prog 110 #[.pointer (some ⟨bl, 0, none⟩), .int .u64 (lsn : Int)] w fun e w' => (∃ (k : Nat) (f : Bool), e = .returned (.tuple #[.int .i64 (k : Int), .bool f]) ∧ L.AtR lsn k f) ∧ Step w τ w' τ nil := by
  have hend := End_any h
  obtain ⟨vs, vt, ho, hs, ht⟩ := h.is
  have c1 := ho.at 1 (v := .int .u64 (L.base : Int)) rfl
  obtain ⟨p, c, rfl, hmx, hrd⟩ := Ints.read (g := tStarts) ht
  have c8 := ho.at 8 (v := .slice p L.starts.length c) rfl
  have hb := h.ok.base
  have hsl := h.ok.stream
  have hst := h.ok.starts
  by_cases h1 : lsn < L.base
  · have h1' : (lsn : Int) < (L.base : Int) := by omega
    have hR : L.AtR lsn 0 false := ⟨fun _ => ⟨rfl, rfl⟩, fun h => absurd h (by omega), fun h => absurd h (by omega)⟩
    generalize L.base = bs at *
    have HR := Lib.hid hR
    clear hR
    clear h ho hs ht hend hrd c8
    go_enter Tryz.func110, Tryz.ntmps110
    go_wp2_with fail
    go_ret2
    exact ⟨⟨0, false, rfl, HR.out⟩, Step.refl _ _ _⟩
  · have h1' : ¬ (lsn : Int) < (L.base : Int) := by omega
    by_cases h2 : L.base + L.stream.length ≤ lsn
    · have hR : L.AtR lsn L.starts.length false := ⟨fun h => absurd h h1, fun _ _ => ⟨rfl, rfl⟩, fun _ h => absurd h (by omega)⟩
      have h2' : ((L.base + L.stream.length : Nat) : Int) ≤ (lsn : Int) := by omega
      have hown := ho
      generalize L.starts.length = m at *
      generalize L.base + L.stream.length = en at *
      generalize L.base = bs at *
      have HR := Lib.hid hR
      have Hend := Lib.hid hend
      have Hown := Lib.hid hown
      clear hR hend hown
      clear h ho hs ht hrd
      go_enter Tryz.func110, Tryz.ntmps110
      go_wp2_with fail
      refine Hend.out.mono ?_
      rintro e w1 ⟨rfl, hs1⟩
      have d8 := (Hown.out.step hs1 (fun h => h)).at 8 (v := .slice p m c) rfl
      have Hs1 := Lib.hid hs1
      clear hs1
      go_wp2_with fail
      go_ret2
      exact ⟨⟨m, false, rfl, HR.out⟩, Hs1.out⟩
    · have h2' : ¬ ((L.base + L.stream.length : Nat) : Int) ≤ (lsn : Int) := by omega
      have hx : (lsn : Int) - (L.base : Int) = ((lsn - L.base : Nat) : Int) := by omega
      have hw1 := u64_wrap (lsn - L.base) (by omega)
      have hw2 := i64_of_u64 (lsn - L.base) (by omega)
      have hbs := fun (W : World) (hW : ∀ i, i < L.starts.length → ∃ b, p = some ⟨b, 0, none⟩ ∧ W.cell? ⟨b, i, none⟩ = some (.int .i64 ((L.starts.getD i 0 : Nat) : Int))) => bsearch_any (c := c) hr.rise hW hst (lsn - L.base)
      have hR : ∀ k f, Found L.starts (lsn - L.base) k f → L.AtR lsn k f := fun k f hf => ⟨fun h => absurd h h1, fun _ h => absurd h h2, fun _ _ => hf⟩
      have q1 : ∀ vt, (logCells L bd vs vt)[1]? = some (.int .u64 (L.base : Int)) := fun _ => rfl
      have hsum' : L.base + L.stream.length = L.base + L.stream.length := rfl
      generalize L.base + L.stream.length = en at *
      generalize hxx : lsn - L.base = x at *
      generalize L.base = bs at *
      have hst0 := (Step.refl w τ nil).drew
      generalize hm : L.starts.length = m at *
      have HR := Lib.hid hR
      have Hend := Lib.hid hend
      have Hbs := Lib.hid hbs
      have Hm := Lib.hid hm
      have Hxx := Lib.hid hxx
      have Ho := Lib.hid ho
      have Ht := Lib.hid ht
      have H_q1 := Lib.hid q1
      clear hR hend hbs hm hxx ho ht q1
      clear h hs hrd hr hsum' hst0 h2
      go_enter Tryz.func110, Tryz.ntmps110
      go_wp2_with fail
      refine Hend.out.mono ?_
      rintro e w1 ⟨rfl, hs1⟩
      have ho1 := Ho.out.step hs1.drew (fun h => h)
      have d1 := ho1.at 1 (v := .int .u64 (bs : Int)) (H_q1.out _)
      have d8 := ho1.at 8 (v := .slice p m c) rfl
      obtain ⟨p', c', hv', _, hrd⟩ := Ints.read (g := tStarts) ((show Ints w τ tStarts _ L.starts by unfold Ints; rw [Hm.out]; exact Ht.out).step hs1.drew (fun h => h))
      rw [Hm.out] at hv' hrd
      cases hv'
      have hb1 := Hbs.out _ hrd
      have Hs1 := Lib.hid hs1
      have Hb1 := Lib.hid hb1
      clear hs1 hb1
      clear ho1 hrd
      go_wp2_with fail
      go_region_law (first
        | (go_simp
           go_at_call 179
           refine Hb1.out.mono ?_
           rintro e w2 ⟨⟨r, f, rfl, hf⟩, rfl⟩
           have hRr := HR.out r f hf
           have HRr := Lib.hid hRr
           clear hRr
           clear hf))
      all_goals go_wp2_with fail
      all_goals go_returns
      all_goals exact ⟨⟨r, f, rfl, HRr.out⟩, Hs1.out.drew⟩
end Go.Proofs.YtgjoahddbieliaaGreat

/-
  The log: first, behind.
-/
namespace Go.Proofs.YtgjoahddbieliaaGreat
open Go.RowKit
set_option linter.unusedVariables false

/-- the first sector of the area -/
def LogM.firstS (L : LogM) : Nat := if L.area = 0 then 2 else 2 + L.strips
set_option maxRecDepth 100000 in
theorem walfirst_any {w : World} {τ : Tags} {bl bd : Nat} {L : LogM} (h : LogAt w τ bl bd L) :
    Calls Tryz.prog 102 #[.pointer (some ⟨bl, 0, none⟩), .int .i64 (L.area : Int)] w fun e w' => e = .returned (.int .i64 (L.firstS : Int)) ∧ w = w' := by
  obtain ⟨vs, vt, ho, -, -⟩ := h.is
  have c5 := ho.at 5 (v := .int .i64 (L.strips : Int)) rfl
  have hs := h.ok.strips
  have ha := h.ok.area
  obtain ⟨m, hm⟩ : ∃ m, 2 + L.strips = m := ⟨_, rfl⟩
  have h2 : 2 + (L.strips : Int) = (m : Int) := by omega
  have hix := fun (W : World) => index_two W (.int .i64 2) (.int .i64 (m : Int))
  have hi0 := fun W => (hix W).1
  have hi1 := fun W => (hix W).2
  have e : L.area = 0 ∨ L.area = 1 := by omega
  unfold LogM.firstS
  rw [hm]
  generalize L.strips = k at *
  generalize L.area = a at *
  clear h ho hix hm
  rcases e with rfl | rfl
  · go_enter Tryz.func102, Tryz.ntmps102
    go_wp2_with fail
    go_ret
    exact ⟨rfl, rfl⟩
  · go_enter Tryz.func102, Tryz.ntmps102
    go_wp2_with fail
    go_ret
    exact ⟨rfl, rfl⟩
/-- where the record behind the k-th one begins -/
def LogM.behindK (L : LogM) (k : Nat) : Nat := if k + 1 < L.starts.length then L.starts.getD (k + 1) 0 else L.stream.length
set_option maxRecDepth 100000 in
theorem walbehind_any {w : World} {τ : Tags} {bl bd : Nat} {L : LogM} (h : LogAt w τ bl bd L) (k : Nat) (hk : k ≤ 1000000) :
    Calls Tryz.prog 198 #[.pointer (some ⟨bl, 0, none⟩), .int .i64 (k : Int)] w fun e w' => e = .returned (.int .i64 (L.behindK k : Int)) ∧ w = w' := by
  obtain ⟨vs, vt, ho, hs, ht⟩ := h.is
  have hsl := h.ok.stream
  have hst := h.ok.starts
  obtain ⟨p, c, rfl, hmx, hrd⟩ := Ints.read (g := tStarts) ht
  obtain ⟨ps, cs, rfl⟩ := hs.len
  have c8 := ho.at 8 (v := .slice p L.starts.length c) rfl
  have c7 := ho.at 7 (v := .slice ps L.stream.length cs) rfl
  unfold LogM.behindK
  by_cases h1 : k + 1 < L.starts.length
  · rw [if_pos h1]
    obtain ⟨b, rfl, hcell⟩ := hrd (k + 1) h1
    have h1' : (k : Int) + 1 < (L.starts.length : Int) := by omega
    have h2 : ((k : Int) + 1).toNat = k + 1 := by omega
    have h3 : (0 : Int) ≤ (k : Int) + 1 := by omega
    generalize L.starts.getD (k + 1) 0 = y at *
    generalize L.starts.length = m at *
    clear h ho hs ht hrd
    go_enter Tryz.func198, Tryz.ntmps198
    go_wp2_with fail
    go_ret
    exact ⟨rfl, rfl⟩
  · rw [if_neg h1]
    have h1' : ¬ (k : Int) + 1 < (L.starts.length : Int) := by omega
    generalize L.stream.length = y at *
    generalize L.starts.length = m at *
    clear h ho hs ht hrd
    go_enter Tryz.func198, Tryz.ntmps198
    go_wp2_with fail
    go_ret
    exact ⟨rfl, rfl⟩
/-- Flush up to behind the first k records -/
def LogM.flushTo (L : LogM) (k : Nat) : Nat := L.behindK (k - 1)
def LogM.flushes (L : LogM) (k : Nat) : Prop := k ≠ 0 ∧ L.lasts < L.flushTo k
def flushRow (L : LogM) (k : Nat) : List (List Int) := (stripAll (L.stream.take (L.flushTo k))).drop (L.lasts / 127)
def LogM.flushed (L : LogM) (k : Nat) : LogM := { L with lasts := L.flushTo k }
def flushDev (L : LogM) (D : Dev) (k : Nat) : Dev := D.lay 0 (L.firstS + L.lasts / 127) (flushRow L k)
theorem LogM.behindK_le {L : LogM} (hr : L.Rise) (k : Nat) : L.behindK k ≤ L.stream.length := by
  unfold LogM.behindK
  by_cases h : k + 1 < L.starts.length
  · rw [if_pos h]
    have := hr.low (L.starts.getD (k + 1) 0) (by
      rw [List.getD_eq_getElem?_getD, List.getElem?_eq_getElem h]
      exact List.getElem_mem _)
    omega
  · rw [if_neg h]; exact Nat.le_refl _
theorem stripAll_length (st : List Int) : (stripAll st).length = parts st.length 127 := by simp [stripAll, stripTo]
theorem stripAll_get (st : List Int) (i : Nat) (hi : i < parts st.length 127) : (stripAll st).getD i [] = stripOf st i := by
  unfold stripAll stripTo
  rw [List.getD_eq_getElem?_getD, List.getElem?_map, List.getElem?_range hi]; rfl
theorem flushRow_length (L : LogM) (hr : L.Rise) (k : Nat) : (flushRow L k).length = parts (L.flushTo k) 127 - L.lasts / 127 := by
  unfold flushRow
  rw [List.length_drop, stripAll_length, List.length_take]
  have := LogM.behindK_le hr (k - 1)
  have e : min (L.flushTo k) L.stream.length = L.flushTo k := Nat.min_eq_left this
  rw [e]
theorem LogM.ok.flushed {L : LogM} (h : L.ok) (hr : L.Rise) (k : Nat) : (L.flushed k).ok :=
  ⟨h.stamp, h.base, h.check, h.area, h.strips, h.slot, h.stream, h.starts, LogM.behindK_le hr (k - 1)⟩
theorem LogM.Rise.flushed {L : LogM} (h : L.Rise) (k : Nat) : (L.flushed k).Rise := ⟨h.rise, h.low⟩
end Go.Proofs.YtgjoahddbieliaaGreat
