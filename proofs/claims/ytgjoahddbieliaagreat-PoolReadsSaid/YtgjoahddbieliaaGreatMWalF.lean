/-
  The log: Flush.
-/
import Derived.Test.YtgjoahddbieliaaGreatMPoolQ
namespace Go.Proofs.YtgjoahddbieliaaGreat
open Go.RowKit
set_option linter.unusedVariables false

/-- what Flush up to behind the first k records leaves -/
def flushNow (L : LogM) (k : Nat) : Bool := decide (k ≠ 0 ∧ L.lasts < L.flushTo k)
def FlushR (w : World) (τ : Tags) (bl bd : Nat) (L : LogM) (D : Dev) (k : Nat) (w' : World) : Prop :=
  ∃ τ', LogAt w' τ' bl bd (if flushNow L k = true then L.flushed k else L) ∧ DevAt w' τ' bd (if flushNow L k = true then flushDev L D k else D) ∧ Step w τ w' τ' WalTag
theorem FlushR.no {w w' : World} {τ τ' : Tags} {bl bd : Nat} {L : LogM} {D : Dev} {k : Nat} (h : flushNow L k = false) (hl : LogAt w' τ' bl bd L) (hd : DevAt w' τ' bd D) (hs : Step w τ w' τ' nil) : FlushR w τ bl bd L D k w' :=
  ⟨τ', by rw [h, if_neg (by simp)]; exact hl, by rw [h, if_neg (by simp)]; exact hd, hs.mono (fun _ h => h.elim)⟩
theorem FlushR.yes {w w' : World} {τ τ' : Tags} {bl bd : Nat} {L : LogM} {D : Dev} {k : Nat} (h : flushNow L k = true) (hl : LogAt w' τ' bl bd (L.flushed k)) (hd : DevAt w' τ' bd (flushDev L D k)) (hs : Step w τ w' τ' WalTag) : FlushR w τ bl bd L D k w' :=
  ⟨τ', by rw [if_pos h]; exact hl, by rw [if_pos h]; exact hd, hs⟩
theorem drop_get {l : List (List Int)} {f i : Nat} {x : List Int} (h : (l.drop f)[i]? = some x) : l[f + i]? = some x := by
  rw [List.getElem?_drop] at h; exact h
theorem i64_small (x : Int) (h0 : 0 ≤ x) (h : x ≤ 100000) : IntKind.i64.wrap x = x := by
  obtain ⟨n, rfl⟩ : ∃ n : Nat, x = (n : Int) := ⟨x.toNat, by omega⟩
  exact i64_of_u64 n (by omega)
set_option maxHeartbeats 4000000 in
set_option maxRecDepth 100000 in
theorem walflush_any {w : World} {τ : Tags} {bl bd : Nat} {L : LogM} {D : Dev} (hl : LogAt w τ bl bd L) (hd : DevAt w τ bd D) (hr : L.Rise) (hcap : L.stream.length ≤ 127 * L.strips) (hfit : L.firstS + L.strips ≤ D.f0.length) (hlim : D.lim 700000) (lsn : Nat) (h64 : lsn < 18446744073709551616) :
    Calls Tryz.prog 130 #[.pointer (some ⟨bl, 0, none⟩), .int .u64 (lsn : Int)] w fun e w' => e = .returned (.tuple #[]) ∧ ∃ (k : Nat) (f : Bool), L.AtR lsn k f ∧ FlushR w τ bl bd L D (k + (if f then 1 else 0)) w' := by
  have hat := walat_any hl hr lsn h64
  have hlen := hd.length 0
  have hf0 : D.file 0 = D.f0 := rfl
  rw [hf0] at hlen
  have hok := hl.ok
  have hstr := hok.strips
  have hssl := hok.stream
  have hsts := hok.starts
  have hlal := hok.lasts
  have Hat := Lib.hid hat
  have Hl := Lib.hid hl
  have Hd := Lib.hid hd
  have Hr := Lib.hid hr
  have Hlim := Lib.hid hlim
  have Hok := Lib.hid hok
  have Hcap := Lib.hid hcap
  have Hfit := Lib.hid hfit
  clear hat hl hd hr hlim hok hcap hfit
  go_enter Tryz.func130, Tryz.ntmps130
  go_wp2_with fail
  refine Hat.out.mono ?_
  rintro e w1 ⟨⟨k, f, rfl, hat⟩, hs1⟩
  have hkl : k ≤ L.starts.length := by
    rcases Nat.lt_or_ge lsn L.base with h | h
    · have := (hat.before h).1; omega
    · rcases Nat.lt_or_ge lsn (L.base + L.stream.length) with h2 | h2
      · exact (hat.within h h2).le
      · have := (hat.behind h h2).1; omega
  have hl1 := Hl.out.step hs1 (fun _ _ h => h)
  have hd1 := Hd.out.step hs1 (fun _ h => h.elim)
  have Hat := Lib.hid hat
  have Hs1 := Lib.hid hs1
  have Hl1 := Lib.hid hl1
  have Hd1 := Lib.hid hd1
  clear hat hs1 hl1 hd1
  cases f with
  | true =>
    obtain ⟨K, hKe⟩ : ∃ K, k + 1 = K := ⟨_, rfl⟩
    have hKi : (k : Int) + 1 = (K : Int) := by omega
    have hK1 : k + 1 ≤ 1000001 := by omega
    have hK0 : ¬ (K : Int) = 0 := by omega
    obtain ⟨J, hJ⟩ : ∃ J, J + 1 = K := ⟨K - 1, by omega⟩
    have hJi : (K : Int) - 1 = (J : Int) := by omega
    have hbh := walbehind_any Hl1.out J (by omega)
    have hle := LogM.behindK_le Hr.out J
    have hto : L.flushTo K = L.behindK J := by unfold LogM.flushTo; rw [show K - 1 = J by omega]
    rw [← hto] at hbh hle
    obtain ⟨vs, vt, ho1, hst1, hsa1⟩ := Hl1.out.is
    have c9 := ho1.at 9 (v := .int .i64 (L.lasts : Int)) rfl
    clear hto
    have Ho1 := Lib.hid ho1
    have Hst1 := Lib.hid hst1
    have Hsa1 := Lib.hid hsa1
    clear ho1 hst1 hsa1
    by_cases hfl : L.flushTo K ≤ L.lasts
    · have hfl' : (L.flushTo K : Int) ≤ (L.lasts : Int) := by omega
      have hno : flushNow L K = false := decide_eq_false (fun h => by have := h.2; omega)
      generalize L.flushTo K = to at *
      generalize hlasts : L.lasts = la at *
      have Hbh := Lib.hid hbh
      have Hno := Lib.hid hno
      have Hlasts := Lib.hid hlasts
      clear hbh hno hlasts
      go_wp2_with fail
      refine Hbh.out.mono ?_
      rintro e w2 ⟨rfl, rfl⟩
      go_wp2_with fail
      go_returns
      exact ⟨rfl, k, true, Hat.out, by rw [show k + (if true = true then 1 else 0) = K from hKe]; exact FlushR.no Hno.out Hl1.out Hd1.out Hs1.out⟩
    · have hfl' : ¬ (L.flushTo K : Int) ≤ (L.lasts : Int) := by omega
      have hyes : flushNow L K = true := decide_eq_true ⟨by omega, by omega⟩
      have hrowl := flushRow_length L Hr.out K
      have hfd : flushDev L D K = D.lay 0 (L.firstS + L.lasts / 127) (flushRow L K) := rfl
      have hrow : flushRow L K = (stripAll (L.stream.take (L.flushTo K))).drop (L.lasts / 127) := rfl
      have hok2 := Hok.out.flushed Hr.out K
      have hall := stripAll_length (L.stream.take (L.flushTo K))
      rw [List.length_take, Nat.min_eq_left hle] at hall
      have hpm : L.lasts / 127 < parts (L.flushTo K) 127 := by unfold parts; omega
      have hpk : parts (L.flushTo K) 127 ≤ L.strips := by unfold parts; have := Hcap.out; omega
      obtain ⟨bs, os, cs, rfl, hcs1, hcs2, -, -, -⟩ := (Buf.bytes Hst1.out Hl1.out.isB).pos (by omega)
      have hlay := lay_any (((Buf.bytes Hst1.out Hl1.out.isB)).fst (L.flushTo K) hle) (by rw [List.length_take]; omega)
      have c7 := Ho1.out.at 7 (v := .slice (some ⟨bs, os, none⟩) L.stream.length cs) rfl
      have c4 := Ho1.out.at 4 (v := .pointer (some ⟨bd, 0, none⟩)) rfl
      have c3 := Ho1.out.at 3 (v := .int .i64 (L.area : Int)) rfl
      have hq := Hfit.out
      have hflc : LogM.flushed L K = { L with lasts := L.flushTo K } := rfl
      generalize hto : L.flushTo K = to at *
      generalize hfr : L.lasts / 127 = fr at *
      have hfri : (L.lasts : Int) / 127 = (fr : Int) := by omega
      generalize hS : stripAll (L.stream.take to) = SA at *
      generalize hF : L.firstS = F at *
      generalize hm : parts to 127 = m at *
      generalize hRw : flushRow L K = RW at *
      generalize hsl : L.stream.length = sl at *
      generalize hlas : L.lasts = la at *
      have h1 : to ≤ cs := by omega
      have h2 : (to : Int) ≤ (cs : Int) := by omega
      have Hbh := Lib.hid hbh
      have Hyes := Lib.hid hyes
      have Hrowl := Lib.hid hrowl
      have Hfd := Lib.hid hfd
      have Hrow := Lib.hid hrow
      have Hok2 := Lib.hid hok2
      have Hall := Lib.hid hall
      have Hlay := Lib.hid hlay
      have Hflc := Lib.hid hflc
      have Hto := Lib.hid hto
      have HS := Lib.hid hS
      have HF := Lib.hid hF
      have Hm := Lib.hid hm
      have HRw := Lib.hid hRw
      have Hsl := Lib.hid hsl
      have Hlas := Lib.hid hlas
      have Hfr := Lib.hid hfr
      clear hbh hyes hrowl hfd hrow hok2 hall hlay hflc hto hS hF hm hRw hsl hlas hfr
      go_wp2_with fail
      refine Hbh.out.mono ?_
      rintro e w2 ⟨rfl, rfl⟩
      go_wp2_with fail
      refine Hlay.out.mono ?_
      rintro e w2 ⟨u, τ2, rfl, hnr, hs2⟩
      obtain ⟨pl, cl, hu, hmx, hread⟩ := hnr.row.read
      rw [Hall.out] at hu hmx
      subst hu
      obtain ⟨x0, hx0⟩ : ∃ x, SA[0]? = some x := ⟨_, List.getElem?_eq_getElem (by rw [Hall.out]; omega)⟩
      obtain ⟨_, bb, _, rfl, _, _⟩ := hread 0 x0 hx0
      clear hread hx0
      have hcl : m ≤ cl ∧ cl ≤ maxLen := by
        obtain ⟨xs, ⟨hb1, hb2⟩, -⟩ := hnr.row.buf
        rcases hb2 with ⟨hb2, _⟩ | ⟨b3, cap, ys, hb3, _, hb4, hb5, hb6⟩
        · cases hb2
        · cases hb3
          rw [Hall.out] at hb1
          exact ⟨by omega, hb6⟩
      have f1 : fr ≤ m := by omega
      have f2 : (fr : Int) ≤ (m : Int) := by omega
      have f3 : ¬ fr = cl := by omega
      have f4 : ¬ cl = fr := by omega
      have f5 : (fr : Int) ≤ (cl : Int) := by omega
      have hd2 := Hd1.out.step hs2 (fun _ h => h.elim)
      have hl2 := Hl1.out.step hs2 (fun _ _ h => h)
      have Hnr := Lib.hid hnr
      have Hs2 := Lib.hid hs2
      have Hd2 := Lib.hid hd2
      have Hl2 := Lib.hid hl2
      clear hnr hs2 hd2 hl2
      clear Hlay
      go_wp2_with fail
      obtain ⟨q, hmq⟩ : ∃ q, m - fr = q := ⟨_, rfl⟩
      rw [hmq]
      have hrq : RW.length = q := by rw [← hmq]; exact Hrowl.out
      have hqm : fr + q = m := by omega
      have Hmq := Lib.hid hmq
      have Hrq := Lib.hid hrq
      clear hmq hrq
      go_loopw [46] (fun v wr => ∃ (i : Nat) (τr : Tags), i ≤ q ∧ v = .int .i64 (i : Int) ∧ DevAt wr τr bd (D.writes 0 (F + fr) RW i) ∧ Step w2 τ2 wr τr DevTag) (fun v _ => q - (intOf v).toNat)
      case atStart => exact ⟨0, τ2, Nat.zero_le _, rfl, Hd2.out, Step.refl _ _ _⟩
      case round =>
        obtain ⟨i, τr, hi, rfl, hd, hst⟩ := hrel
        have hlr := Hl2.out.step hst devtag_log
        by_cases hlt : i < q
        · obtain ⟨x, hx⟩ : ∃ x, RW[i]? = some x := ⟨_, List.getElem?_eq_getElem (by rw [Hrq.out]; exact hlt)⟩
          have hx2 : SA[fr + i]? = some x := drop_get (by rw [← Hrow.out]; exact hx)
          obtain ⟨p', c', hv', _, hread⟩ := (Hnr.out.row.step hst (by simp [DevTag, tOut]) devtag_data).read
          cases hv'
          obtain ⟨hx128, b, u, hb, hc, hbx⟩ := hread (fr + i) x hx2
          cases hb
          clear hread
          have hfa := walfirst_any (hlr.step (Step.refl wr τr nil).drew (fun _ _ h => h))
          rw [HF.out] at hfa
          have hwl := Dev.writes_length D 0 (F + fr) (by omega) RW i 0
          rw [hf0] at hwl
          have hwt := write_any (hd.step (Step.refl wr τr nil).drew (fun _ h => h.elim)) 0 (by omega) (F + fr + i) (by rw [hwl]; omega) hbx.drew hx128 devtag_data (Dev.lim_mono (Dev.writes_lim Hlim.out 0 (F + fr) (by omega) RW i) (by omega))
          rw [show ((F + fr + i : Nat) : Int) = (F : Int) + (fr : Int) + (i : Int) by omega] at hwt
          have hsucc : D.writes 0 (F + fr) RW (i + 1) = (D.writes 0 (F + fr) RW i).write 0 (F + fr + i) x := by
            show (D.writes 0 (F + fr) RW i).write 0 (F + fr + i) (RW.getD i []) = _
            rw [List.getD_eq_getElem?_getD, hx]; rfl
          obtain ⟨vs3, vt3, ho3, -, -⟩ := hlr.is
          have d4 := ho3.drew.at 4 (v := .pointer (some ⟨bd, 0, none⟩)) rfl
          have d3 := ho3.drew.at 3 (v := .int .i64 (L.area : Int)) rfl
          have a0 : (F : Int) + (fr : Int) ≤ 4096 := by omega
          have a1 : (F : Int) + (fr : Int) + (i : Int) ≤ 4096 := by omega
          have w1 := i64_small ((F : Int) + (fr : Int)) (by omega) (by omega)
          have w2 := i64_small ((F : Int) + (fr : Int) + (i : Int)) (by omega) (by omega)
          generalize D.writes 0 (F + fr) RW i = E at *
          obtain ⟨pb, kb, rfl, -, -⟩ := hbx.any
          have Hd := Lib.hid hd
          have Hst := Lib.hid hst
          have Hfa := Lib.hid hfa
          have Hwt := Lib.hid hwt
          have Hsucc := Lib.hid hsucc
          have Hx := Lib.hid hx
          have Hx2 := Lib.hid hx2
          have Hx128 := Lib.hid hx128
          have Hlr := Lib.hid hlr
          clear hd hst hfa hwt hsucc hx hx2 hx128 hlr
          clear hbx hwl ho3
          go_wp2_with fail
          go_region_held3 (fun w' => w'.cell? ⟨bl, 4, none⟩ = some (.pointer (some ⟨bd, 0, none⟩)) ∧ w'.cell? ⟨bl, 3, none⟩ = some (.int .i64 (L.area : Int))) (go_keep) (first
            | (go_at_call 102
               refine Hfa.out.mono ?_
               rintro e w3 ⟨rfl, rfl⟩)
            | (go_at_call 169
               refine Hwt.out.mono ?_
               rintro e w4 ⟨rfl, τ4, hd4, hs4⟩
               have hl4 := (Hlr.out.step (Step.refl wr τr nil).drew (fun _ _ h => h)).step hs4 devtag_log
               obtain ⟨vs4, vt4, ho4, -, -⟩ := hl4.is
               have e4 := ho4.at 4 (v := .pointer (some ⟨bd, 0, none⟩)) rfl
               have e3 := ho4.at 3 (v := .int .i64 (L.area : Int)) rfl
               have Hd4 := Lib.hid hd4
               have Hs4 := Lib.hid hs4
               clear hd4 hs4
               clear ho4 hl4))
          go_wp2_with fail
          go_round
          case rel => exact ⟨i + 1, τ4, by omega, by simp, by rw [Hsucc.out]; exact Hd4.out, Hst.out.drew.trans Hs4.out⟩
          case measure => simp [intOf]; omega
        · obtain rfl : i = q := by omega
          have hsy := sync_any hd 0 (by omega)
          obtain ⟨vs3, vt3, ho3, -, -⟩ := hlr.is
          have d4 := ho3.at 4 (v := .pointer (some ⟨bd, 0, none⟩)) rfl
          have hlayE : flushDev L D K = (D.writes 0 (F + fr) RW i).sync 0 := by rw [Hfd.out]; unfold Dev.lay; rw [Hrq.out]
          have Hst := Lib.hid hst
          have Hsy := Lib.hid hsy
          have Hlr := Lib.hid hlr
          have HlayE := Lib.hid hlayE
          clear hst hsy hlr hlayE
          clear hd ho3
          go_wp2_with fail
          refine Hsy.out.mono ?_
          rintro e w4 ⟨rfl, τ4, hd4, hs4⟩
          have hl4 := Hlr.out.step hs4 devtag_log
          have hB4 := hl4.isB
          obtain ⟨vs4, vt4, ho4, hs4s, hs4t⟩ := hl4.is
          have k9 := ho4.at 9 (v := .int .i64 (L.lasts : Int)) rfl
          have z9 := ho4.fz 9
          have ho5 := ho4.set 9 (.int .i64 (to : Int))
          have hset : (logCells L bd vs4 vt4).set 9 (.int .i64 (to : Int)) = logCells (LogM.flushed L K) bd vs4 vt4 := by rw [Hflc.out]; rfl
          rw [hset] at ho5
          have hst5 : Step w4 τ4 (w4.setCell ⟨bl, 9, none⟩ (.int .i64 (to : Int))) τ4 (fun g => g = tLog) := (Step.refl w4 τ4 (fun g => g = tLog)).set (o := 9) ho4.tag rfl _
          have hl5 : LogAt (w4.setCell ⟨bl, 9, none⟩ (.int .i64 (to : Int))) τ4 bl bd (LogM.flushed L K) :=
            ⟨⟨vs4, vt4, ho5, by have := hs4s.step hst5 (by simp [tStream, tLog]); exact this, by have := hs4t.step hst5 (by simp [tStarts, tLog]); exact this⟩, hB4, Hok2.out⟩
          have hd5 := hd4.step hst5 (fun g hg => by subst hg; exact ⟨devtag_log _ (.inl rfl), by simp [tLog, tData]⟩)
          have hall5 := ((Hs1.out.mono (T := WalTag) (fun _ h => h.elim)).trans (Hs2.out.mono (T := WalTag) (fun _ h => h.elim))).trans ((Hst.out.mono (T := WalTag) (fun _ h => .inr h)).trans ((hs4.mono (T := WalTag) (fun _ h => .inr h)).trans (hst5.mono (T := WalTag) (fun g hg => .inl (.inl hg)))))
          rw [← HlayE.out] at hd5
          have Hl5 := Lib.hid hl5
          have Hd5 := Lib.hid hd5
          have Hall5 := Lib.hid hall5
          clear hl5 hd5 hall5
          clear ho4 hs4s hs4t ho5 hset hst5 hl4 hd4 hs4
          go_wp2_with fail
          go_returns
          exact ⟨rfl, k, true, Hat.out, by rw [show k + (if true = true then 1 else 0) = K from hKe]; exact FlushR.yes Hyes.out Hl5.out Hd5.out Hall5.out⟩
  | false =>
    by_cases hk0 : k = 0
    · subst hk0
      go_wp2_with fail
      go_returns
      exact ⟨rfl, 0, false, Hat.out, FlushR.no (by rfl) Hl1.out Hd1.out Hs1.out⟩
    · obtain ⟨K, hKe⟩ : ∃ K, k = K := ⟨_, rfl⟩
      rw [hKe] at hk0 hkl
      have hKi : (k : Int) = (K : Int) := by omega
      rw [hKi]
      have hK0 : ¬ (K : Int) = 0 := by omega
      obtain ⟨J, hJ⟩ : ∃ J, J + 1 = K := ⟨K - 1, by omega⟩
      have hJi : (K : Int) - 1 = (J : Int) := by omega
      have hbh := walbehind_any Hl1.out J (by omega)
      have hle := LogM.behindK_le Hr.out J
      have hto : L.flushTo K = L.behindK J := by unfold LogM.flushTo; rw [show K - 1 = J by omega]
      rw [← hto] at hbh hle
      obtain ⟨vs, vt, ho1, hst1, hsa1⟩ := Hl1.out.is
      have c9 := ho1.at 9 (v := .int .i64 (L.lasts : Int)) rfl
      clear hto
      have Ho1 := Lib.hid ho1
      have Hst1 := Lib.hid hst1
      have Hsa1 := Lib.hid hsa1
      clear ho1 hst1 hsa1
      by_cases hfl : L.flushTo K ≤ L.lasts
      · have hfl' : (L.flushTo K : Int) ≤ (L.lasts : Int) := by omega
        have hno : flushNow L K = false := decide_eq_false (fun h => by have := h.2; omega)
        generalize L.flushTo K = to at *
        generalize hlasts : L.lasts = la at *
        have Hbh := Lib.hid hbh
        have Hno := Lib.hid hno
        have Hlasts := Lib.hid hlasts
        clear hbh hno hlasts
        go_wp2_with fail
        refine Hbh.out.mono ?_
        rintro e w2 ⟨rfl, rfl⟩
        go_wp2_with fail
        go_returns
        exact ⟨rfl, k, false, Hat.out, by rw [show k + (if false = true then 1 else 0) = K from hKe]; exact FlushR.no Hno.out Hl1.out Hd1.out Hs1.out⟩
      · have hfl' : ¬ (L.flushTo K : Int) ≤ (L.lasts : Int) := by omega
        have hyes : flushNow L K = true := decide_eq_true ⟨by omega, by omega⟩
        have hrowl := flushRow_length L Hr.out K
        have hfd : flushDev L D K = D.lay 0 (L.firstS + L.lasts / 127) (flushRow L K) := rfl
        have hrow : flushRow L K = (stripAll (L.stream.take (L.flushTo K))).drop (L.lasts / 127) := rfl
        have hok2 := Hok.out.flushed Hr.out K
        have hall := stripAll_length (L.stream.take (L.flushTo K))
        rw [List.length_take, Nat.min_eq_left hle] at hall
        have hpm : L.lasts / 127 < parts (L.flushTo K) 127 := by unfold parts; omega
        have hpk : parts (L.flushTo K) 127 ≤ L.strips := by unfold parts; have := Hcap.out; omega
        obtain ⟨bs, os, cs, rfl, hcs1, hcs2, -, -, -⟩ := (Buf.bytes Hst1.out Hl1.out.isB).pos (by omega)
        have hlay := lay_any (((Buf.bytes Hst1.out Hl1.out.isB)).fst (L.flushTo K) hle) (by rw [List.length_take]; omega)
        have c7 := Ho1.out.at 7 (v := .slice (some ⟨bs, os, none⟩) L.stream.length cs) rfl
        have c4 := Ho1.out.at 4 (v := .pointer (some ⟨bd, 0, none⟩)) rfl
        have c3 := Ho1.out.at 3 (v := .int .i64 (L.area : Int)) rfl
        have hq := Hfit.out
        have hflc : LogM.flushed L K = { L with lasts := L.flushTo K } := rfl
        generalize hto : L.flushTo K = to at *
        generalize hfr : L.lasts / 127 = fr at *
        have hfri : (L.lasts : Int) / 127 = (fr : Int) := by omega
        generalize hS : stripAll (L.stream.take to) = SA at *
        generalize hF : L.firstS = F at *
        generalize hm : parts to 127 = m at *
        generalize hRw : flushRow L K = RW at *
        generalize hsl : L.stream.length = sl at *
        generalize hlas : L.lasts = la at *
        have h1 : to ≤ cs := by omega
        have h2 : (to : Int) ≤ (cs : Int) := by omega
        have Hbh := Lib.hid hbh
        have Hyes := Lib.hid hyes
        have Hrowl := Lib.hid hrowl
        have Hfd := Lib.hid hfd
        have Hrow := Lib.hid hrow
        have Hok2 := Lib.hid hok2
        have Hall := Lib.hid hall
        have Hlay := Lib.hid hlay
        have Hflc := Lib.hid hflc
        have Hto := Lib.hid hto
        have HS := Lib.hid hS
        have HF := Lib.hid hF
        have Hm := Lib.hid hm
        have HRw := Lib.hid hRw
        have Hsl := Lib.hid hsl
        have Hlas := Lib.hid hlas
        have Hfr := Lib.hid hfr
        clear hbh hyes hrowl hfd hrow hok2 hall hlay hflc hto hS hF hm hRw hsl hlas hfr
        go_wp2_with fail
        refine Hbh.out.mono ?_
        rintro e w2 ⟨rfl, rfl⟩
        go_wp2_with fail
        refine Hlay.out.mono ?_
        rintro e w2 ⟨u, τ2, rfl, hnr, hs2⟩
        obtain ⟨pl, cl, hu, hmx, hread⟩ := hnr.row.read
        rw [Hall.out] at hu hmx
        subst hu
        obtain ⟨x0, hx0⟩ : ∃ x, SA[0]? = some x := ⟨_, List.getElem?_eq_getElem (by rw [Hall.out]; omega)⟩
        obtain ⟨_, bb, _, rfl, _, _⟩ := hread 0 x0 hx0
        clear hread hx0
        have hcl : m ≤ cl ∧ cl ≤ maxLen := by
          obtain ⟨xs, ⟨hb1, hb2⟩, -⟩ := hnr.row.buf
          rcases hb2 with ⟨hb2, _⟩ | ⟨b3, cap, ys, hb3, _, hb4, hb5, hb6⟩
          · cases hb2
          · cases hb3
            rw [Hall.out] at hb1
            exact ⟨by omega, hb6⟩
        have f1 : fr ≤ m := by omega
        have f2 : (fr : Int) ≤ (m : Int) := by omega
        have f3 : ¬ fr = cl := by omega
        have f4 : ¬ cl = fr := by omega
        have f5 : (fr : Int) ≤ (cl : Int) := by omega
        have hd2 := Hd1.out.step hs2 (fun _ h => h.elim)
        have hl2 := Hl1.out.step hs2 (fun _ _ h => h)
        have Hnr := Lib.hid hnr
        have Hs2 := Lib.hid hs2
        have Hd2 := Lib.hid hd2
        have Hl2 := Lib.hid hl2
        clear hnr hs2 hd2 hl2
        clear Hlay
        go_wp2_with fail
        obtain ⟨q, hmq⟩ : ∃ q, m - fr = q := ⟨_, rfl⟩
        rw [hmq]
        have hrq : RW.length = q := by rw [← hmq]; exact Hrowl.out
        have hqm : fr + q = m := by omega
        have Hmq := Lib.hid hmq
        have Hrq := Lib.hid hrq
        clear hmq hrq
        go_loopw [46] (fun v wr => ∃ (i : Nat) (τr : Tags), i ≤ q ∧ v = .int .i64 (i : Int) ∧ DevAt wr τr bd (D.writes 0 (F + fr) RW i) ∧ Step w2 τ2 wr τr DevTag) (fun v _ => q - (intOf v).toNat)
        case atStart => exact ⟨0, τ2, Nat.zero_le _, rfl, Hd2.out, Step.refl _ _ _⟩
        case round =>
          obtain ⟨i, τr, hi, rfl, hd, hst⟩ := hrel
          have hlr := Hl2.out.step hst devtag_log
          by_cases hlt : i < q
          · obtain ⟨x, hx⟩ : ∃ x, RW[i]? = some x := ⟨_, List.getElem?_eq_getElem (by rw [Hrq.out]; exact hlt)⟩
            have hx2 : SA[fr + i]? = some x := drop_get (by rw [← Hrow.out]; exact hx)
            obtain ⟨p', c', hv', _, hread⟩ := (Hnr.out.row.step hst (by simp [DevTag, tOut]) devtag_data).read
            cases hv'
            obtain ⟨hx128, b, u, hb, hc, hbx⟩ := hread (fr + i) x hx2
            cases hb
            clear hread
            have hfa := walfirst_any (hlr.step (Step.refl wr τr nil).drew (fun _ _ h => h))
            rw [HF.out] at hfa
            have hwl := Dev.writes_length D 0 (F + fr) (by omega) RW i 0
            rw [hf0] at hwl
            have hwt := write_any (hd.step (Step.refl wr τr nil).drew (fun _ h => h.elim)) 0 (by omega) (F + fr + i) (by rw [hwl]; omega) hbx.drew hx128 devtag_data (Dev.lim_mono (Dev.writes_lim Hlim.out 0 (F + fr) (by omega) RW i) (by omega))
            rw [show ((F + fr + i : Nat) : Int) = (F : Int) + (fr : Int) + (i : Int) by omega] at hwt
            have hsucc : D.writes 0 (F + fr) RW (i + 1) = (D.writes 0 (F + fr) RW i).write 0 (F + fr + i) x := by
              show (D.writes 0 (F + fr) RW i).write 0 (F + fr + i) (RW.getD i []) = _
              rw [List.getD_eq_getElem?_getD, hx]; rfl
            obtain ⟨vs3, vt3, ho3, -, -⟩ := hlr.is
            have d4 := ho3.drew.at 4 (v := .pointer (some ⟨bd, 0, none⟩)) rfl
            have d3 := ho3.drew.at 3 (v := .int .i64 (L.area : Int)) rfl
            have a0 : (F : Int) + (fr : Int) ≤ 4096 := by omega
            have a1 : (F : Int) + (fr : Int) + (i : Int) ≤ 4096 := by omega
            have w1 := i64_small ((F : Int) + (fr : Int)) (by omega) (by omega)
            have w2 := i64_small ((F : Int) + (fr : Int) + (i : Int)) (by omega) (by omega)
            generalize D.writes 0 (F + fr) RW i = E at *
            obtain ⟨pb, kb, rfl, -, -⟩ := hbx.any
            have Hd := Lib.hid hd
            have Hst := Lib.hid hst
            have Hfa := Lib.hid hfa
            have Hwt := Lib.hid hwt
            have Hsucc := Lib.hid hsucc
            have Hx := Lib.hid hx
            have Hx2 := Lib.hid hx2
            have Hx128 := Lib.hid hx128
            have Hlr := Lib.hid hlr
            clear hd hst hfa hwt hsucc hx hx2 hx128 hlr
            clear hbx hwl ho3
            go_wp2_with fail
            go_region_held3 (fun w' => w'.cell? ⟨bl, 4, none⟩ = some (.pointer (some ⟨bd, 0, none⟩)) ∧ w'.cell? ⟨bl, 3, none⟩ = some (.int .i64 (L.area : Int))) (go_keep) (first
              | (go_at_call 102
                 refine Hfa.out.mono ?_
                 rintro e w3 ⟨rfl, rfl⟩)
              | (go_at_call 169
                 refine Hwt.out.mono ?_
                 rintro e w4 ⟨rfl, τ4, hd4, hs4⟩
                 have hl4 := (Hlr.out.step (Step.refl wr τr nil).drew (fun _ _ h => h)).step hs4 devtag_log
                 obtain ⟨vs4, vt4, ho4, -, -⟩ := hl4.is
                 have e4 := ho4.at 4 (v := .pointer (some ⟨bd, 0, none⟩)) rfl
                 have e3 := ho4.at 3 (v := .int .i64 (L.area : Int)) rfl
                 have Hd4 := Lib.hid hd4
                 have Hs4 := Lib.hid hs4
                 clear hd4 hs4
                 clear ho4 hl4))
            go_wp2_with fail
            go_round
            case rel => exact ⟨i + 1, τ4, by omega, by simp, by rw [Hsucc.out]; exact Hd4.out, Hst.out.drew.trans Hs4.out⟩
            case measure => simp [intOf]; omega
          · obtain rfl : i = q := by omega
            have hsy := sync_any hd 0 (by omega)
            obtain ⟨vs3, vt3, ho3, -, -⟩ := hlr.is
            have d4 := ho3.at 4 (v := .pointer (some ⟨bd, 0, none⟩)) rfl
            have hlayE : flushDev L D K = (D.writes 0 (F + fr) RW i).sync 0 := by rw [Hfd.out]; unfold Dev.lay; rw [Hrq.out]
            have Hst := Lib.hid hst
            have Hsy := Lib.hid hsy
            have Hlr := Lib.hid hlr
            have HlayE := Lib.hid hlayE
            clear hst hsy hlr hlayE
            clear hd ho3
            go_wp2_with fail
            refine Hsy.out.mono ?_
            rintro e w4 ⟨rfl, τ4, hd4, hs4⟩
            have hl4 := Hlr.out.step hs4 devtag_log
            have hB4 := hl4.isB
            obtain ⟨vs4, vt4, ho4, hs4s, hs4t⟩ := hl4.is
            have k9 := ho4.at 9 (v := .int .i64 (L.lasts : Int)) rfl
            have z9 := ho4.fz 9
            have ho5 := ho4.set 9 (.int .i64 (to : Int))
            have hset : (logCells L bd vs4 vt4).set 9 (.int .i64 (to : Int)) = logCells (LogM.flushed L K) bd vs4 vt4 := by rw [Hflc.out]; rfl
            rw [hset] at ho5
            have hst5 : Step w4 τ4 (w4.setCell ⟨bl, 9, none⟩ (.int .i64 (to : Int))) τ4 (fun g => g = tLog) := (Step.refl w4 τ4 (fun g => g = tLog)).set (o := 9) ho4.tag rfl _
            have hl5 : LogAt (w4.setCell ⟨bl, 9, none⟩ (.int .i64 (to : Int))) τ4 bl bd (LogM.flushed L K) :=
              ⟨⟨vs4, vt4, ho5, by have := hs4s.step hst5 (by simp [tStream, tLog]); exact this, by have := hs4t.step hst5 (by simp [tStarts, tLog]); exact this⟩, hB4, Hok2.out⟩
            have hd5 := hd4.step hst5 (fun g hg => by subst hg; exact ⟨devtag_log _ (.inl rfl), by simp [tLog, tData]⟩)
            have hall5 := ((Hs1.out.mono (T := WalTag) (fun _ h => h.elim)).trans (Hs2.out.mono (T := WalTag) (fun _ h => h.elim))).trans ((Hst.out.mono (T := WalTag) (fun _ h => .inr h)).trans ((hs4.mono (T := WalTag) (fun _ h => .inr h)).trans (hst5.mono (T := WalTag) (fun g hg => .inl (.inl hg)))))
            rw [← HlayE.out] at hd5
            have Hl5 := Lib.hid hl5
            have Hd5 := Lib.hid hd5
            have Hall5 := Lib.hid hall5
            clear hl5 hd5 hall5
            clear ho4 hs4s hs4t ho5 hset hst5 hl4 hd4 hs4
            go_wp2_with fail
            go_returns
            exact ⟨rfl, k, false, Hat.out, by rw [show k + (if false = true then 1 else 0) = K from hKe]; exact FlushR.yes Hyes.out Hl5.out Hd5.out Hall5.out⟩
end Go.Proofs.YtgjoahddbieliaaGreat
