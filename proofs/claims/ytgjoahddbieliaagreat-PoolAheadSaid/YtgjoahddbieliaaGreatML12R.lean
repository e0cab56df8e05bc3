/-
  PoolStamps, walked.
-/
import Derived.Test.YtgjoahddbieliaaGreatML12L
import Derived.Test.YtgjoahddbieliaaGreatML12C
import Derived.Test.YtgjoahddbieliaaGreatMR8
namespace Go.Proofs.YtgjoahddbieliaaGreat
open Go.RowKit
set_option linter.unusedVariables false

theorem below_boxed {w w' : World} {τ' : Tags} (m : Step w boxed w' τ' AnyTag) : Below w.heap.size w w' := Mod.below ⟨m.mod.os, m.mod.tape, m.mod.output, m.mod.size, fun k hk _ => m.mod.block k hk (fun h => h rfl)⟩
theorem boxed_known {w w' : World} (m : Mod w w' no) : Step w boxed w' boxed AnyTag := (Step.of nil m (Ext.refl _ _)).mono (fun _ h => h.elim)
set_option maxHeartbeats 4000000 in
set_option maxRecDepth 100000 in
theorem law_stamps (w : World) (pg fr : Nat) (hpg : pg < 256) (hfr : fr < 256) (a : Option Addr) (len cap : Nat) (hlen : len ≤ maxLen) (ho : OpsP w a len) :
    Calls Tryz.prog 5 #[.int .u8 (pg : Int), .int .u8 (fr : Int), .slice a len cap] w fun e w' => e = .returned (.bool true) ∧ Below w.heap.size w w' := by
  have hhv := heavy_any w a len cap hlen ho
  have hkn := known_yes w
  have Hhv := Lib.hid hhv
  have Hkn := Lib.hid hkn
  have Ho := Lib.hid ho
  clear hhv hkn ho
  go_enter Tryz.func5, Tryz.ntmps5
  go_wp2_with fail
  refine Hhv.out.mono ?_
  rintro e w1 ⟨r, rfl, rfl, h40⟩
  cases r with
  | true =>
    go_wp2_with fail
    refine Hkn.out.mono ?_
    rintro e w2 ⟨rfl, hm⟩
    have Hm := Lib.hid hm
    clear hm
    go_wp2_with fail
    go_ret
    exact ⟨rfl, (Step.of nil Hm.out (Ext.refl w boxed)).below⟩
  | false =>
    have hl40 := h40 rfl
    clear h40 Hhv
    go_wp2_with fail
    refine Hkn.out.mono ?_
    rintro e w2 ⟨rfl, hm⟩
    have hs2 := boxed_known hm
    have hmd := made_all w2 pg fr hpg hfr
    have Hm := Lib.hid hm
    have Hs2 := Lib.hid hs2
    have Hmd := Lib.hid hmd
    clear hm hs2 hmd
    clear Hkn
    go_wp2_with fail
    refine Hmd.out.mono ?_
    rintro e w3 ⟨bw, bd, bl, bp, bf, k, N, τ3, was, vs, H, L, D, F, s, cur, rfl, hA, hst, hk3, hk7, hs3⟩
    have hs3' := Hs2.out.trans hs3
    have hN8 := hA.n8
    have HA := Lib.hid hA
    have Hs3' := Lib.hid hs3'
    clear hA hs3'
    clear Hmd hs3 Hs2 Hm
    go_wp2_with fail
    go_loopw [8, 9] (fun la v wr => ∃ (i l0 : Nat) (τr : Tags) (was : Value) (vs : List (List (List Int))) (H : PoolH) (L : LogM) (D : Dev) (F : List Fr) (s : Ck.Clk.St) (cur : Nat → List Int), i ≤ len ∧ v = .int .i64 (i : Int) ∧ la = .int .u64 (l0 : Int) ∧ l0 ≤ H.st ∧ H.st ≤ 65 * i ∧ AllW wr τr bw bd bl bp bf k N i was vs H L D F s cur ∧ Step w boxed wr τr AnyTag) (fun _ v _ => len - (intOf v).toNat)
    case atStart => exact ⟨0, 0, τ3, was, vs, H, L, D, F, s, cur, Nat.zero_le _, rfl, rfl, Nat.zero_le _, by omega, HA.out, Hs3'.out⟩
    case round =>
      clear HA Hs3' hst
      obtain ⟨i, l0, τr, was, vs, H, L, D, F, s, cur, hi, rfl, rfl, hl0, hst, hA, hs⟩ := hrel
      by_cases hlt : i < len
      · obtain ⟨bo, ol, kd, pg', slot, v, data, pf, nf, cf, rfl, hop⟩ := Ho.out i hlt
        obtain ⟨pv, cv, rfl, -, -⟩ := hop.by_.any
        obtain ⟨o0, o1, o2, o3, o4, hby⟩ := hop.step hs
        have hil : (i : Int) < (len : Int) := by omega
        have hdo := does_any hA (by omega) (by omega) kd pg' hop.pb slot hby pf nf cf
        generalize data.length = dl at *
        have HA := Lib.hid hA
        have Hs := Lib.hid hs
        have Hdo := Lib.hid hdo
        have Hby := Lib.hid hby
        clear hA hs hdo hby
        clear hop
        go_wp2_with fail
        refine Hdo.out.mono ?_
        rintro e w4 ⟨rfl, was4, vs4, H4, L4, D4, F4, s4, cur4, τ4, hA4, hs41, hs42, hst4⟩
        have hs4 := Hs.out.trans hst4
        have hvl := hA4.vlen
        obtain ⟨bws, cap4, -, -, -, -, -, -, rfl, -⟩ := hA4.mv.latest hA4.vlen hA4.last (n := 0) (by omega)
        have d4 := hA4.mv.own.at 4 (v := .slice (some ⟨bws, 0, none⟩) N cap4) rfl
        have d2 := hA4.mv.own.at 2 (v := .pointer (some ⟨bp, 0, none⟩)) rfl
        have hNw := u32_wrap' N (by omega)
        have HA4 := Lib.hid hA4
        have Hs4 := Lib.hid hs4
        clear hA4 hs4
        clear o0 o1 o2 o3 o4 Hdo HA Hs Hby hst4
        go_wp2_with fail
        go_loopw [11] (fun v wr => ∃ n : Nat, n ≤ N ∧ v = .int .u32 (n : Int) ∧ wr = w4) (fun v _ => N - (intOf v).toNat)
        case atStart => exact ⟨0, Nat.zero_le _, rfl, rfl⟩
        case round =>
          obtain ⟨n, hn, rfl, rfl⟩ := hrel
          have hnw := u32_wrap' n (by omega)
          by_cases hnN : n < N
          · have hnI : (n : Int) < (N : Int) := by omega
            have hwr := write_good HA4.out (by omega) n hnN
            have Hwr := Lib.hid hwr
            clear hwr
            go_wp2_with fail
            refine Hwr.out.mono ?_
            rintro e w5 (⟨rfl, rfl, -⟩ | ⟨rfl, τ5, H5, L5, D5, j, f, hW⟩)
            · have hnw1 : IntKind.u32.wrap ((n : Int) + 1) = (n : Int) + 1 := u32_wrap' (n + 1) (by omega)
              go_wp2_with fail
              go_round
              case rel => exact ⟨n + 1, by omega, by simp⟩
              case measure => simp [intOf]; omega
            · have hA5 := hW.all
              have hs5 := Hs4.out.trans (hW.step.mono (T := AnyTag) (fun _ h => pw_any h))
              have hst5 := hW.st
              have hho := hW.home
              have hsp := hW.spare
              have e4 := hA5.mv.own.at 4 (v := .slice (some ⟨bws, 0, none⟩) N cap4) rfl
              have hne : ¬ (n : Int) = (N : Int) := by omega
              have hne' : ¬ n = N := by omega
              have hbe : ((n : Int) == (N : Int)) = false := by simp; omega
              obtain ⟨G, hG⟩ : ∃ G, F4.set j { f with first := 0 } = G := ⟨_, rfl⟩
              rw [hG] at hA5
              have HA5 := Lib.hid hA5
              have Hs5 := Lib.hid hs5
              have Hho := Lib.hid hho
              have Hsp := Lib.hid hsp
              have HW := Lib.hid hW
              clear hA5 hs5 hho hsp hW
              clear Hwr d4 d2
              go_wp2_with fail
              go_loopw [12, 13, 14] (fun h1 h2 v wr => ∃ (kk : Nat) (τr : Tags), kk ≤ 4 ∧ v = .int .i64 (kk : Int) ∧ NR 0 wr τr tOut h1 (lastTo D5 n kk) ∧ NR 0 wr τr tSp h2 (lastTo D5 N kk) ∧ AllW wr τr bw bd bl bp bf k N (i + 1) (.slice (some ⟨bws, 0, none⟩) N cap4) vs4 H5 L5 D5 G s4 cur4 ∧ Step w boxed wr τr AnyTag) (fun _ _ v _ => 4 - (intOf v).toNat)
              case atStart => exact ⟨0, τ5, Nat.zero_le _, rfl, NR.nil _ _ _ _, NR.nil _ _ _ _, HA5.out, Hs5.out⟩
              case round =>
                obtain ⟨kk, τr, hkk, rfl, hn1, hn2, hA, hs⟩ := hrel
                obtain ⟨p1, c1, rfl⟩ := hn1.val
                obtain ⟨p2, c2, rfl⟩ := hn2.val
                have hl1 := lastTo_length D5 n kk
                have hl2 := lastTo_length D5 N kk
                by_cases hk4 : kk < 4
                · have hdv := hA.mv.pool.dev
                  have hf1 : D5.file 1 = D5.f1 := rfl
                  have h4N := hA.good.f1
                  have hkI : (kk : Int) < 4 := by omega
                  have hi1 : IntKind.i64.wrap (n : Int) = (n : Int) := i64_small _ (by omega) (by omega)
                  have hi2 : IntKind.i64.wrap (4 * (n : Int)) = 4 * (n : Int) := i64_small _ (by omega) (by omega)
                  have hi3 : IntKind.i64.wrap (4 * (n : Int) + (kk : Int)) = 4 * (n : Int) + (kk : Int) := i64_small _ (by omega) (by omega)
                  have hi4 : IntKind.i64.wrap (4 * (N : Int)) = 4 * (N : Int) := i64_small _ (by omega) (by omega)
                  have hi5 : IntKind.i64.wrap (4 * (N : Int) + (kk : Int)) = 4 * (N : Int) + (kk : Int) := i64_small _ (by omega) (by omega)
                  have hrd := read_any hdv 1 (by omega) (4 * n + kk) (by rw [hf1]; omega) tData
                  have hx1 := hdv.last128 1 (4 * n + kk) (by rw [hf1]; omega)
                  have hx2 := hdv.last128 1 (4 * N + kk) (by rw [hf1]; omega)
                  have hu1 := lastTo_succ D5 n kk
                  have hu2 := lastTo_succ D5 N kk
                  rw [show ((4 * n + kk : Nat) : Int) = 4 * (n : Int) + (kk : Int) by omega] at hrd
                  have c0 := hA.mv.own.at 0 (v := .pointer (some ⟨bd, 0, none⟩)) rfl
                  have Hdv := Lib.hid hdv
                  have Hrd := Lib.hid hrd
                  have Hx1 := Lib.hid hx1
                  have Hx2 := Lib.hid hx2
                  have Hu1 := Lib.hid hu1
                  have Hu2 := Lib.hid hu2
                  have Hl1 := Lib.hid hl1
                  have Hl2 := Lib.hid hl2
                  have HA := Lib.hid hA
                  have Hs := Lib.hid hs
                  have Hn1 := Lib.hid hn1
                  have Hn2 := Lib.hid hn2
                  have H4N := Lib.hid h4N
                  have Hf1 := Lib.hid hf1
                  clear hdv hrd hx1 hx2 hu1 hu2 hl1 hl2 hA hs hn1 hn2 h4N hf1
                  go_wp2_with fail
                  refine Hrd.out.mono ?_
                  rintro e w6 ⟨u6, τ6, rfl, hb6, hs6⟩
                  obtain ⟨q6, k6, hu6, -, -⟩ := hb6.any
                  rw [Hx1.out.1] at hu6
                  subst hu6
                  have hA6 := HA.out.step hs6
                  have hn16 := Hn1.out.step hs6 (fun h => h) (fun h => h)
                  have hn26 := Hn2.out.step hs6 (fun h => h) (fun h => h)
                  have hs6' := Hs.out.trans (hs6.mono (T := AnyTag) (fun _ h => h.elim))
                  have f0 := hA6.mv.own.at 0 (v := .pointer (some ⟨bd, 0, none⟩)) rfl
                  have f4 := hA6.mv.own.at 4 (v := .slice (some ⟨bws, 0, none⟩) N cap4) rfl
                  have hrd2 := read_any ((hA6.step (Step.refl w6 τ6 nil).drew).mv.pool.dev) 1 (by omega) (4 * N + kk) (by rw [Hf1.out]; have := H4N.out; omega) tData
                  rw [show ((4 * N + kk : Nat) : Int) = 4 * (N : Int) + (kk : Int) by omega] at hrd2
                  have Hb6 := Lib.hid hb6
                  have HA6 := Lib.hid hA6
                  have Hn16 := Lib.hid hn16
                  have Hn26 := Lib.hid hn26
                  have Hs6' := Lib.hid hs6'
                  have Hrd2 := Lib.hid hrd2
                  clear hb6 hA6 hn16 hn26 hs6' hrd2
                  clear hs6 c0 HA Hs Hn1 Hn2 Hdv Hrd
                  go_wp2_with fail
                  go_region_held3 (fun w' => w'.cell? ⟨bw, 0, none⟩ = some (.pointer (some ⟨bd, 0, none⟩)) ∧ w'.cell? ⟨bw, 4, none⟩ = some (.slice (some ⟨bws, 0, none⟩) N cap4)) (go_keep) (first
                    | (go_at_call 16
                       refine Hrd2.out.mono ?_
                       rintro e w7 ⟨u7, τ7, rfl, hb7, hs7⟩
                       obtain ⟨q7, k7, hu7, -, -⟩ := hb7.any
                       rw [Hx2.out.1] at hu7
                       subst hu7
                       have hA7 := (HA6.out.step (Step.refl w6 τ6 nil).drew).step hs7
                       have g0 := hA7.mv.own.at 0 (v := .pointer (some ⟨bd, 0, none⟩)) rfl
                       have g4 := hA7.mv.own.at 4 (v := .slice (some ⟨bws, 0, none⟩) N cap4) rfl
                       have hs7' := (Step.refl w6 τ6 nil).drew.trans hs7
                       have HA7 := Lib.hid hA7
                       have Hs7' := Lib.hid hs7'
                       have Hb7 := Lib.hid hb7
                       clear hA7 hs7' hb7
                       clear hs7))
                  have hn17 := Hn16.out.step Hs7'.out (fun h => h) (fun h => h)
                  have hn27 := Hn26.out.step Hs7'.out (fun h => h) (fun h => h)
                  have hb67 := Hb6.out.step Hs7'.out (fun h => h)
                  have hs7 := Hs6'.out.trans (Hs7'.out.mono (T := AnyTag) (fun _ h => h.elim))
                  have hz7 := step_z w7 τ7 AnyTag
                  have Hn17 := Lib.hid hn17
                  have Hn27 := Lib.hid hn27
                  have Hb67 := Lib.hid hb67
                  have Hs7 := Lib.hid hs7
                  have Hz7 := Lib.hid hz7
                  clear hn17 hn27 hb67 hs7 hz7
                  clear Hn16 Hn26 Hb6 Hs6' Hs7' HA6 Hrd2 f0 f4 g0 g4
                  go_wp2_with (at_builtin; first
                    | (refine wpList_append_nr1 Hz7.out (by decide) Hn17.out Hb67.out Hx1.out.1 (by rw [Hl1.out]; omega) rfl rfl _ _ rfl rfl rfl ?_
                       intro v8 w8 τ8 hn18 hz8 hs8
                       have hA8 := HA7.out.free (hs8.mono (fun g hg => by rw [hg]; exact free_out))
                       have hn28 := Hn27.out.step hs8 (by decide) (by decide)
                       have hb78 := Hb7.out.step hs8 (by decide)
                       have hs8' := Hs7.out.trans (hs8.mono (T := AnyTag) (fun g hg => by rw [hg]; exact free_any free_out))
                       obtain ⟨p8, c8, rfl⟩ := hn18.val
                       have hz8' := step_z w8 τ8 AnyTag
                       have Hn18 := Lib.hid hn18
                       have HA8 := Lib.hid hA8
                       have Hn28 := Lib.hid hn28
                       have Hb78 := Lib.hid hb78
                       have Hs8' := Lib.hid hs8'
                       have Hz8' := Lib.hid hz8'
                       clear hn18 hA8 hn28 hb78 hs8' hz8'
                       clear hz8 hs8)
                    | (refine wpList_append_nr1 Hz8'.out (by decide) Hn28.out Hb78.out Hx2.out.1 (by rw [Hl2.out]; omega) rfl rfl _ _ rfl rfl rfl ?_
                       intro v9 w9 τ9 hn29 hz9 hs9
                       have hA9 := HA8.out.free (hs9.mono (fun g hg => by rw [hg]; exact free_sp))
                       have hn19 := Hn18.out.step hs9 (by decide) (by decide)
                       have hs9' := Hs8'.out.trans (hs9.mono (T := AnyTag) (fun g hg => by rw [hg]; exact free_any free_sp))
                       obtain ⟨p9, c9, rfl⟩ := hn29.val
                       have Hn19 := Lib.hid hn19
                       have HA9 := Lib.hid hA9
                       have Hn29 := Lib.hid hn29
                       have Hs9' := Lib.hid hs9'
                       clear hn19 hA9 hn29 hs9'
                       clear hz9 hs9))
                  go_round
                  case rel => exact ⟨kk + 1, τ9, by omega, by simp, by rw [Hu1.out]; have := Hn19.out; rw [List.length_append] at this; exact this, by rw [Hu2.out]; have := Hn29.out; rw [List.length_append] at this; exact this, HA9.out, Hs9'.out⟩
                  case measure => simp [intOf]; omega
                · obtain rfl : kk = 4 := by omega
                  have hw1 := hn1.row
                  have hw2 := hn2.row
                  rw [Hho.out] at hw1 hl1
                  rw [Hsp.out] at hw2
                  have hsl : ∃ P, sealAll (cur4 n) (H4.st + 1) = P := ⟨_, rfl⟩
                  obtain ⟨P, hP⟩ := hsl
                  obtain ⟨hok, hss, -, -⟩ := sealAll_ok (b := cur4 n) (hA.good.page n hnN).1.tidy.len (H4.st + 1) (by rw [show (2 : Nat) ^ 64 = 18446744073709551616 from by decide]; omega)
                  have hopn := open_any hw1 tData hl1
                  rw [hP] at hw1 hw2 hok hss hopn
                  have h1' : NR 0 wr τr tOut (.slice p1 (lastTo D5 n 4).length c1) P := by rw [← hP, ← Hho.out]; exact hn1
                  have h2' : NR 0 wr τr tSp (.slice p2 (lastTo D5 N 4).length c2) P := by rw [← hP, ← Hsp.out]; exact hn2
                  rw [lastTo_length] at h1' h2'
                  have hPl : P.length = 4 := by rw [← hP]; exact hl1
                  rw [lastTo_length D5 n 4, lastTo_length D5 N 4]
                  rw [hPl] at hopn
                  have hlt2 : ¬ ((H4.st + 1 : Nat) : Int) ≤ (l0 : Int) := by omega
                  obtain ⟨st1, hst1⟩ : ∃ st1, H4.st + 1 = st1 := ⟨_, rfl⟩
                  rw [hst1] at hlt2 hss hst5
                  have Hopn := Lib.hid hopn
                  have H1' := Lib.hid h1'
                  have H2' := Lib.hid h2'
                  have HA := Lib.hid hA
                  have Hs := Lib.hid hs
                  have Hok := Lib.hid hok
                  have Hss := Lib.hid hss
                  have HP := Lib.hid hP
                  have Hst1 := Lib.hid hst1
                  clear hopn h1' h2' hA hs hok hss hP hst1
                  clear hw1 hw2 hn1 hn2 hl1 hl2 HA5 Hs5 e4 HW Hho Hsp HA4 Hs4 hG
                  go_wp2_with fail
                  refine Hopn.out.mono ?_
                  rintro e w6 ⟨τ6, hs6, (⟨-, u6, rfl, hb6⟩ | ⟨hno, -⟩)⟩
                  · rw [Hss.out]
                    obtain ⟨q6, k6, rfl, -, -⟩ := hb6.any
                    have hsb := sameblocks_yes (H1'.out.row.step hs6 (fun h => h) (fun h => h)) (H2'.out.row.step hs6 (fun h => h) (fun h => h))
                    have hA6 := HA.out.step hs6
                    have hs6' := Hs.out.trans (hs6.mono (T := AnyTag) (fun _ h => h.elim))
                    have hlt3 : ¬ st1 ≤ l0 := by omega
                    have Hsb := Lib.hid hsb
                    have HA6 := Lib.hid hA6
                    have Hs6' := Lib.hid hs6'
                    clear hsb hA6 hs6'
                    clear hs6 hb6
                    go_wp2_with fail
                    refine Hsb.out.mono ?_
                    rintro e w7 ⟨rfl, q, hw7⟩
                    have hA7 := HA6.out.step ((Step.refl w6 τ6 nil).drews q)
                    have hs7 := Hs6'.out.drews q
                    rw [← hw7] at hA7 hs7
                    have HA7 := Lib.hid hA7
                    have Hs7 := Lib.hid hs7
                    clear hA7 hs7
                    clear hw7
                    go_wp2_with fail
                    go_round
                    case rel => have := Hst1.out; exact ⟨i + 1, st1, τ6, _, vs4, H5, L5, D5, G, s4, cur4, by omega, by simp, by simp, by omega, by omega, HA7.out, Hs7.out⟩
                    case measure => simp [intOf]; omega
                  · have := Hok.out
                    rw [hno] at this; cases this
          · obtain rfl : n = N := by omega
            go_wp2_with fail
            go_round
            case rel => exact ⟨i + 1, l0, τ4, _, vs4, H4, L4, D4, F4, s4, cur4, by omega, by simp, by simp, by omega, by omega, HA4.out, Hs4.out⟩
            case measure => simp [intOf]; omega
      · obtain rfl : i = len := by omega
        have HA := Lib.hid hA
        have Hs := Lib.hid hs
        clear hA hs
        go_wp2_with fail
        go_ret
        exact ⟨rfl, below_boxed Hs.out⟩
end Go.Proofs.YtgjoahddbieliaaGreat

/-
  PoolAhead, walked.
-/
namespace Go.Proofs.YtgjoahddbieliaaGreat
open Go.RowKit
set_option linter.unusedVariables false

theorem homeread {w : World} {τ : Tags} {N st n : Nat} {L : LogM} {D : Dev} {F : List Fr} {cur : Nat → List Int} (hg : Good N st L D F cur) (hst : st < 18446744073709551616) (hn : n < N) : sealOk (lastTo D n 4) = true ∧ ∀ (w : World) (τ : Tags) (v : Value) (g0 g : Tag), Bytes w τ g0 v (sealBody (lastTo D n 4)) → Calls Tryz.prog 18 #[v] w fun e w' => ∃ b τ' Z m, e = .returned (.tuple #[.pointer (some ⟨b, 0, none⟩), .int .u16 0]) ∧ PageAt w' τ' g b Z ∧ pageLSN Z = m ∧ (m = 0 ∨ m < L.base + L.lasts) ∧ Step w τ w' τ' nil := by
  obtain ⟨Q, hQ, -⟩ := hg.home n hn
  rcases hQ with ⟨h1, h2⟩ | ⟨s, h1, h2, h3, h4, h5⟩
  · rw [h1]
    refine ⟨blank_ok, fun w τ v g0 g hb => ?_⟩
    rw [blank_body] at hb
    refine (pageread_zero (g := g) hb).mono ?_
    rintro e w' ⟨b, τ', rfl, -, hp, hs⟩
    exact ⟨b, τ', emptyPage 0, 0, rfl, hp, empty0_lsn, .inl rfl, hs⟩
  · obtain ⟨k1, k2, k3, -⟩ := sealAll_ok (b := Q) h3.tidy.len s (by rw [show (2 : Nat) ^ 64 = 18446744073709551616 from by decide]; omega)
    rw [h2]
    refine ⟨k1, fun w τ v g0 g hb => ?_⟩
    rw [k3] at hb
    refine (pageread_sound (g := g) hb h3).mono ?_
    rintro e w' ⟨b, τ', rfl, -, hp, hs⟩
    exact ⟨b, τ', Q, _, rfl, hp, rfl, .inr h5, hs⟩
set_option maxHeartbeats 4000000 in
set_option maxRecDepth 100000 in
theorem law_ahead (w : World) (pg fr : Nat) (hpg : pg < 256) (hfr : fr < 256) (a : Option Addr) (len cap : Nat) (hlen : len ≤ maxLen) (ho : OpsP w a len) :
    Calls Tryz.prog 4 #[.int .u8 (pg : Int), .int .u8 (fr : Int), .slice a len cap] w fun e w' => e = .returned (.bool true) ∧ Below w.heap.size w w' := by
  have hhv := heavy_any w a len cap hlen ho
  have hkn := known_yes w
  have Hhv := Lib.hid hhv
  have Hkn := Lib.hid hkn
  have Ho := Lib.hid ho
  clear hhv hkn ho
  go_enter Tryz.func4, Tryz.ntmps4
  go_wp2_with fail
  refine Hhv.out.mono ?_
  rintro e w1 ⟨r, rfl, rfl, h40⟩
  cases r with
  | true =>
    go_wp2_with fail
    refine Hkn.out.mono ?_
    rintro e w2 ⟨rfl, hm⟩
    have Hm := Lib.hid hm
    clear hm
    go_wp2_with fail
    go_ret
    exact ⟨rfl, (Step.of nil Hm.out (Ext.refl w boxed)).below⟩
  | false =>
    have hl40 := h40 rfl
    clear h40 Hhv
    go_wp2_with fail
    refine Hkn.out.mono ?_
    rintro e w2 ⟨rfl, hm⟩
    have hs2 := boxed_known hm
    have hmd := made_all w2 pg fr hpg hfr
    have Hm := Lib.hid hm
    have Hs2 := Lib.hid hs2
    have Hmd := Lib.hid hmd
    clear hm hs2 hmd
    clear Hkn
    go_wp2_with fail
    refine Hmd.out.mono ?_
    rintro e w3 ⟨bw, bd, bl, bp, bf, k, N, τ3, was, vs, H, L, D, F, s, cur, rfl, hA, hst, hk3, hk7, hs3⟩
    have hs3' := Hs2.out.trans hs3
    have hN8 := hA.n8
    have HA := Lib.hid hA
    have Hs3' := Lib.hid hs3'
    clear hA hs3'
    clear Hmd hs3 Hs2 Hm
    go_wp2_with fail
    go_loopw [8] (fun v wr => ∃ (i : Nat) (τr : Tags) (was : Value) (vs : List (List (List Int))) (H : PoolH) (L : LogM) (D : Dev) (F : List Fr) (s : Ck.Clk.St) (cur : Nat → List Int), i ≤ len ∧ v = .int .i64 (i : Int) ∧ H.st ≤ 65 * i ∧ AllW wr τr bw bd bl bp bf k N i was vs H L D F s cur ∧ Step w boxed wr τr AnyTag) (fun v _ => len - (intOf v).toNat)
    case atStart => exact ⟨0, τ3, was, vs, H, L, D, F, s, cur, Nat.zero_le _, rfl, by omega, HA.out, Hs3'.out⟩
    case round =>
      clear HA Hs3' hst
      obtain ⟨i, τr, was, vs, H, L, D, F, s, cur, hi, rfl, hst, hA, hs⟩ := hrel
      by_cases hlt : i < len
      · obtain ⟨bo, ol, kd, pg', slot, v, data, pf, nf, cf, rfl, hop⟩ := Ho.out i hlt
        obtain ⟨pv, cv, rfl, -, -⟩ := hop.by_.any
        obtain ⟨o0, o1, o2, o3, o4, hby⟩ := hop.step hs
        have hil : (i : Int) < (len : Int) := by omega
        have hdo := does_any hA (by omega) (by omega) kd pg' hop.pb slot hby pf nf cf
        generalize data.length = dl at *
        have HA := Lib.hid hA
        have Hs := Lib.hid hs
        have Hdo := Lib.hid hdo
        have Hby := Lib.hid hby
        clear hA hs hdo hby
        clear hop
        go_wp2_with fail
        refine Hdo.out.mono ?_
        rintro e w4 ⟨rfl, was4, vs4, H4, L4, D4, F4, s4, cur4, τ4, hA4, hs41, hs42, hst4⟩
        have hs4 := Hs.out.trans hst4
        obtain ⟨bws, cap4, -, -, -, -, -, -, rfl, -⟩ := hA4.mv.latest hA4.vlen hA4.last (n := 0) (by omega)
        have HA4 := Lib.hid hA4
        have Hs4 := Lib.hid hs4
        clear hA4 hs4
        clear o0 o1 o2 o3 o4 Hdo HA Hs Hby hst4
        go_wp2_with fail
        go_loopw [10] (fun v wr => ∃ (n : Nat) (τr : Tags), n ≤ N ∧ v = .int .i64 (n : Int) ∧ AllW wr τr bw bd bl bp bf k N (i + 1) (.slice (some ⟨bws, 0, none⟩) N cap4) vs4 H4 L4 D4 F4 s4 cur4 ∧ Step w boxed wr τr AnyTag) (fun v _ => N - (intOf v).toNat)
        case atStart => exact ⟨0, τ4, Nat.zero_le _, rfl, HA4.out, Hs4.out⟩
        case round =>
          clear HA4 Hs4
          obtain ⟨n, τ5, hn, rfl, hA5, hs5⟩ := hrel
          have e4 := hA5.mv.own.at 4 (v := .slice (some ⟨bws, 0, none⟩) N cap4) rfl
          by_cases hnN : n < N
          · have hnI : (n : Int) < (N : Int) := by omega
            have HA5 := Lib.hid hA5
            have Hs5 := Lib.hid hs5
            clear hA5 hs5
            go_wp2_with fail
            go_loopw [11, 12] (fun h1 v wr => ∃ (kk : Nat) (τr : Tags), kk ≤ 4 ∧ v = .int .i64 (kk : Int) ∧ NR 0 wr τr tOut h1 (lastTo D4 n kk) ∧ AllW wr τr bw bd bl bp bf k N (i + 1) (.slice (some ⟨bws, 0, none⟩) N cap4) vs4 H4 L4 D4 F4 s4 cur4 ∧ Step w boxed wr τr AnyTag) (fun _ v _ => 4 - (intOf v).toNat)
            case atStart => exact ⟨0, τ5, Nat.zero_le _, rfl, NR.nil _ _ _ _, HA5.out, Hs5.out⟩
            case round =>
              clear HA5 Hs5 e4
              obtain ⟨kk, τr, hkk, rfl, hn1, hA, hs⟩ := hrel
              obtain ⟨p1, c1, rfl⟩ := hn1.val
              have hl1 := lastTo_length D4 n kk
              by_cases hk4 : kk < 4
              · have hdv := hA.mv.pool.dev
                have hf1 : D4.file 1 = D4.f1 := rfl
                have h4N := hA.good.f1
                have hkI : (kk : Int) < 4 := by omega
                have hi1 : IntKind.i64.wrap (n : Int) = (n : Int) := i64_small _ (by omega) (by omega)
                have hi2 : IntKind.i64.wrap (4 * (n : Int)) = 4 * (n : Int) := i64_small _ (by omega) (by omega)
                have hi3 : IntKind.i64.wrap (4 * (n : Int) + (kk : Int)) = 4 * (n : Int) + (kk : Int) := i64_small _ (by omega) (by omega)
                have hrd := read_any hdv 1 (by omega) (4 * n + kk) (by rw [hf1]; omega) tData
                have hx1 := hdv.last128 1 (4 * n + kk) (by rw [hf1]; omega)
                have hu1 := lastTo_succ D4 n kk
                rw [show ((4 * n + kk : Nat) : Int) = 4 * (n : Int) + (kk : Int) by omega] at hrd
                have c0 := hA.mv.own.at 0 (v := .pointer (some ⟨bd, 0, none⟩)) rfl
                have Hdv := Lib.hid hdv
                have Hrd := Lib.hid hrd
                have Hx1 := Lib.hid hx1
                have Hu1 := Lib.hid hu1
                have Hl1 := Lib.hid hl1
                have HA := Lib.hid hA
                have Hs := Lib.hid hs
                have Hn1 := Lib.hid hn1
                have H4N := Lib.hid h4N
                have Hf1 := Lib.hid hf1
                clear hdv hrd hx1 hu1 hl1 hA hs hn1 h4N hf1
                go_wp2_with fail
                refine Hrd.out.mono ?_
                rintro e w6 ⟨u6, τ6, rfl, hb6, hs6⟩
                obtain ⟨q6, k6, hu6, -, -⟩ := hb6.any
                rw [Hx1.out.1] at hu6
                subst hu6
                have hA7 := HA.out.step hs6
                have hn17 := Hn1.out.step hs6 (fun h => h) (fun h => h)
                have hs7 := Hs.out.trans (hs6.mono (T := AnyTag) (fun _ h => h.elim))
                have hz7 := step_z w6 τ6 AnyTag
                have Hb6 := Lib.hid hb6
                have HA7 := Lib.hid hA7
                have Hn17 := Lib.hid hn17
                have Hs7 := Lib.hid hs7
                have Hz7 := Lib.hid hz7
                clear hb6 hA7 hn17 hs7 hz7
                clear hs6 c0 HA Hs Hn1 Hdv Hrd
                go_wp2_with (at_builtin
                             refine wpList_append_nr1 Hz7.out (by decide) Hn17.out Hb6.out Hx1.out.1 (by rw [Hl1.out]; omega) rfl rfl _ _ rfl rfl rfl ?_
                             intro v8 w8 τ8 hn18 hz8 hs8
                             have hA8 := HA7.out.free (hs8.mono (fun g hg => by rw [hg]; exact free_out))
                             have hs8' := Hs7.out.trans (hs8.mono (T := AnyTag) (fun g hg => by rw [hg]; exact free_any free_out))
                             obtain ⟨p8, c8, rfl⟩ := hn18.val
                             have Hn18 := Lib.hid hn18
                             have HA8 := Lib.hid hA8
                             have Hs8' := Lib.hid hs8'
                             clear hn18 hA8 hs8'
                             clear hz8 hs8)
                go_round
                case rel => exact ⟨kk + 1, τ8, by omega, by simp, by rw [Hu1.out]; have := Hn18.out; rw [List.length_append] at this; exact this, HA8.out, Hs8'.out⟩
                case measure => simp [intOf]; omega
              · obtain rfl : kk = 4 := by omega
                have hw1 := hn1.row
                obtain ⟨hok, hrd⟩ := homeread (w := wr) (τ := τr) hA.good (by omega) hnN
                have hopn := open_any hw1 tData hl1
                rw [lastTo_length D4 n 4]
                rw [hl1] at hopn
                have Hopn := Lib.hid hopn
                have Hrd := Lib.hid hrd
                have Hok := Lib.hid hok
                have HA := Lib.hid hA
                have Hs := Lib.hid hs
                clear hopn hrd hok hA hs
                clear hw1 hn1 hl1
                go_wp2_with fail
                refine Hopn.out.mono ?_
                rintro e w6 ⟨τ6, hs6, (⟨-, u6, rfl, hb6⟩ | ⟨hno, -⟩)⟩
                · have hA6 := HA.out.step hs6
                  have hs6' := Hs.out.trans (hs6.mono (T := AnyTag) (fun _ h => h.elim))
                  have hr6 := Hrd.out w6 τ6 u6 tData tData hb6
                  obtain ⟨q6, k6, rfl, -, -⟩ := hb6.any
                  generalize sealStamp (lastTo D4 n 4) = ss at *
                  generalize (sealBody (lastTo D4 n 4)).length = sbl at *
                  have Hr6 := Lib.hid hr6
                  have HA6 := Lib.hid hA6
                  have Hs6' := Lib.hid hs6'
                  clear hr6 hA6 hs6'
                  clear hs6 hb6 HA Hs Hopn Hrd
                  go_wp2_with fail
                  refine Hr6.out.mono ?_
                  rintro e w7 ⟨b7, τ7, Z, m, rfl, hp7, hm, hml, hs7⟩
                  have hA7 := HA6.out.step hs7
                  have hs7' := Hs6'.out.trans (hs7.mono (T := AnyTag) (fun _ h => h.elim))
                  have hlsn := pagelsn_any (hp7.step (Step.refl w7 τ7 nil).drew (fun h => h))
                  have hlst := Lasts_any (hA7.step (Step.refl w7 τ7 nil).drew).mv.pool.log
                  rw [hm] at hlsn
                  rw [hA7.hbl] at hlst
                  obtain ⟨la, hla⟩ : ∃ la, L4.base + L4.lasts = la := ⟨_, rfl⟩
                  rw [hla] at hlst hml
                  have g1 := hA7.mv.own.at 1 (v := .pointer (some ⟨bl, 0, none⟩)) rfl
                  by_cases hm0 : m = 0
                  · have hlq : ∀ q, Calls Tryz.prog 19 #[.pointer (some ⟨b7, 0, none⟩)] (w7.drewN q) fun e w' => e = .returned (.int .u64 0) ∧ w' = w7.drewN q := fun q => by
                      have := pagelsn_any (hp7.step ((Step.refl w7 τ7 nil).drews q) (fun h => h))
                      rw [hm, hm0] at this
                      exact this.mono (fun _ _ ⟨h1, h2⟩ => ⟨h1, h2.symm⟩)
                    have hd0 : decide ((0 : Int) < 0) = false := by decide
                    have Hlq := Lib.hid hlq
                    have HA7 := Lib.hid hA7
                    have Hs7' := Lib.hid hs7'
                    clear hlq hA7 hs7'
                    clear hml hm hp7 hs7 hm0 hlsn hlst
                    go_wp2_with fail
                    go_quiet ((go_at_call 19; exact Calls.quiet_of_same (Hlq.out _)))
                    go_wp2_with fail
                    go_round
                    case rel =>
                      have h1 := HA7.out.step ((Step.refl w7 τ7 nil).drews nq)
                      have h2 := Hs7'.out.drews nq
                      exact ⟨n + 1, τ7, by omega, by simp, h1, h2⟩
                    case measure => simp [intOf]; omega
                  · have hd0 : decide ((0 : Int) < (m : Int)) = true := by simp; omega
                    have hd1 : decide ((la : Int) ≤ (m : Int)) = false := by simp; omega
                    have hd2 : decide (0 < m) = true := by simp; omega
                    have hd3 : decide (la ≤ m) = false := by simp; omega
                    have hp7' := hp7.step (Step.refl w7 τ7 nil).drew (fun h => h)
                    have Hlsn := Lib.hid hlsn
                    have HA7 := Lib.hid hA7
                    have Hs7' := Lib.hid hs7'
                    have Hlst := Lib.hid hlst
                    have Hp7' := Lib.hid hp7'
                    have Hm := Lib.hid hm
                    clear hlsn hA7 hs7' hlst hp7' hm
                    clear hml hp7 hs7 hm0
                    go_wp2_with fail
                    go_region_held3 (fun w' => w'.cell? ⟨bw, 1, none⟩ = some (.pointer (some ⟨bl, 0, none⟩))) (go_keep) (first
                      | (go_at_call 19
                         refine Hlsn.out.mono ?_
                         rintro e w8 ⟨rfl, rfl⟩)
                      | (go_at_call 20
                         refine Hlst.out.mono ?_
                         rintro e w8 ⟨rfl, hs8⟩
                         have hA8 := (HA7.out.step (Step.refl w7 τ7 nil).drew).step hs8
                         have hs8' := Hs7'.out.drew.trans (hs8.mono (T := AnyTag) (fun _ h => h.elim))
                         have hlsn2 := pagelsn_any (Hp7'.out.step hs8 (fun h => h))
                         rw [Hm.out] at hlsn2
                         have g11 := hA8.mv.own.at 1 (v := .pointer (some ⟨bl, 0, none⟩)) rfl
                         have HA8 := Lib.hid hA8
                         have Hs8' := Lib.hid hs8'
                         have Hlsn2 := Lib.hid hlsn2
                         clear hA8 hs8' hlsn2)
                      | (go_at_call 19
                         refine Hlsn2.out.mono ?_
                         rintro e w8 ⟨rfl, rfl⟩))
                    go_wp2_with fail
                    go_round
                    case rel =>
                      exact ⟨n + 1, τ7, by omega, by simp, HA8.out, Hs8'.out⟩
                    case measure => simp [intOf]; omega
                · have := Hok.out
                  rw [hno] at this; cases this
          · obtain rfl : n = N := by omega
            have HA5 := Lib.hid hA5
            have Hs5 := Lib.hid hs5
            clear hA5 hs5
            go_wp2_with fail
            go_round
            case rel => exact ⟨i + 1, τ5, _, vs4, H4, L4, D4, F4, s4, cur4, by omega, by simp, by omega, HA5.out, Hs5.out⟩
            case measure => simp [intOf]; omega
      · obtain rfl : i = len := by omega
        have HA := Lib.hid hA
        have Hs := Lib.hid hs
        clear hA hs
        go_wp2_with fail
        go_ret
        exact ⟨rfl, below_boxed Hs.out⟩
end Go.Proofs.YtgjoahddbieliaaGreat
