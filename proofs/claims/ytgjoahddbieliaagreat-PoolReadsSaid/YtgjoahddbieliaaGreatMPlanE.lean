/-
  A new pool over a device on which all is written, in plain Lean.
-/
import Derived.Test.YtgjoahddbieliaaGreatML12R
import Derived.Test.YtgjoahddbieliaaGreatMDevE
namespace Go.Proofs.YtgjoahddbieliaaGreat
open Go.RowKit
set_option linter.unusedVariables false

theorem le_stampTo {D : Dev} (n i : Nat) (hi : i < n) : greatTo (lastTo D i 4) 4 ≤ stampTo D n := by
  induction n with
  | zero => omega
  | succ n ih =>
    show _ ≤ max (stampTo D n) (greatTo (lastTo D n 4) 4)
    by_cases e : i = n
    · subst e; omega
    · have := ih (by omega); omega
theorem stampTo_le {D : Dev} {st : Nat} (n : Nat) (h : ∀ i, i < n → greatTo (lastTo D i 4) 4 ≤ st) : stampTo D n ≤ st := by
  induction n with
  | zero => exact Nat.zero_le _
  | succ n ih =>
    show max (stampTo D n) (greatTo (lastTo D n 4) 4) ≤ st
    have h1 := ih (fun i hi => h i (by omega))
    have h2 := h n (by omega)
    omega
theorem great_seal {Q : List Int} (hQ : Q.length = 448) {s : Nat} (hs : s < 18446744073709551616) : greatTo (sealAll Q s) 4 = s :=
  (sealAll_ok hQ s (by rw [show (2 : Nat) ^ 64 = 18446744073709551616 from by decide]; exact hs)).2.2.2
theorem Good.great {N st : Nat} {L : LogM} {D : Dev} {F : List Fr} {cur : Nat → List Int} (h : Good N st L D F cur) (hst : st < 18446744073709551616) (i : Nat) (hi : i < N + 1) : greatTo (lastTo D i 4) 4 ≤ st := by
  by_cases e : i = N
  · subst e
    rcases h.spare with h1 | ⟨Q, s, h1, h2, h3⟩
    · rw [h1, blank_great]; exact Nat.zero_le _
    · rw [h3, great_seal h2 (by omega)]; exact h1
  · obtain ⟨Q, hQ, -⟩ := h.home i (by omega)
    rcases hQ with ⟨h1, -⟩ | ⟨s, h1, h2, h3, -, -⟩
    · rw [h1, blank_great]; exact Nat.zero_le _
    · rw [h2, great_seal h3.tidy.len (by omega)]; exact h1
theorem Good.fresh {N st : Nat} {L : LogM} {D : Dev} {F : List Fr} {cur : Nat → List Int} (h : Good N st L D F cur) (hst : st < 18446744073709551616) (hcl : ∀ (i : Nat) (f : Fr), F[i]? = some f → f.first = 0) (k : Nat) : Good N (stampTo D (N + 1)) L D (List.replicate k Fr.no) cur := by
  have hno : ∀ (i : Nat) (f : Fr), (List.replicate k Fr.no)[i]? = some f → f = Fr.no := fun i f hf => List.eq_of_mem_replicate (List.mem_of_getElem? hf)
  refine ⟨h.calm, h.f1, h.f0, h.cap, h.lasts, h.rise, h.base, h.page, fun n hn => ?_, fun i f b P hf hp => ?_, fun i f hf _ => hno i f hf, fun i j n f g hf _ hh _ => ?_, ?_⟩
  · obtain ⟨Q, hQ, hq⟩ := h.home n hn
    refine ⟨Q, ?_, fun _ => hq (fun i f hf _ => hcl i f hf)⟩
    rcases hQ with h1 | ⟨s, h1, h2, h3, h4, h5⟩
    · exact .inl h1
    · refine .inr ⟨s, ?_, h2, h3, h4, h5⟩
      have := le_stampTo (D := D) (N + 1) n (by omega)
      rw [h2, great_seal h3.tidy.len (by omega)] at this
      exact this
  · rw [hno i f hf] at hp; cases hp
  · rw [hno i f hf] at hh; cases hh
  · rcases h.spare with h1 | ⟨Q, s, h1, h2, h3⟩
    · exact .inl h1
    · refine .inr ⟨Q, s, ?_, h2, h3⟩
      have := le_stampTo (D := D) (N + 1) N (by omega)
      rw [h3, great_seal h2 (by omega)] at this
      exact this
theorem Good.calmed {N st : Nat} {L : LogM} {D : Dev} {F : List Fr} {cur : Nat → List Int} (h : Good N st L D F cur) (b : Bool) : Good N st L { D with halted := b } F cur :=
  ⟨⟨h.calm.left, h.calm.waits⟩, h.f1, h.f0, h.cap, h.lasts, h.rise, h.base, h.page, h.home, h.frame, h.none, h.one, h.spare⟩
theorem Good.whole {N st : Nat} {L : LogM} {D : Dev} {F : List Fr} {cur : Nat → List Int} (h : Good N st L D F cur) (hst : st < 18446744073709551616) {n : Nat} (hn : n < N) : sealOk (lastTo D n 4) = true := by
  obtain ⟨Q, hQ, -⟩ := h.home n hn
  rcases hQ with ⟨h1, -⟩ | ⟨s, h1, h2, h3, -, -⟩
  · rw [h1]; exact blank_ok
  · rw [h2]; exact (sealAll_ok h3.tidy.len s (by rw [show (2 : Nat) ^ 64 = 18446744073709551616 from by decide]; omega)).1
end Go.Proofs.YtgjoahddbieliaaGreat

/-
  Another pool over the same log: a page got, put back.
-/
namespace Go.Proofs.YtgjoahddbieliaaGreat
open Go.RowKit
set_option linter.unusedVariables false

structure NewW (w : World) (τ : Tags) (bw bd bl bq bp bf k N m : Nat) (was : Value) (vs : List (List (List Int))) (H : PoolH) (L : LogM) (D : Dev) (F : List Fr) (s : Ck.Clk.St) (cur : Nat → List Int) : Prop where
  own : Own w τ bw tWorld 31 [.pointer (some ⟨bd, 0, none⟩), .pointer (some ⟨bl, 0, none⟩), .pointer (some ⟨bq, 0, none⟩), .int .i64 (k : Int), was]
  vers : Vers w τ was vs
  pool : PoolW w τ bp bf bd H L D F s
  good : Good N H.st L D F cur
  hn : H.n = N
  n8 : 1 ≤ N ∧ N ≤ 8
  vlen : vs.length = N
  last : ∀ n, n < N → ∃ ver, vs[n]? = some ver ∧ 0 < ver.length ∧ ver.length ≤ m + 1 ∧ ver.getD (ver.length - 1) [] = cur n
theorem NewW.step {w w' : World} {τ τ' : Tags} {bw bd bl bq bp bf k N m : Nat} {was : Value} {vs : List (List (List Int))} {H : PoolH} {L : LogM} {D : Dev} {F : List Fr} {s : Ck.Clk.St} {cur : Nat → List Int} (h : NewW w τ bw bd bl bq bp bf k N m was vs H L D F s cur) (hs : Step w τ w' τ' nil) : NewW w' τ' bw bd bl bq bp bf k N m was vs H L D F s cur :=
  ⟨h.own.step hs (fun h => h), h.vers.step hs (fun h => h) (fun _ h => h) (fun h => h), h.pool.step hs (fun _ h => h.elim), h.good, h.hn, h.n8, h.vlen, h.last⟩
theorem NewW.turn {w w' : World} {τ τ' : Tags} {bw bd bl bq bp bf k N m : Nat} {was : Value} {vs : List (List (List Int))} {H H' : PoolH} {L L' : LogM} {D D' : Dev} {F F' : List Fr} {s s' : Ck.Clk.St} {cur : Nat → List Int} (h : NewW w τ bw bd bl bq bp bf k N m was vs H L D F s cur) (hs : Step w τ w' τ' PWTag) (hp : PoolW w' τ' bp bf bd H' L' D' F' s') (hg : Good N H'.st L' D' F' cur) (hn : H'.n = N) : NewW w' τ' bw bd bl bq bp bf k N m was vs H' L' D' F' s' cur :=
  ⟨h.own.step hs (fun hx => (pw_world hx).1 rfl), h.vers.step hs (fun hx => (pw_world hx).2.1 rfl) (fun n hx => (pw_world hx).2.2.1 n rfl) (fun hx => (pw_world hx).2.2.2.2 rfl), hp, hg, hn, h.n8, h.vlen, h.last⟩
/-- a page of it is got -/
structure NewIn (F : List Fr) (s : Ck.Clk.St) (cur : Nat → List Int) (n i b : Nat) (f : Fr) : Prop where
  held : Held F s i
  at_ : F[i]? = some f
  pg : f.pg = some (b, cur n)
  fn : f.n = n
theorem new_get {w : World} {τ : Tags} {bw bd bl bq bp bf k N m : Nat} {was : Value} {vs : List (List (List Int))} {H : PoolH} {L : LogM} {D : Dev} {F : List Fr} {s : Ck.Clk.St} {cur : Nat → List Int} (h : NewW w τ bw bd bl bq bp bf k N m was vs H L D F s cur) (hc : Clock F s) (hst : H.st + 1 < 18446744073709551616) (n : Nat) (hn : n < N) :
    Calls Tryz.prog 12 #[.pointer (some ⟨bp, 0, none⟩), .int .u32 (n : Int)] w fun e w' => ∃ b, e = .returned (.tuple #[.pointer (some ⟨b, 0, none⟩), .int .u16 0]) ∧ ∃ τ' H' L' D' F' s' i f, NewW w' τ' bw bd bl bq bp bf k N m was vs H' L' D' F' s' cur ∧ NewIn F' s' cur n i b f ∧ H.st ≤ H'.st ∧ H'.st ≤ H.st + 1 ∧ Step w τ w' τ' PWTag := by
  refine (get_good h.pool h.good hc h.hn hst n hn).mono ?_
  rintro e w' ⟨b, rfl, τ', H', L', D', F', s', i, f, g⟩
  exact ⟨b, rfl, τ', H', L', D', F', s', i, f, h.turn g.step g.pool g.good g.hn, ⟨g.held, g.at_, g.pg, g.fn⟩, g.st.1, g.st.2, g.step⟩
theorem NewW.page {w : World} {τ : Tags} {bw bd bl bq bp bf k N m : Nat} {was : Value} {vs : List (List (List Int))} {H : PoolH} {L : LogM} {D : Dev} {F : List Fr} {s : Ck.Clk.St} {cur : Nat → List Int} {n i b : Nat} {f : Fr} (h : NewW w τ bw bd bl bq bp bf k N m was vs H L D F s cur) (hi : NewIn F s cur n i b f) : PageAt w τ (tPg i) b (cur n) :=
  h.pool.pool.pg i b (cur n) (by rw [hi.at_]; exact hi.pg)
theorem new_put {w : World} {τ : Tags} {bw bd bl bq bp bf k N m : Nat} {was : Value} {vs : List (List (List Int))} {H : PoolH} {L : LogM} {D : Dev} {F : List Fr} {s : Ck.Clk.St} {cur : Nat → List Int} {n i b : Nat} {f : Fr} (h : NewW w τ bw bd bl bq bp bf k N m was vs H L D F s cur) (hi : NewIn F s cur n i b f) (hn : n < N) :
    Calls Tryz.prog 13 #[.pointer (some ⟨bp, 0, none⟩), .int .u32 (n : Int), .int .u64 0] w fun e w' => e = .returned (.bool true) ∧ ∃ s', NewW w' τ bw bd bl bq bp bf k N m was vs H L D F s' cur ∧ Clock F s' ∧ Step w τ w' τ PWTag := by
  have hh : s.h < s.n := by
    obtain ⟨bf, hp, _⟩ := h.pool.pool.ck.is
    exact hp.hh
  obtain ⟨h1, h2, h3, h4⟩ := hi.held.put hh
  have hN := h.n8
  have hw : whereOf F n = some i := (whereOf_iff h.pool.pool.one n i).2 ⟨f, hi.at_, has_iff.2 ⟨b, cur n, hi.pg, hi.fn⟩⟩
  have := put_zero h.pool.pool n (by omega) hw hi.held.lt h3
  rw [h2, decide_eq_true h1, if_neg h1] at this
  refine this.mono ?_
  rintro e w' ⟨rfl, hp, hs⟩
  have hsp : Step w τ w' τ PoolTag := hs.mono (fun g hg => .inr (.inr (.inr (.inl hg))))
  have hsw : Step w τ w' τ PWTag := hsp.mono (fun _ hg => .inl hg)
  exact ⟨rfl, _, h.turn hsw (h.pool.turn hp hsp) h.good h.hn, h4 F rfl (fun j f g hf hg => by rw [hf] at hg; cases hg; rfl), hsw⟩
end Go.Proofs.YtgjoahddbieliaaGreat

/-
  PoolReads, walked.
-/
namespace Go.Proofs.YtgjoahddbieliaaGreat
open Go.RowKit
set_option linter.unusedVariables false

theorem AllW.clean {F : List Fr} (h : DirtyIn F []) : ∀ (i : Nat) (f : Fr), F[i]? = some f → f.first = 0 := fun i f hf => by
  rcases Nat.eq_zero_or_pos f.first with e | e
  · exact e
  · have := h i f hf e
    simp at this
theorem clean_dirty {F : List Fr} (h : DirtyIn F []) : dirtyF F = [] := by
  unfold dirtyF dirtyTo
  rw [List.take_length, List.map_eq_nil_iff, List.filter_eq_nil_iff]
  intro f hf
  obtain ⟨i, hi, rfl⟩ := List.mem_iff_getElem.1 hf
  have := AllW.clean h i F[i] (List.getElem?_eq_getElem hi)
  rw [this]; simp
theorem dirty_done {w : World} {τ : Tags} {bp bf : Nat} {H : PoolH} {F : List Fr} {s : Ck.Clk.St} (h : PoolAt w τ bp bf H F s) (hd : DirtyIn F []) :
    Calls Tryz.prog 24 #[.pointer (some ⟨bp, 0, none⟩)] w fun e w' => ∃ p c τ', e = .returned (.slice p 0 c) ∧ Step w τ w' τ' nil := by
  have hk := h.k1
  refine (dirty_gen h (sortd_all F.length (by omega))).mono ?_
  rintro e w' ⟨v, τ', l, rfl, hp, -, hnd, hs⟩
  rw [clean_dirty hd] at hp
  have := hp.eq_nil
  subst this
  obtain ⟨p, c, rfl⟩ := hnd.val
  exact ⟨p, c, τ', rfl, hs⟩
theorem dev_any_tag {g : Tag} (h : CrashTag g) : g ≠ tWorld ∧ g ≠ tWas ∧ (∀ n, g ≠ tVer n) ∧ g ≠ tData ∧ ¬ LogTag g ∧ AnyTag g := by
  have hf := h.fst
  refine ⟨fun e => ?_, fun e => ?_, fun n e => ?_, fun e => ?_, fun e => ?_, fun e => ?_⟩
  · subst e; rcases hf with h | h <;> cases h
  · subst e; rcases hf with h | h <;> cases h
  · subst e; rcases hf with h | h <;> cases h
  · subst e; rcases hf with h | h <;> cases h
  · rcases e with rfl | rfl | rfl <;> (rcases hf with h | h <;> cases h)
  · rw [e] at hf; rcases hf with h | h <;> cases h
set_option maxHeartbeats 4000000 in
set_option maxRecDepth 100000 in
theorem law_reads (w : World) (pg fr : Nat) (hpg : pg < 256) (hfr : fr < 256) (a : Option Addr) (len cap : Nat) (hlen : len ≤ maxLen) (ho : OpsP w a len) :
    Calls Tryz.prog 6 #[.int .u8 (pg : Int), .int .u8 (fr : Int), .slice a len cap] w fun e w' => e = .returned (.bool true) ∧ Below w.heap.size w w' := by
  have hhv := heavy_any w a len cap hlen ho
  have hkn := known_yes w
  have Hhv := Lib.hid hhv
  have Hkn := Lib.hid hkn
  have Ho := Lib.hid ho
  clear hhv hkn ho
  go_enter Tryz.func6, Tryz.ntmps6
  go_wp2_with fail
  refine Hhv.out.mono ?_
  rintro e w1 ⟨r, rfl, rfl, h40⟩
  cases r with
  | true =>
    go_wp2_with fail
    refine Hkn.out.mono ?_
    rintro e w2 ⟨rfl, hm⟩
    have Hm := Lib.hid hm
    clear hm
    go_wp2_with fail
    go_ret
    exact ⟨rfl, (Step.of nil Hm.out (Ext.refl w boxed)).below⟩
  | false =>
    have hl40 := h40 rfl
    clear h40 Hhv
    go_wp2_with fail
    refine Hkn.out.mono ?_
    rintro e w2 ⟨rfl, hm⟩
    have hs2 := boxed_known hm
    have hmd := made_all w2 pg fr hpg hfr
    have Hm := Lib.hid hm
    have Hs2 := Lib.hid hs2
    have Hmd := Lib.hid hmd
    clear hm hs2 hmd
    clear Hkn
    go_wp2_with fail
    refine Hmd.out.mono ?_
    rintro e w3 ⟨bw, bd, bl, bp, bf, k, N, τ3, was, vs, H, L, D, F, s, cur, rfl, hA, hst, hk3, hk7, hs3⟩
    have hs3' := Hs2.out.trans hs3
    have hN8 := hA.n8
    have HA := Lib.hid hA
    have Hs3' := Lib.hid hs3'
    clear hA hs3'
    clear Hmd hs3 Hs2 Hm
    go_wp2_with fail
    go_loopw [8] (fun v wr => ∃ (i : Nat) (τr : Tags) (was : Value) (vs : List (List (List Int))) (H : PoolH) (L : LogM) (D : Dev) (F : List Fr) (s : Ck.Clk.St) (cur : Nat → List Int), i ≤ len ∧ v = .int .i64 (i : Int) ∧ H.st ≤ 65 * i ∧ AllW wr τr bw bd bl bp bf k N i was vs H L D F s cur ∧ Step w boxed wr τr AnyTag) (fun v _ => len - (intOf v).toNat)
    case atStart => exact ⟨0, τ3, was, vs, H, L, D, F, s, cur, Nat.zero_le _, rfl, by omega, HA.out, Hs3'.out⟩
    case round =>
      clear HA Hs3' hst
      obtain ⟨i, τr, was, vs, H, L, D, F, s, cur, hi, rfl, hst, hA, hs⟩ := hrel
      by_cases hlt : i < len
      · obtain ⟨bo, ol, kd, pg', slot, v, data, pf, nf, cf, rfl, hop⟩ := Ho.out i hlt
        obtain ⟨pv, cv, rfl, -, -⟩ := hop.by_.any
        obtain ⟨o0, o1, o2, o3, o4, hby⟩ := hop.step hs
        have hil : (i : Int) < (len : Int) := by omega
        have hdo := does_any hA (by omega) (by omega) kd pg' hop.pb slot hby pf nf cf
        generalize data.length = dl at *
        have HA := Lib.hid hA
        have Hs := Lib.hid hs
        have Hdo := Lib.hid hdo
        have Hby := Lib.hid hby
        clear hA hs hdo hby
        clear hop
        go_wp2_with fail
        refine Hdo.out.mono ?_
        rintro e w4 ⟨rfl, was4, vs4, H4, L4, D4, F4, s4, cur4, τ4, hA4, hs41, hs42, hst4⟩
        have hs4 := Hs.out.trans hst4
        have HA4 := Lib.hid hA4
        have Hs4 := Lib.hid hs4
        clear hA4 hs4
        clear o0 o1 o2 o3 o4 Hdo HA Hs Hby hst4
        go_wp2_with fail
        go_round
        case rel => exact ⟨i + 1, τ4, was4, vs4, H4, L4, D4, F4, s4, cur4, by omega, by simp, by omega, HA4.out, Hs4.out⟩
        case measure => simp [intOf]; omega
      · obtain rfl : i = len := by omega
        have c2 := hA.mv.own.at 2 (v := .pointer (some ⟨bp, 0, none⟩)) rfl
        have hwa := writeall_good hA (by omega)
        have HA := Lib.hid hA
        have Hs := Lib.hid hs
        have Hwa := Lib.hid hwa
        clear hA hs hwa
        go_wp2_with fail
        refine Hwa.out.mono ?_
        rintro e w4 ⟨rfl, τ4, H4, L4, D4, F4, hA4, hs41, hs42, hdi, hst4⟩
        have hs4 := Hs.out.trans hst4
        have d2 := hA4.mv.own.at 2 (v := .pointer (some ⟨bp, 0, none⟩)) rfl
        have hdr := dirty_done hA4.mv.pool.pool hdi
        have HA4 := Lib.hid hA4
        have Hs4 := Lib.hid hs4
        have Hdi := Lib.hid hdi
        have Hdr := Lib.hid hdr
        clear hA4 hs4 hdi hdr
        clear c2 HA Hs Hwa hst4
        go_wp2_with fail
        refine Hdr.out.mono ?_
        rintro e w5 ⟨p5, c5, τ5, rfl, hs5⟩
        have hA5 := HA4.out.step hs5
        have hs5' := Hs4.out.trans (hs5.mono (T := AnyTag) (fun _ h => h.elim))
        have e0 := hA5.mv.own.at 0 (v := .pointer (some ⟨bd, 0, none⟩)) rfl
        have hcr := crash_any hA5.mv.pool.dev (a := none) (l := []) (len := 0) (cap := 0) rfl (Nat.zero_le _) (fun k x hx => by simp at hx)
        rw [Dev.crash_calm hA5.good.calm] at hcr
        have HA5 := Lib.hid hA5
        have Hs5' := Lib.hid hs5'
        have Hcr := Lib.hid hcr
        clear hA5 hs5' hcr
        clear HA4 Hs4 hs5 d2 Hdr
        go_wp2_with fail
        refine Hcr.out.mono ?_
        rintro e w6 ⟨rfl, τ6, hd6, hs6⟩
        have hA := HA5.out
        obtain ⟨bws, cap4, -, -, -, -, -, -, hwas, -⟩ := hA.mv.latest hA.vlen hA.last (n := 0) (by omega)
        subst hwas
        have ho6 := hA.mv.own.step hs6 (fun h => by have := dev_any_tag h; exact this.1 rfl)
        have hv6 := hA.mv.was.step hs6 (fun h => (dev_any_tag h).2.1 rfl) (fun n h => (dev_any_tag h).2.2.1 n rfl) (fun h => (dev_any_tag h).2.2.2.1 rfl)
        have hl6 := hA.mv.pool.log.step hs6 (fun g hg h => (dev_any_tag h).2.2.2.2.1 hg)
        rw [hA.hbl] at hl6
        have hst6 := Hs5'.out.trans (hs6.mono (T := AnyTag) (fun g h => (dev_any_tag h).2.2.2.2.2))
        have hgd := hA.good.calmed false
        obtain ⟨D6, hD6⟩ : ∃ D6, ({ D4 with halted := false } : Dev) = D6 := ⟨_, rfl⟩
        rw [hD6] at hd6 hgd
        have f0 := ho6.at 1 (v := .pointer (some ⟨bl, 0, none⟩)) rfl
        have f3 := ho6.at 3 (v := .int .i64 (k : Int)) rfl
        have f4 := ho6.at 4 (v := .slice (some ⟨bws, 0, none⟩) N cap4) rfl
        have hnew : ∀ q, Calls Tryz.prog 26 #[.pointer (some ⟨bl, 0, none⟩), .int .i64 (N : Int), .int .i64 (k : Int)] (w6.drewN q) fun e w' => ∃ bp bf τ' H, e = .returned (.tuple #[.pointer (some ⟨bp, 0, none⟩), .int .u16 0]) ∧ PoolAt w' τ' bp bf H (List.replicate k Fr.no) (Ck.Clk.newS k) ∧ H.bl = bl ∧ H.n = N ∧ H.st = stampTo D6 (N + 1) ∧ (w6.drewN q).heap.size ≤ bp ∧ Step (w6.drewN q) τ6 w' τ' nil := fun q => by
          have hq := (Step.refl w6 τ6 nil).drews q
          exact poolnew_yes (hl6.step hq (fun _ _ h => h)) (hd6.step hq (fun _ h => h.elim)) N k (by omega) (by omega) (by omega) (by omega) (by rw [hgd.f1]; omega) (fun i hi => hgd.whole (by omega) hi)
        have hvl := hA.vlen
        have hla := hA.last
        have hn8 := hA.n8
        have hfr := hgd.fresh (by omega) (AllW.clean Hdi.out) k
        have hsp := stampTo_le (D := D6) (st := H4.st) (N + 1) (fun i hi => hgd.great (by omega) i hi)
        have Ho6 := Lib.hid ho6
        have Hv6 := Lib.hid hv6
        have Hl6 := Lib.hid hl6
        have Hd6 := Lib.hid hd6
        have Hst6 := Lib.hid hst6
        have Hnew := Lib.hid hnew
        have Hfr := Lib.hid hfr
        have Hsp := Lib.hid hsp
        have Hla := Lib.hid hla
        have Hvl := Lib.hid hvl
        clear ho6 hv6 hl6 hd6 hst6 hnew hfr hsp hla hvl
        clear HA5 Hs5' hs6 hgd e0 Hcr hA Hdi
        go_wp2_with fail
        go_region_held3 (fun w' => w'.cell? ⟨bw, 1, none⟩ = some (.pointer (some ⟨bl, 0, none⟩)) ∧ w'.cell? ⟨bw, 3, none⟩ = some (.int .i64 (k : Int)) ∧ w'.cell? ⟨bw, 4, none⟩ = some (.slice (some ⟨bws, 0, none⟩) N cap4)) (go_keep) (first
          | (go_at_call 26
             refine (Hnew.out 1).mono ?_
             rintro e w7 ⟨bp7, bf7, τ7, H7, rfl, hp7, hHl7, hHn7, hHs7, -, hs7⟩
             have ho7 := (Ho6.out.step (Step.refl w6 τ6 nil).drew (fun h => h)).step hs7 (fun h => h)
             have i1 := ho7.at 1 (v := .pointer (some ⟨bl, 0, none⟩)) rfl
             have i3 := ho7.at 3 (v := .int .i64 (k : Int)) rfl
             have i4 := ho7.at 4 (v := .slice (some ⟨bws, 0, none⟩) N cap4) rfl
             have Hp7 := Lib.hid hp7
             have HHl7 := Lib.hid hHl7
             have HHn7 := Lib.hid hHn7
             have HHs7 := Lib.hid hHs7
             have Ho7 := Lib.hid ho7
             have Hs7 := Lib.hid hs7
             clear hp7 hHl7 hHn7 hHs7 ho7 hs7))
        have hq6 : Step w6 τ6 w7 τ7 nil := ((Step.refl w6 τ6 nil).drews 1).trans Hs7.out
        have hN7 : NewW w7 τ7 bw bd bl bp bp7 bf7 k N i (.slice (some ⟨bws, 0, none⟩) N cap4) vs H7 L4 D6 (List.replicate k Fr.no) (Ck.Clk.newS k) cur :=
          ⟨Ho7.out, Hv6.out.step hq6 (fun h => h) (fun _ h => h) (fun h => h), ⟨Hp7.out, by rw [HHl7.out]; exact Hl6.out.step hq6 (fun _ _ h => h), Hd6.out.step hq6 (fun _ h => h.elim)⟩, by rw [HHs7.out]; exact Hfr.out, HHn7.out, hn8, Hvl.out, Hla.out⟩
        have hc7 : Clock (List.replicate k Fr.no) (Ck.Clk.newS k) := mg_clock k hk3 (by omega)
        have hst7 := Hst6.out.trans (hq6.mono (T := AnyTag) (fun _ h => h.elim))
        have hb7 : H7.st ≤ 100000 := by have := HHs7.out; have := Hsp.out; omega
        obtain ⟨st0, hst0⟩ : ∃ st0, H7.st = st0 := ⟨_, rfl⟩
        rw [hst0] at hb7
        have HN7 := Lib.hid hN7
        have HC7 := Lib.hid hc7
        have HST7 := Lib.hid hst7
        have HST0 := Lib.hid hst0
        clear hN7 hc7 hst7 hst0 hq6 Ho6 Hv6 Hl6 Hd6 Hst6 Hnew Hfr Hsp Hp7 HHl7 HHn7 HHs7 Ho7 Hs7 f0 f3 f4 i1 i3 i4 hD6
        go_wp2_with fail
        go_loopw [12] (fun v wr => ∃ (n : Nat) (τr : Tags) (Hr : PoolH) (Lr : LogM) (Dr : Dev) (Fr' : List Fr) (sr : Ck.Clk.St), n ≤ N ∧ v = .int .i64 (n : Int) ∧ Hr.st ≤ st0 + n ∧ NewW wr τr bw bd bl bp bp7 bf7 k N i (.slice (some ⟨bws, 0, none⟩) N cap4) vs Hr Lr Dr Fr' sr cur ∧ Clock Fr' sr ∧ Step w boxed wr τr AnyTag) (fun v _ => N - (intOf v).toNat)
        case atStart => exact ⟨0, τ7, H7, L4, D6, _, _, Nat.zero_le _, rfl, by have := HST0.out; omega, HN7.out, HC7.out, HST7.out⟩
        case round =>
          clear HN7 HC7 HST7
          obtain ⟨n, τr, Hr, Lr, Dr, Fr', sr, hn, rfl, hsr, hN, hC, hS⟩ := hrel
          have c4 := hN.own.at 4 (v := .slice (some ⟨bws, 0, none⟩) N cap4) rfl
          by_cases hnN : n < N
          · have hnI : (n : Int) < (N : Int) := by omega
            have hnw := u32_wrap' n (by omega)
            have hget := new_get hN hC (by omega) n hnN
            have Hget := Lib.hid hget
            have HS := Lib.hid hS
            clear hget hS
            clear hN hC
            go_wp2_with fail
            refine Hget.out.mono ?_
            rintro e w8 ⟨b8, rfl, τ8, H8, L8, D8, F8, s8, j8, f8, hN8, hI8, hs81, hs82, hs8⟩
            obtain ⟨bws', cap', bv, jv, cv, px, cx, ver, hww, -, -, hlv, hjm, -, -, -⟩ := hN8.vers.latest hN8.vlen hN8.last hnN
            cases hww
            have d4 := hN8.own.at 4 (v := .slice (some ⟨bws, 0, none⟩) N cap4) rfl
            have d5 := hlv.c1
            have d6 := hlv.c2
            have hP := hN8.page hI8
            have h448 := hP.len
            rw [h448] at d6
            have hby := pagebytes_any (hP.step (Step.refl w8 τ8 nil).drew (fun h => h)) tData
            have hlvd := hlv.nil (Step.refl w8 τ8 nil).drew
            have hst8 := HS.out.trans (hs8.mono (T := AnyTag) (fun _ h => pw_any h))
            have hj1 : IntKind.i64.wrap ((jv : Int) + 1 - 1) = (jv : Int) := by
              have : (jv : Int) + 1 - 1 = (jv : Int) := by omega
              rw [this]; exact i64_small _ (by omega) (by omega)
            have hj0 : IntKind.i64.wrap (jv : Int) = (jv : Int) := i64_small _ (by omega) (by omega)
            have hj5 : IntKind.i64.wrap ((jv : Int) + 1) = (jv : Int) + 1 := i64_small _ (by omega) (by omega)
            have hj2 : (jv : Int) + 1 - 1 = (jv : Int) := by omega
            have hj3 : (jv : Int) < (jv : Int) + 1 := by omega
            have hj4 : jv < jv + 1 := by omega
            have hsr8 : H8.st ≤ st0 + (n + 1) := by omega
            have HN8 := Lib.hid hN8
            have HI8 := Lib.hid hI8
            have Hby := Lib.hid hby
            have Hlvd := Lib.hid hlvd
            have H448 := Lib.hid h448
            have Hst8 := Lib.hid hst8
            have Hlv := Lib.hid hlv
            have HP := Lib.hid hP
            clear hN8 hI8 hby hlvd h448 hst8 hlv hP
            clear hs8 Hget HS c4
            go_wp2_with fail
            go_region_held3 (fun w' => w'.cell? ⟨bv, jv, none⟩ = some (.slice px 448 cx)) (go_keep) (first
              | (go_at_call 28
                 refine Hby.out.mono ?_
                 rintro e w9 ⟨u9, τ9, rfl, hn9, hs9⟩
                 have hlv9 := Hlvd.out.nil hs9
                 have hsb := samebytes_any hn9.bytes hlv9.by_
                 rw [decide_eq_true rfl, H448.out] at hsb
                 obtain ⟨p9, c9, hu9⟩ := hn9.val
                 rw [H448.out] at hu9
                 subst hu9
                 have e6 := hlv9.c2
                 rw [H448.out] at e6
                 have hq9 := (Step.refl w8 τ8 nil).drew.trans hs9
                 have hN9 := HN8.out.step hq9
                 have hst9 := Hst8.out.trans (hq9.mono (T := AnyTag) (fun _ h => h.elim))
                 have hput := new_put hN9 HI8.out hnN
                 have Hsb := Lib.hid hsb
                 have Hput := Lib.hid hput
                 have Hst9 := Lib.hid hst9
                 have Hlv9 := Lib.hid hlv9
                 clear hsb hput hst9 hlv9
                 clear hn9 hs9 hq9 hN9)
              | (go_at_call 27
                 refine Hsb.out.mono ?_
                 rintro e w5 ⟨rfl, rfl⟩)
              | (go_at_call 13
                 refine Hput.out.mono ?_
                 rintro e w10 ⟨rfl, s10, hN10, hC10, hs10⟩
                 have hlv10 := Hlv9.out.pw hs10
                 have e10 := hlv10.c2
                 rw [H448.out] at e10
                 have hst10 := Hst9.out.trans (hs10.mono (T := AnyTag) (fun _ h => pw_any h))
                 have HN10 := Lib.hid hN10
                 have HC10 := Lib.hid hC10
                 have Hst10 := Lib.hid hst10
                 clear hN10 hC10 hst10
                 clear hs10 hlv10))
            go_wp2_with fail
            go_round
            case rel => exact ⟨n + 1, τ9, H8, L8, D8, F8, s10, by omega, by simp, hsr8, HN10.out, HC10.out, Hst10.out⟩
            case measure => simp [intOf]; omega
          · obtain rfl : n = N := by omega
            have HN := Lib.hid hN
            have HC := Lib.hid hC
            have HS := Lib.hid hS
            clear hN hC hS
            go_wp2_with fail
            go_ret
            exact ⟨rfl, below_boxed HS.out⟩
end Go.Proofs.YtgjoahddbieliaaGreat
