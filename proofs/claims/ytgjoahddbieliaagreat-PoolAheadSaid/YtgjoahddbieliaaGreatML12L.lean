/-
  The world of the pool's laws: Write, WriteAll.
-/
import Derived.Test.YtgjoahddbieliaaGreatMPlanD
namespace Go.Proofs.YtgjoahddbieliaaGreat
open Go.RowKit
set_option linter.unusedVariables false

/-- a frame's page written -/
theorem Clock.same {F G : List Fr} {s : Ck.Clk.St} (h : Clock F s) (hl : G.length = F.length) (hg : ∀ (j : Nat) (f g : Fr), F[j]? = some f → G[j]? = some g → g.pg.isSome = f.pg.isSome) : Clock G s :=
  ⟨by rw [hl]; exact h.n, h.h, h.n64, fun i g hgi => by
    obtain ⟨f, hf⟩ : ∃ f, F[i]? = some f := ⟨_, List.getElem?_eq_getElem (by rw [← hl]; exact (List.getElem?_eq_some_iff.1 hgi).1)⟩
    rw [hg i f g hf hgi]
    exact h.t i f hf, h.p⟩
structure Written (w : World) (τ : Tags) (bw bd bl bp bf k N m : Nat) (was : Value) (vs : List (List (List Int))) (H : PoolH) (F : List Fr) (s : Ck.Clk.St) (cur : Nat → List Int) (n : Nat) (w' : World) (τ' : Tags) (H' : PoolH) (L' : LogM) (D' : Dev) (i : Nat) (f : Fr) : Prop where
  all : AllW w' τ' bw bd bl bp bf k N m was vs H' L' D' (F.set i { f with first := 0 }) s cur
  st : H'.st = H.st + 1
  at_ : F[i]? = some f
  has_ : f.has n = true
  first : 0 < f.first
  home : lastTo D' n 4 = sealAll (cur n) (H.st + 1)
  spare : lastTo D' N 4 = sealAll (cur n) (H.st + 1)
  step : Step w τ w' τ' PWTag
theorem write_good {w : World} {τ : Tags} {bw bd bl bp bf k N m : Nat} {was : Value} {vs : List (List (List Int))} {H : PoolH} {L : LogM} {D : Dev} {F : List Fr} {s : Ck.Clk.St} {cur : Nat → List Int} (ha : AllW w τ bw bd bl bp bf k N m was vs H L D F s cur) (hst : H.st + 1 < 18446744073709551616) (n : Nat) (hn : n < N) :
    Calls Tryz.prog 21 #[.pointer (some ⟨bp, 0, none⟩), .int .u32 (n : Int)] w fun e w' => (e = .returned (.bool false) ∧ w = w' ∧ ∀ (i : Nat) (f : Fr), F[i]? = some f → f.has n = true → f.first = 0) ∨ (e = .returned (.bool true) ∧ ∃ τ' H' L' D' i f, Written w τ bw bd bl bp bf k N m was vs H F s cur n w' τ' H' L' D' i f) := by
  have hN := ha.n8
  have hp := ha.mv.pool
  have hg := ha.good
  cases hw : whereOf F n with
  | none =>
    refine (write_none hp.pool n (by omega) hw).mono ?_
    rintro e w' ⟨rfl, rfl⟩
    refine .inl ⟨rfl, rfl, fun i f hf hh => ?_⟩
    have := (whereOf_iff hp.pool.one n i).2 ⟨f, hf, hh⟩
    rw [hw] at this; cases this
  | some i =>
    obtain ⟨f, hf, hh⟩ := (whereOf_iff hp.pool.one n i).1 hw
    by_cases h0 : f.first = 0
    · refine (write_clean hp.pool n (by omega) hw hf h0).mono ?_
      rintro e w' ⟨rfl, rfl⟩
      refine .inl ⟨rfl, rfl, fun j g hgj hgh => ?_⟩
      have := hp.pool.one j i n g f hgj hf hgh hh
      subst this
      rw [hf] at hgj
      cases hgj
      exact h0
    · obtain ⟨b, P, hpg, hfn⟩ := has_iff.1 hh
      have h0' : 0 < f.first := by omega
      obtain ⟨_, hP, _⟩ := hg.frame i f b P hf hpg
      have hsnd : Sound P := by rw [hP, hfn]; exact (hg.page n hn).1
      have hil := (List.getElem?_eq_some_iff.1 hf).1
      refine (write_dirty hp hg.rise hg.cap hg.f0 (by rw [hg.f1, ha.hn]; omega) hg.calm hst n (by omega) hw hf hpg (by rw [hfn, ha.hn]; exact hn) h0' rfl (pageLSN_64 hsnd)).mono ?_
      rintro e w' ⟨rfl, kk, fl, τ2, hat, hp2, hs2⟩
      obtain ⟨hgw, hho, hsp⟩ := hg.write hf hpg h0' hat
      obtain ⟨e1, e2, e3, e4, e5⟩ := flL_same L (kk + (if fl = true then 1 else 0))
      have hPc : P = cur n := by rw [hP, hfn]
      rw [ha.hn] at hp2
      have hho' : lastTo (wrD (flD L D (kk + (if fl = true then 1 else 0))) N f.n P (H.st + 1)) n 4 = sealAll (cur n) (H.st + 1) := by rw [← hPc]; rw [hfn] at hho; rw [hfn]; exact hho
      have hsp' : lastTo (wrD (flD L D (kk + (if fl = true then 1 else 0))) N f.n P (H.st + 1)) N 4 = sealAll (cur n) (H.st + 1) := by rw [← hPc]; exact hsp
      have hM2 := ha.mv.turn hs2 hp2
      refine .inr ⟨rfl, τ2, _, _, _, i, f, ⟨⟨hM2, hgw, ha.clock.same (by rw [List.length_set]) (fun j f' g' hf' hg' => ?_), rfl, ha.hbl, ha.n8, ha.vlen, ha.last, by rw [e1]; exact ha.base, by rw [e4]; exact ha.strips, by rw [e2]; exact ha.stream, by rw [e3]; exact ha.starts⟩, rfl, hf, hh, h0', hho', hsp', hs2⟩⟩
      rcases set_get hil hg' with ⟨rfl, rfl⟩ | ⟨_, hg2⟩
      · rw [hf] at hf'
        cases hf'
        rfl
      · rw [hf'] at hg2
        cases hg2
        rfl
theorem pw_dirt : ¬ PWTag tDirt := by
  rintro (h | h | h)
  · rcases h with h | h | h | h | ⟨i, h⟩ <;> simp [tDirt, tPool, tFr, tWhere, tClk, tPg] at h
  · rcases h with h | h | h <;> simp [tDirt, tLog, tStream, tStarts] at h
  · rcases h with h | h | h | h <;> simp [tDirt] at h
/-- only such frames are dirty -/
def DirtyIn (F : List Fr) (l : List (Nat × Nat)) : Prop := ∀ (i : Nat) (f : Fr), F[i]? = some f → 0 < f.first → (f.n, f.first) ∈ l
theorem dirtyF_in (F : List Fr) : DirtyIn F (dirtyF F) := fun i f hf h0 => by
  unfold dirtyF dirtyTo
  rw [List.take_length]
  exact List.mem_map.2 ⟨f, List.mem_filter.2 ⟨List.mem_of_getElem? hf, decide_eq_true h0⟩, rfl⟩
theorem dirtyF_lt {N st : Nat} {L : LogM} {D : Dev} {F : List Fr} {cur : Nat → List Int} (hg : Good N st L D F cur) : ∀ x ∈ dirtyF F, x.1 < N := fun x hx => by
  unfold dirtyF dirtyTo at hx
  rw [List.take_length] at hx
  obtain ⟨f, hf, rfl⟩ := List.mem_map.1 hx
  obtain ⟨hf1, hf2⟩ := List.mem_filter.1 hf
  obtain ⟨i, hi, he⟩ := List.mem_iff_getElem.1 hf1
  have hfi : F[i]? = some f := by rw [List.getElem?_eq_getElem hi, he]
  have h0 : 0 < f.first := of_decide_eq_true hf2
  cases hpg : f.pg with
  | none =>
    have := hg.none i f hfi hpg
    rw [this] at h0
    exact absurd h0 (by show ¬ 0 < 0; omega)
  | some x => exact (hg.frame i f x.1 x.2 hfi hpg).1
theorem DirtyIn.next {N st : Nat} {L : LogM} {D : Dev} {F : List Fr} {cur : Nat → List Int} (hg : Good N st L D F cur) {x : Nat × Nat} {l : List (Nat × Nat)} (h : DirtyIn F (x :: l)) (hc : ∀ (i : Nat) (f : Fr), F[i]? = some f → f.has x.1 = true → f.first = 0) : DirtyIn F l := fun i f hf h0 => by
  rcases List.mem_cons.1 (h i f hf h0) with e | e
  · exfalso
    cases hpg : f.pg with
    | none =>
      have := hg.none i f hf hpg
      rw [this] at h0
      exact absurd h0 (by show ¬ 0 < 0; omega)
    | some y =>
      have := hc i f hf (has_iff.2 ⟨y.1, y.2, hpg, by rw [← e]⟩)
      omega
  · exact e
theorem DirtyIn.set {F : List Fr} {l : List (Nat × Nat)} (h : DirtyIn F l) {i : Nat} {f : Fr} (hf : F[i]? = some f) : DirtyIn (F.set i { f with first := 0 }) l := fun j g hg h0 => by
  rcases set_get (List.getElem?_eq_some_iff.1 hf).1 hg with ⟨rfl, rfl⟩ | ⟨_, hg2⟩
  · exact absurd h0 (by show ¬ 0 < 0; omega)
  · exact h j g hg2 h0
theorem clean_set {F : List Fr} (hone : OneHas F) {i n : Nat} {f : Fr} (hf : F[i]? = some f) (hh : f.has n = true) (j : Nat) (g : Fr) (hg : (F.set i { f with first := 0 })[j]? = some g) (hgh : g.has n = true) : g.first = 0 := by
  rcases set_get (List.getElem?_eq_some_iff.1 hf).1 hg with ⟨rfl, rfl⟩ | ⟨hj, hg2⟩
  · rfl
  · exact absurd (hone j i n g f hg2 hf hgh hh) hj
end Go.Proofs.YtgjoahddbieliaaGreat

/-
  The world of the pool's laws: WriteAll.
-/
namespace Go.Proofs.YtgjoahddbieliaaGreat
open Go.RowKit
set_option linter.unusedVariables false

/-- what WriteAll leaves -/
def AllWritten (w : World) (τ : Tags) (bw bd bl bp bf k N m : Nat) (was : Value) (vs : List (List (List Int))) (H : PoolH) (s : Ck.Clk.St) (cur : Nat → List Int) (w' : World) : Prop :=
  ∃ τ' H' L' D' F', AllW w' τ' bw bd bl bp bf k N m was vs H' L' D' F' s cur ∧ H.st ≤ H'.st ∧ H'.st ≤ H.st + 64 ∧ DirtyIn F' [] ∧ Step w τ w' τ' AnyTag
theorem drop_cons {α : Type} {l : List α} {r : Nat} (h : r < l.length) : l.drop r = l[r] :: l.drop (r + 1) := (List.drop_eq_getElem_cons h)
set_option maxHeartbeats 4000000 in
set_option maxRecDepth 100000 in
theorem writeall_good {w : World} {τ : Tags} {bw bd bl bp bf k N m : Nat} {was : Value} {vs : List (List (List Int))} {H : PoolH} {L : LogM} {D : Dev} {F : List Fr} {s : Ck.Clk.St} {cur : Nat → List Int} (ha : AllW w τ bw bd bl bp bf k N m was vs H L D F s cur) (hst : H.st + 64 < 18446744073709551616) :
    Calls Tryz.prog 23 #[.pointer (some ⟨bp, 0, none⟩)] w fun e w' => e = .returned (.tuple #[]) ∧ AllWritten w τ bw bd bl bp bf k N m was vs H s cur w' := by
  have hk := ha.mv.pool.pool.k1
  have hN8 := ha.n8
  have hdir := dirty_gen ha.mv.pool.pool (sortd_all F.length (by omega))
  have Ha := Lib.hid ha
  have Hdir := Lib.hid hdir
  clear ha hdir
  go_enter Tryz.func23, Tryz.ntmps23
  go_wp2_with fail
  refine Hdir.out.mono ?_
  rintro e w1 ⟨v, τ1, l, rfl, hperm, -, hnd, hs1⟩
  obtain ⟨p, c, rfl⟩ := hnd.val
  have hlen : l.length ≤ 64 := by
    have h1 := hperm.length_eq
    have h2 := dirtyTo_length F F.length
    have h3 : (dirtyF F).length = (dirtyTo F F.length).length := rfl
    omega
  have hlt : ∀ x ∈ l, x.1 < N := fun x hx => dirtyF_lt Ha.out.good x (hperm.mem_iff.1 hx)
  have hdi : DirtyIn F (l.drop 0) := fun i f hf h0 => hperm.mem_iff.2 (dirtyF_in F i f hf h0)
  have ha1 := Ha.out.step hs1
  have hst1 := hs1.mono (T := AnyTag) (fun _ h => h.elim)
  have hnd0 : ND 0 w1 τ1 tDirt (.slice p l.length c) l := ⟨hnd.buf, fun _ _ => Nat.zero_le _⟩
  generalize hll : l.length = ll at *
  have Hll := Lib.hid hll
  have Hlt := Lib.hid hlt
  have Ha1 := Lib.hid ha1
  have Hst1 := Lib.hid hst1
  have Hnd0 := Lib.hid hnd0
  have Hdi := Lib.hid hdi
  clear hll hlt ha1 hst1 hnd0 hdi
  clear Ha Hdir hs1 hperm hnd
  go_wp2_with fail
  go_loopw [7] (fun v wr => ∃ (r : Nat) (τr : Tags) (Hr : PoolH) (Lr : LogM) (Dr : Dev) (Fr' : List Fr), r ≤ ll ∧ v = .int .i64 (r : Int) ∧ AllW wr τr bw bd bl bp bf k N m was vs Hr Lr Dr Fr' s cur ∧ H.st ≤ Hr.st ∧ Hr.st ≤ H.st + r ∧ DirtyIn Fr' (l.drop r) ∧ ND 0 wr τr tDirt (.slice p ll c) l ∧ Step w τ wr τr AnyTag) (fun v _ => ll - (intOf v).toNat)
  case atStart => exact ⟨0, τ1, _, _, _, _, Nat.zero_le _, rfl, Ha1.out, Nat.le_refl _, Nat.le_refl _, Hdi.out, Hnd0.out, Hst1.out⟩
  case round =>
    obtain ⟨r, τr, Hr, Lr, Dr, Fr', hr, rfl, hA, hs2, hs3, hD, hN, hst⟩ := hrel
    by_cases hrl : r < ll
    · have hrl' : r < l.length := by rw [Hll.out]; exact hrl
      obtain ⟨p', c', hv, -, hrd⟩ := hN.read
      obtain ⟨b, hp, r0, r1⟩ := hrd r hrl'
      rw [Hll.out] at hv
      cases hv
      subst hp
      obtain ⟨x, hx⟩ : ∃ x, l[r] = x := ⟨_, rfl⟩
      have hdc := drop_cons hrl'
      rw [hx] at r0 r1 hdc
      have hx1 : x.1 < N := Hlt.out x (by rw [← hx]; exact List.getElem_mem _)
      obtain ⟨n, y⟩ := x
      simp only at r0 r1 hx1
      have hq : Step wr τr (wr.alloc (.cells #[.int .u32 (n : Int), .int .u64 (y : Int)] 118)) τr nil := (Step.refl wr τr nil).alloc' _
      have hA1 := hA.step hq
      have hN1 := hN.step hq (fun h => h)
      have hst1' := hst.trans (hq.mono (T := AnyTag) (fun _ h => h.elim))
      have hwr := write_good hA1 (by omega) n hx1
      have hri : (r : Int) < (ll : Int) := by omega
      rw [hdc] at hD
      have HD := Lib.hid hD
      have HN1 := Lib.hid hN1
      have Hst1' := Lib.hid hst1'
      have Hwr := Lib.hid hwr
      have HA1 := Lib.hid hA1
      have Hdc := Lib.hid hdc
      clear hD hN1 hst1' hwr hA1 hdc
      clear hN hst hrd hq hA
      go_wp2_with fail
      refine Hwr.out.mono ?_
      rintro e w3 (⟨rfl, rfl, hcl⟩ | ⟨rfl, τ3, H3, L3, D3, i, f, hW⟩)
      · have hD2 := HD.out.next HA1.out.good hcl
        have HD2 := Lib.hid hD2
        clear hD2
        go_wp2_with fail
        go_round
        case rel => exact ⟨r + 1, τr, _, _, _, _, by omega, by simp, HA1.out, hs2, by omega, HD2.out, HN1.out, Hst1'.out⟩
        case measure => simp [intOf]; omega
      · have hD2 : DirtyIn (Fr'.set i { f with first := 0 }) (l.drop (r + 1)) := (HD.out.set hW.at_).next hW.all.good (clean_set HA1.out.mv.pool.pool.one hW.at_ hW.has_)
        have hN2 := HN1.out.step hW.step pw_dirt
        have hst2 := Hst1'.out.trans (hW.step.mono (T := AnyTag) (fun _ h => pw_any h))
        have hsw := hW.st
        have HD2 := Lib.hid hD2
        have HN2 := Lib.hid hN2
        have Hst2 := Lib.hid hst2
        have HW := Lib.hid hW
        clear hD2 hN2 hst2 hW
        go_wp2_with fail
        go_round
        case rel => exact ⟨r + 1, τ3, H3, L3, D3, _, by omega, by simp, HW.out.all, by omega, by omega, HD2.out, HN2.out, Hst2.out⟩
        case measure => simp [intOf]; omega
    · obtain rfl : r = ll := by omega
      rw [List.drop_eq_nil_of_le (by rw [Hll.out]; exact Nat.le_refl _)] at hD
      have HA := Lib.hid hA
      have HD := Lib.hid hD
      have HN := Lib.hid hN
      have Hst := Lib.hid hst
      clear hA hD hN hst
      go_wp2_with fail
      go_end0
      exact ⟨rfl, τr, Hr, Lr, Dr, Fr', HA.out, hs2, by omega, HD.out, Hst.out⟩
end Go.Proofs.YtgjoahddbieliaaGreat

/-
  The world of the pool's laws: does.
-/
namespace Go.Proofs.YtgjoahddbieliaaGreat
open Go.RowKit
set_option linter.unusedVariables false

/-- what a call leaves -/
def DoesW (w : World) (τ : Tags) (bw bd bl bp bf k N m : Nat) (H : PoolH) (e : Ending) (w' : World) : Prop :=
  e = .returned (.bool true) ∧ ∃ was' vs' H' L' D' F' s' cur' τ', AllW w' τ' bw bd bl bp bf k N (m + 1) was' vs' H' L' D' F' s' cur' ∧ H.st ≤ H'.st ∧ H'.st ≤ H.st + 64 ∧ Step w τ w' τ' AnyTag
theorem u8_wrap' (n : Nat) (h : n < 256) : IntKind.u8.wrap (n : Int) = (n : Int) := by
  have : IntKind.u8.wrap (n : Int) = (n : Int) % 256 := by simp [IntKind.wrap, IntKind.bits, IntKind.signed]
  rw [this]; omega
set_option maxHeartbeats 4000000 in
set_option maxRecDepth 100000 in
theorem does_all {w : World} {τ : Tags} {bw bd bl bp bf k N m : Nat} {was : Value} {vs : List (List (List Int))} {H : PoolH} {L : LogM} {D : Dev} {F : List Fr} {s : Ck.Clk.St} {cur : Nat → List Int} (ha : AllW w τ bw bd bl bp bf k N m was vs H L D F s cur) (hm : m ≤ 200) (hst : H.st + 64 < 18446744073709551616) (kd pg : Nat) (h8 : kd % 12 = 8) (slot : Int) {v : Value} (pf : Option Addr) (nf cf : Nat) :
    Calls Tryz.prog 15 #[.pointer (some ⟨bw, 0, none⟩), .agg #[.int .u8 (kd : Int), .int .u32 (pg : Int), .int .i64 slot, v, .slice pf nf cf]] w (DoesW w τ bw bd bl bp bf k N m H) := by
  have hst1 := (Step.refl w τ nil).alloc' (.cells #[.int .u8 (kd : Int), .int .u32 (pg : Int), .int .i64 slot, v, .slice pf nf cf] 46)
  have ha1 := ha.step hst1
  have c2 := ha1.mv.own.at 2 (v := .pointer (some ⟨bp, 0, none⟩)) rfl
  have hwa := writeall_good ha1 hst
  have hq1 : (kd : Int) % 12 = 8 := by omega
  have hq2 : Int.tmod (kd : Int) 12 = 8 := by rw [Int.tmod_eq_emod_of_nonneg (by omega)]; exact hq1
  have Ha := Lib.hid ha
  have Hst1 := Lib.hid hst1
  have Ha1 := Lib.hid ha1
  have Hwa := Lib.hid hwa
  clear ha hst1 ha1 hwa
  go_enter Tryz.func15, Tryz.ntmps15
  go_wp2_with fail
  refine Hwa.out.mono ?_
  rintro e w2 ⟨rfl, τ2, H2, L2, D2, F2, hA2, hs1, hs2, -, hst2⟩
  have hst3 := (Hst1.out.mono (T := AnyTag) (fun _ h => h.elim)).trans hst2
  have HA2 := Lib.hid hA2
  have Hst3 := Lib.hid hst3
  clear hA2 hst3
  go_wp2_with fail
  go_ret
  exact ⟨rfl, _, _, _, _, _, _, _, _, _, HA2.out.more, hs1, hs2, Hst3.out⟩
set_option maxHeartbeats 4000000 in
set_option maxRecDepth 100000 in
theorem does_set {w : World} {τ : Tags} {bw bd bl bp bf k N m : Nat} {was : Value} {vs : List (List (List Int))} {H : PoolH} {L : LogM} {D : Dev} {F : List Fr} {s : Ck.Clk.St} {cur : Nat → List Int} (ha : AllW w τ bw bd bl bp bf k N m was vs H L D F s cur) (hm : m ≤ 200) (hst : H.st + 64 < 18446744073709551616) (kd pg : Nat) (h8 : kd % 12 < 4) (hpg : pg < 4294967296) (slot : Int) {v : Value} {data : List Int} (hb : Bytes w τ tBox v data) (pf : Option Addr) (nf cf : Nat) :
    Calls Tryz.prog 15 #[.pointer (some ⟨bw, 0, none⟩), .agg #[.int .u8 (kd : Int), .int .u32 (pg : Int), .int .i64 slot, v, .slice pf nf cf]] w (DoesW w τ bw bd bl bp bf k N m H) := by
  have hst1 := (Step.refl w τ nil).alloc' (.cells #[.int .u8 (kd : Int), .int .u32 (pg : Int), .int .i64 slot, v, .slice pf nf cf] 46)
  have ha1 := ha.step hst1
  have hb1 := hb.step hst1 (fun h => h)
  have hws := wset_any ha1 hm (by omega) kd pg hpg slot (vl := .slice pf nf cf) hb1
  have hq2 : Int.tmod (kd : Int) 12 = (kd : Int) % 12 := by rw [Int.tmod_eq_emod_of_nonneg (by omega)]
  obtain ⟨pv, cv0, rfl, _, _⟩ := hb.any
  have hfin : ∀ e w', SetW (w.alloc (.cells #[.int .u8 (kd : Int), .int .u32 (pg : Int), .int .i64 slot, .slice pv data.length cv0, .slice pf nf cf] 46)) τ bw bd bl bp bf k N m H e w' → DoesW w τ bw bd bl bp bf k N m H e w' := fun e w' ⟨h1, was', vs', H', L', D', F', s', cur', τ', hA, h2, h3, hs⟩ =>
    ⟨h1, was', vs', H', L', D', F', s', cur', τ', hA, h2, by omega, (hst1.mono (T := AnyTag) (fun _ h => h.elim)).trans hs⟩
  generalize data.length = dl at *
  have Ha := Lib.hid ha
  have Hst1 := Lib.hid hst1
  have Ha1 := Lib.hid ha1
  have Hb1 := Lib.hid hb1
  have Hws := Lib.hid hws
  have Hfin := Lib.hid hfin
  clear ha hst1 ha1 hb1 hws hfin
  clear hb
  have h4 : kd % 12 = 0 ∨ kd % 12 = 1 ∨ kd % 12 = 2 ∨ kd % 12 = 3 := by omega
  rcases h4 with h4 | h4 | h4 | h4
  · have hq1 : (kd : Int) % 12 = 0 := by omega
    go_enter Tryz.func15, Tryz.ntmps15
    go_wp2_with fail
    refine Hws.out.mono ?_
    rintro e w2 h2
    obtain ⟨rfl, h2'⟩ := Hfin.out _ _ h2
    have H2' := Lib.hid h2'
    clear h2'
    clear h2
    go_wp2_with fail
    go_ret
    exact ⟨rfl, H2'.out⟩
  · have hq1 : (kd : Int) % 12 = 1 := by omega
    go_enter Tryz.func15, Tryz.ntmps15
    go_wp2_with fail
    refine Hws.out.mono ?_
    rintro e w2 h2
    obtain ⟨rfl, h2'⟩ := Hfin.out _ _ h2
    have H2' := Lib.hid h2'
    clear h2'
    clear h2
    go_wp2_with fail
    go_ret
    exact ⟨rfl, H2'.out⟩
  · have hq1 : (kd : Int) % 12 = 2 := by omega
    go_enter Tryz.func15, Tryz.ntmps15
    go_wp2_with fail
    refine Hws.out.mono ?_
    rintro e w2 h2
    obtain ⟨rfl, h2'⟩ := Hfin.out _ _ h2
    have H2' := Lib.hid h2'
    clear h2'
    clear h2
    go_wp2_with fail
    go_ret
    exact ⟨rfl, H2'.out⟩
  · have hq1 : (kd : Int) % 12 = 3 := by omega
    go_enter Tryz.func15, Tryz.ntmps15
    go_wp2_with fail
    refine Hws.out.mono ?_
    rintro e w2 h2
    obtain ⟨rfl, h2'⟩ := Hfin.out _ _ h2
    have H2' := Lib.hid h2'
    clear h2'
    clear h2
    go_wp2_with fail
    go_ret
    exact ⟨rfl, H2'.out⟩
end Go.Proofs.YtgjoahddbieliaaGreat

/-
  The world of the pool's laws: does, of a Write, of a Get.
-/
namespace Go.Proofs.YtgjoahddbieliaaGreat
open Go.RowKit
set_option linter.unusedVariables false

theorem write_good1 {w : World} {τ : Tags} {bw bd bl bp bf k N m : Nat} {was : Value} {vs : List (List (List Int))} {H : PoolH} {L : LogM} {D : Dev} {F : List Fr} {s : Ck.Clk.St} {cur : Nat → List Int} (ha : AllW w τ bw bd bl bp bf k N m was vs H L D F s cur) (hst : H.st + 1 < 18446744073709551616) (n : Nat) (hn : n < N) :
    Calls Tryz.prog 21 #[.pointer (some ⟨bp, 0, none⟩), .int .u32 (n : Int)] w fun e w' => ∃ r, e = .returned (.bool r) ∧ ∃ τ' H' L' D' F', AllW w' τ' bw bd bl bp bf k N m was vs H' L' D' F' s cur ∧ H.st ≤ H'.st ∧ H'.st ≤ H.st + 1 ∧ Step w τ w' τ' PWTag := by
  refine (write_good ha hst n hn).mono ?_
  rintro e w2 (⟨rfl, rfl, hcl⟩ | ⟨rfl, τ3, H3, L3, D3, i, f, hW⟩)
  · exact ⟨false, rfl, τ, H, L, D, F, ha, Nat.le_refl _, Nat.le_succ _, Step.refl _ _ _⟩
  · exact ⟨true, rfl, τ3, H3, L3, D3, _, hW.all, by rw [hW.st]; omega, by rw [hW.st]; omega, hW.step⟩
set_option maxHeartbeats 4000000 in
set_option maxRecDepth 100000 in
theorem does_write {w : World} {τ : Tags} {bw bd bl bp bf k N m : Nat} {was : Value} {vs : List (List (List Int))} {H : PoolH} {L : LogM} {D : Dev} {F : List Fr} {s : Ck.Clk.St} {cur : Nat → List Int} (ha : AllW w τ bw bd bl bp bf k N m was vs H L D F s cur) (hm : m ≤ 200) (hst : H.st + 64 < 18446744073709551616) (kd pg : Nat) (h8 : kd % 12 = 7) (hpg : pg < 4294967296) (slot : Int) {v : Value} (pf : Option Addr) (nf cf : Nat) :
    Calls Tryz.prog 15 #[.pointer (some ⟨bw, 0, none⟩), .agg #[.int .u8 (kd : Int), .int .u32 (pg : Int), .int .i64 slot, v, .slice pf nf cf]] w (DoesW w τ bw bd bl bp bf k N m H) := by
  have hN8 := ha.n8
  have hst1 := (Step.refl w τ nil).alloc (.cells #[.int .u8 (kd : Int), .int .u32 (pg : Int), .int .i64 slot, v, .slice pf nf cf] 46) tOp
  have hop := Own.born w τ tOp 46 #[.int .u8 (kd : Int), .int .u32 (pg : Int), .int .i64 slot, v, .slice pf nf cf]
  have ha1 := ha.step hst1
  obtain ⟨n, hn⟩ : ∃ n, pg % N = n := ⟨_, rfl⟩
  have hnN : n < N := by rw [← hn]; exact Nat.mod_lt _ (by omega)
  obtain ⟨bws, cap, bv, j, cv, px, cx, ver, rfl, -⟩ := ha1.mv.latest ha1.vlen ha1.last hnN
  generalize τ.put w.heap.size tOp = τ1 at *
  have c2 := ha1.mv.own.at 2 (v := .pointer (some ⟨bp, 0, none⟩)) rfl
  have c4 := ha1.mv.own.at 4 (v := .slice (some ⟨bws, 0, none⟩) N cap) rfl
  have q1 := hop.at 1 (v := .int .u32 (pg : Int)) rfl
  have hNw := u32_wrap' N (by omega)
  have hN0 : ¬ (N : Int) = 0 := by omega
  have hN0' : ¬ N = 0 := by omega
  have hrem : (pg : Int) % (N : Int) = (n : Int) := by omega
  have hrem2 : Int.tmod (pg : Int) (N : Int) = (n : Int) := by rw [Int.tmod_eq_emod_of_nonneg (by omega)]; exact hrem
  have hnw := u32_wrap' n (by omega)
  have hq1 : (kd : Int) % 12 = 7 := by omega
  have hq2 : Int.tmod (kd : Int) 12 = 7 := by rw [Int.tmod_eq_emod_of_nonneg (by omega)]; exact hq1
  have hwr := write_good1 (ha1.step (Step.refl _ τ1 nil).drew) (by omega) n hnN
  have Ha := Lib.hid ha
  have Hst1 := Lib.hid hst1
  have Ha1 := Lib.hid ha1
  have Hop := Lib.hid hop
  have Hwr := Lib.hid hwr
  have Hn := Lib.hid hn
  clear ha hst1 ha1 hop hwr hn
  go_enter Tryz.func15, Tryz.ntmps15
  go_wp2_with fail
  go_region_held3 (fun w' => w'.cell? ⟨bw, 2, none⟩ = some (.pointer (some ⟨bp, 0, none⟩)) ∧ w'.cell? ⟨bw, 4, none⟩ = some (.slice (some ⟨bws, 0, none⟩) N cap) ∧ w'.cell? ⟨w.heap.size, 1, none⟩ = some (.int .u32 (pg : Int))) (go_keep) (first
    | (go_at_call 21
       refine Hwr.out.mono ?_
       rintro e w2 ⟨r, rfl, τ2, H2, L2, D2, F2, hA2, hs1, hs2, hst2⟩
       have e2 := hA2.mv.own.at 2 (v := .pointer (some ⟨bp, 0, none⟩)) rfl
       have e4 := hA2.mv.own.at 4 (v := .slice (some ⟨bws, 0, none⟩) N cap) rfl
       have f1 := ((Hop.out.step (Step.refl _ τ1 nil).drew (fun h => h)).step hst2 pw_op).at 1 (v := .int .u32 (pg : Int)) rfl
       have HA2 := Lib.hid hA2
       have Hst2 := Lib.hid hst2
       clear hA2 hst2))
  have hst3 := ((Hst1.out.mono (T := AnyTag) (fun _ h => h.elim)).drew).trans (Hst2.out.mono (T := AnyTag) (fun _ h => pw_any h))
  have Hst3 := Lib.hid hst3
  clear hst3
  go_wp2_with fail
  go_ret
  exact ⟨rfl, _, _, _, _, _, _, _, _, _, HA2.out.more, hs1, by omega, Hst3.out⟩
set_option maxHeartbeats 4000000 in
set_option maxRecDepth 100000 in
theorem does_get {w : World} {τ : Tags} {bw bd bl bp bf k N m : Nat} {was : Value} {vs : List (List (List Int))} {H : PoolH} {L : LogM} {D : Dev} {F : List Fr} {s : Ck.Clk.St} {cur : Nat → List Int} (ha : AllW w τ bw bd bl bp bf k N m was vs H L D F s cur) (hm : m ≤ 200) (hst : H.st + 64 < 18446744073709551616) (kd pg : Nat) (h7 : ¬ kd % 12 = 7) (h8 : ¬ kd % 12 = 8) (h4 : ¬ kd % 12 < 4) (hpg : pg < 4294967296) (slot : Int) {v : Value} (pf : Option Addr) (nf cf : Nat) :
    Calls Tryz.prog 15 #[.pointer (some ⟨bw, 0, none⟩), .agg #[.int .u8 (kd : Int), .int .u32 (pg : Int), .int .i64 slot, v, .slice pf nf cf]] w (DoesW w τ bw bd bl bp bf k N m H) := by
  have hN8 := ha.n8
  have hst1 := (Step.refl w τ nil).alloc (.cells #[.int .u8 (kd : Int), .int .u32 (pg : Int), .int .i64 slot, v, .slice pf nf cf] 46) tOp
  have hop := Own.born w τ tOp 46 #[.int .u8 (kd : Int), .int .u32 (pg : Int), .int .i64 slot, v, .slice pf nf cf]
  have ha1 := ha.step hst1
  obtain ⟨n, hn⟩ : ∃ n, pg % N = n := ⟨_, rfl⟩
  have hnN : n < N := by rw [← hn]; exact Nat.mod_lt _ (by omega)
  generalize τ.put w.heap.size tOp = τ1 at *
  obtain ⟨bws, cap, bv, j, cv, px, cx, ver, rfl, hca1, hca2, hlv, hjm, hver, hvl, hnv⟩ := ha1.mv.latest ha1.vlen ha1.last hnN
  have c4 := ha1.mv.own.at 4 (v := .slice (some ⟨bws, 0, none⟩) N cap) rfl
  have q1 := hop.at 1 (v := .int .u32 (pg : Int)) rfl
  have hNw := u32_wrap' N (by omega)
  have hN0 : ¬ (N : Int) = 0 := by omega
  have hN0' : ¬ N = 0 := by omega
  have hrem : (pg : Int) % (N : Int) = (n : Int) := by omega
  have hrem2 : Int.tmod (pg : Int) (N : Int) = (n : Int) := by rw [Int.tmod_eq_emod_of_nonneg (by omega)]; exact hrem
  have hnw := u32_wrap' n (by omega)
  obtain ⟨q, hq⟩ : ∃ q, kd % 12 = q := ⟨_, rfl⟩
  have hq12 : q < 12 := by omega
  have hq1 : (kd : Int) % 12 = (q : Int) := by omega
  have hq2 : Int.tmod (kd : Int) 12 = (q : Int) := by rw [Int.tmod_eq_emod_of_nonneg (by omega)]; exact hq1
  have hqw := u8_wrap' q (by omega)
  have q7 : ¬ (q : Int) = 7 := by omega
  have q8 : ¬ (q : Int) = 8 := by omega
  have q0 : ¬ (q : Int) = 0 := by omega
  have q01 : ¬ q = 0 := by omega
  have q11 : ¬ (q : Int) = 1 := by omega
  have q2 : ¬ (q : Int) = 2 := by omega
  have q3 : ¬ (q : Int) = 3 := by omega
  have Ha1 := Lib.hid ha1
  have Hop := Lib.hid hop
  have Hst1 := Lib.hid hst1
  have Hlv := Lib.hid hlv
  have Hver := Lib.hid hver
  have Hvl := Lib.hid hvl
  have Hn := Lib.hid hn
  have Hnv := Lib.hid hnv
  have Hq := Lib.hid hq
  clear ha1 hop hst1 hlv hver hvl hn hnv hq
  clear ha
  go_enter Tryz.func15, Tryz.ntmps15
  go_wp2_with fail
  go_quiet (fail)
  generalize w.alloc (.cells #[.int .u8 (kd : Int), .int .u32 (pg : Int), .int .i64 slot, v, .slice pf nf cf] 46) = w1 at *
  have hsq := (Step.refl w1 τ1 nil).drews nq
  have ha2 := Ha1.out.step hsq
  have hlv2 := Hlv.out.nil hsq
  have hst2 := (Hst1.out.mono (T := AnyTag) (fun _ h => h.elim)).trans (hsq.mono (fun _ h => h.elim))
  generalize w1.drewN nq = w2 at *
  clear Ha1 Hop Hst1 Hlv Hnv hsq c4 q1 w1
  have d2 := ha2.mv.own.at 2 (v := .pointer (some ⟨bp, 0, none⟩)) rfl
  have hget := get_all ha2 (by omega) n hnN
  have Hget := Lib.hid hget
  have Hlv2 := Lib.hid hlv2
  have Hst2 := Lib.hid hst2
  have Ha2 := Lib.hid ha2
  clear hget hlv2 hst2 ha2
  go_wp2_with fail
  refine Hget.out.mono ?_
  rintro e w3 ⟨b, rfl, τ3, H3, L3, D3, F3, s3, i, f, hI3, hs31, hs32, hs3⟩
  have hlv3 := Hlv2.out.pw hs3
  have d4 := hI3.mv.own.at 4 (v := .slice (some ⟨bws, 0, none⟩) N cap) rfl
  have d5 := hlv3.c1
  have d6 := hlv3.c2
  have hlt : ((n : Int) < (N : Int)) := by omega
  have hP3 := hI3.page
  have h448 := hP3.len
  have hst3 := Hst2.out.trans (hs3.mono (T := AnyTag) (fun _ h => pw_any h))
  rw [h448] at d6
  have hby := pagebytes_any (hP3.step (Step.refl w3 τ3 nil).drew (fun h => h)) tData
  have hlvd := hlv3.nil (Step.refl w3 τ3 nil).drew
  have hj1 : IntKind.i64.wrap ((j : Int) + 1 - 1) = (j : Int) := by
    have : (j : Int) + 1 - 1 = (j : Int) := by omega
    rw [this]; exact i64_small _ (by omega) (by omega)
  have hj0 : IntKind.i64.wrap (j : Int) = (j : Int) := i64_small _ (by omega) (by omega)
  have hj5 : IntKind.i64.wrap ((j : Int) + 1) = (j : Int) + 1 := i64_small _ (by omega) (by omega)
  have hj2 : (j : Int) + 1 - 1 = (j : Int) := by omega
  have hj3 : (j : Int) < (j : Int) + 1 := by omega
  have hj4 : j < j + 1 := by omega
  have Hlv3 := Lib.hid hlv3
  have Hst3 := Lib.hid hst3
  have HI3 := Lib.hid hI3
  have HP3 := Lib.hid hP3
  have Hby := Lib.hid hby
  have Hlvd := Lib.hid hlvd
  have Hs3 := Lib.hid hs3
  have H448 := Lib.hid h448
  clear hlv3 hst3 hI3 hP3 hby hlvd hs3 h448
  go_wp2_with fail
  go_region_held3 (fun w' => w'.cell? ⟨bv, j, none⟩ = some (.slice px 448 cx)) (go_keep) (first
    | (go_at_call 28
       refine Hby.out.mono ?_
       rintro e w4 ⟨u4, τ4, rfl, hn4, hs4⟩
       have hlv4 := Hlvd.out.nil hs4
       have hsb := samebytes_any hn4.bytes hlv4.by_
       rw [decide_eq_true rfl, H448.out] at hsb
       obtain ⟨p4, c4, hu4⟩ := hn4.val
       rw [H448.out] at hu4
       subst hu4
       have e6 := hlv4.c2
       rw [H448.out] at e6
       have hs4' := (Step.refl w3 τ3 nil).drew.trans hs4
       have Hsb := Lib.hid hsb
       have Hs4' := Lib.hid hs4'
       clear hsb hs4'
       clear hn4 hs4 hlv4)
    | (go_at_call 27
       refine Hsb.out.mono ?_
       rintro e w5 ⟨rfl, rfl⟩))
  have hI4 := HI3.out.step Hs4'.out
  have hst4 := Hst3.out.trans (Hs4'.out.mono (T := AnyTag) (fun _ h => h.elim))
  have g2 := hI4.mv.own.at 2 (v := .pointer (some ⟨bp, 0, none⟩)) rfl
  have hput := put_back hI4
  have Hput := Lib.hid hput
  have Hst4 := Lib.hid hst4
  clear hput hst4
  clear hI4
  go_wp2_with fail
  refine Hput.out.mono ?_
  rintro e w6 ⟨rfl, s6, hA6, hs6⟩
  have hst6 := Hst4.out.trans (hs6.mono (T := AnyTag) (fun _ h => pw_any h))
  have HA6 := Lib.hid hA6
  have Hst6 := Lib.hid hst6
  clear hA6 hst6
  go_wp2_with fail
  go_ret
  exact ⟨rfl, _, _, _, _, _, _, _, _, _, HA6.out.more, hs31, by omega, Hst6.out⟩
/-- any call -/
theorem does_any {w : World} {τ : Tags} {bw bd bl bp bf k N m : Nat} {was : Value} {vs : List (List (List Int))} {H : PoolH} {L : LogM} {D : Dev} {F : List Fr} {s : Ck.Clk.St} {cur : Nat → List Int} (ha : AllW w τ bw bd bl bp bf k N m was vs H L D F s cur) (hm : m ≤ 200) (hst : H.st + 64 < 18446744073709551616) (kd pg : Nat) (hpg : pg < 4294967296) (slot : Int) {v : Value} {data : List Int} (hb : Bytes w τ tBox v data) (pf : Option Addr) (nf cf : Nat) :
    Calls Tryz.prog 15 #[.pointer (some ⟨bw, 0, none⟩), .agg #[.int .u8 (kd : Int), .int .u32 (pg : Int), .int .i64 slot, v, .slice pf nf cf]] w (DoesW w τ bw bd bl bp bf k N m H) := by
  by_cases h4 : kd % 12 < 4
  · exact does_set ha hm hst kd pg h4 hpg slot hb pf nf cf
  · by_cases h7 : kd % 12 = 7
    · exact does_write ha hm hst kd pg h7 hpg slot pf nf cf
    · by_cases h8 : kd % 12 = 8
      · exact does_all ha hm hst kd pg h8 slot pf nf cf
      · exact does_get ha hm hst kd pg h7 h8 h4 hpg slot pf nf cf
end Go.Proofs.YtgjoahddbieliaaGreat

/-
  The laws' calls: how they lie in memory; heavy.
-/
namespace Go.Proofs.YtgjoahddbieliaaGreat
open Go.RowKit
set_option linter.unusedVariables false

def boxed : Tags := fun _ => tBox
/-- one call in a row of calls -/
structure OpIs (w : World) (bl o kd pg : Nat) (slot : Int) (v : Value) (data : List Int) (pf : Option Addr) (nf cf : Nat) : Prop where
  kb : kd < 256
  pb : pg < 4294967296
  c0 : w.cell? ⟨bl, o, none⟩ = some (.int .u8 (kd : Int))
  c1 : w.cell? ⟨bl, o + 1, none⟩ = some (.int .u32 (pg : Int))
  c2 : w.cell? ⟨bl, o + 2, none⟩ = some (.int .i64 slot)
  c3 : w.cell? ⟨bl, o + 3, none⟩ = some v
  c4 : w.cell? ⟨bl, o + 4, none⟩ = some (.slice pf nf cf)
  by_ : Bytes w boxed tBox v data
def OpsP (w : World) (a : Option Addr) (len : Nat) : Prop := ∀ k, k < len → ∃ bl ol kd pg slot v data pf nf cf, a = some ⟨bl, ol, none⟩ ∧ OpIs w bl (ol + k * 5) kd pg slot v data pf nf cf
theorem cell_step {w w' : World} {τ τ' : Tags} {S : Tag → Prop} (m : Step w τ w' τ' S) {b o : Nat} {v : Value} (h : w.cell? ⟨b, o, none⟩ = some v) (hs : ¬ S (τ b)) : w'.cell? ⟨b, o, none⟩ = some v := by
  have hb := cell_lt h
  have := m.mod.block b hb hs
  unfold World.cell? at h ⊢
  rw [this]; exact h
theorem any_box : ¬ AnyTag tBox := fun h => h rfl
theorem OpIs.step {w w' : World} {τ' : Tags} (m : Step w boxed w' τ' AnyTag) {bl o kd pg : Nat} {slot : Int} {v : Value} {data : List Int} {pf : Option Addr} {nf cf : Nat} (h : OpIs w bl o kd pg slot v data pf nf cf) : w'.cell? ⟨bl, o, none⟩ = some (.int .u8 (kd : Int)) ∧ w'.cell? ⟨bl, o + 1, none⟩ = some (.int .u32 (pg : Int)) ∧ w'.cell? ⟨bl, o + 2, none⟩ = some (.int .i64 slot) ∧ w'.cell? ⟨bl, o + 3, none⟩ = some v ∧ w'.cell? ⟨bl, o + 4, none⟩ = some (.slice pf nf cf) ∧ Bytes w' τ' tBox v data :=
  ⟨cell_step m h.c0 any_box, cell_step m h.c1 any_box, cell_step m h.c2 any_box, cell_step m h.c3 any_box, cell_step m h.c4 any_box, h.by_.step m any_box⟩
def HeavyD (w : World) (len : Nat) (e : Ending) (w' : World) : Prop := ∃ r, e = .returned (.bool r) ∧ w = w' ∧ (r = false → len ≤ 40)
set_option maxHeartbeats 4000000 in
set_option maxRecDepth 100000 in
theorem heavy_any (w : World) (a : Option Addr) (len cap : Nat) (hlen : len ≤ maxLen) (ho : OpsP w a len) :
    Calls Tryz.prog 14 #[.int .i64 8, .int .i64 8, .slice a len cap] w (HeavyD w len) := by
  by_cases h40 : len ≤ 40
  · have hle : ¬ (40 : Int) < (len : Int) := by omega
    have Ho := Lib.hid ho
    clear ho
    go_enter Tryz.func14, Tryz.ntmps14
    go_wp2_with fail
    go_loopw [7] (fun v wr => ∃ i : Nat, i ≤ len ∧ v = .int .i64 (i : Int) ∧ wr = w) (fun v _ => len - (intOf v).toNat)
    case atStart => exact ⟨0, Nat.zero_le _, rfl, rfl⟩
    case round =>
      obtain ⟨i, hi, rfl, rfl⟩ := hrel
      by_cases hlt : i < len
      · obtain ⟨bl, ol, kd, pg, slot, v, data, pf, nf, cf, rfl, h⟩ := Ho.out i hlt
        obtain ⟨pv, cv, rfl, -, -⟩ := h.by_.any
        have c3 := h.c3
        have c4 := h.c4
        have hil : (i : Int) < (len : Int) := by omega
        generalize data.length = dl at *
        have H_h := Lib.hid h
        clear h
        by_cases h1 : (100 : Int) < (dl : Int)
        · go_wp2_with fail
          go_ret
          exact ⟨true, rfl, rfl, fun h => by cases h⟩
        · by_cases h2 : (60 : Int) < (nf : Int)
          · go_wp2_with fail
            go_ret
            exact ⟨true, rfl, rfl, fun h => by cases h⟩
          · go_wp2_with fail
            go_round
            case rel => exact ⟨i + 1, by omega, by simp⟩
            case measure => simp [intOf]; omega
      · obtain rfl : i = len := by omega
        go_wp2_with fail
        go_ret
        exact ⟨false, rfl, rfl, fun _ => h40⟩
  · have hle : (40 : Int) < (len : Int) := by omega
    have Ho := Lib.hid ho
    clear ho
    go_enter Tryz.func14, Tryz.ntmps14
    go_wp2_with fail
    go_ret
    exact ⟨true, rfl, rfl, fun h => by cases h⟩
end Go.Proofs.YtgjoahddbieliaaGreat

/-
  The laws' beginning; steps that touch nothing of what is known.
-/
namespace Go.Proofs.YtgjoahddbieliaaGreat
open Go.RowKit
set_option linter.unusedVariables false

def FreeTag (g : Tag) : Prop := g.1 = 91 ∨ g.1 = 75
def tSp : Tag := (75, 0)
theorem free_out : FreeTag tOut := .inl rfl
theorem free_sp : FreeTag tSp := .inr rfl
theorem free_any {g : Tag} (h : FreeTag g) : AnyTag g := by rcases h with h | h <;> (show g.1 ≠ 90; omega)
theorem free_world {g : Tag} (h : FreeTag g) : g ≠ tWorld ∧ g ≠ tWas ∧ (∀ n, g ≠ tVer n) ∧ g ≠ tData ∧ ¬ PoolTag g ∧ ¬ LogTag g ∧ ¬ DevTag g := by
  have h' : g.1 ≠ 71 ∧ g.1 ≠ 72 ∧ g.1 ≠ 73 ∧ g.1 ≠ 1 := by rcases h with h | h <;> omega
  refine ⟨fun e => h'.1 (by rw [e]; rfl), fun e => h'.2.1 (by rw [e]; rfl), fun n e => h'.2.2.1 (by rw [e]; rfl), fun e => h'.2.2.2 (by rw [e]; rfl), fun k => ?_, fun k => ?_, fun k => ?_⟩
  · have := k.fst
    rcases h with h | h <;> omega
  · rcases k with rfl | rfl | rfl <;> (rcases h with h | h <;> simp [tLog, tStream, tStarts] at h)
  · rcases k with k | k | k | k <;> (rcases h with h | h <;> omega)
theorem AllW.free {w w' : World} {τ τ' : Tags} {bw bd bl bp bf k N m : Nat} {was : Value} {vs : List (List (List Int))} {H : PoolH} {L : LogM} {D : Dev} {F : List Fr} {s : Ck.Clk.St} {cur : Nat → List Int} (h : AllW w τ bw bd bl bp bf k N m was vs H L D F s cur) (hs : Step w τ w' τ' FreeTag) : AllW w' τ' bw bd bl bp bf k N m was vs H L D F s cur :=
  ⟨⟨h.mv.own.step hs (fun k => (free_world k).1 rfl), h.mv.was.step hs (fun k => (free_world k).2.1 rfl) (fun n k => (free_world k).2.2.1 n rfl) (fun k => (free_world k).2.2.2.1 rfl), h.mv.pool.step hs (fun g hg => by
    obtain ⟨-, -, -, a, b, c, d⟩ := free_world hg
    exact ⟨b, c, d, a⟩)⟩, h.good, h.clock, h.hn, h.hbl, h.n8, h.vlen, h.last, h.base, h.strips, h.stream, h.starts⟩
theorem blank_great : greatTo blank 4 = 0 := by decide +kernel
theorem mg_stamp (N i : Nat) (hi : i ≤ N + 1) : stampTo (mgD N) i = 0 := by
  induction i with
  | zero => rfl
  | succ i ih =>
    show max (stampTo (mgD N) i) (greatTo (lastTo (mgD N) i 4) 4) = 0
    rw [ih (by omega), mgD_blank N i (by omega), blank_great]
    rfl
/-- what made has made is known whole -/
theorem made_all (w : World) (pg fr : Nat) (hpg : pg < 256) (hfr : fr < 256) : Calls Tryz.prog 10 #[.int .u8 (pg : Int), .int .u8 (fr : Int)] w fun e w' => ∃ (bw bd bl bp bf k N : Nat) (τ' : Tags) (was : Value) (vs : List (List (List Int))) (H : PoolH) (L : LogM) (D : Dev) (F : List Fr) (s : Ck.Clk.St) (cur : Nat → List Int), e = .returned (.pointer (some ⟨bw, 0, none⟩)) ∧ AllW w' τ' bw bd bl bp bf k N 0 was vs H L D F s cur ∧ H.st = 0 ∧ 3 ≤ k ∧ k ≤ 7 ∧ Step w boxed w' τ' AnyTag := by
  obtain ⟨N, hN⟩ : ∃ N, 1 + pg % 8 = N := ⟨_, rfl⟩
  refine (made_gen w pg fr hpg hfr hN).mono ?_
  rintro e w' ⟨bw, bd, bl, bp, bf, τ', was, H, rfl, hM, hn, hst, hbl, hs⟩
  obtain ⟨e1, e2, e3, e4, e5, e6⟩ := mgL
  have hst0 : H.st = 0 := by rw [hst]; exact mg_stamp N (N + 1) (Nat.le_refl _)
  refine ⟨bw, bd, bl, bp, bf, _, N, τ', was, _, H, _, _, _, _, emptyPage, rfl, ⟨hM, mg_good N _ _ (by omega), mg_clock _ (by omega) (by omega), hn, hbl, by omega, firstVs_length N, fun n hnN => ⟨[emptyPage n], ?_, by simp, by simp, rfl⟩, e1, e4, by rw [e2]; exact Nat.zero_le _, by rw [e3]; exact Nat.zero_le _⟩, hst0, by omega, by omega, hs⟩
  unfold firstVs
  rw [List.getElem?_map, List.getElem?_range hnN]
  rfl
end Go.Proofs.YtgjoahddbieliaaGreat
