/-
  What made has made, in plain Lean: all is known of it.
-/
import Derived.Test.YtgjoahddbieliaaGreatML12G
namespace Go.Proofs.YtgjoahddbieliaaGreat
open Go.RowKit
set_option linter.unusedVariables false

theorem mgD0_make (N i : Nat) (hi : i ≤ 100) : makeTo (mgD0 N) 0 [] i = (mgD0 N, false) := by
  induction i with
  | zero => rfl
  | succ i ih =>
    show (if (makeTo (mgD0 N) 0 [] i).1.last 0 (0 + i) = wantAt [] i then makeTo (mgD0 N) 0 [] i else _) = _
    rw [ih (by omega), if_pos]
    show ((List.replicate 100 zsec)[0 + i]?.map Sec.newest).getD [] = zeros128
    rw [List.getElem?_replicate, if_pos (by omega)]
    rfl
theorem mgD_eq (N : Nat) : mgD N = (mgD0 N).lay 0 (freshLog (mgD0 N).f0.length).said.slot [(freshLog (mgD0 N).f0.length).said.head] := by
  unfold mgD walNewDev
  have hm : (mgD0 N).make 0 (mgD0 N).f0.length [] = mgD0 N := by
    unfold Dev.make
    rw [mgD0_len, mgD0_make N 100 (Nat.le_refl _), if_neg (by simp)]
  rw [hm]
  unfold sayDev Dev.lay
  rfl
theorem mgD0_calm (N : Nat) : (mgD0 N).Calm := by
  refine ⟨rfl, fun f k s hs => ?_⟩
  unfold Dev.file at hs
  split at hs
  · have := List.mem_of_getElem? hs
    rw [List.eq_of_mem_replicate this]; rfl
  · split at hs
    · have := List.mem_of_getElem? hs
      rw [List.eq_of_mem_replicate this]; rfl
    · simp at hs
theorem mgD_calm (N : Nat) : (mgD N).Calm := by
  rw [mgD_eq]
  exact (mgD0_calm N).lay (by omega) _ _
theorem mgD_f0len (N : Nat) : (mgD N).f0.length = 100 := by
  rw [mgD_eq]
  have h : ∀ (E : Dev), E.file 0 = E.f0 := fun E => rfl
  rw [← h, Dev.lay_length _ _ _ (by omega), h, mgD0_len]
/-- the log that made has made -/
theorem mgL : (walNewLog 100).base = 1 ∧ (walNewLog 100).stream = [] ∧ (walNewLog 100).starts = [] ∧ (walNewLog 100).strips = 49 ∧ (walNewLog 100).firstS = 2 ∧ (walNewLog 100).lasts = 0 := ⟨rfl, rfl, rfl, rfl, rfl, rfl⟩
theorem mg_good (N k st : Nat) (hN : N ≤ 8) : Good N st (walNewLog 100) (mgD N) (List.replicate k Fr.no) emptyPage := by
  obtain ⟨e1, e2, e3, e4, e5, e6⟩ := mgL
  generalize walNewLog 100 = L at *
  have hno : ∀ (i : Nat) (f : Fr), (List.replicate k Fr.no)[i]? = some f → f = Fr.no := fun i f hf => List.eq_of_mem_replicate (List.mem_of_getElem? hf)
  refine ⟨mgD_calm N, mgD_f1len N, by rw [mgD_f0len, e4, e5]; omega, by rw [e2]; exact Nat.zero_le _, by rw [e6]; exact Nat.zero_le _, ⟨fun i j hij hj => by rw [e3] at hj; simp at hj, fun s hs => by rw [e3] at hs; simp at hs⟩, by rw [e1]; omega, fun n hn => ⟨emptyPage_sound n (by omega), emptyPage_number n (by omega), .inl ⟨emptyPage_lsn n, rfl⟩⟩, fun n hn => ⟨emptyPage n, .inl ⟨mgD_blank N n (by omega), rfl⟩, fun _ => rfl⟩, fun i f b P hf hp => ?_, fun i f hf _ => hno i f hf, fun i j n f g hf _ hh _ => ?_, .inl (mgD_blank N N (by omega))⟩
  · rw [hno i f hf] at hp; cases hp
  · rw [hno i f hf] at hh; cases hh
theorem mg_clock (k : Nat) (h3 : 3 ≤ k) (h64 : k ≤ 64) : Clock (List.replicate k Fr.no) (Ck.Clk.newS k) :=
  ⟨by rw [List.length_replicate]; rfl, by show 0 < k; omega, h64, fun i f hf => by
    rw [List.eq_of_mem_replicate (List.mem_of_getElem? hf)]; rfl, fun _ => rfl⟩
end Go.Proofs.YtgjoahddbieliaaGreat

/-
  The world of the pool's laws: its versions read and put; all that is known of it.
-/
namespace Go.Proofs.YtgjoahddbieliaaGreat
open Go.RowKit
set_option linter.unusedVariables false

theorem Vers.at {w : World} {τ : Tags} {v : Value} {vs : List (List (List Int))} (h : Vers w τ v vs) {n : Nat} {ver : List (List Int)} (hn : vs[n]? = some ver) : ∃ b cap u, v = .slice (some ⟨b, 0, none⟩) vs.length cap ∧ τ b = tWas ∧ vs.length ≤ cap ∧ cap ≤ maxLen ∧ w.cell? ⟨b, n, none⟩ = some u ∧ w.frozen? ⟨b, n, none⟩ = false ∧ NV 0 w τ (tVer n) u ver := by
  obtain ⟨xs, ⟨h1, ⟨rfl, h2⟩ | ⟨b, cap, ys, rfl, ho, h3, h4, h5⟩⟩, hx⟩ := h.row
  · have := (List.getElem?_eq_some_iff.1 hn).1; omega
  · obtain ⟨u, e1, e2⟩ := hx n ver hn
    exact ⟨b, cap, u, rfl, ho.tag, h4, h5, ho.at n (by rw [List.getElem?_append_left (List.getElem?_eq_some_iff.1 e1).1]; exact e1), ho.fz _, e2⟩
/-- one page's versions put anew -/
theorem Vers.put {w w1 : World} {τ τ1 : Tags} {b cap : Nat} {vs : List (List (List Int))} (h : Vers w τ (.slice (some ⟨b, 0, none⟩) vs.length cap) vs) {n : Nat} (hn : n < vs.length) (m : Step w τ w1 τ1 (fun t => t = tVer n)) {u : Value} {ver : List (List Int)} (hu : NV 0 w1 τ1 (tVer n) u ver) :
    Vers (w1.setCell ⟨b, n, none⟩ u) τ1 (.slice (some ⟨b, 0, none⟩) vs.length cap) (vs.set n ver) ∧ Step w1 τ1 (w1.setCell ⟨b, n, none⟩ u) τ1 (fun t => t = tWas) := by
  obtain ⟨xs, ⟨h1, h2⟩, hx⟩ := h.row
  rcases h2 with ⟨h2, _⟩ | ⟨b', cap', ys, hv, ho, h3, h4, h5⟩
  · cases h2
  · cases hv
    have ho1 := ho.step m (by simp [tVer, tWas])
    have m2 : Step w1 τ1 (w1.setCell ⟨b, n, none⟩ u) τ1 (fun t => t = tWas) := (Step.refl w1 τ1 (fun t => t = tWas)).set (o := n) ho1.tag rfl _
    have ho2 := ho1.set n u
    have hxl : xs.length = vs.length := by omega
    rw [List.set_append_left _ _ (by omega)] at ho2
    refine ⟨⟨xs.set n u, ⟨by rw [List.length_set, List.length_set]; exact h1, .inr ⟨b, cap, ys, by rw [List.length_set], ho2, by rw [List.length_set]; exact h3, by rw [List.length_set]; exact h4, h5⟩⟩, fun k ve hk => ?_⟩, m2⟩
    by_cases e : k = n
    · subst e
      rw [List.getElem?_set_self hn] at hk
      cases hk
      exact ⟨u, List.getElem?_set_self (by omega), hu.step m2 (by simp [tVer, tWas]) (by decide)⟩
    · rw [List.getElem?_set_ne (fun q => e q.symm)] at hk
      obtain ⟨u', a1, a2⟩ := hx k ve hk
      exact ⟨u', by rw [List.getElem?_set_ne (fun q => e q.symm)]; exact a1, (a2.step m (by simp [tVer]; omega) (by simp [tData, tVer])).step m2 (by simp [tVer, tWas]) (by decide)⟩
theorem pw_world {g : Tag} (h : PWTag g) : g ≠ tWorld ∧ g ≠ tWas ∧ (∀ n, g ≠ tVer n) ∧ g.1 ≠ 90 ∧ g ≠ tData := by
  have hf : g.1 ≠ 71 ∧ g.1 ≠ 72 ∧ g.1 ≠ 73 ∧ g.1 ≠ 90 ∧ g.1 ≠ 1 := by
    rcases h with h | h | h
    · rcases h with rfl | rfl | rfl | rfl | ⟨i, rfl⟩ <;> simp [tPool, tFr, tWhere, tClk, tPg]
    · rcases h with rfl | rfl | rfl <;> simp [tLog, tStream, tStarts]
    · rcases h with h | h | h | h <;> omega
  refine ⟨fun e => hf.1 (by rw [e]; rfl), fun e => hf.2.1 (by rw [e]; rfl), fun n e => hf.2.2.1 (by rw [e]; rfl), hf.2.2.2.1, fun e => hf.2.2.2.2 (by rw [e]; rfl)⟩
/-- all that is known, behind m calls -/
structure AllW (w : World) (τ : Tags) (bw bd bl bp bf k N m : Nat) (was : Value) (vs : List (List (List Int))) (H : PoolH) (L : LogM) (D : Dev) (F : List Fr) (s : Ck.Clk.St) (cur : Nat → List Int) : Prop where
  mv : MadeV w τ bw bd bl bp bf k was vs H L D F s
  good : Good N H.st L D F cur
  clock : Clock F s
  hn : H.n = N
  hbl : H.bl = bl
  n8 : 1 ≤ N ∧ N ≤ 8
  vlen : vs.length = N
  last : ∀ n, n < N → ∃ ver, vs[n]? = some ver ∧ 0 < ver.length ∧ ver.length ≤ m + 1 ∧ ver.getD (ver.length - 1) [] = cur n
  base : L.base = 1
  strips : L.strips = 49
  stream : L.stream.length ≤ 27 * m
  starts : L.starts.length ≤ m
theorem AllW.step {w w' : World} {τ τ' : Tags} {bw bd bl bp bf k N m : Nat} {was : Value} {vs : List (List (List Int))} {H : PoolH} {L : LogM} {D : Dev} {F : List Fr} {s : Ck.Clk.St} {cur : Nat → List Int} (h : AllW w τ bw bd bl bp bf k N m was vs H L D F s cur) (hs : Step w τ w' τ' nil) : AllW w' τ' bw bd bl bp bf k N m was vs H L D F s cur :=
  ⟨h.mv.step hs, h.good, h.clock, h.hn, h.hbl, h.n8, h.vlen, h.last, h.base, h.strips, h.stream, h.starts⟩
end Go.Proofs.YtgjoahddbieliaaGreat

/-
  The world of the pool's laws: a page got; put back as it was.
-/
namespace Go.Proofs.YtgjoahddbieliaaGreat
open Go.RowKit
set_option linter.unusedVariables false

theorem MadeV.turn {w w' : World} {τ τ' : Tags} {bw bd bl bp bf k : Nat} {was : Value} {vs : List (List (List Int))} {H H' : PoolH} {L L' : LogM} {D D' : Dev} {F F' : List Fr} {s s' : Ck.Clk.St} (h : MadeV w τ bw bd bl bp bf k was vs H L D F s) (m : Step w τ w' τ' PWTag) (hp : PoolW w' τ' bp bf bd H' L' D' F' s') : MadeV w' τ' bw bd bl bp bf k was vs H' L' D' F' s' :=
  ⟨h.own.step m (fun hx => (pw_world hx).1 rfl), h.was.step m (fun hx => (pw_world hx).2.1 rfl) (fun n hx => (pw_world hx).2.2.1 n rfl) (fun hx => (pw_world hx).2.2.2.2 rfl), hp⟩
theorem pw_any {g : Tag} (h : PWTag g) : AnyTag g := (pw_world h).2.2.2.1
theorem pw_box : ¬ PWTag tBox := fun h => (pw_world h).2.2.2.1 rfl
/-- all that is known, while one page is got -/
structure InW (w : World) (τ : Tags) (bw bd bl bp bf k N m : Nat) (was : Value) (vs : List (List (List Int))) (H : PoolH) (L : LogM) (D : Dev) (F : List Fr) (s : Ck.Clk.St) (cur : Nat → List Int) (n i b : Nat) (f : Fr) : Prop where
  mv : MadeV w τ bw bd bl bp bf k was vs H L D F s
  good : Good N H.st L D F cur
  held : Held F s i
  at_ : F[i]? = some f
  pg : f.pg = some (b, cur n)
  fn : f.n = n
  nN : n < N
  hn : H.n = N
  hbl : H.bl = bl
  n8 : 1 ≤ N ∧ N ≤ 8
  vlen : vs.length = N
  last : ∀ n, n < N → ∃ ver, vs[n]? = some ver ∧ 0 < ver.length ∧ ver.length ≤ m + 1 ∧ ver.getD (ver.length - 1) [] = cur n
  base : L.base = 1
  strips : L.strips = 49
  stream : L.stream.length ≤ 27 * m
  starts : L.starts.length ≤ m
theorem InW.step {w w' : World} {τ τ' : Tags} {bw bd bl bp bf k N m : Nat} {was : Value} {vs : List (List (List Int))} {H : PoolH} {L : LogM} {D : Dev} {F : List Fr} {s : Ck.Clk.St} {cur : Nat → List Int} {n i b : Nat} {f : Fr} (h : InW w τ bw bd bl bp bf k N m was vs H L D F s cur n i b f) (hs : Step w τ w' τ' nil) : InW w' τ' bw bd bl bp bf k N m was vs H L D F s cur n i b f :=
  ⟨h.mv.step hs, h.good, h.held, h.at_, h.pg, h.fn, h.nN, h.hn, h.hbl, h.n8, h.vlen, h.last, h.base, h.strips, h.stream, h.starts⟩
theorem InW.page {w : World} {τ : Tags} {bw bd bl bp bf k N m : Nat} {was : Value} {vs : List (List (List Int))} {H : PoolH} {L : LogM} {D : Dev} {F : List Fr} {s : Ck.Clk.St} {cur : Nat → List Int} {n i b : Nat} {f : Fr} (h : InW w τ bw bd bl bp bf k N m was vs H L D F s cur n i b f) : PageAt w τ (tPg i) b (cur n) :=
  h.mv.pool.pool.pg i b (cur n) (by rw [h.at_]; exact h.pg)
theorem get_all {w : World} {τ : Tags} {bw bd bl bp bf k N m : Nat} {was : Value} {vs : List (List (List Int))} {H : PoolH} {L : LogM} {D : Dev} {F : List Fr} {s : Ck.Clk.St} {cur : Nat → List Int} (ha : AllW w τ bw bd bl bp bf k N m was vs H L D F s cur) (hst : H.st + 1 < 18446744073709551616) (n : Nat) (hn : n < N) :
    Calls Tryz.prog 12 #[.pointer (some ⟨bp, 0, none⟩), .int .u32 (n : Int)] w fun e w' => ∃ b, e = .returned (.tuple #[.pointer (some ⟨b, 0, none⟩), .int .u16 0]) ∧ ∃ τ' H' L' D' F' s' i f, InW w' τ' bw bd bl bp bf k N m was vs H' L' D' F' s' cur n i b f ∧ H.st ≤ H'.st ∧ H'.st ≤ H.st + 1 ∧ Step w τ w' τ' PWTag := by
  refine (get_good ha.mv.pool ha.good ha.clock ha.hn hst n hn).mono ?_
  rintro e w' ⟨b, rfl, τ', H', L', D', F', s', i, f, g⟩
  refine ⟨b, rfl, τ', H', L', D', F', s', i, f, ⟨ha.mv.turn g.step g.pool, g.good, g.held, g.at_, g.pg, g.fn, hn, g.hn, by rw [g.hl]; exact ha.hbl, ha.n8, ha.vlen, ha.last, by rw [g.log.base]; exact ha.base, by rw [g.log.strips]; exact ha.strips, by rw [g.log.stream]; exact ha.stream, by rw [g.log.starts]; exact ha.starts⟩, g.st.1, g.st.2, g.step⟩
theorem InW.where_ {w : World} {τ : Tags} {bw bd bl bp bf k N m : Nat} {was : Value} {vs : List (List (List Int))} {H : PoolH} {L : LogM} {D : Dev} {F : List Fr} {s : Ck.Clk.St} {cur : Nat → List Int} {n i b : Nat} {f : Fr} (h : InW w τ bw bd bl bp bf k N m was vs H L D F s cur n i b f) : whereOf F n = some i :=
  (whereOf_iff h.mv.pool.pool.one n i).2 ⟨f, h.at_, has_iff.2 ⟨b, cur n, h.pg, h.fn⟩⟩
theorem InW.hand {w : World} {τ : Tags} {bw bd bl bp bf k N m : Nat} {was : Value} {vs : List (List (List Int))} {H : PoolH} {L : LogM} {D : Dev} {F : List Fr} {s : Ck.Clk.St} {cur : Nat → List Int} {n i b : Nat} {f : Fr} (h : InW w τ bw bd bl bp bf k N m was vs H L D F s cur n i b f) : s.h < s.n := by
  obtain ⟨bf, hp, _⟩ := h.mv.pool.pool.ck.is
  exact hp.hh
theorem put_back {w : World} {τ : Tags} {bw bd bl bp bf k N m : Nat} {was : Value} {vs : List (List (List Int))} {H : PoolH} {L : LogM} {D : Dev} {F : List Fr} {s : Ck.Clk.St} {cur : Nat → List Int} {n i b : Nat} {f : Fr} (h : InW w τ bw bd bl bp bf k N m was vs H L D F s cur n i b f) :
    Calls Tryz.prog 13 #[.pointer (some ⟨bp, 0, none⟩), .int .u32 (n : Int), .int .u64 0] w fun e w' => e = .returned (.bool true) ∧ ∃ s', AllW w' τ bw bd bl bp bf k N m was vs H L D F s' cur ∧ Step w τ w' τ PWTag := by
  obtain ⟨h1, h2, h3, h4⟩ := h.held.put h.hand
  have hN := h.n8
  have hnN := h.nN
  have := put_zero h.mv.pool.pool n (by omega) h.where_ h.held.lt h3
  rw [h2, decide_eq_true h1, if_neg h1] at this
  refine this.mono ?_
  rintro e w' ⟨rfl, hp, hs⟩
  have hsp : Step w τ w' τ PoolTag := hs.mono (fun g hg => .inr (.inr (.inr (.inl hg))))
  have hsw : Step w τ w' τ PWTag := hsp.mono (fun _ hg => .inl hg)
  exact ⟨rfl, _, ⟨h.mv.turn hsw (h.mv.pool.turn hp hsp), h.good, h4 F rfl (fun j f g hf hg => by rw [hf] at hg; cases hg; rfl), h.hn, h.hbl, h.n8, h.vlen, h.last, h.base, h.strips, h.stream, h.starts⟩, hsw⟩
end Go.Proofs.YtgjoahddbieliaaGreat

/-
  The world of the pool's laws: a page's last version, where it lies.
-/
namespace Go.Proofs.YtgjoahddbieliaaGreat
open Go.RowKit
set_option linter.unusedVariables false

structure LastV (w : World) (τ : Tags) (bws n bv j cv : Nat) (px : Option Addr) (cx : Nat) (x : List Int) : Prop where
  o1 : ∃ xs, Own w τ bws tWas 47 xs ∧ xs[n]? = some (.slice (some ⟨bv, 0, none⟩) (j + 1) cv)
  o2 : ∃ xs, Own w τ bv (tVer n) 43 xs ∧ xs[j]? = some (.slice px x.length cx)
  by_ : Bytes w τ tData (.slice px x.length cx) x
  le : j + 1 ≤ cv ∧ cv ≤ maxLen
theorem LastV.step {w w' : World} {τ τ' : Tags} {S : Tag → Prop} {bws n bv j cv : Nat} {px : Option Addr} {cx : Nat} {x : List Int} (h : LastV w τ bws n bv j cv px cx x) (m : Step w τ w' τ' S) (h1 : ¬ S tWas) (h2 : ¬ S (tVer n)) (h3 : ¬ S tData) : LastV w' τ' bws n bv j cv px cx x := by
  obtain ⟨xs, a1, a2⟩ := h.o1
  obtain ⟨ys, b1, b2⟩ := h.o2
  exact ⟨⟨xs, a1.step m h1, a2⟩, ⟨ys, b1.step m h2, b2⟩, h.by_.step m h3, h.le⟩
theorem LastV.nil {w w' : World} {τ τ' : Tags} {bws n bv j cv : Nat} {px : Option Addr} {cx : Nat} {x : List Int} (h : LastV w τ bws n bv j cv px cx x) (m : Step w τ w' τ' nil) : LastV w' τ' bws n bv j cv px cx x := h.step m (fun h => h) (fun h => h) (fun h => h)
theorem LastV.pw {w w' : World} {τ τ' : Tags} {bws n bv j cv : Nat} {px : Option Addr} {cx : Nat} {x : List Int} (h : LastV w τ bws n bv j cv px cx x) (m : Step w τ w' τ' PWTag) : LastV w' τ' bws n bv j cv px cx x := h.step m (fun hx => (pw_world hx).2.1 rfl) (fun hx => (pw_world hx).2.2.1 n rfl) (fun hx => (pw_world hx).2.2.2.2 rfl)
theorem LastV.c1 {w : World} {τ : Tags} {bws n bv j cv : Nat} {px : Option Addr} {cx : Nat} {x : List Int} (h : LastV w τ bws n bv j cv px cx x) : w.cell? ⟨bws, n, none⟩ = some (.slice (some ⟨bv, 0, none⟩) (j + 1) cv) := by
  obtain ⟨xs, a1, a2⟩ := h.o1
  exact a1.at n a2
theorem LastV.c2 {w : World} {τ : Tags} {bws n bv j cv : Nat} {px : Option Addr} {cx : Nat} {x : List Int} (h : LastV w τ bws n bv j cv px cx x) : w.cell? ⟨bv, j, none⟩ = some (.slice px x.length cx) := by
  obtain ⟨xs, a1, a2⟩ := h.o2
  exact a1.at j a2
theorem LastV.fz {w : World} {τ : Tags} {bws n bv j cv : Nat} {px : Option Addr} {cx : Nat} {x : List Int} (h : LastV w τ bws n bv j cv px cx x) : w.frozen? ⟨bws, n, none⟩ = false := by
  obtain ⟨xs, a1, a2⟩ := h.o1
  exact a1.fz n
theorem Vers.latest {w : World} {τ : Tags} {N m : Nat} {was : Value} {vs : List (List (List Int))} {cur : Nat → List Int} (h : Vers w τ was vs) (hN : vs.length = N) (hl : ∀ n, n < N → ∃ ver, vs[n]? = some ver ∧ 0 < ver.length ∧ ver.length ≤ m + 1 ∧ ver.getD (ver.length - 1) [] = cur n) {n : Nat} (hn : n < N) :
    ∃ bws cap bv j cv px cx ver, was = .slice (some ⟨bws, 0, none⟩) N cap ∧ N ≤ cap ∧ cap ≤ maxLen ∧ LastV w τ bws n bv j cv px cx (cur n) ∧ j ≤ m ∧ vs[n]? = some ver ∧ ver.length = j + 1 ∧ NV 0 w τ (tVer n) (.slice (some ⟨bv, 0, none⟩) (j + 1) cv) ver := by
  obtain ⟨ver, e1, e2, e3, e4⟩ := hl n hn
  obtain ⟨xs, ⟨h1, ⟨rfl, h2⟩ | ⟨b, cap, ys, rfl, ho, h3, h4, h5⟩⟩, hx⟩ := h.row
  · omega
  · obtain ⟨u, x1, x2⟩ := hx n ver e1
    have x2' := x2
    obtain ⟨zs, ⟨g1, ⟨rfl, g2⟩ | ⟨bv, cv, yz, rfl, go, g3, g4, g5⟩⟩, gx⟩ := x2.row
    · omega
    · obtain ⟨u', y1, y2⟩ := gx (ver.length - 1) (cur n) (by rw [← e4, List.getD_eq_getElem?_getD, List.getElem?_eq_getElem (by omega)]; rfl)
      obtain ⟨px, cx, rfl, _, _⟩ := y2.any
      have hj : ver.length = ver.length - 1 + 1 := by omega
      have hv : (Value.slice (some ⟨bv, 0, none⟩) ver.length cv) = .slice (some ⟨bv, 0, none⟩) (ver.length - 1 + 1) cv := by rw [← hj]
      rw [hN] at h4
      refine ⟨b, cap, bv, ver.length - 1, cv, px, cx, ver, by rw [hN], h4, h5, ⟨⟨xs ++ ys, ho, ?_⟩, ⟨zs ++ yz, go, ?_⟩, y2, by omega, g5⟩, by omega, e1, hj, by rw [← hv]; exact x2'⟩
      · rw [List.getElem?_append_left (List.getElem?_eq_some_iff.1 x1).1, x1, hv]
      · rw [List.getElem?_append_left (List.getElem?_eq_some_iff.1 y1).1, y1]
theorem MadeV.latest {w : World} {τ : Tags} {bw bd bl bp bf k N m : Nat} {was : Value} {vs : List (List (List Int))} {H : PoolH} {L : LogM} {D : Dev} {F : List Fr} {s : Ck.Clk.St} {cur : Nat → List Int} (h : MadeV w τ bw bd bl bp bf k was vs H L D F s) (hN : vs.length = N) (hl : ∀ n, n < N → ∃ ver, vs[n]? = some ver ∧ 0 < ver.length ∧ ver.length ≤ m + 1 ∧ ver.getD (ver.length - 1) [] = cur n) {n : Nat} (hn : n < N) :
    ∃ bws cap bv j cv px cx ver, was = .slice (some ⟨bws, 0, none⟩) N cap ∧ N ≤ cap ∧ cap ≤ maxLen ∧ LastV w τ bws n bv j cv px cx (cur n) ∧ j ≤ m ∧ vs[n]? = some ver ∧ ver.length = j + 1 ∧ NV 0 w τ (tVer n) (.slice (some ⟨bv, 0, none⟩) (j + 1) cv) ver :=
  h.was.latest hN hl hn
end Go.Proofs.YtgjoahddbieliaaGreat

/-
  The world of the pool's laws: set.
-/
namespace Go.Proofs.YtgjoahddbieliaaGreat
open Go.RowKit
set_option linter.unusedVariables false

def tOp : Tag := (74, 0)
theorem pw_op : ¬ PWTag tOp := by
  rintro (h | h | h)
  · rcases h with h | h | h | h | ⟨i, h⟩ <;> simp [tOp, tPool, tFr, tWhere, tClk, tPg] at h
  · rcases h with h | h | h <;> simp [tOp, tLog, tStream, tStarts] at h
  · rcases h with h | h | h | h <;> simp [tOp] at h
theorem AllW.more {w : World} {τ : Tags} {bw bd bl bp bf k N m : Nat} {was : Value} {vs : List (List (List Int))} {H : PoolH} {L : LogM} {D : Dev} {F : List Fr} {s : Ck.Clk.St} {cur : Nat → List Int} (h : AllW w τ bw bd bl bp bf k N m was vs H L D F s cur) : AllW w τ bw bd bl bp bf k N (m + 1) was vs H L D F s cur :=
  ⟨h.mv, h.good, h.clock, h.hn, h.hbl, h.n8, h.vlen, fun n hn => by
    obtain ⟨ver, a, b, c, d⟩ := h.last n hn
    exact ⟨ver, a, b, by omega, d⟩, h.base, h.strips, by have := h.stream; omega, by have := h.starts; omega⟩
theorem PoolW.append {w w' : World} {τ τ' : Tags} {bp bf bd : Nat} {H : PoolH} {L L' : LogM} {D : Dev} {F : List Fr} {s : Ck.Clk.St} (h : PoolW w τ bp bf bd H L D F s) (hl : LogAt w' τ' H.bl bd L') (m : Step w τ w' τ' LogTag) : PoolW w' τ' bp bf bd H L' D F s :=
  ⟨walr_pool h.pool (m.mono (fun g hg => .inl hg)), hl, h.dev.step m (fun g hg => ⟨devtag_log g hg, fun e => waltag_data (e ▸ .inl hg)⟩)⟩
theorem put_new {w : World} {τ : Tags} {bp bf bd N : Nat} {H : PoolH} {L : LogM} {D : Dev} {F : List Fr} {s : Ck.Clk.St} {cur : Nat → List Int} {i b n ls : Nat} {f : Fr} {P Q rb R : List Int} (hp : PoolW w τ bp bf bd H (L.more rb) D (F.set i { f with pg := some (b, Q) }) s) (hg : Good N H.st L D F cur) (hh : Held F s i) (hhand : s.h < s.n)
    (hf : F[i]? = some f) (hpg : f.pg = some (b, P)) (hfn : f.n = n) (hn : n < 4294967296) (hQ : Sound Q) (hQn : pageNumber Q = n) (hrb : 0 < rb.length) (hcap : L.stream.length + rb.length ≤ 127 * L.strips) (hls : L.base + L.stream.length = ls) (h64 : ls < 18446744073709551616) (hR : layN Q 0 (leB ls 8) = R) :
    Calls Tryz.prog 13 #[.pointer (some ⟨bp, 0, none⟩), .int .u32 (n : Int), .int .u64 (ls : Int)] w fun e w' => e = .returned (.bool true) ∧ ∃ τ' F' s', PoolW w' τ' bp bf bd H (L.more rb) D F' s' ∧ Good N H.st (L.more rb) D F' (updC cur n R) ∧ Clock F' s' ∧ PageAt w' τ' (tPg i) b R ∧ Step w τ w' τ' PWTag := by
  have hil := (List.getElem?_eq_some_iff.1 hf).1
  obtain ⟨h1, h2, h3, h4⟩ := hh.put hhand
  have hbase := hg.base
  have hl0 : 0 < ls := by omega
  have hf1 : (F.set i { f with pg := some (b, Q) })[i]? = some { f with pg := some (b, Q) } := List.getElem?_set_self hil
  obtain ⟨nv, hnv⟩ : ∃ nv, (if f.first = 0 then ls else f.first) = nv := ⟨_, rfl⟩
  have hnv0 : 0 < nv := by rw [← hnv]; split <;> omega
  have := put_lsn hp.pool n ls hn (i := i) ((whereOf_iff hp.pool.one n i).2 ⟨_, hf1, has_iff.2 ⟨b, Q, rfl, hfn⟩⟩) hf1 rfl h3 h1 hl0 h64 (nv := nv) hnv
  rw [h2] at this
  refine this.mono ?_
  rintro e w' ⟨rfl, τ', hp', hs'⟩
  rw [List.set_set] at hp'
  have hgp := hg.put hf hpg hQ (by rw [hQn, hfn]) rb hrb hcap (by rw [hls, show (2 : Nat) ^ 64 = 18446744073709551616 from by decide]; exact h64) hnv0
  rw [hls, hR] at hgp
  rw [hR] at hp'
  have hpage := hp'.pg i b R (by rw [List.getElem?_set_self hil]; rfl)
  refine ⟨rfl, τ', _, _, hp.turn hp' hs', ?_, h4 _ (by rw [List.length_set]) (fun j f' g' hf' hg' => ?_), hpage, hs'.mono (fun _ h => .inl h)⟩
  · rw [← hfn]; exact hgp
  · rcases set_get hil hg' with ⟨rfl, rfl⟩ | ⟨_, hg2⟩
    · rw [hf] at hf'
      cases hf'
      rw [hpg]; rfl
    · rw [hf'] at hg2
      cases hg2
      rfl
/-- what set leaves -/
def SetW (w : World) (τ : Tags) (bw bd bl bp bf k N m : Nat) (H : PoolH) (e : Ending) (w' : World) : Prop :=
  e = .returned (.bool true) ∧ ∃ was' vs' H' L' D' F' s' cur' τ', AllW w' τ' bw bd bl bp bf k N (m + 1) was' vs' H' L' D' F' s' cur' ∧ H.st ≤ H'.st ∧ H'.st ≤ H.st + 1 ∧ Step w τ w' τ' AnyTag
set_option maxHeartbeats 4000000 in
set_option maxRecDepth 100000 in
theorem wset_any {w : World} {τ : Tags} {bw bd bl bp bf k N m : Nat} {was : Value} {vs : List (List (List Int))} {H : PoolH} {L : LogM} {D : Dev} {F : List Fr} {s : Ck.Clk.St} {cur : Nat → List Int} (ha : AllW w τ bw bd bl bp bf k N m was vs H L D F s cur) (hm : m ≤ 200) (hst : H.st + 1 < 18446744073709551616) (kd pg : Nat) (hpg : pg < 4294967296) (slot : Int) {v vl : Value} {data : List Int} (hb : Bytes w τ tBox v data) :
    Calls Tryz.prog 52 #[.pointer (some ⟨bw, 0, none⟩), .agg #[.int .u8 (kd : Int), .int .u32 (pg : Int), .int .i64 slot, v, vl]] w (SetW w τ bw bd bl bp bf k N m H) := by
  have hN8 := ha.n8
  obtain ⟨pv, cv0, rfl, _, _⟩ := hb.any
  obtain ⟨dl, hdl⟩ : ∃ dl, data.length = dl := ⟨_, rfl⟩
  rw [hdl] at hb ⊢
  have hst1 := (Step.refl w τ nil).alloc (.cells #[.int .u8 (kd : Int), .int .u32 (pg : Int), .int .i64 slot, .slice pv dl cv0, vl] 46) tOp
  have hop := Own.born w τ tOp 46 #[.int .u8 (kd : Int), .int .u32 (pg : Int), .int .i64 slot, .slice pv dl cv0, vl]
  have ha1 := ha.step hst1
  have hb1 := hb.step hst1 (fun h => h)
  obtain ⟨n, hn⟩ : ∃ n, pg % N = n := ⟨_, rfl⟩
  have hnN : n < N := by rw [← hn]; exact Nat.mod_lt _ (by omega)
  generalize τ.put w.heap.size tOp = τ1 at *
  generalize hbo : w.heap.size = bo at *
  obtain ⟨bws, cap, bv, j, cv, px, cx, ver, rfl, hca1, hca2, hlv, hjm, hver, hvl, hnv⟩ := ha1.mv.latest ha1.vlen ha1.last hnN
  have c4 := ha1.mv.own.at 4 (v := .slice (some ⟨bws, 0, none⟩) N cap) rfl
  have q1 := hop.at 1 (v := .int .u32 (pg : Int)) rfl
  have hNw := u32_wrap' N (by omega)
  have hN0 : ¬ (N : Int) = 0 := by omega
  have hrem : (pg : Int) % (N : Int) = (n : Int) := by omega
  have hrem2 : Int.tmod (pg : Int) (N : Int) = (n : Int) := by rw [Int.tmod_eq_emod_of_nonneg (by omega)]; exact hrem
  have hnw := u32_wrap' n (by omega)
  have Ha1 := Lib.hid ha1
  have Hb1 := Lib.hid hb1
  have Hop := Lib.hid hop
  have Hst1 := Lib.hid hst1
  have Hlv := Lib.hid hlv
  have Hver := Lib.hid hver
  have Hvl := Lib.hid hvl
  have Hn := Lib.hid hn
  have Hnv := Lib.hid hnv
  have Hdl := Lib.hid hdl
  clear ha1 hb1 hop hst1 hlv hver hvl hn hnv hdl
  clear ha hb
  go_enter Tryz.func52, Tryz.ntmps52
  go_wp2_with fail
  go_quiet (fail)
  generalize w.alloc (.cells #[.int .u8 (kd : Int), .int .u32 (pg : Int), .int .i64 slot, .slice pv dl cv0, vl] 46) = w1 at *
  have hsq := (Step.refl w1 τ1 nil).drews nq
  have ha2 := Ha1.out.step hsq
  have hb2 := Hb1.out.step hsq (fun h => h)
  have hop2 := Hop.out.step hsq (fun h => h)
  have hlv2 := Hlv.out.nil hsq
  have hst2 := (Hst1.out.mono (T := AnyTag) (fun _ h => h.elim)).trans (hsq.mono (fun _ h => h.elim))
  have hnv2 := Hnv.out.step hsq (fun h => h) (fun h => h)
  generalize w1.drewN nq = w2 at *
  clear Ha1 Hb1 Hop Hst1 Hlv Hnv hsq c4 q1 w1
  have d2 := ha2.mv.own.at 2 (v := .pointer (some ⟨bp, 0, none⟩)) rfl
  have hget := get_all ha2 hst n hnN
  have Hget := Lib.hid hget
  have Hb2 := Lib.hid hb2
  have Hop2 := Lib.hid hop2
  have Hlv2 := Lib.hid hlv2
  have Hst2 := Lib.hid hst2
  have Ha2 := Lib.hid ha2
  have Hnv2 := Lib.hid hnv2
  clear hget hb2 hop2 hlv2 hst2 ha2 hnv2
  go_wp2_with fail
  refine Hget.out.mono ?_
  rintro e w3 ⟨b, rfl, τ3, H3, L3, D3, F3, s3, i, f, hI3, hs31, hs32, hs3⟩
  have hb3 := Hb2.out.step hs3 pw_box
  have hop3 := Hop2.out.step hs3 pw_op
  have hlv3 := Hlv2.out.pw hs3
  have hnv3 := Hnv2.out.step hs3 (fun hx => (pw_world hx).2.2.1 n rfl) (fun hx => (pw_world hx).2.2.2.2 rfl)
  have d4 := hI3.mv.own.at 4 (v := .slice (some ⟨bws, 0, none⟩) N cap) rfl
  have d5 := hlv3.c1
  have d6 := hlv3.c2
  have hlt : ((n : Int) < (N : Int)) := by omega
  have hP3 := hI3.page
  have h448 := hP3.len
  have hst3 := Hst2.out.trans (hs3.mono (T := AnyTag) (fun _ h => pw_any h))
  rw [h448] at d6
  have hby := pagebytes_any (hP3.step (Step.refl w3 τ3 nil).drew (fun h => h)) tData
  have hlvd := hlv3.nil (Step.refl w3 τ3 nil).drew
  have hj1 : IntKind.i64.wrap ((j : Int) + 1 - 1) = (j : Int) := by
    have : (j : Int) + 1 - 1 = (j : Int) := by omega
    rw [this]; exact i64_small _ (by omega) (by omega)
  have hj0 : IntKind.i64.wrap (j : Int) = (j : Int) := i64_small _ (by omega) (by omega)
  have hj5 : IntKind.i64.wrap ((j : Int) + 1) = (j : Int) + 1 := i64_small _ (by omega) (by omega)
  have hj2 : (j : Int) + 1 - 1 = (j : Int) := by omega
  have hj3 : (j : Int) < (j : Int) + 1 := by omega
  have hj4 : j < j + 1 := by omega
  have Hb3 := Lib.hid hb3
  have Hop3 := Lib.hid hop3
  have Hlv3 := Lib.hid hlv3
  have Hst3 := Lib.hid hst3
  have HI3 := Lib.hid hI3
  have HP3 := Lib.hid hP3
  have Hby := Lib.hid hby
  have Hlvd := Lib.hid hlvd
  have Hs3 := Lib.hid hs3
  have Hnv3 := Lib.hid hnv3
  have H448 := Lib.hid h448
  clear hb3 hop3 hlv3 hst3 hI3 hP3 hby hlvd hs3 hnv3 h448
  go_wp2_with fail
  go_region_held3 (fun w' => w'.cell? ⟨bv, j, none⟩ = some (.slice px 448 cx)) (go_keep) (first
    | (go_at_call 28
       refine Hby.out.mono ?_
       rintro e w4 ⟨u4, τ4, rfl, hn4, hs4⟩
       have hlv4 := Hlvd.out.nil hs4
       have hsb := samebytes_any hn4.bytes hlv4.by_
       rw [decide_eq_true rfl, H448.out] at hsb
       obtain ⟨p4, c4, hu4⟩ := hn4.val
       rw [H448.out] at hu4
       subst hu4
       have e6 := hlv4.c2
       rw [H448.out] at e6
       have hs4' := (Step.refl w3 τ3 nil).drew.trans hs4
       have Hsb := Lib.hid hsb
       have Hs4' := Lib.hid hs4'
       clear hsb hs4'
       clear hn4 hs4 hlv4)
    | (go_at_call 27
       refine Hsb.out.mono ?_
       rintro e w5 ⟨rfl, rfl⟩))
  have hI4 := HI3.out.step Hs4'.out
  have hb4 := Hb3.out.step Hs4'.out (fun h => h)
  have hop4 := Hop3.out.step Hs4'.out (fun h => h)
  have hlv4 := Hlv3.out.nil Hs4'.out
  have hnv4 := Hnv3.out.step Hs4'.out (fun h => h) (fun h => h)
  have hst4 := Hst3.out.trans (Hs4'.out.mono (T := AnyTag) (fun _ h => h.elim))
  have k2 := hop4.at 2 (v := .int .i64 slot) rfl
  have k3 := hop4.at 3 (v := .slice pv dl cv0) rfl
  obtain ⟨hsnd, hnum, -⟩ := hI4.good.page n hnN
  have hset := pageset_any (g := tPg i) (by simp [tPg, tOut, tData, tAll]) hI4.page hsnd slot hb4 (by simp [tPg, tBox])
  have HI4 := Lib.hid hI4
  have Hlv4 := Lib.hid hlv4
  have Hnv4 := Lib.hid hnv4
  have Hst4 := Lib.hid hst4
  have Hset := Lib.hid hset
  have Hsnd := Lib.hid hsnd
  have Hnum := Lib.hid hnum
  clear hI4 hlv4 hnv4 hst4 hset hsnd hnum
  clear HI3 Hb3 Hop3 Hlv3 Hnv3 Hst3 Hs4' hb4 hop4 Hs3 HP3 Hby Hlvd Hsb e6 d4 d5 d6 Hb2 Hop2 Hlv2 Hst2 Ha2 Hnv2 d2 Hget
  go_wp2_with fail
  refine Hset.out.mono ?_
  rintro e w5 ⟨er, Q, τ5, rfl, hR, hP5, hs5⟩
  have hp5 := HI4.out.mv.pool.pool.setPage HI4.out.at_ HI4.out.pg hs5 hP5
  have hs5p : Step w4 τ4 w5 τ5 PoolTag := hs5.mono (fun g hg => hg ▸ pagetag_pool i)
  have hs5w : Step w4 τ4 w5 τ5 PWTag := hs5p.mono (fun g hg => .inl hg)
  have hpw5 := HI4.out.mv.pool.turn hp5 hs5p
  have hM5 := HI4.out.mv.turn hs5w hpw5
  have hlv5 := Hlv4.out.pw hs5w
  have hnv5 := Hnv4.out.step hs5w (fun hx => (pw_world hx).2.2.1 n rfl) (fun hx => (pw_world hx).2.2.2.2 rfl)
  have hst5 := Hst4.out.trans (hs5w.mono (T := AnyTag) (fun _ h => pw_any h))
  have g2 := hM5.own.at 2 (v := .pointer (some ⟨bp, 0, none⟩)) rfl
  have g1 := hM5.own.at 1 (v := .pointer (some ⟨bl, 0, none⟩)) rfl
  clear k2 k3 Hset
  by_cases her : er = 0
  · subst her
    obtain ⟨hQ, hQn, -⟩ := hR.ok rfl
    have hstr := HI4.out.stream
    have hstt := HI4.out.starts
    have hsps := HI4.out.strips
    have hbas := HI4.out.base
    have happ := walappend_end hpw5.log (by omega) (by omega) n (by omega)
    have hre : recEnd n = #[.int .u8 6, .int .u32 (n : Int), .int .u64 0, .int .u64 0, .int .u32 0, .int .u16 0, .bool false, .bool false, .slice none 0 0, .slice none 0 0, .slice none 0 0, .slice none 0 0] := rfl
    rw [hre, HI4.out.hbl] at happ
    have hrl := recBytes_length n
    have hlsn : ∃ ls, L3.base + L3.stream.length = ls := ⟨_, rfl⟩
    obtain ⟨ls, hls⟩ := hlsn
    rw [hls] at happ
    generalize recBytes n = rb at *
    have hls0 : (0 : Int) < (ls : Int) := by omega
    have hls1 : ls < 18446744073709551616 := by omega
    have Happ := Lib.hid happ
    have Hpw5 := Lib.hid hpw5
    have HM5 := Lib.hid hM5
    have Hlv5 := Lib.hid hlv5
    have Hnv5 := Lib.hid hnv5
    have Hst5 := Lib.hid hst5
    have Hls := Lib.hid hls
    have Hrl := Lib.hid hrl
    have HQ := Lib.hid hQ
    have HQn := Lib.hid hQn
    clear happ hpw5 hM5 hlv5 hnv5 hst5 hls hrl hQ hQn
    clear hR hP5 hs5 hp5 hs5p hs5w hre
    go_wp2_with fail
    refine Happ.out.mono ?_
    rintro e w6 ⟨rfl, τ6, hl6, hs6⟩
    have hs6w : Step w5 τ5 w6 τ6 PWTag := hs6.mono (fun g hg => .inr (.inl hg))
    have hpw6 := Hpw5.out.append (by rw [HI4.out.hbl]; exact hl6) hs6
    have hM6 := HM5.out.turn hs6w hpw6
    have hlv6 := Hlv5.out.pw hs6w
    have hnv6 := Hnv5.out.step hs6w (fun hx => (pw_world hx).2.2.1 n rfl) (fun hx => (pw_world hx).2.2.2.2 rfl)
    have hst6 := Hst5.out.trans (hs6w.mono (T := AnyTag) (fun _ h => pw_any h))
    have m2 := hM6.own.at 2 (v := .pointer (some ⟨bp, 0, none⟩)) rfl
    obtain ⟨R, hR⟩ : ∃ R, layN Q 0 (leB ls 8) = R := ⟨_, rfl⟩
    have hput := put_new hpw6 HI4.out.good HI4.out.held HI4.out.hand HI4.out.at_ HI4.out.pg HI4.out.fn (by omega) HQ.out (by rw [HQn.out]; exact Hnum.out) (by rw [Hrl.out]; omega) (by rw [Hrl.out]; omega) Hls.out hls1 hR
    have Hput := Lib.hid hput
    have HM6 := Lib.hid hM6
    have Hlv6 := Lib.hid hlv6
    have Hnv6 := Lib.hid hnv6
    have Hst6 := Lib.hid hst6
    have HR := Lib.hid hR
    clear hput hM6 hlv6 hnv6 hst6 hR
    clear hl6 hs6 hs6w hpw6 Hpw5 HM5 Hlv5 Hnv5 Hst5 Happ g1 g2
    go_wp2_with fail
    refine Hput.out.mono ?_
    rintro e w7 ⟨rfl, τ7, F7, s7, hpw7, hg7, hc7, hP7, hs7⟩
    have hM7 := HM6.out.turn hs7 hpw7
    have hlv7 := Hlv6.out.pw hs7
    have hnv7 := Hnv6.out.step hs7 (fun hx => (pw_world hx).2.2.1 n rfl) (fun hx => (pw_world hx).2.2.2.2 rfl)
    have hst7 := Hst6.out.trans (hs7.mono (T := AnyTag) (fun _ h => pw_any h))
    have h448R := hP7.len
    have hby7 := pagebytes_any hP7 tData
    have Hby7 := Lib.hid hby7
    have HM7 := Lib.hid hM7
    have Hlv7 := Lib.hid hlv7
    have Hnv7 := Lib.hid hnv7
    have Hst7 := Lib.hid hst7
    have Hg7 := Lib.hid hg7
    have Hc7 := Lib.hid hc7
    have H448R := Lib.hid h448R
    have Hs7 := Lib.hid hs7
    clear hby7 hM7 hlv7 hnv7 hst7 hg7 hc7 h448R hs7
    clear HM6 Hlv6 Hnv6 Hst6 Hput m2 hpw7 hP7
    go_wp2_with fail
    refine Hby7.out.mono ?_
    rintro e w8 ⟨u8, τ8, rfl, hn8, hs8⟩
    have hM8 := HM7.out.step hs8
    have hlv8 := Hlv7.out.nil hs8
    have hnv8 := Hnv7.out.step hs8 (fun h => h) (fun h => h)
    have hst8 := Hst7.out.trans (hs8.mono (T := AnyTag) (fun _ h => h.elim))
    obtain ⟨p8, c8, rfl⟩ := hn8.val
    have hby8 := hn8.bytes
    generalize hRl : R.length = rl at *
    have hz8 := step_z w8 τ8 AnyTag
    have hsz : ver.length ≤ 1000000000 := by rw [Hvl.out]; omega
    have HM8 := Lib.hid hM8
    have Hlv8 := Lib.hid hlv8
    have Hnv8 := Lib.hid hnv8
    have Hst8 := Lib.hid hst8
    have Hby8 := Lib.hid hby8
    have Hz8 := Lib.hid hz8
    have Hsz := Lib.hid hsz
    clear hM8 hlv8 hnv8 hst8 hby8 hz8 hsz
    clear hn8 hs8 HM7 Hlv7 Hnv7 Hst7 Hby7
    go_wp2_with (at_builtin; refine wpList_append_nv1 Hz8.out (by simp [tVer, tData]) Hnv8.out Hby8.out Hsz.out rfl rfl _ _ rfl rfl rfl ?_; intro v9 w9 τ9 hnv9 hz9 hs9; obtain ⟨p9, c9, rfl⟩ := hnv9.val; have hM9 := HM8.out.own.step hs9 (by simp [tWorld, tVer]); have e94 := hM9.at 4 (v := .slice (some ⟨bws, 0, none⟩) N cap) rfl; have hlc9 : w9.cell? ⟨bws, n, none⟩ = some (.slice (some ⟨bv, 0, none⟩) (j + 1) cv) := (by obtain ⟨xs, a1, a2⟩ := Hlv8.out.o1; exact (a1.step hs9 (by simp [tWas, tVer])).at n a2); have hlf9 : w9.frozen? ⟨bws, n, none⟩ = false := (by obtain ⟨xs, a1, a2⟩ := Hlv8.out.o1; exact (a1.step hs9 (by simp [tWas, tVer])).fz n); have Hnv9 := Lib.hid hnv9; have Hz9 := Lib.hid hz9; have Hs9 := Lib.hid hs9; have HM9 := Lib.hid hM9; clear hnv9 hz9 hs9 hM9)
    go_ret
    rw [show ver.length + 1 = (ver ++ [R]).length by rw [List.length_append]; rfl]
    have hvN := HI4.out.vlen
    have hnl : n < vs.length := by omega
    have hwas := HM8.out.was
    rw [← hvN] at hwas
    obtain ⟨hwas9, hq9⟩ := hwas.put hnl Hs9.out Hnv9.out
    rw [hvN] at hwas9
    have hq9a := hq9.mono (T := AnyTag) (fun g hg => by show g.1 ≠ 90; rw [hg]; decide)
    have hpw9 := (HM8.out.pool.step Hs9.out (fun g hg => by
        subst hg
        exact ⟨fun h => by have := h.fst; rw [tVer_fst] at this; omega, fun h => by rcases h with h | h | h <;> simp [tVer, tLog, tStream, tStarts] at h, fun h => by rcases h with h | h | h | h <;> simp [tVer] at h, by simp [tVer, tData]⟩)).step hq9 (fun g hg => by
        subst hg
        exact ⟨fun h => by have := h.fst; rw [tWas_fst] at this; omega, fun h => by rcases h with h | h | h <;> simp [tWas, tLog, tStream, tStarts] at h, fun h => by rcases h with h | h | h | h <;> simp [tWas] at h, by decide⟩)
    have hst9 := (Hst8.out.trans (Hs9.out.mono (T := AnyTag) (fun g hg => by show g.1 ≠ 90; rw [hg, tVer_fst]; omega))).trans hq9a
    refine ⟨rfl, _, vs.set n (ver ++ [R]), H3, L3.more rb, D3, F7, s7, updC cur n R, τ9, ⟨⟨(HM9.out.step hq9 (by decide)), hwas9, hpw9⟩, Hg7.out, Hc7.out, HI4.out.hn, HI4.out.hbl, HI4.out.n8, by rw [List.length_set]; exact hvN, fun n' hn' => ?_, hbas, hsps, ?_, ?_⟩, hs31, hs32, hst9⟩
    · by_cases e : n' = n
      · subst e
        refine ⟨_, List.getElem?_set_self hnl, by rw [List.length_append]; simp, by rw [List.length_append, Hvl.out]; simp; omega, ?_⟩
        rw [List.length_append, List.length_singleton, Nat.add_sub_cancel, List.getD_eq_getElem?_getD, List.getElem?_append_right (Nat.le_refl _), Nat.sub_self]
        unfold updC
        rw [if_pos rfl]; rfl
      · obtain ⟨ver', a1, a2, a3, a4⟩ := HI4.out.last n' hn'
        refine ⟨ver', by rw [List.getElem?_set_ne (fun q => e q.symm)]; exact a1, a2, by omega, ?_⟩
        unfold updC
        rw [if_neg e]; exact a4
    · show (L3.stream ++ rb).length ≤ _
      rw [List.length_append, Hrl.out]; omega
    · show (L3.starts ++ [L3.stream.length]).length ≤ _
      rw [List.length_append, List.length_singleton]; omega
  · have her' : ¬ (er : Int) = 0 := by omega
    have hQP := hR.no her
    subst hQP
    have hF : F3.set i { f with pg := some (b, cur n) } = F3 := set_same (by rw [HI4.out.at_, ← HI4.out.pg])
    rw [hF] at hM5
    have hI5 : InW w5 τ5 bw bd bl bp bf k N m (.slice (some ⟨bws, 0, none⟩) N cap) vs H3 L3 D3 F3 s3 cur n i b f := ⟨hM5, HI4.out.good, HI4.out.held, HI4.out.at_, HI4.out.pg, HI4.out.fn, HI4.out.nN, HI4.out.hn, HI4.out.hbl, HI4.out.n8, HI4.out.vlen, HI4.out.last, HI4.out.base, HI4.out.strips, HI4.out.stream, HI4.out.starts⟩
    have hput := put_back hI5
    have Hput := Lib.hid hput
    have Hst5 := Lib.hid hst5
    clear hput hst5
    clear hR hP5 hs5 hp5 hs5p hs5w hpw5 hM5 hlv5 hnv5 hI5 HI4 Hst4 Hlv4 Hnv4 hF
    go_wp2_with fail
    refine Hput.out.mono ?_
    rintro e w6 ⟨rfl, s6, hA6, hs6⟩
    have hst6 := Hst5.out.trans (hs6.mono (T := AnyTag) (fun _ h => pw_any h))
    have HA6 := Lib.hid hA6
    have Hst6 := Lib.hid hst6
    clear hA6 hst6
    go_wp2_with fail
    go_ret
    exact ⟨rfl, _, _, _, _, _, _, _, _, _, HA6.out.more, hs31, hs32, Hst6.out⟩
end Go.Proofs.YtgjoahddbieliaaGreat
