/-
  The log: say, New.
-/
import Derived.Test.YtgjoahddbieliaaGreatMWalB
namespace Go.Proofs.YtgjoahddbieliaaGreat
open Go.RowKit
set_option linter.unusedVariables false

/-- a new header: the log, the device -/
def LogM.said (L : LogM) : LogM := { L with stamp := (L.stamp + 1) % 18446744073709551616, slot := 1 - L.slot }
def LogM.head (L : LogM) : List Int := headB L.stamp L.base L.check L.area
def sayDev (L : LogM) (D : Dev) : Dev := (D.write 0 L.said.slot L.said.head).sync 0
def WalTag (g : Tag) : Prop := LogTag g ∨ DevTag g
theorem waltag_data : ¬ WalTag tData := by simp [WalTag, LogTag, DevTag, tData, tLog, tStream, tStarts]
/-- what a call on the log leaves -/
def WalR (w : World) (τ : Tags) (bl bd : Nat) (L : LogM) (D : Dev) (r : Value) (e : Ending) (w' : World) : Prop := e = .returned r ∧ ∃ τ', LogAt w' τ' bl bd L ∧ DevAt w' τ' bd D ∧ Step w τ w' τ' WalTag
theorem u64_succ (n : Nat) : IntKind.u64.wrap ((n : Int) + 1) = (((n + 1) % 18446744073709551616 : Nat) : Int) := by
  have : IntKind.u64.wrap ((n : Int) + 1) = ((n : Int) + 1) % 18446744073709551616 := by simp [IntKind.wrap, IntKind.bits, IntKind.signed]
  rw [this]; omega
theorem LogM.ok.said {L : LogM} (h : L.ok) : L.said.ok := by
  refine ⟨?_, h.base, h.check, h.area, h.strips, ?_, h.stream, h.starts, h.lasts⟩
  · show (L.stamp + 1) % 18446744073709551616 < 2 ^ 64
    have := Nat.mod_lt (L.stamp + 1) (by omega : 18446744073709551616 > 0)
    omega
  · show 1 - L.slot < 2
    omega
theorem logtag_step {g : Tag} (h : LogTag g) : WalTag g := .inl h

set_option maxRecDepth 100000 in
theorem say_any {w : World} {τ : Tags} {bl bd : Nat} {L : LogM} {D : Dev} (hl : LogAt w τ bl bd L) (hd : DevAt w τ bd D) (h2 : 2 ≤ D.f0.length) (hlim : D.lim 800000) :
    Calls Tryz.prog 113 #[.pointer (some ⟨bl, 0, none⟩)] w (WalR w τ bl bd L.said (sayDev L D) (.tuple #[])) := by
  have hok := hl.ok
  have hB := hl.isB
  obtain ⟨vs, vt, ho, hs, ht⟩ := hl.is
  have hsl := hok.slot
  have c0 := ho.at 0 (v := .int .u64 (L.stamp : Int)) rfl
  have z0 := ho.fz 0
  have c6 := ho.at 6 (v := .int .i64 (L.slot : Int)) rfl
  have z6 := ho.fz 6
  have ho1 := (ho.set 0 (.int .u64 (((L.stamp + 1) % 18446744073709551616 : Nat) : Int))).set 6 (.int .i64 ((1 - L.slot : Nat) : Int))
  have hstw : Step w τ ((w.setCell ⟨bl, 0, none⟩ (.int .u64 (((L.stamp + 1) % 18446744073709551616 : Nat) : Int))).setCell ⟨bl, 6, none⟩ (.int .i64 ((1 - L.slot : Nat) : Int))) τ (fun g => g = tLog) := ((Step.refl w τ (fun g => g = tLog)).set (o := 0) ho.tag rfl _).set (o := 6) (ho.set 0 (.int .u64 (((L.stamp + 1) % 18446744073709551616 : Nat) : Int))).tag rfl _
  have hl1 : LogAt ((w.setCell ⟨bl, 0, none⟩ (.int .u64 (((L.stamp + 1) % 18446744073709551616 : Nat) : Int))).setCell ⟨bl, 6, none⟩ (.int .i64 ((1 - L.slot : Nat) : Int))) τ bl bd L.said :=
    ⟨⟨vs, vt, ho1, hs.step hstw (by simp [tStream, tLog]), ht.step hstw (by simp [tStarts, tLog])⟩, hB, hok.said⟩
  have hd1 := hd.step hstw (fun g hg => by subst hg; exact ⟨devtag_log _ (.inl rfl), by simp [tLog, tData]⟩)
  have hw := u64_succ L.stamp
  have hcs : (1 : Int) - (L.slot : Int) = ((1 - L.slot : Nat) : Int) := by omega
  have hsaid : L.said = { L with stamp := (L.stamp + 1) % 18446744073709551616, slot := 1 - L.slot } := rfl
  have hst1 := hstw.mono (T := LogTag) (fun g hg => .inl hg)
  generalize hLs : L.said = Ls at *
  have e0 : Ls.stamp = (L.stamp + 1) % 18446744073709551616 := by rw [hsaid]
  have e6 : Ls.slot = 1 - L.slot := by rw [hsaid]
  rw [← e0] at hw hst1 hl1 hd1
  rw [← e6] at hcs hst1 hl1 hd1
  have hsd : sayDev L D = (D.write 0 Ls.slot Ls.head).sync 0 := by unfold sayDev; rw [hLs]
  have hoks := hl1.ok
  have Hst1 := Lib.hid hst1
  have Hl1 := Lib.hid hl1
  have Hd1 := Lib.hid hd1
  have Hlim := Lib.hid hlim
  have Hsd := Lib.hid hsd
  have Hoks := Lib.hid hoks
  clear hst1 hl1 hd1 hlim hsd hoks
  clear ho hs ht ho1 hstw hl hd hok hsaid e0 e6 hB
  go_enter Tryz.func113, Tryz.ntmps113
  go_wp2_with fail
  generalize (w.setCell ⟨bl, 0, none⟩ (.int .u64 (Ls.stamp : Int))).setCell ⟨bl, 6, none⟩ (.int .i64 (Ls.slot : Int)) = W1 at *
  obtain ⟨vs1, vt1, ho1, -, -⟩ := Hl1.out.is
  clear c0 z0 c6 z6
  have c0 := ho1.at 0 (v := .int .u64 (Ls.stamp : Int)) rfl
  have c1 := ho1.at 1 (v := .int .u64 (Ls.base : Int)) rfl
  have c2 := ho1.at 2 (v := .int .u64 (Ls.check : Int)) rfl
  have c3 := ho1.at 3 (v := .int .i64 (Ls.area : Int)) rfl
  have c4 := ho1.at 4 (v := .pointer (some ⟨bd, 0, none⟩)) rfl
  have c6 := ho1.at 6 (v := .int .i64 (Ls.slot : Int)) rfl
  clear ho1
  have hss := Hoks.out.slot
  have hsec := sector_any W1.drew τ tData Ls.stamp Ls.base Ls.check Ls.area Hoks.out.stamp (by have := Hoks.out.base; omega) Hoks.out.check (by have := Hoks.out.area; omega)
  have hls : headB Ls.stamp Ls.base Ls.check Ls.area = Ls.head := rfl
  rw [hls] at hsec
  have Hsec := Lib.hid hsec
  have Hls := Lib.hid hls
  have Hss := Lib.hid hss
  clear hsec hls hss
  go_region_held3 (fun w' => w'.cell? ⟨bl, 0, none⟩ = some (.int .u64 (Ls.stamp : Int)) ∧ w'.cell? ⟨bl, 1, none⟩ = some (.int .u64 (Ls.base : Int)) ∧ w'.cell? ⟨bl, 2, none⟩ = some (.int .u64 (Ls.check : Int)) ∧ w'.cell? ⟨bl, 3, none⟩ = some (.int .i64 (Ls.area : Int)) ∧ w'.cell? ⟨bl, 4, none⟩ = some (.pointer (some ⟨bd, 0, none⟩)) ∧ w'.cell? ⟨bl, 6, none⟩ = some (.int .i64 (Ls.slot : Int))) (go_keep) (first
    | (go_at_call 181
       refine Hsec.out.mono ?_
       rintro e w2 ⟨u2, τ2, rfl, hb2, hs2⟩
       have hl2 := (Hl1.out.step (Step.refl W1 τ nil).drew (fun _ _ h => h)).step hs2 (fun _ _ h => h)
       have hd2 := (Hd1.out.step (Step.refl W1 τ nil).drew (fun _ h => h.elim)).step hs2 (fun _ h => h.elim)
       obtain ⟨vs2, vt2, ho2, -, -⟩ := hl2.is
       have d0 := ho2.at 0 (v := .int .u64 (Ls.stamp : Int)) rfl
       have d1 := ho2.at 1 (v := .int .u64 (Ls.base : Int)) rfl
       have d2 := ho2.at 2 (v := .int .u64 (Ls.check : Int)) rfl
       have d3 := ho2.at 3 (v := .int .i64 (Ls.area : Int)) rfl
       have d4 := ho2.at 4 (v := .pointer (some ⟨bd, 0, none⟩)) rfl
       have d6 := ho2.at 6 (v := .int .i64 (Ls.slot : Int)) rfl
       have hwt := write_any hd2 0 (by omega) Ls.slot (by have hq : D.file 0 = D.f0 := rfl; rw [hq]; have := Hss.out; omega) hb2 (by rw [← Hls.out]; exact headB_length _ _ _ _) devtag_data (Dev.lim_mono Hlim.out (by omega))
       have Hl2 := Lib.hid hl2
       have Hd2 := Lib.hid hd2
       have Hs2 := Lib.hid hs2
       have Hwt := Lib.hid hwt
       clear hl2 hd2 hs2 hwt
       clear ho2 hb2)
    | (go_at_call 169
       refine Hwt.out.mono ?_
       rintro e w3 ⟨rfl, τ3, hd3, hs3⟩
       have hl3 := Hl2.out.step hs3 devtag_log
       obtain ⟨vs3, vt3, ho3, -, -⟩ := hl3.is
       have e0 := ho3.at 0 (v := .int .u64 (Ls.stamp : Int)) rfl
       have e1 := ho3.at 1 (v := .int .u64 (Ls.base : Int)) rfl
       have e2 := ho3.at 2 (v := .int .u64 (Ls.check : Int)) rfl
       have e3 := ho3.at 3 (v := .int .i64 (Ls.area : Int)) rfl
       have e4 := ho3.at 4 (v := .pointer (some ⟨bd, 0, none⟩)) rfl
       have e6 := ho3.at 6 (v := .int .i64 (Ls.slot : Int)) rfl
       have hsy := sync_any hd3 0 (by omega)
       have Hl3 := Lib.hid hl3
       have Hd3 := Lib.hid hd3
       have Hs3 := Lib.hid hs3
       have Hsy := Lib.hid hsy
       clear hl3 hd3 hs3 hsy
       clear ho3))
  go_wp2_with fail
  refine Hsy.out.mono ?_
  rintro e w4 ⟨rfl, τ4, hd4, hs4⟩
  have hl4 := Hl3.out.step hs4 devtag_log
  have hall := ((((Hst1.out.mono (fun _ h => logtag_step h)).drew).trans (Hs2.out.mono (fun _ h => h.elim))).trans (Hs3.out.mono (T := WalTag) (fun _ h => .inr h))).trans (hs4.mono (T := WalTag) (fun _ h => .inr h))
  have Hl4 := Lib.hid hl4
  have Hd4 := Lib.hid hd4
  have Hall := Lib.hid hall
  clear hl4 hd4 hall
  clear hs4
  go_wp2_with fail
  go_returns
  exact ⟨rfl, τ4, Hl4.out, by rw [Hsd.out]; exact Hd4.out, Hall.out⟩

/-! ### New -/
def freshLog (n : Nat) : LogM := { newLog n with base := 1, slot := 1 }
def walNewLog (n : Nat) : LogM := (freshLog n).said
def walNewDev (D : Dev) : Dev := sayDev (freshLog D.f0.length) (D.make 0 D.f0.length [])
theorem walnew_no {w : World} {τ : Tags} {bd : Nat} {D : Dev} (h : DevAt w τ bd D) (h18 : D.f0.length < 18) :
    Calls Tryz.prog 42 #[.pointer (some ⟨bd, 0, none⟩)] w fun e w' => e = .returned (.tuple #[.pointer none, .int .u16 82]) ∧ ∃ τ', Step w τ w' τ' nil := by
  have h1 := on_no h h18
  have H1 := Lib.hid h1
  clear h1
  clear h
  go_enter Tryz.func42, Tryz.ntmps42
  go_wp2_with fail
  refine H1.out.mono ?_
  rintro e w1 ⟨rfl, τ1, hs⟩
  have Hs := Lib.hid hs
  clear hs
  go_wp2_with fail
  go_ret2
  exact ⟨rfl, τ1, Hs.out⟩
theorem walnew_yes {w : World} {τ : Tags} {bd : Nat} {D : Dev} (h : DevAt w τ bd D) (h18 : 18 ≤ D.f0.length) (hlim : D.lim 700000) :
    Calls Tryz.prog 42 #[.pointer (some ⟨bd, 0, none⟩)] w fun e w' => ∃ bl τ', e = .returned (.tuple #[.pointer (some ⟨bl, 0, none⟩), .int .u16 0]) ∧ w.heap.size ≤ bl ∧ LogAt w' τ' bl bd (walNewLog D.f0.length) ∧ DevAt w' τ' bd (walNewDev D) ∧ Step w τ w' τ' WalTag := by
  have h1 := on_yes h h18
  have hlen := h.length 0
  have hf0 : D.file 0 = D.f0 := rfl
  rw [hf0] at hlen
  generalize hn : D.f0.length = n at *
  have hwd : walNewDev D = sayDev (freshLog n) (D.make 0 n []) := by unfold walNewDev; rw [hn]
  have H1 := Lib.hid h1
  have H_h := Lib.hid h
  have Hlim := Lib.hid hlim
  have Hwd := Lib.hid hwd
  have Hn := Lib.hid hn
  clear h1 h hlim hwd hn
  clear hf0
  go_enter Tryz.func42, Tryz.ntmps42
  go_wp2_with fail
  refine H1.out.mono ?_
  rintro e w1 ⟨bl, τ1, rfl, hlow, hl1, hs1⟩
  have hd1 := H_h.out.step hs1 (fun _ h => h.elim)
  have hsz := size_any hd1 0 (by omega)
  have hf0 : D.file 0 = D.f0 := rfl
  rw [hf0, Hn.out] at hsz
  have hmk := make_any hl1 hd1 (g := tData) (v := .slice none 0 0) (want := []) (.inl ⟨rfl, rfl⟩) devtag_data 0 n (by rw [Hn.out]; omega) (Dev.lim_mono Hlim.out (by omega))
  have Hl1 := Lib.hid hl1
  have Hs1 := Lib.hid hs1
  have Hd1 := Lib.hid hd1
  have Hsz := Lib.hid hsz
  have Hmk := Lib.hid hmk
  clear hl1 hs1 hd1 hsz hmk
  clear H1 hf0
  go_wp2_with fail
  refine Hsz.out.mono ?_
  rintro e w' ⟨rfl, rfl⟩
  go_wp2_with fail
  refine Hmk.out.mono ?_
  rintro e w2 ⟨rfl, τ2, hd2, hs2⟩
  have hl2 := Hl1.out.step hs2 devtag_log
  have hok2 := hl2.ok
  obtain ⟨vs, vt, ho2, hb2, ht2⟩ := hl2.is
  have c1 := ho2.at 1 (v := .int .u64 0) rfl
  have z1 := ho2.fz 1
  have c6 := ho2.at 6 (v := .int .i64 0) rfl
  have z6 := ho2.fz 6
  have c3 := ho2.at 3 (v := .int .i64 0) rfl
  have hst2 : Step w2 τ2 ((w2.setCell ⟨bl, 1, none⟩ (.int .u64 1)).setCell ⟨bl, 6, none⟩ (.int .i64 1)) τ2 (fun g => g = tLog) := ((Step.refl w2 τ2 (fun g => g = tLog)).set (o := 1) ho2.tag rfl _).set (o := 6) (ho2.set 1 (.int .u64 1)).tag rfl _
  have hl3 : LogAt ((w2.setCell ⟨bl, 1, none⟩ (.int .u64 1)).setCell ⟨bl, 6, none⟩ (.int .i64 1)) τ2 bl bd (freshLog n) :=
    ⟨⟨vs, vt, (ho2.set 1 (.int .u64 1)).set 6 (.int .i64 1), hb2.step hst2 (by simp [tStream, tLog]), ht2.step hst2 (by simp [tStarts, tLog])⟩, hl2.isB, ⟨hok2.stamp, by simp [freshLog], hok2.check, hok2.area, hok2.strips, by simp [freshLog], hok2.stream, hok2.starts, hok2.lasts⟩⟩
  have hd3 := hd2.step hst2 (fun g hg => by subst hg; exact ⟨devtag_log _ (.inl rfl), by simp [tLog, tData]⟩)
  have hsay := say_any hl3 hd3 (by have := Dev.make_length D 0 n [] 0; have hq : ∀ E : Dev, E.file 0 = E.f0 := fun _ => rfl; rw [hq, hq, Hn.out] at this; omega) (Dev.lim_mono (Dev.make_lim Hlim.out 0 n []) (by omega))
  have Hs2 := Lib.hid hs2
  have Hst2 := Lib.hid hst2
  have Hl3 := Lib.hid hl3
  have Hd3 := Lib.hid hd3
  have Hsay := Lib.hid hsay
  clear hs2 hst2 hl3 hd3 hsay
  clear ho2 hb2 ht2 hl2 hok2 hd2
  go_wp2_with fail
  refine Hsay.out.mono ?_
  rintro e w4 ⟨rfl, τ4, hl4, hd4, hs4⟩
  have Hl4 := Lib.hid hl4
  have Hd4 := Lib.hid hd4
  have Hs4 := Lib.hid hs4
  clear hl4 hd4 hs4
  go_wp2_with fail
  go_ret2
  refine ⟨bl, τ4, rfl, hlow, Hl4.out, by rw [Hwd.out]; exact Hd4.out, ?_⟩
  exact (((Hs1.out.mono (fun _ h => h.elim)).trans (Hs2.out.mono (T := WalTag) (fun _ h => .inr h))).trans (Hst2.out.mono (T := WalTag) (fun _ h => .inl (.inl h)))).trans Hs4.out
end Go.Proofs.YtgjoahddbieliaaGreat
