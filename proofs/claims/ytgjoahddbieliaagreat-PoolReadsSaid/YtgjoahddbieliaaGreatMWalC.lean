/-
  The log: say, New.
-/
import Derived.Test.YtgjoahddbieliaaGreatMWalB
namespace Go.Proofs.YtgjoahddbieliaaGreat
open Go.RowKit
set_option linter.unusedVariables false

/-- a new header: the log, the device -/
def LogM.said (L : LogM) : LogM := { L with stamp := (L.stamp + 1) % 18446744073709551616, slot := 1 - L.slot }
def LogM.head (L : LogM) : List Int := headB L.stamp L.base L.check L.area
def sayDev (L : LogM) (D : Dev) : Dev := (D.write 0 L.said.slot L.said.head).sync 0
def WalTag (g : Tag) : Prop := LogTag g ∨ DevTag g
theorem waltag_data : ¬ WalTag tData := by simp [WalTag, LogTag, DevTag, tData, tLog, tStream, tStarts]
/-- what a call on the log leaves -/
def WalR (w : World) (τ : Tags) (bl bd : Nat) (L : LogM) (D : Dev) (r : Value) (e : Ending) (w' : World) : Prop := e = .returned r ∧ ∃ τ', LogAt w' τ' bl bd L ∧ DevAt w' τ' bd D ∧ Step w τ w' τ' WalTag
theorem u64_succ (n : Nat) : IntKind.u64.wrap ((n : Int) + 1) = (((n + 1) % 18446744073709551616 : Nat) : Int) := by
  have : IntKind.u64.wrap ((n : Int) + 1) = ((n : Int) + 1) % 18446744073709551616 := by simp [IntKind.wrap, IntKind.bits, IntKind.signed]
  rw [this]; omega
theorem LogM.ok.said {L : LogM} (h : L.ok) : L.said.ok := by
  refine ⟨?_, h.base, h.check, h.area, h.strips, ?_, h.stream, h.starts, h.lasts⟩
  · show (L.stamp + 1) % 18446744073709551616 < 2 ^ 64
    have := Nat.mod_lt (L.stamp + 1) (by omega : 18446744073709551616 > 0)
    omega
  · show 1 - L.slot < 2
    omega
theorem logtag_step {g : Tag} (h : LogTag g) : WalTag g := .inl h

set_option maxRecDepth 100000 in
theorem say_any {w : World} {τ : Tags} {bl bd : Nat} {L : LogM} {D : Dev} (hl : LogAt w τ bl bd L) (hd : DevAt w τ bd D) (h2 : 2 ≤ D.f0.length) (hlim : D.lim 800000) :
    Calls Tryz.prog 113 #[.pointer (some ⟨bl, 0, none⟩)] w (WalR w τ bl bd L.said (sayDev L D) (.tuple #[])) := by
  have hok := hl.ok
  have hB := hl.isB
  obtain ⟨vs, vt, ho, hs, ht⟩ := hl.is
  have hsl := hok.slot
  have c0 := ho.at 0 (v := .int .u64 (L.stamp : Int)) rfl
  have z0 := ho.fz 0
  have c6 := ho.at 6 (v := .int .i64 (L.slot : Int)) rfl
  have z6 := ho.fz 6
  have ho1 := (ho.set 0 (.int .u64 (((L.stamp + 1) % 18446744073709551616 : Nat) : Int))).set 6 (.int .i64 ((1 - L.slot : Nat) : Int))
  have hstw : Step w τ ((w.setCell ⟨bl, 0, none⟩ (.int .u64 (((L.stamp + 1) % 18446744073709551616 : Nat) : Int))).setCell ⟨bl, 6, none⟩ (.int .i64 ((1 - L.slot : Nat) : Int))) τ (fun g => g = tLog) := ((Step.refl w τ (fun g => g = tLog)).set (o := 0) ho.tag rfl _).set (o := 6) (ho.set 0 (.int .u64 (((L.stamp + 1) % 18446744073709551616 : Nat) : Int))).tag rfl _
  have hl1 : LogAt ((w.setCell ⟨bl, 0, none⟩ (.int .u64 (((L.stamp + 1) % 18446744073709551616 : Nat) : Int))).setCell ⟨bl, 6, none⟩ (.int .i64 ((1 - L.slot : Nat) : Int))) τ bl bd L.said :=
    ⟨⟨vs, vt, ho1, hs.step hstw (by simp [tStream, tLog]), ht.step hstw (by simp [tStarts, tLog])⟩, hB, hok.said⟩
  have hd1 := hd.step hstw (fun g hg => by subst hg; exact ⟨devtag_log _ (.inl rfl), by simp [tLog, tData]⟩)
  have hw := u64_succ L.stamp
  have hcs : (1 : Int) - (L.slot : Int) = ((1 - L.slot : Nat) : Int) := by omega
  have hsaid : L.said = { L with stamp := (L.stamp + 1) % 18446744073709551616, slot := 1 - L.slot } := rfl
  have hst1 := hstw.mono (T := LogTag) (fun g hg => .inl hg)
  generalize hLs : L.said = Ls at *
  have e0 : Ls.stamp = (L.stamp + 1) % 18446744073709551616 := by rw [hsaid]
  have e6 : Ls.slot = 1 - L.slot := by rw [hsaid]
  rw [← e0] at hw hst1 hl1 hd1
  rw [← e6] at hcs hst1 hl1 hd1
  have hsd : sayDev L D = (D.write 0 Ls.slot Ls.head).sync 0 := by unfold sayDev; rw [hLs]
  have hoks := hl1.ok
  have Hst1 := Lib.hid hst1
  have Hl1 := Lib.hid hl1
  have Hd1 := Lib.hid hd1
  have Hlim := Lib.hid hlim
  have Hsd := Lib.hid hsd
  have Hoks := Lib.hid hoks
  clear hst1 hl1 hd1 hlim hsd hoks
  clear ho hs ht ho1 hstw hl hd hok hsaid e0 e6 hB
  go_enter Tryz.func113, Tryz.ntmps113
  go_wp2_with fail
  generalize (w.setCell ⟨bl, 0, none⟩ (.int .u64 (Ls.stamp : Int))).setCell ⟨bl, 6, none⟩ (.int .i64 (Ls.slot : Int)) = W1 at *
  obtain ⟨vs1, vt1, ho1, -, -⟩ := Hl1.out.is
  clear c0 z0 c6 z6
  have c0 := ho1.at 0 (v := .int .u64 (Ls.stamp : Int)) rfl
  have c1 := ho1.at 1 (v := .int .u64 (Ls.base : Int)) rfl
  have c2 := ho1.at 2 (v := .int .u64 (Ls.check : Int)) rfl
  have c3 := ho1.at 3 (v := .int .i64 (Ls.area : Int)) rfl
  have c4 := ho1.at 4 (v := .pointer (some ⟨bd, 0, none⟩)) rfl
  have c6 := ho1.at 6 (v := .int .i64 (Ls.slot : Int)) rfl
  clear ho1
  have hss := Hoks.out.slot
  have hsec := sector_any W1.drew τ tData Ls.stamp Ls.base Ls.check Ls.area Hoks.out.stamp (by have := Hoks.out.base; omega) Hoks.out.check (by have := Hoks.out.area; omega)
  have hls : headB Ls.stamp Ls.base Ls.check Ls.area = Ls.head := rfl
  rw [hls] at hsec
  have Hsec := Lib.hid hsec
  have Hls := Lib.hid hls
  have Hss := Lib.hid hss
  clear hsec hls hss
  go_region_held3 (fun w' => w'.cell? ⟨bl, 0, none⟩ = some (.int .u64 (Ls.stamp : Int)) ∧ w'.cell? ⟨bl, 1, none⟩ = some (.int .u64 (Ls.base : Int)) ∧ w'.cell? ⟨bl, 2, none⟩ = some (.int .u64 (Ls.check : Int)) ∧ w'.cell? ⟨bl, 3, none⟩ = some (.int .i64 (Ls.area : Int)) ∧ w'.cell? ⟨bl, 4, none⟩ = some (.pointer (some ⟨bd, 0, none⟩)) ∧ w'.cell? ⟨bl, 6, none⟩ = some (.int .i64 (Ls.slot : Int))) (go_keep) (first
    | (go_at_call 181
       refine Hsec.out.mono ?_
       rintro e w2 ⟨u2, τ2, rfl, hb2, hs2⟩
       have hl2 := (Hl1.out.step (Step.refl W1 τ nil).drew (fun _ _ h => h)).step hs2 (fun _ _ h => h)
       have hd2 := (Hd1.out.step (Step.refl W1 τ nil).drew (fun _ h => h.elim)).step hs2 (fun _ h => h.elim)
       obtain ⟨vs2, vt2, ho2, -, -⟩ := hl2.is
       have d0 := ho2.at 0 (v := .int .u64 (Ls.stamp : Int)) rfl
       have d1 := ho2.at 1 (v := .int .u64 (Ls.base : Int)) rfl
       have d2 := ho2.at 2 (v := .int .u64 (Ls.check : Int)) rfl
       have d3 := ho2.at 3 (v := .int .i64 (Ls.area : Int)) rfl
       have d4 := ho2.at 4 (v := .pointer (some ⟨bd, 0, none⟩)) rfl
       have d6 := ho2.at 6 (v := .int .i64 (Ls.slot : Int)) rfl
       have hwt := write_any hd2 0 (by omega) Ls.slot (by have hq : D.file 0 = D.f0 := rfl; rw [hq]; have := Hss.out; omega) hb2 (by rw [← Hls.out]; exact headB_length _ _ _ _) devtag_data (Dev.lim_mono Hlim.out (by omega))
       have Hl2 := Lib.hid hl2
       have Hd2 := Lib.hid hd2
       have Hs2 := Lib.hid hs2
       have Hwt := Lib.hid hwt
       clear hl2 hd2 hs2 hwt
       clear ho2 hb2)
    | (go_at_call 169
       refine Hwt.out.mono ?_
       rintro e w3 ⟨rfl, τ3, hd3, hs3⟩
       have hl3 := Hl2.out.step hs3 devtag_log
       obtain ⟨vs3, vt3, ho3, -, -⟩ := hl3.is
       have e0 := ho3.at 0 (v := .int .u64 (Ls.stamp : Int)) rfl
       have e1 := ho3.at 1 (v := .int .u64 (Ls.base : Int)) rfl
       have e2 := ho3.at 2 (v := .int .u64 (Ls.check : Int)) rfl
       have e3 := ho3.at 3 (v := .int .i64 (Ls.area : Int)) rfl
       have e4 := ho3.at 4 (v := .pointer (some ⟨bd, 0, none⟩)) rfl
       have e6 := ho3.at 6 (v := .int .i64 (Ls.slot : Int)) rfl
       have hsy := sync_any hd3 0 (by omega)
       have Hl3 := Lib.hid hl3
       have Hd3 := Lib.hid hd3
       have Hs3 := Lib.hid hs3
       have Hsy := Lib.hid hsy
       clear hl3 hd3 hs3 hsy
       clear ho3))
  go_wp2_with fail
  refine Hsy.out.mono ?_
  rintro e w4 ⟨rfl, τ4, hd4, hs4⟩
  have hl4 := Hl3.out.step hs4 devtag_log
  have hall := ((((Hst1.out.mono (fun _ h => logtag_step h)).drew).trans (Hs2.out.mono (fun _ h => h.elim))).trans (Hs3.out.mono (T := WalTag) (fun _ h => .inr h))).trans (hs4.mono (T := WalTag) (fun _ h => .inr h))
  have Hl4 := Lib.hid hl4
  have Hd4 := Lib.hid hd4
  have Hall := Lib.hid hall
  clear hl4 hd4 hall
  clear hs4
  go_wp2_with fail
  go_returns
  exact ⟨rfl, τ4, Hl4.out, by rw [Hsd.out]; exact Hd4.out, Hall.out⟩

/-! ### New -/
def freshLog (n : Nat) : LogM := { newLog n with base := 1, slot := 1 }
def walNewLog (n : Nat) : LogM := (freshLog n).said
def walNewDev (D : Dev) : Dev := sayDev (freshLog D.f0.length) (D.make 0 D.f0.length [])
theorem walnew_no {w : World} {τ : Tags} {bd : Nat} {D : Dev} (h : DevAt w τ bd D) (h18 : D.f0.length < 18) :
    Calls Tryz.prog 42 #[.pointer (some ⟨bd, 0, none⟩)] w fun e w' => e = .returned (.tuple #[.pointer none, .int .u16 82]) ∧ ∃ τ', Step w τ w' τ' nil := by
  have h1 := on_no h h18
  have H1 := Lib.hid h1
  clear h1
  clear h
  go_enter Tryz.func42, Tryz.ntmps42
  go_wp2_with fail
  refine H1.out.mono ?_
  rintro e w1 ⟨rfl, τ1, hs⟩
  have Hs := Lib.hid hs
  clear hs
  go_wp2_with fail
  go_ret2
  exact ⟨rfl, τ1, Hs.out⟩
theorem walnew_yes {w : World} {τ : Tags} {bd : Nat} {D : Dev} (h : DevAt w τ bd D) (h18 : 18 ≤ D.f0.length) (hlim : D.lim 700000) :
    Calls Tryz.prog 42 #[.pointer (some ⟨bd, 0, none⟩)] w fun e w' => ∃ bl τ', e = .returned (.tuple #[.pointer (some ⟨bl, 0, none⟩), .int .u16 0]) ∧ w.heap.size ≤ bl ∧ LogAt w' τ' bl bd (walNewLog D.f0.length) ∧ DevAt w' τ' bd (walNewDev D) ∧ Step w τ w' τ' WalTag := by
  have h1 := on_yes h h18
  have hlen := h.length 0
  have hf0 : D.file 0 = D.f0 := rfl
  rw [hf0] at hlen
  generalize hn : D.f0.length = n at *
  have hwd : walNewDev D = sayDev (freshLog n) (D.make 0 n []) := by unfold walNewDev; rw [hn]
  have H1 := Lib.hid h1
  have H_h := Lib.hid h
  have Hlim := Lib.hid hlim
  have Hwd := Lib.hid hwd
  have Hn := Lib.hid hn
  clear h1 h hlim hwd hn
  clear hf0
  go_enter Tryz.func42, Tryz.ntmps42
  go_wp2_with fail
  refine H1.out.mono ?_
  rintro e w1 ⟨bl, τ1, rfl, hlow, hl1, hs1⟩
  have hd1 := H_h.out.step hs1 (fun _ h => h.elim)
  have hsz := size_any hd1 0 (by omega)
  have hf0 : D.file 0 = D.f0 := rfl
  rw [hf0, Hn.out] at hsz
  have hmk := make_any hl1 hd1 (g := tData) (v := .slice none 0 0) (want := []) (.inl ⟨rfl, rfl⟩) devtag_data 0 n (by rw [Hn.out]; omega) (Dev.lim_mono Hlim.out (by omega))
  have Hl1 := Lib.hid hl1
  have Hs1 := Lib.hid hs1
  have Hd1 := Lib.hid hd1
  have Hsz := Lib.hid hsz
  have Hmk := Lib.hid hmk
  clear hl1 hs1 hd1 hsz hmk
  clear H1 hf0
  go_wp2_with fail
  refine Hsz.out.mono ?_
  rintro e w' ⟨rfl, rfl⟩
  go_wp2_with fail
  refine Hmk.out.mono ?_
  rintro e w2 ⟨rfl, τ2, hd2, hs2⟩
  have hl2 := Hl1.out.step hs2 devtag_log
  have hok2 := hl2.ok
  obtain ⟨vs, vt, ho2, hb2, ht2⟩ := hl2.is
  have c1 := ho2.at 1 (v := .int .u64 0) rfl
  have z1 := ho2.fz 1
  have c6 := ho2.at 6 (v := .int .i64 0) rfl
  have z6 := ho2.fz 6
  have c3 := ho2.at 3 (v := .int .i64 0) rfl
  have hst2 : Step w2 τ2 ((w2.setCell ⟨bl, 1, none⟩ (.int .u64 1)).setCell ⟨bl, 6, none⟩ (.int .i64 1)) τ2 (fun g => g = tLog) := ((Step.refl w2 τ2 (fun g => g = tLog)).set (o := 1) ho2.tag rfl _).set (o := 6) (ho2.set 1 (.int .u64 1)).tag rfl _
  have hl3 : LogAt ((w2.setCell ⟨bl, 1, none⟩ (.int .u64 1)).setCell ⟨bl, 6, none⟩ (.int .i64 1)) τ2 bl bd (freshLog n) :=
    ⟨⟨vs, vt, (ho2.set 1 (.int .u64 1)).set 6 (.int .i64 1), hb2.step hst2 (by simp [tStream, tLog]), ht2.step hst2 (by simp [tStarts, tLog])⟩, hl2.isB, ⟨hok2.stamp, by simp [freshLog], hok2.check, hok2.area, hok2.strips, by simp [freshLog], hok2.stream, hok2.starts, hok2.lasts⟩⟩
  have hd3 := hd2.step hst2 (fun g hg => by subst hg; exact ⟨devtag_log _ (.inl rfl), by simp [tLog, tData]⟩)
  have hsay := say_any hl3 hd3 (by have := Dev.make_length D 0 n [] 0; have hq : ∀ E : Dev, E.file 0 = E.f0 := fun _ => rfl; rw [hq, hq, Hn.out] at this; omega) (Dev.lim_mono (Dev.make_lim Hlim.out 0 n []) (by omega))
  have Hs2 := Lib.hid hs2
  have Hst2 := Lib.hid hst2
  have Hl3 := Lib.hid hl3
  have Hd3 := Lib.hid hd3
  have Hsay := Lib.hid hsay
  clear hs2 hst2 hl3 hd3 hsay
  clear ho2 hb2 ht2 hl2 hok2 hd2
  go_wp2_with fail
  refine Hsay.out.mono ?_
  rintro e w4 ⟨rfl, τ4, hl4, hd4, hs4⟩
  have Hl4 := Lib.hid hl4
  have Hd4 := Lib.hid hd4
  have Hs4 := Lib.hid hs4
  clear hl4 hd4 hs4
  go_wp2_with fail
  go_ret2
  refine ⟨bl, τ4, rfl, hlow, Hl4.out, by rw [Hwd.out]; exact Hd4.out, ?_⟩
  exact (((Hs1.out.mono (fun _ h => h.elim)).trans (Hs2.out.mono (T := WalTag) (fun _ h => .inr h))).trans (Hst2.out.mono (T := WalTag) (fun _ h => .inl (.inl h)))).trans Hs4.out
end Go.Proofs.YtgjoahddbieliaaGreat

/-
  Pages: how one lies in memory; put, get, New.
-/
namespace Go.Proofs.YtgjoahddbieliaaGreat
open Go.RowKit
set_option linter.unusedVariables false

/-- a page: its 448 bytes -/
structure PageAt (w : World) (τ : Tags) (g : Tag) (b : Nat) (P : List Int) : Prop where
  own : Own w τ b g 110 (u8s P)
  isB : IsB P
  len : P.length = 448
theorem PageAt.step {w w' : World} {τ τ' : Tags} {S : Tag → Prop} {g : Tag} {b : Nat} {P : List Int} (h : PageAt w τ g b P) (m : Step w τ w' τ' S) (hs : ¬ S g) : PageAt w' τ' g b P := ⟨h.own.step m hs, h.isB, h.len⟩
def zeros448 : List Int := List.replicate 448 0

/-- some bytes laid over others -/
def layN (l : List Int) (off : Nat) (m : List Int) : List Int := l.take off ++ m ++ l.drop (off + m.length)
theorem layN_length (l : List Int) (off : Nat) (m : List Int) (h : off + m.length ≤ l.length) : (layN l off m).length = l.length := by
  unfold layN; simp only [List.length_append, List.length_take, List.length_drop]; omega
theorem layN_isB {l m : List Int} (hl : IsB l) (hm : IsB m) (off : Nat) : IsB (layN l off m) := by
  intro x hx
  unfold layN at hx
  rcases List.mem_append.1 hx with hx | hx
  · rcases List.mem_append.1 hx with hx | hx
    · exact hl x (List.mem_of_mem_take hx)
    · exact hm x hx
  · exact hl x (List.mem_of_mem_drop hx)
theorem over_layN (l m : List Int) (off k : Nat) (hk : k = m.length) : over (u8s l) off (u8s (m.take k)) = u8s (layN l off m) := by
  subst hk
  rw [over_u8s, List.take_length]; rfl

set_option maxRecDepth 100000 in
theorem pageput_any {w0 w : World} {τ0 τ : Tags} {S : Tag → Prop} (hst : Step w0 τ0 w τ S) {g : Tag} {b : Nat} {P : List Int} (hS : S g ∨ w0.heap.size ≤ b) (h : PageAt w τ g b P) (at_ k n : Nat) (h1 : 1 ≤ k) (h8 : k ≤ 8) (hfit : at_ + k ≤ 448) (hn : n < 2 ^ 64) :
    Calls Tryz.prog 114 #[.pointer (some ⟨b, 0, none⟩), .int .i64 (at_ : Int), .int .i64 (k : Int), .int .u64 (n : Int)] w fun e w' => e = .returned (.tuple #[]) ∧ ∃ τ', PageAt w' τ' g b (layN P at_ (leB n k)) ∧ Step w0 τ0 w' τ' S ∧ Step w τ w' τ' (fun t => t = g) := by
  have hp := put_any w.drew τ tData n k hn h1 h8
  have hlen := h.len
  have hfin : PageAt w τ g b P := h
  have hle : at_ ≤ 448 := by omega
  have hlei : (at_ : Int) ≤ 448 := by omega
  have hne : ¬ at_ = 448 := by omega
  have hne' : ¬ 448 = at_ := by omega
  have ho := h.own.drew
  have hmin : k = Nat.min (leB n k).length (448 - at_) := by rw [leB_length]; exact (Nat.min_eq_left (by omega)).symm
  have hft : at_ + k ≤ (u8s P).length := by rw [u8s_length, hlen]; exact hfit
  have Hp := Lib.hid hp
  have Hlen := Lib.hid hlen
  have Hfin := Lib.hid hfin
  have Ho := Lib.hid ho
  have Hmin := Lib.hid hmin
  have Hft := Lib.hid hft
  have Hst := Lib.hid hst
  have HS := Lib.hid hS
  clear hp hlen hfin ho hmin hft hst hS
  clear h hn
  go_enter Tryz.func114, Tryz.ntmps114
  go_region_law (first
    | (go_simp
       go_at_call 182
       refine Hp.out.mono ?_
       rintro e w2 ⟨u2, τ2, rfl, hb2, he2, hm2⟩
       have hs2 := Hst.out.drew.trans (Step.of _ hm2 he2)
       have hq2 := (Step.refl w τ (fun t => t = g)).drew.trans (Step.of _ hm2 he2)
       have ho2 := Ho.out.step (Step.of nil hm2 he2) (fun h => h)
       obtain ⟨p2, c2, rfl, -, -⟩ := hb2.any
       have Hs2 := Lib.hid hs2
       have Ho2 := Lib.hid ho2
       have Hb2 := Lib.hid hb2
       have Hq2 := Lib.hid hq2
       clear hs2 ho2 hb2 hq2
       clear he2 hm2)
    | (refine step_copy_ob Hs2.out Ho2.out HS.out Hb2.out k Hmin.out Hft.out rfl _ _ rfl rfl rfl ?_
       intro w3 ho3 hs3 hW3
       rw [over_layN _ _ _ _ (leB_length n k).symm] at ho3
       have Ho3 := Lib.hid ho3
       have Hs3 := Lib.hid hs3
       have HW3 := Lib.hid hW3
       clear ho3 hs3 hW3))
  all_goals go_returns
  all_goals exact ⟨rfl, τ2, ⟨Ho3.out, layN_isB Hfin.out.isB (leB_isB n k) at_, by rw [layN_length _ _ _ (by rw [leB_length, Hlen.out]; exact hfit)]; exact Hlen.out⟩, Hs3.out, Hq2.out.trans HW3.out⟩

/-! ### New -/
def emptyPage (n : Nat) : List Int := layN (layN zeros448 8 (leB n 4)) 14 (leB 448 2)
theorem zeroCells_page : Tryz.zeroCells110 = (u8s zeros448).toArray := by kernel_rfl
theorem zeros448_isB : IsB zeros448 := fun x hx => by rw [(List.mem_replicate.1 hx).2]; omega
set_option maxRecDepth 100000 in
theorem pagenew_any (w : World) (τ : Tags) (g : Tag) (n : Nat) (hn : n < 4294967296) :
    Calls Tryz.prog 43 #[.int .u32 (n : Int)] w fun e w' => ∃ b τ', e = .returned (.pointer (some ⟨b, 0, none⟩)) ∧ w.heap.size ≤ b ∧ PageAt w' τ' g b (emptyPage n) ∧ Step w τ w' τ' nil := by
  have ho := Own.born w τ g 110 Tryz.zeroCells110
  have hs := (Step.refl w τ nil).alloc (.cells Tryz.zeroCells110 110) g
  rw [zeroCells_page] at ho
  have hp0 : PageAt (w.alloc (.cells Tryz.zeroCells110 110)) (τ.put w.heap.size g) g w.heap.size zeros448 := ⟨by rw [zeroCells_page]; exact ho, zeros448_isB, by simp [zeros448]⟩
  have h1 := pageput_any hs (.inr (Nat.le_refl _)) hp0 8 4 n (by omega) (by omega) (by omega) (by omega)
  have Hs := Lib.hid hs
  have H1 := Lib.hid h1
  clear hs h1
  clear ho hp0
  go_enter Tryz.func43, Tryz.ntmps43
  go_wp2_with fail
  refine H1.out.mono ?_
  rintro e w1 ⟨rfl, τ1, hp1, hs1, -⟩
  have h2 := pageput_any hs1 (.inr (Nat.le_refl _)) hp1 14 2 448 (by omega) (by omega) (by omega) (by omega)
  have H2 := Lib.hid h2
  have Hs1 := Lib.hid hs1
  clear h2 hs1
  clear hp1
  go_wp2_with fail
  refine H2.out.mono ?_
  rintro e w2 ⟨rfl, τ2, hp2, hs2, -⟩
  have Hp2 := Lib.hid hp2
  have Hs2 := Lib.hid hs2
  clear hp2 hs2
  go_wp2_with fail
  go_ret
  exact ⟨_, τ2, rfl, Nat.le_refl _, Hp2.out, Hs2.out⟩
end Go.Proofs.YtgjoahddbieliaaGreat

/-
  Pages: get, count, low, Number, LSN, Bytes, at.
-/
namespace Go.Proofs.YtgjoahddbieliaaGreat
open Go.RowKit
set_option linter.unusedVariables false

/-- some bytes of a page as a number -/
def pageN (P : List Int) (at_ k : Nat) : Nat := leN ((P.drop at_).take k) k
theorem PageAt.bytes {w : World} {τ : Tags} {g : Tag} {b : Nat} {P : List Int} (h : PageAt w τ g b P) : Bytes w τ g (.slice (some ⟨b, 0, none⟩) 448 448) P := by
  have := h.own
  refine ⟨h.isB, some ⟨b, 0, none⟩, 448, by rw [h.len], by rw [h.len]; exact Nat.le_refl _, by unfold maxLen; omega, fun _ => ⟨b, 0, rfl, this.tag, fun i hi => ?_⟩⟩
  rw [Nat.zero_add]
  exact this.at i (u8s_at P i hi)
theorem PageAt.part {w : World} {τ : Tags} {g : Tag} {b : Nat} {P : List Int} (h : PageAt w τ g b P) (at_ k : Nat) (h1 : 1 ≤ k) (hfit : at_ + k ≤ 448) : Bytes w τ g (.slice (some ⟨b, at_, none⟩) k (448 - at_)) ((P.drop at_).take k) ∧ ((P.drop at_).take k).length = k := by
  have hb := h.bytes.sub at_ (at_ + k) (448 - at_) (by omega) (by omega) (by omega) (by unfold maxLen; omega)
  rw [Nat.add_sub_cancel_left, Nat.zero_add] at hb
  exact ⟨hb, by rw [List.length_take, List.length_drop, h.len]; omega⟩
theorem pageN_lt {P : List Int} (h : IsB P) (at_ k : Nat) : pageN P at_ k < 2 ^ (8 * k) := leN_lt (fun x hx => h x (List.mem_of_mem_drop (List.mem_of_mem_take hx))) k

set_option maxRecDepth 100000 in
theorem pageget_any {w : World} {τ : Tags} {g : Tag} {b : Nat} {P : List Int} (h : PageAt w τ g b P) (at_ k : Nat) (h1 : 1 ≤ k) (h4 : k ≤ 4) (hfit : at_ + k ≤ 448) :
    Calls Tryz.prog 196 #[.pointer (some ⟨b, 0, none⟩), .int .i64 (at_ : Int), .int .i64 (k : Int)] w fun e w' => e = .returned (.int .i64 (pageN P at_ k : Int)) ∧ w = w' := by
  obtain ⟨hb, hl⟩ := h.part at_ k h1 hfit
  have hg := get_any (p := some ⟨b, at_, none⟩) (c := 448 - at_) (l := (P.drop at_).take k) (by rw [hl]; exact hb) (by omega) (by omega)
  rw [hl] at hg
  change Calls _ _ _ _ (fun e w' => e = .returned (.int .u64 (pageN P at_ k : Int)) ∧ _ = w') at hg
  have hlt : pageN P at_ k < 4294967296 := by
    have h2 := pageN_lt h.isB at_ k
    have h3 : 2 ^ (8 * k) ≤ 2 ^ 32 := Nat.pow_le_pow_right (by omega) (by omega)
    have h5 : (2 : Nat) ^ 32 = 4294967296 := by decide
    omega
  generalize pageN P at_ k = q at *
  have c0 := h.own.at 0 (u8s_at P 0 (by rw [h.len]; omega))
  have Hg := Lib.hid hg
  clear hg
  clear h hb hl
  have e1 : at_ ≤ 448 := by omega
  have e3 : (at_ : Int) + (k : Int) ≤ 448 := by omega
  have e4 : ¬ at_ = 448 := by omega
  have e5 : ¬ 448 = at_ := by omega
  have e6 : (at_ : Int) ≤ (at_ : Int) + (k : Int) := by omega
  have e7 : (0 : Int) ≤ (at_ : Int) + (k : Int) := by omega
  have e8 : ((at_ : Int) + (k : Int)).toNat = at_ + k := by omega
  go_enter Tryz.func196, Tryz.ntmps196
  go_wp2_with fail
  refine Hg.out.mono ?_
  rintro e w' ⟨rfl, rfl⟩
  go_wp2_with fail
  go_ret
  exact ⟨rfl, rfl⟩
def pageCount (P : List Int) : Nat := pageN P 12 2
def pageLow (P : List Int) : Nat := pageN P 14 2
def pageNumber (P : List Int) : Nat := pageN P 8 4
def pageLSN (P : List Int) : Nat := pageN P 0 8
theorem pagecount_any {w : World} {τ : Tags} {g : Tag} {b : Nat} {P : List Int} (h : PageAt w τ g b P) :
    Calls Tryz.prog 125 #[.pointer (some ⟨b, 0, none⟩)] w fun e w' => e = .returned (.int .i64 (pageCount P : Int)) ∧ w = w' := by
  have h1 := pageget_any h 12 2 (by omega) (by omega) (by omega)
  change Calls _ _ _ _ (fun e w' => e = .returned (.int .i64 (pageCount P : Int)) ∧ _ = w') at h1
  have H1 := Lib.hid h1
  clear h1
  clear h
  go_enter Tryz.func125, Tryz.ntmps125
  go_wp2_with fail
  refine H1.out.mono ?_
  rintro e w' ⟨rfl, rfl⟩
  go_wp2_with fail
  go_ret
  exact ⟨rfl, rfl⟩
theorem pagelow_any {w : World} {τ : Tags} {g : Tag} {b : Nat} {P : List Int} (h : PageAt w τ g b P) :
    Calls Tryz.prog 129 #[.pointer (some ⟨b, 0, none⟩)] w fun e w' => e = .returned (.int .i64 (pageLow P : Int)) ∧ w = w' := by
  have h1 := pageget_any h 14 2 (by omega) (by omega) (by omega)
  change Calls _ _ _ _ (fun e w' => e = .returned (.int .i64 (pageLow P : Int)) ∧ _ = w') at h1
  have H1 := Lib.hid h1
  clear h1
  clear h
  go_enter Tryz.func129, Tryz.ntmps129
  go_wp2_with fail
  refine H1.out.mono ?_
  rintro e w' ⟨rfl, rfl⟩
  go_wp2_with fail
  go_ret
  exact ⟨rfl, rfl⟩
theorem u32_wrap' (n : Nat) (h : n < 4294967296) : IntKind.u32.wrap (n : Int) = (n : Int) := by
  have : IntKind.u32.wrap (n : Int) = (n : Int) % 4294967296 := by simp [IntKind.wrap, IntKind.bits, IntKind.signed]
  rw [this]; omega
theorem pageNumber_lt {P : List Int} (h : IsB P) : pageNumber P < 4294967296 := by
  have h2 := pageN_lt h 8 4
  have h5 : (2 : Nat) ^ (8 * 4) = 4294967296 := by decide
  rw [h5] at h2; exact h2
theorem pagenumber_any {w : World} {τ : Tags} {g : Tag} {b : Nat} {P : List Int} (h : PageAt w τ g b P) :
    Calls Tryz.prog 136 #[.pointer (some ⟨b, 0, none⟩)] w fun e w' => e = .returned (.int .u32 (pageNumber P : Int)) ∧ w = w' := by
  have h1 := pageget_any h 8 4 (by omega) (by omega) (by omega)
  change Calls _ _ _ _ (fun e w' => e = .returned (.int .i64 (pageNumber P : Int)) ∧ _ = w') at h1
  have hw := u32_wrap' _ (pageNumber_lt h.isB)
  generalize pageNumber P = q at *
  have H1 := Lib.hid h1
  clear h1
  clear h
  go_enter Tryz.func136, Tryz.ntmps136
  go_wp2_with fail
  refine H1.out.mono ?_
  rintro e w' ⟨rfl, rfl⟩
  go_wp2_with fail
  go_ret
  exact ⟨rfl, rfl⟩
set_option maxRecDepth 100000 in
theorem pagelsn_any {w : World} {τ : Tags} {g : Tag} {b : Nat} {P : List Int} (h : PageAt w τ g b P) :
    Calls Tryz.prog 19 #[.pointer (some ⟨b, 0, none⟩)] w fun e w' => e = .returned (.int .u64 (pageLSN P : Int)) ∧ w = w' := by
  obtain ⟨hb, hl⟩ := h.part 0 8 (by omega) (by omega)
  have hg := get_any (p := some ⟨b, 0, none⟩) (c := 448) (l := (P.drop 0).take 8) (by rw [hl]; exact hb) (by omega) (by omega)
  rw [hl] at hg
  change Calls _ _ _ _ (fun e w' => e = .returned (.int .u64 (pageLSN P : Int)) ∧ _ = w') at hg
  generalize pageLSN P = q at *
  have c0 := h.own.at 0 (u8s_at P 0 (by rw [h.len]; omega))
  have Hg := Lib.hid hg
  clear hg
  clear h hb hl
  go_enter Tryz.func19, Tryz.ntmps19
  go_wp2_with fail
  refine Hg.out.mono ?_
  rintro e w' ⟨rfl, rfl⟩
  go_wp2_with fail
  go_ret
  exact ⟨rfl, rfl⟩
/-- a copy of bytes that are there -/
theorem bclone_any {w : World} {τ : Tags} {g : Tag} {a : Addr} {n c : Nat} {l : List Int} (h : Bytes w τ g (.slice (some a) n c) l) (g' : Tag) (hbig : l.length ≤ 100000000) :
    Calls Tryz.prog 73 #[.slice (some a) n c] w fun e w' => ∃ u τ', e = .returned u ∧ NB w.heap.size w' τ' g' u l ∧ Step w τ w' τ' nil := by
  have hnil := fun (W : World) (a : Option Addr) (n c : Nat) => Lib.run_eql_slice_nil (P := Tryz.prog) W 43 5 a n c 0 0 Tryz.underlying43
  have hst := (Step.refl w τ nil).alloc (.cells #[] 5) g'
  have hnb : NB w.heap.size (w.alloc (.cells #[] 5)) (τ.put w.heap.size g') g' (.slice (some ⟨w.heap.size, 0, none⟩) 0 0) [] :=
    ⟨⟨rfl, .inr ⟨w.heap.size, 0, [], rfl, Own.new w τ g' _ [], rfl, Nat.le_refl _, Nat.zero_le _⟩⟩, fun x hx => by simp at hx, fun k hk => by
      have : w.heap.size = k := by simpa [Value.ownBlock] using hk
      omega⟩
  have hb1 := h.step ((Step.refl w τ nil).alloc (.cells #[] 5) g') (fun h => h)
  have hsz : ([] : List Int).length + l.length ≤ 100000000000 := by simp; omega
  have Hst := Lib.hid hst
  have Hnb := Lib.hid hnb
  have Hb1 := Lib.hid hb1
  have Hsz := Lib.hid hsz
  clear hst hnb hb1 hsz
  clear h hbig
  go_enter Tryz.func73, Tryz.ntmps73
  go_wp2_with (at_builtin; refine wpList_append_nb Hst.out Hnb.out Hb1.out Hsz.out rfl _ _ rfl rfl rfl ?_; intro v' w' τ' hb he hmo; have Hb := Lib.hid hb; have He := Lib.hid he; have Hmo := Lib.hid hmo; clear hb he hmo)
  go_ret
  exact ⟨_, τ', rfl, Hb.out, He.out⟩
theorem pagebytes_any {w : World} {τ : Tags} {g : Tag} {b : Nat} {P : List Int} (h : PageAt w τ g b P) (g' : Tag) :
    Calls Tryz.prog 28 #[.pointer (some ⟨b, 0, none⟩)] w fun e w' => ∃ u τ', e = .returned u ∧ NB w.heap.size w' τ' g' u P ∧ Step w τ w' τ' nil := by
  have hcl := bclone_any h.bytes g' (by rw [h.len]; omega)
  have c0 := h.own.at 0 (u8s_at P 0 (by rw [h.len]; omega))
  have Hcl := Lib.hid hcl
  clear hcl
  clear h
  go_enter Tryz.func28, Tryz.ntmps28
  go_wp2_with fail
  refine Hcl.out.mono ?_
  rintro e w' ⟨u, τ', rfl, hb, hs⟩
  have Hb := Lib.hid hb
  have Hs := Lib.hid hs
  clear hb hs
  go_wp2_with fail
  go_ret
  exact ⟨u, τ', rfl, Hb.out, Hs.out⟩
end Go.Proofs.YtgjoahddbieliaaGreat

/-
  Pages: where a slot's data are; the data; which slots have something.
-/
namespace Go.Proofs.YtgjoahddbieliaaGreat
open Go.RowKit
set_option linter.unusedVariables false

def pOff (P : List Int) (s : Nat) : Nat := if s < pageCount P then pageN P (16 + 4 * s) 2 else 0
def pLen (P : List Int) (s : Nat) : Nat := if s < pageCount P then pageN P (18 + 4 * s) 2 else 0
def pData (P : List Int) (s : Nat) : List Int := (P.drop (pOff P s)).take (pLen P s)
theorem pageN2_lt {P : List Int} (h : IsB P) (at_ : Nat) : pageN P at_ 2 < 65536 := by
  have h2 := pageN_lt h at_ 2
  have h5 : (2 : Nat) ^ (8 * 2) = 65536 := by decide
  rw [h5] at h2; exact h2
theorem pOff_lt {P : List Int} (h : IsB P) (s : Nat) : pOff P s < 65536 := by
  unfold pOff; split
  · exact pageN2_lt h _
  · omega
theorem pLen_lt {P : List Int} (h : IsB P) (s : Nat) : pLen P s < 65536 := by
  unfold pLen; split
  · exact pageN2_lt h _
  · omega
/-- all data lie within the page -/
structure Fit (P : List Int) : Prop where
  count : pageCount P ≤ 40
  ends : ∀ s, pOff P s + pLen P s ≤ 448

set_option maxRecDepth 100000 in
theorem pageat_any {w : World} {τ : Tags} {g : Tag} {b : Nat} {P : List Int} (h : PageAt w τ g b P) (s : Nat) (hs : s < 1000000) (hc : pageCount P ≤ 100) :
    Calls Tryz.prog 126 #[.pointer (some ⟨b, 0, none⟩), .int .i64 (s : Int)] w fun e w' => e = .returned (.tuple #[.int .i64 (pOff P s : Int), .int .i64 (pLen P s : Int)]) ∧ w = w' := by
  have h1 := pagecount_any h
  by_cases hlt : s < pageCount P
  · have h2 := pageget_any h (16 + 4 * s) 2 (by omega) (by omega) (by omega)
    have h3 := pageget_any h (18 + 4 * s) 2 (by omega) (by omega) (by omega)
    have e1 : pOff P s = pageN P (16 + 4 * s) 2 := if_pos hlt
    have e2 : pLen P s = pageN P (18 + 4 * s) 2 := if_pos hlt
    rw [← e1] at h2
    rw [← e2] at h3
    rw [show ((16 + 4 * s : Nat) : Int) = 16 + 4 * (s : Int) by omega] at h2
    rw [show ((18 + 4 * s : Nat) : Int) = 16 + 4 * (s : Int) + 2 by omega] at h3
    generalize pOff P s = o at *
    generalize pLen P s = n at *
    generalize hq : pageCount P = q at *
    have a1 : decide ((s : Int) < 0) = false := by simp
    have a2 : decide ((q : Int) ≤ (s : Int)) = false := by simp; omega
    have H1 := Lib.hid h1
    have H2 := Lib.hid h2
    have H3 := Lib.hid h3
    clear h1 h2 h3
    clear h e1 e2 hq
    go_enter Tryz.func126, Tryz.ntmps126
    go_wp2_with fail
    refine H1.out.mono ?_
    rintro e w' ⟨rfl, rfl⟩
    go_wp2_with fail
    refine H2.out.mono ?_
    rintro e w' ⟨rfl, rfl⟩
    go_wp2_with fail
    refine H3.out.mono ?_
    rintro e w' ⟨rfl, rfl⟩
    go_wp2_with fail
    go_ret2
    exact ⟨rfl, rfl⟩
  · have e1 : pOff P s = 0 := if_neg hlt
    have e2 : pLen P s = 0 := if_neg hlt
    rw [e1, e2]
    generalize hq : pageCount P = q at *
    have a1 : decide ((s : Int) < 0) = false := by simp
    have a2 : decide ((q : Int) ≤ (s : Int)) = true := by simp; omega
    have H1 := Lib.hid h1
    clear h1
    clear h e1 e2 hq
    go_enter Tryz.func126, Tryz.ntmps126
    go_wp2_with fail
    refine H1.out.mono ?_
    rintro e w' ⟨rfl, rfl⟩
    go_wp2_with fail
    go_ret2
    exact ⟨rfl, rfl⟩
theorem pageat_neg {w : World} {τ : Tags} {g : Tag} {b : Nat} {P : List Int} (h : PageAt w τ g b P) (i : Int) (hi : i < 0) :
    Calls Tryz.prog 126 #[.pointer (some ⟨b, 0, none⟩), .int .i64 i] w fun e w' => e = .returned (.tuple #[.int .i64 0, .int .i64 0]) ∧ w = w' := by
  have a1 : decide (i < 0) = true := by simp; omega
  clear h
  go_enter Tryz.func126, Tryz.ntmps126
  go_wp2_with fail
  go_ret2
  exact ⟨rfl, rfl⟩
/-- the data of a slot: a part of the page's own row -/
theorem pagedata_any {w : World} {τ : Tags} {g : Tag} {b : Nat} {P : List Int} (h : PageAt w τ g b P) (hf : Fit P) (s : Nat) (hs : s < 1000000) :
    Calls Tryz.prog 189 #[.pointer (some ⟨b, 0, none⟩), .int .i64 (s : Int)] w fun e w' => ∃ o, e = .returned (.slice (some ⟨b, o, none⟩) (pLen P s) (448 - pOff P s)) ∧ (0 < pLen P s → o = pOff P s) ∧ w = w' := by
  have h1 := pageat_any h s hs (by have := hf.count; omega)
  have he := hf.ends s
  generalize pOff P s = o at *
  generalize pLen P s = n at *
  have c0 := h.own.at 0 (u8s_at P 0 (by rw [h.len]; omega))
  have H1 := Lib.hid h1
  clear h1
  clear h hf
  have e3 : (o : Int) + (n : Int) ≤ 448 := by omega
  have e6 : (o : Int) ≤ (o : Int) + (n : Int) := by omega
  have e7 : (0 : Int) ≤ (o : Int) + (n : Int) := by omega
  have e8 : ((o : Int) + (n : Int)).toNat = o + n := by omega
  by_cases ho : o = 448
  · subst ho
    obtain rfl : n = 0 := by omega
    go_enter Tryz.func189, Tryz.ntmps189
    go_wp2_with fail
    refine H1.out.mono ?_
    rintro e w' ⟨rfl, rfl⟩
    go_wp2_with fail
    go_ret
    exact ⟨0, rfl, fun h => absurd h (by omega), rfl⟩
  · have e4 : ¬ 448 = o := fun e => ho e.symm
    go_enter Tryz.func189, Tryz.ntmps189
    go_wp2_with fail
    refine H1.out.mono ?_
    rintro e w' ⟨rfl, rfl⟩
    go_wp2_with fail
    go_ret
    exact ⟨o, rfl, fun _ => rfl, rfl⟩
end Go.Proofs.YtgjoahddbieliaaGreat
