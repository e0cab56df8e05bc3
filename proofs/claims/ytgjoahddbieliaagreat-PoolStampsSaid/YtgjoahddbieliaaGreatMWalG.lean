/-
  The log: Append of a record of the kind End.
-/
import Derived.Test.YtgjoahddbieliaaGreatMRecA
import Derived.Test.YtgjoahddbieliaaGreatMPoolQ
namespace Go.Proofs.YtgjoahddbieliaaGreat
open Go.RowKit
set_option linter.unusedVariables false

theorem step_append_ints {w : World} {τ : Tags} {g : Tag} {v : Value} {l : List Nat} (hown : Ints w τ g v l) (x : Nat) {xv : Int} (hxv : xv = (x : Int)) (hsz : l.length ≤ 1000000000) {kb : Nat} (hkb : kb = w.heap.size)
    {ops : Array Oper} {o : Oper} {a : Act} {K : Act → World → Prop} {Q : Exit → Act → World → Prop} {E : Prop} (hgd : o.guard = none) (s y : Operand)
    (hop : o.op = .call { callee := .builtin .append, args := #[s, y], argTypes := #[86, 86] }) (hs : a.eval s = v) (hy : a.eval y = .slice (some ⟨kb, 0, none⟩) 1 1)
    (h : ∀ v' w' τ', Ints w' τ' g v' (l ++ [x]) → Step w τ w' τ' (fun t => t = g) → K (a.put o.dst v') w') : if Region.wanted o (yielded ops a.tmps) = true then Oper.wp Tryz.prog o a (w.alloc (.cells #[.int .i64 xv] 3)) K Q else E := by
  subst hkb
  subst hxv
  have hw : Region.wanted o (yielded ops a.tmps) = true := by simp [Region.wanted, hgd]
  rw [if_pos hw]
  obtain ⟨i0, hi, hz0, hz1, hz2⟩ := info_parts Tryz.infoInt
  have hal : Step w τ (w.alloc (.cells #[.int .i64 (x : Int)] 3)) τ nil := (Step.refl w τ nil).alloc' _
  have hn1 := hown.step hal (fun h => h)
  obtain ⟨v', w', τ', hr, hb', he, hm, hnw⟩ := run_append_buf (P := Tryz.prog) (w.alloc (.cells #[.int .i64 (x : Int)] 3)) τ g 86 o.type 3 i0 (.int .i64 0) 1 8 Tryz.underlying86 hi hz0 hz1 hz2 rfl (by decide) v l.length (i64s l) hn1
    (some ⟨w.heap.size, 0, none⟩) 1 1 [.int .i64 (x : Int)] rfl (fun h => by cases h) (by
      intro ad had; cases had; exact World.news_of_block (cs := #[.int .i64 (x : Int)]) (t := 3) (fr := (0, 0)) (heap_alloc_new w _)) (by simp [Value.oneCell']) (by unfold maxLen; omega) (by omega)
  unfold Oper.wp execOp
  simp only [hop, resolve, invoke, builtin, Sem.run_bind, Sem.run_pure, Result.andThen_ok, List.map_toArray, List.map_cons, List.map_nil, hs, hy, hr]
  refine h v' w' τ' ?_ ((hal.mono (fun _ h => h.elim)).trans ⟨hm.mono (fun k hk hS => (hn1.own k hS).1), he⟩)
  unfold Ints
  rw [List.length_append, i64s_append]; exact hb'
/-- one record more -/
def LogM.more (L : LogM) (b : List Int) : LogM := { L with stream := L.stream ++ b, starts := L.starts ++ [L.stream.length] }
theorem i64_of_u64' {x : Int} (h0 : 0 ≤ x) (h : x < 9223372036854775808) : IntKind.i64.wrap x = x := by
  obtain ⟨n, rfl⟩ : ∃ n : Nat, x = (n : Int) := ⟨x.toNat, by omega⟩
  exact i64_of_u64 n (by omega)
def w_z (w : World) : World := { w with heap := #[] }
theorem step_z (w : World) (τ : Tags) (S : Tag → Prop) : Step (w_z w) τ w τ S := ⟨⟨rfl, rfl, rfl, by simp [w_z], fun k hk => absurd hk (by simp [w_z])⟩, fun k hk => absurd hk (by simp [w_z])⟩
theorem Buf.drew {w : World} {τ : Tags} {g : Tag} {e : TypeId} {size : Nat} {v : Value} {n : Nat} {xs : List Value} (h : Buf w τ g e size v n xs) : Buf w.drew τ g e size v n xs := h.step (Step.refl w τ Go.Proofs.YtgjoahddbieliaaGreat.nil).drew (fun h => h)
theorem nb_of_buf {w : World} {τ : Tags} {g : Tag} {v : Value} {l : List Int} (h : Buf w τ g 5 1 v l.length (u8s l)) (hB : IsB l) : NB (w_z w).heap.size w τ g v l := ⟨h, hB, fun k _ => Nat.zero_le _⟩
set_option maxHeartbeats 4000000 in
set_option maxRecDepth 100000 in
theorem walappend_end {w : World} {τ : Tags} {bl bd : Nat} {L : LogM} (hl : LogAt w τ bl bd L) (hcap : L.stream.length + 27 ≤ L.strips * 127) (hns : L.starts.length ≤ 100000) (n : Nat) (hn : n < 4294967296) :
    Calls Tryz.prog 122 #[.pointer (some ⟨bl, 0, none⟩), .agg (recEnd n), .int .u64 0] w fun e w' => e = .returned (.tuple #[.int .u64 ((L.base + L.stream.length : Nat) : Int), .int .u16 0]) ∧ ∃ τ', LogAt w' τ' bl bd (L.more (recBytes n)) ∧ Step w τ w' τ' LogTag := by
  have hbase := hl.ok.base
  have hstr := hl.ok.strips
  have hok := hl.ok
  have hB := hl.isB
  have hrl := recBytes_length n
  have hrB := recBytes_isB n
  have henc := fun (W : World) (T : Tags) => encode_end W T n hn
  have hr : recEnd n = #[.int .u8 6, .int .u32 (n : Int), .int .u64 0, .int .u64 0, .int .u32 0, .int .u16 0, .bool false, .bool false, .slice none 0 0, .slice none 0 0, .slice none 0 0, .slice none 0 0] := rfl
  simp only [hr] at henc ⊢
  have hstr0 := (Step.refl w τ nil).alloc' (.cells #[.int .u8 6, .int .u32 (n : Int), .int .u64 0, .int .u64 0, .int .u32 0, .int .u16 0, .bool false, .bool false, .slice none 0 0, .slice none 0 0, .slice none 0 0, .slice none 0 0] 159)
  have hl0 := hl.step hstr0 (fun _ _ h => h)
  generalize recBytes n = rb at *
  have Henc := Lib.hid henc
  have Hstr0 := Lib.hid hstr0
  have Hl0 := Lib.hid hl0
  have HB := Lib.hid hB
  have Hrl := Lib.hid hrl
  have HrB := Lib.hid hrB
  have Hok := Lib.hid hok
  clear henc hstr0 hl0 hB hrl hrB hok
  clear hr hl
  go_enter Tryz.func122, Tryz.ntmps122
  go_wp2_with fail
  refine (Henc.out _ τ).mono ?_
  rintro e w1 ⟨u1, τ1, rfl, hnb1, hs1⟩
  have hl1 := Hl0.out.step hs1 (fun _ _ h => h)
  have hst1 := Hstr0.out.trans hs1
  obtain ⟨b1, cap1, ys1, rfl, -, -, -, -, -⟩ := hnb1.row (by rw [Hrl.out]; omega)
  rw [Hrl.out] at hnb1 ⊢
  have hby1 := hnb1.bytes
  have hroom := room_any (hl1.step (Step.refl w1 τ1 nil).drew (fun _ _ h => h))
  obtain ⟨vs, vt, ho1, hs1s, hs1t⟩ := hl1.is
  obtain ⟨ps, cs, rfl⟩ := hs1s.len
  obtain ⟨pt, ct, rfl⟩ := hs1t.len
  have c7 := ho1.drew.at 7 (v := .slice ps L.stream.length cs) rfl
  have hend := End_any (hl1.step (Step.refl w1 τ1 nil).drew (fun _ _ h => h))
  have hsum : L.base + L.stream.length = L.base + L.stream.length := rfl
  generalize hen : L.base + L.stream.length = en at *
  generalize hR : L.strips * 127 = R at *
  have hR3 : R ≤ 300000 := by omega
  have hRw := u64_wrap R (by omega)
  have hRn : ¬ (R : Int) < 0 := by omega
  have hokl := Hok.out.stream
  have hcap' : ¬ (R : Int) < (L.stream.length : Int) + 27 := by omega
  have hq1 : ∀ vs vt, (logCells L bd vs vt)[7]? = some vs := fun _ _ => rfl
  have hq2 : ∀ vs vt, (logCells L bd vs vt)[8]? = some vt := fun _ _ => rfl
  have hmore : ∀ vs vt a b, ((logCells L bd vs vt).set 8 b).set 7 a = logCells (L.more rb) bd a b := fun _ _ _ _ => rfl
  have hmokS : (L.more rb).stream = L.stream ++ rb := rfl
  have hmokT : (L.more rb).starts = L.starts ++ [L.stream.length] := rfl
  have hlst := Hl0.out.ok.strips
  have hmok : (L.more rb).ok := ⟨Hok.out.stamp, Hok.out.base, Hok.out.check, Hok.out.area, Hok.out.strips, Hok.out.slot, by rw [hmokS, List.length_append, Hrl.out]; omega, by rw [hmokT, List.length_append, List.length_singleton]; omega, by rw [hmokS, List.length_append]; exact Nat.le_trans Hok.out.lasts (Nat.le_add_right _ _)⟩
  have hBm : IsB (L.more rb).stream := by rw [hmokS]; exact HB.out.append HrB.out
  have Hst1 := Lib.hid hst1
  have Hby1 := Lib.hid hby1
  have Hroom := Lib.hid hroom
  have Ho1 := Lib.hid ho1
  have Hs1s := Lib.hid hs1s
  have Hs1t := Lib.hid hs1t
  have Hend := Lib.hid hend
  have Hq1 := Lib.hid hq1
  have Hq2 := Lib.hid hq2
  have Hmore := Lib.hid hmore
  have HmokS := Lib.hid hmokS
  have HmokT := Lib.hid hmokT
  have Hmok := Lib.hid hmok
  have HBm := Lib.hid hBm
  have HR := Lib.hid hR
  have Hl1 := Lib.hid hl1
  clear hst1 hby1 hroom ho1 hs1s hs1t hend hq1 hq2 hmore hmokS hmokT hmok hBm hR hl1
  clear hsum hs1 hnb1
  generalize hsl : L.stream.length = sl at *
  go_wp2_with fail
  have hd1 : decide ((R : Int) < 0) = false := by simp
  have hd0 : IntKind.i64.wrap 0 = 0 := by rfl
  have hdR : IntKind.i64.wrap ((R : Int) - 0) = (R : Int) := by rw [Int.sub_zero]; exact i64_of_u64 R (by omega)
  have hdR' : IntKind.i64.wrap (R : Int) = (R : Int) := i64_of_u64 R (by omega)
  have hd2 : decide ((R : Int) < (sl : Int) + 27) = false := by simp; omega
  have hd3 : IntKind.i64.wrap ((sl : Int) + 27) = (sl : Int) + 27 := i64_of_u64' (by omega) (by omega)
  go_region_held3 (fun w' => w'.cell? ⟨bl, 7, none⟩ = some (.slice ps sl cs)) (go_keep) (first
    | (go_at_call 195
       refine Hroom.out.mono ?_
       rintro e w2 ⟨rfl, rfl⟩))
  go_wp2_with fail
  refine Hend.out.mono ?_
  rintro e w2 ⟨rfl, hs2⟩
  have hq2s := (Step.refl w1 τ1 nil).drew.trans hs2
  have ho2 := (Ho1.out.step hq2s (fun h => h)).drew
  have hs2s := (Hs1s.out.step hq2s (fun h => h)).drew
  have hs2t := (Hs1t.out.step hq2s (fun h => h)).drew
  have hby2 := (Hby1.out.step hq2s (fun h => h)).drew
  have hst2 := (Hst1.out.trans hq2s).drew
  have hlt := ho2.lt
  generalize hnt : L.starts.length = nt at *
  have c8 := ho2.at 8 (v := .slice pt nt ct) (Hq2.out _ _)
  have c7' := ho2.at 7 (v := .slice ps sl cs) (Hq1.out _ _)
  have ht2 : Ints w2.drew τ1 tStarts (.slice pt nt ct) L.starts := by unfold Ints; rw [hnt]; exact hs2t
  have hoA := ho2.alloc (.cells #[.int .i64 (sl : Int)] 3)
  have cA8 := hoA.at 8 (v := .slice pt nt ct) (Hq2.out _ _)
  have cA7 := hoA.at 7 (v := .slice ps sl cs) (Hq1.out _ _)
  have hSS : w2.drew.cell? ⟨bl, 8, none⟩ = some (.slice pt nt ct) ∧ w2.drew.cell? ⟨bl, 7, none⟩ = some (.slice ps sl cs) := ⟨c8, c7'⟩
  have Ho2 := Lib.hid ho2
  have Hs2s := Lib.hid hs2s
  have Hby2 := Lib.hid hby2
  have Hst2 := Lib.hid hst2
  have Ht2 := Lib.hid ht2
  have HoA := Lib.hid hoA
  clear ho2 hs2s hby2 hst2 ht2 hoA
  clear c7 c8 c7' hs2 hq2s hs2t Hst1 Hby1 Ho1 Hs1s Hs1t hd1 hd2 hd3 hd0 hdR hdR'
  go_wp2_with fail
  refine wp_region_L (S := fun w' : World => w'.cell? ⟨bl, 8, none⟩ = some (.slice pt nt ct) ∧ w'.cell? ⟨bl, 7, none⟩ = some (.slice ps sl cs)) (by kernel_rfl) ?_
  refine wpAnyL_take (i := 0) (v := ?_) rfl (by decide +kernel) (by decide +kernel) (by decide +kernel) (by decide +kernel) (fun _ _ _ h => h) (Or.inl ⟨by rfl, ?_⟩) (by assumption) ?_
  rotate_left
  · intro w hSw
    (try dsimp only at hSw)
    go_simp
    all_goals with_reducible rfl
  try simp only [Act.put]
  try simp only [List.setIfInBounds_toArray]
  try simp only [List.set_cons_succ]
  try simp only [List.set_cons_zero]
  refine wpAnyL_take (i := 1) (v := ?_) rfl (by decide +kernel) (by decide +kernel) (by decide +kernel) (by decide +kernel) (fun _ _ _ h => h) (Or.inl ⟨by rfl, ?_⟩) (by assumption) ?_
  rotate_left
  · intro w hSw
    (try dsimp only at hSw)
    go_simp
    all_goals with_reducible rfl
  try simp only [Act.put]
  try simp only [List.setIfInBounds_toArray]
  try simp only [List.set_cons_succ]
  try simp only [List.set_cons_zero]
  refine wpAnyL_take (i := 2) (v := ?_) rfl (by decide +kernel) (by decide +kernel) (by decide +kernel) (by decide +kernel) (fun _ _ _ h => h) (Or.inl ⟨by rfl, ?_⟩) (by assumption) ?_
  rotate_left
  · intro w hSw
    (try dsimp only at hSw)
    go_simp
    all_goals with_reducible rfl
  try simp only [Act.put]
  try simp only [List.setIfInBounds_toArray]
  try simp only [List.set_cons_succ]
  try simp only [List.set_cons_zero]
  refine wpAnyL_take (i := 3) (v := ?_) rfl (by decide +kernel) (by decide +kernel) (by decide +kernel) (by decide +kernel) (fun _ _ _ h => h) (Or.inl ⟨by rfl, ?_⟩) (by assumption) ?_
  rotate_left
  · intro w hSw
    (try dsimp only at hSw)
    go_simp
    all_goals with_reducible rfl
  try simp only [Act.put]
  try simp only [List.setIfInBounds_toArray]
  try simp only [List.set_cons_succ]
  try simp only [List.set_cons_zero]
  refine wpAnyL_take (i := 4) (v := ?_) rfl (by decide +kernel) (by decide +kernel) (by decide +kernel) (by decide +kernel) (fun _ _ _ h => h) (Or.inl ⟨by rfl, ?_⟩) (by assumption) ?_
  rotate_left
  · intro w hSw
    (try dsimp only at hSw)
    go_simp
    all_goals with_reducible rfl
  try simp only [Act.put]
  try simp only [List.setIfInBounds_toArray]
  try simp only [List.set_cons_succ]
  try simp only [List.set_cons_zero]
  refine wpAnyL_take (i := 5) (v := ?_) rfl (by decide +kernel) (by decide +kernel) (by decide +kernel) (by decide +kernel) (fun _ _ _ h => h) (Or.inl ⟨by rfl, ?_⟩) (by assumption) ?_
  rotate_left
  · intro w hSw
    (try dsimp only at hSw)
    go_simp
    all_goals with_reducible rfl
  try simp only [Act.put]
  try simp only [List.setIfInBounds_toArray]
  try simp only [List.set_cons_succ]
  try simp only [List.set_cons_zero]
  refine wpAnyL_take (i := 6) (v := ?_) rfl (by decide +kernel) (by decide +kernel) (by decide +kernel) (by decide +kernel) (fun _ _ _ h => h) (Or.inl ⟨by rfl, ?_⟩) (by assumption) ?_
  rotate_left
  · intro w hSw
    (try dsimp only at hSw)
    go_simp
    all_goals with_reducible rfl
  try simp only [Act.put]
  try simp only [List.setIfInBounds_toArray]
  try simp only [List.set_cons_succ]
  try simp only [List.set_cons_zero]
  refine wpAnyL_take (i := 7) (v := ?_) rfl (by decide +kernel) (by decide +kernel) (by decide +kernel) (by decide +kernel) (fun _ _ _ h => h) (Or.inl ⟨by rfl, ?_⟩) (by assumption) ?_
  rotate_left
  · intro w hSw
    (try dsimp only at hSw)
    go_simp
    all_goals with_reducible rfl
  try simp only [Act.put]
  try simp only [List.setIfInBounds_toArray]
  try simp only [List.set_cons_succ]
  try simp only [List.set_cons_zero]
  refine wpAnyL_take (i := 8) (v := ?_) rfl (by decide +kernel) (by decide +kernel) (by decide +kernel) (by decide +kernel) (fun _ _ _ h => h) (Or.inl ⟨by rfl, ?_⟩) (by assumption) ?_
  rotate_left
  · intro w hSw
    (try dsimp only at hSw)
    go_simp
    all_goals with_reducible rfl
  try simp only [Act.put]
  try simp only [List.setIfInBounds_toArray]
  try simp only [List.set_cons_succ]
  try simp only [List.set_cons_zero]
  refine wpAnyL_take (i := 9) (v := ?_) rfl (by decide +kernel) (by decide +kernel) (by decide +kernel) (by decide +kernel) (fun _ _ _ h => h) (Or.inl ⟨by rfl, ?_⟩) (by assumption) ?_
  rotate_left
  · intro w hSw
    (try dsimp only at hSw)
    go_simp
    all_goals with_reducible rfl
  try simp only [Act.put]
  try simp only [List.setIfInBounds_toArray]
  try simp only [List.set_cons_succ]
  try simp only [List.set_cons_zero]
  clear hSS
  refine wpAnyL_one (i := 10) (by decide +kernel) rfl (fun K hK => ?_)
  go_simp
  refine hK.out _ _ (fun _ => ⟨cA8, cA7⟩) ?_
  clear hK K
  refine wpAnyL_one (i := 11) (by decide +kernel) rfl (fun K hK => ?_)
  refine step_append_ints Ht2.out sl rfl (by rw [hnt]; omega) rfl rfl _ _ rfl rfl rfl ?_
  intro v3 w3 τ3 ht3 hs3
  obtain ⟨p3, c3, rfl, -, -⟩ := ht3.read
  have ho3 := Ho2.out.step hs3 (by decide)
  have d8 := ho3.at 8 (v := .slice pt nt ct) (Hq2.out _ _)
  have d7 := ho3.at 7 (v := .slice ps sl cs) (Hq1.out _ _)
  have z8 := ho3.fz 8
  have ho4 := ho3.set 8 (.slice p3 (L.starts ++ [sl]).length c3)
  have hq4 : Step w3 τ3 (w3.setCell ⟨bl, 8, none⟩ (.slice p3 (L.starts ++ [sl]).length c3)) τ3 (fun t => t = tLog) := (Step.refl w3 τ3 (fun t => t = tLog)).set (o := 8) ho3.tag rfl _
  have ht4 := ht3.step hq4 (by decide)
  have hs4 := (Hs2s.out.step hs3 (by decide)).step hq4 (by decide)
  have hby4 := (Hby2.out.step hs3 (by decide)).step hq4 (by decide)
  have hst4 := ((Hst2.out.mono (T := LogTag) (fun _ h => h.elim)).trans (hs3.mono (T := LogTag) (fun _ h => .inr (.inr h)))).trans (hq4.mono (T := LogTag) (fun _ h => .inl h))
  have Ho4 := Lib.hid ho4
  have Ht4 := Lib.hid ht4
  have Hs4 := Lib.hid hs4
  have Hby4 := Lib.hid hby4
  have Hst4 := Lib.hid hst4
  clear ho4 ht4 hs4 hby4 hst4
  clear hs3 ht3 ho3 hq4
  generalize (L.starts ++ [sl]).length = nt2 at *
  refine hK.out _ _ (fun _ => ⟨d8, d7⟩) ?_
  clear hK K
  refine wpAnyL_one (i := 12) (by decide +kernel) rfl (fun K hK => ?_)
  go_simp
  refine hK.out _ _ (fun _ => ⟨d8, d7⟩) ?_
  clear hK K
  refine wpAnyL_one (i := 13) (by decide +kernel) rfl (fun K hK => ?_)
  go_simp
  refine hK.out _ _ (fun _ => ⟨d8, d7⟩) ?_
  clear hK K
  refine wpAnyL_one (i := 14) (by decide +kernel) rfl (fun K hK => ?_)
  go_simp
  refine hK.out _ _ (fun h => absurd h (by decide +kernel)) ?_
  clear hK K
  refine wpAnyL_done (by kernel_rfl) ?_ _
  have e7 := Ho4.out.at 7 (v := .slice ps sl cs) (by rw [List.getElem?_set_ne (by omega)]; exact Hq1.out _ _)
  have hnb5 := nb_of_buf (show Buf _ τ3 tStream 5 1 (.slice ps sl cs) L.stream.length (u8s L.stream) by rw [hsl]; exact Hs4.out) HB.out
  rw [show w_z (w3.setCell ⟨bl, 8, none⟩ (.slice p3 nt2 c3)) = w_z (w3.setCell ⟨bl, 8, none⟩ (.slice p3 nt2 c3)) from rfl] at hnb5
  have hsz5 : L.stream.length + rb.length ≤ 100000000000 := by rw [Hrl.out, hsl]; omega
  have hsz6 := step_z (w3.setCell ⟨bl, 8, none⟩ (.slice p3 nt2 c3)) τ3 LogTag
  have Hnb5 := Lib.hid hnb5
  have Hsz5 := Lib.hid hsz5
  have Hsz6 := Lib.hid hsz6
  clear hnb5 hsz5 hsz6
  clear d7 d8 z8
  generalize hw4 : w3.setCell ⟨bl, 8, none⟩ (.slice p3 nt2 c3) = w4 at *
  go_wp2_with (at_builtin; refine wpList_append_nb Hsz6.out Hnb5.out Hby4.out Hsz5.out rfl _ _ rfl rfl rfl ?_; intro v5 w5 τ5 hb5 he5 hmo5; obtain ⟨p5, c5, rfl⟩ := hb5.val; generalize (L.stream ++ rb).length = nsl at *; have ho5 := Ho4.out.step hmo5 (by decide); have ht5 := Ht4.out.step hmo5 (by decide); have f7 := ho5.at 7 (v := .slice ps sl cs) (by rw [List.getElem?_set_ne (by omega)]; exact Hq1.out _ _); have z7 := ho5.fz 7; have ho6 := ho5.set 7 (.slice p5 nsl c5); have hq6 : Step w5 τ5 (w5.setCell ⟨bl, 7, none⟩ (.slice p5 nsl c5)) τ5 (fun t => t = tLog) := (Step.refl w5 τ5 (fun t => t = tLog)).set (o := 7) ho5.tag rfl _; have ht6 := ht5.step hq6 (by decide); have hb6 := hb5.step hq6 (by decide); have hst6 := (Hst4.out.trans (hmo5.mono (T := LogTag) (fun _ h => .inr (.inl h)))).trans (hq6.mono (T := LogTag) (fun _ h => .inl h)); have Ho6 := Lib.hid ho6; have Ht6 := Lib.hid ht6; have Hb6 := Lib.hid hb6; have Hst6 := Lib.hid hst6; clear ho6 ht6 hb6 hst6; clear he5 hmo5 ho5 ht5 hq6)
  go_ret2
  have ho7 := Ho6.out
  rw [Hmore.out] at ho7
  refine ⟨by first | rfl | (rw [hsl, hen]; rfl) | (rw [← hen]; rfl), τ5, ⟨⟨_, _, ho7, ?_, ?_⟩, HBm.out, Hmok.out⟩, Hst6.out⟩
  · rw [HmokS.out]; exact Hb6.out.buf
  · rw [HmokT.out]; exact Ht6.out
end Go.Proofs.YtgjoahddbieliaaGreat

/-
  Pools: write: a frame's page goes to the disk.
-/
namespace Go.Proofs.YtgjoahddbieliaaGreat
open Go.RowKit
set_option linter.unusedVariables false

theorem set_same {α : Type} {l : List α} {j : Nat} {v : α} (h : l[j]? = some v) : l.set j v = l := by
  apply List.ext_getElem?
  intro i
  by_cases e : i = j
  · subst e
    rw [List.getElem?_set_self (List.getElem?_eq_some_iff.1 h).1, h]
  · rw [List.getElem?_set_ne (fun q => e q.symm)]
theorem has_first (f : Fr) (v n : Nat) : Fr.has { f with first := v } n = f.has n := rfl
theorem whereOf_first {F : List Fr} {i : Nat} {f : Fr} (hf : F[i]? = some f) (v : Nat) : whereOf (F.set i { f with first := v }) = whereOf F := by
  funext n
  unfold whereOf
  induction F generalizing i with
  | nil => rfl
  | cons g F ih =>
    cases i with
    | zero =>
      have e : g = f := by simpa using hf
      subst e
      rw [List.set_cons_zero, List.findIdx?_cons, List.findIdx?_cons, has_first]
    | succ i =>
      rw [List.set_cons_succ, List.findIdx?_cons, List.findIdx?_cons, ih (by simpa using hf)]
theorem frCells_first {F : List Fr} {i : Nat} {f : Fr} (hf : F[i]? = some f) (v : Nat) : (frCells F).set (i * 3 + 2) (.int .u64 (v : Int)) = frCells (F.set i { f with first := v }) := by
  obtain ⟨hi, hfi⟩ := List.getElem?_eq_some_iff.1 hf
  have h : (((frCells F).set (i * 3) (.pointer (f.pg.map (fun x => (⟨x.1, 0, none⟩ : Addr))))).set (i * 3 + 1) (.int .u32 (f.n : Int))).set (i * 3 + 2) (.int .u64 (v : Int)) = frCells (F.set i { f with first := v }) := frCells_set F i { f with first := v } hi
  have h0 : (frCells F)[i * 3]? = some (.pointer (f.pg.map (fun x => (⟨x.1, 0, none⟩ : Addr)))) := by
    have := frCells_at F i 0 (by omega) hi
    rw [hfi] at this
    exact this
  have h1 : (frCells F)[i * 3 + 1]? = some (.int .u32 (f.n : Int)) := by
    have := frCells_at F i 1 (by omega) hi
    rw [hfi] at this
    exact this
  rw [set_same h0, set_same h1] at h
  exact h
/-- a frame's page is written, or changed, since then -/
theorem PoolAt.setFirst {w : World} {τ : Tags} {bp bf : Nat} {H : PoolH} {F : List Fr} {s : Ck.Clk.St} (h : PoolAt w τ bp bf H F s) {i : Nat} {f : Fr} (hf : F[i]? = some f) (v : Nat) :
    PoolAt (w.setCell ⟨bf, i * 3 + 2, none⟩ (.int .u64 (v : Int))) τ bp bf H (F.set i { f with first := v }) s ∧ Step w τ (w.setCell ⟨bf, i * 3 + 2, none⟩ (.int .u64 (v : Int))) τ (fun g => g = tFr) := by
  have m : Step w τ (w.setCell ⟨bf, i * 3 + 2, none⟩ (.int .u64 (v : Int))) τ (fun g => g = tFr) := (Step.refl w τ (fun g => g = tFr)).set h.fr.tag rfl _
  have hfr := h.fr.set (i * 3 + 2) (.int .u64 (v : Int))
  rw [frCells_first hf] at hfr
  obtain ⟨hi, hfi⟩ := List.getElem?_eq_some_iff.1 hf
  have hget : ∀ (j : Nat) (g : Fr), (F.set i { f with first := v })[j]? = some g → ∃ g', F[j]? = some g' ∧ g'.pg = g.pg ∧ g'.n = g.n := fun j g hg => by
    by_cases e : i = j
    · subst e
      rw [List.getElem?_set_self hi] at hg
      cases hg
      exact ⟨f, hf, rfl, rfl⟩
    · rw [List.getElem?_set_ne e] at hg
      exact ⟨g, hg, rfl, rfl⟩
  refine ⟨⟨h.hd.step m (by decide), by rw [List.length_set]; exact h.vf, hfr, ?_, by rw [whereOf_first hf]; exact h.mp.step m (by decide), h.ck.step m (by decide), h.n1, by rw [List.length_set]; exact h.k1, by rw [List.length_set]; exact h.sn, h.st, ?_, ?_⟩, m⟩
  · intro j b P hb
    cases hj : (F.set i { f with first := v })[j]? with
    | none => rw [hj] at hb; cases hb
    | some g =>
      obtain ⟨g', h1, h2, _⟩ := hget j g hj
      rw [hj] at hb
      refine (h.pg j b P ?_).step m (by simp [tPg, tFr])
      rw [h1]
      exact h2.trans hb
  · intro a b n g g2 ha hb h1 h2
    obtain ⟨g', q1, q2, q3⟩ := hget a g ha
    obtain ⟨g2', r1, r2, r3⟩ := hget b g2 hb
    exact h.one a b n g' g2' q1 r1 (by unfold Fr.has at *; rw [q2, q3]; exact h1) (by unfold Fr.has at *; rw [r2, r3]; exact h2)
  · intro a n g ha h1
    obtain ⟨g', q1, q2, q3⟩ := hget a g ha
    exact h.low a n g' q1 (by unfold Fr.has at *; rw [q2, q3]; exact h1)
def PWTag (g : Tag) : Prop := PoolTag g ∨ WalTag g
/-- the log and the device behind a Flush -/
def flL (L : LogM) (k : Nat) : LogM := if flushNow L k = true then L.flushed k else L
def flD (L : LogM) (D : Dev) (k : Nat) : Dev := if flushNow L k = true then flushDev L D k else D
/-- the device behind a page's write -/
def wrD (D : Dev) (N n : Nat) (P : List Int) (st : Nat) : Dev := (D.lay 1 (4 * N) (sealAll P st)).lay 1 (4 * n) (sealAll P st)
theorem flD_f1 (L : LogM) (D : Dev) (k : Nat) : (flD L D k).f1.length = D.f1.length ∧ (flD L D k).f0.length = D.f0.length := by
  have h : ∀ (E : Dev), E.file 1 = E.f1 := fun E => rfl
  have h0 : ∀ (E : Dev), E.file 0 = E.f0 := fun E => rfl
  unfold flD
  by_cases e : flushNow L k = true
  · rw [if_pos e]
    unfold flushDev
    exact ⟨by rw [← h, ← h, Dev.lay_length _ _ _ (by omega)], by rw [← h0, ← h0, Dev.lay_length _ _ _ (by omega)]⟩
  · rw [if_neg e]; exact ⟨rfl, rfl⟩
theorem flD_calm {L : LogM} {D : Dev} (h : D.Calm) (k : Nat) : (flD L D k).Calm := by
  unfold flD
  by_cases e : flushNow L k = true
  · rw [if_pos e]; exact h.lay (by omega) _ _
  · rw [if_neg e]; exact h
/-- what a frame's write leaves -/
def WriteR (w : World) (τ : Tags) (bp bf bd : Nat) (H : PoolH) (L : LogM) (D : Dev) (F : List Fr) (s : Ck.Clk.St) (i : Nat) (f : Fr) (P : List Int) (w' : World) : Prop :=
  ∃ (k : Nat) (fl : Bool) (τ' : Tags), L.AtR (pageLSN P) k fl ∧ PoolW w' τ' bp bf bd { H with st := H.st + 1 } (flL L (k + (if fl then 1 else 0))) (wrD (flD L D (k + (if fl then 1 else 0))) H.n f.n P (H.st + 1)) (F.set i { f with first := 0 }) s ∧ Step w τ w' τ' PWTag
theorem walr_pool {w : World} {τ : Tags} {bp bf : Nat} {H : PoolH} {F : List Fr} {s : Ck.Clk.St} (h : PoolAt w τ bp bf H F s) {w' : World} {τ' : Tags} (m : Step w τ w' τ' WalTag) : PoolAt w' τ' bp bf H F s :=
  h.step m (fun g hg hS => by
    rcases hS with hS | hS
    · exact pooltag_log hS hg
    · exact (pooltag_dev hg).1 hS)
theorem pagetag_wal (i : Nat) : ¬ WalTag (tPg i) := by
  rintro (h | h)
  · exact pooltag_log h (.inr (.inr (.inr (.inr ⟨i, rfl⟩))))
  · exact (pooltag_dev (.inr (.inr (.inr (.inr ⟨i, rfl⟩))))).1 h
set_option maxHeartbeats 4000000 in
set_option maxRecDepth 100000 in
theorem poolwrite_any {w : World} {τ : Tags} {bp bf bd : Nat} {H : PoolH} {L : LogM} {D : Dev} {F : List Fr} {s : Ck.Clk.St} (h : PoolW w τ bp bf bd H L D F s) (hr : L.Rise) (hcap : L.stream.length ≤ 127 * L.strips) (hfit0 : L.firstS + L.strips ≤ D.f0.length) (hfit1 : 4 * H.n + 4 ≤ D.f1.length) (hcalm : D.Calm) (hst : H.st + 1 < 18446744073709551616)
    {i : Nat} {f : Fr} {b : Nat} {P : List Int} (hf : F[i]? = some f) (hpg : f.pg = some (b, P)) (hfn : f.n < H.n) {m : Nat} (hm : pageLSN P = m) (hm64 : m < 18446744073709551616) :
    Calls Tryz.prog 59 #[.pointer (some ⟨bp, 0, none⟩), .pointer (some ⟨bf, i * 3, none⟩)] w fun e w' => e = .returned (.tuple #[]) ∧ WriteR w τ bp bf bd H L D F s i f P w' := by
  have hn512 := h.pool.n1
  have hil := (List.getElem?_eq_some_iff.1 hf).1
  have hP : PageAt w τ (tPg i) b P := h.pool.pg i b P (by rw [hf]; exact hpg)
  have h448 := hP.len
  obtain ⟨c0, c1, c2⟩ := h.pool.cells hf
  rw [hpg] at c0
  simp only [Option.map_some] at c0
  have d0 := h.pool.hd.at 0 (v := .pointer (some ⟨H.bl, 0, none⟩)) rfl
  have hlsn := pagelsn_any (hP.step (Step.refl w τ nil).drew (fun h => h))
  rw [hm] at hlsn
  have hfl := walflush_any (h.log.step (Step.refl w τ nil).drew (fun _ _ h => h)) (h.dev.step (Step.refl w τ nil).drew (fun _ h => h.elim)) hr hcap hfit0 (hcalm.lim 700000) m hm64
  have z5 := h.pool.hd.fz 5
  have hpd := h.pool.step (Step.refl w τ nil).drew (fun _ _ h => h)
  have hPd := hP.step (Step.refl w τ nil).drew (fun h => h)
  have Hlsn := Lib.hid hlsn
  have Hfl := Lib.hid hfl
  have Hpd := Lib.hid hpd
  have HPd := Lib.hid hPd
  have Hf := Lib.hid hf
  have Hcalm := Lib.hid hcalm
  clear hlsn hfl hpd hPd hf hcalm
  clear h hP hcap hr
  go_enter Tryz.func59, Tryz.ntmps59
  go_wp2_with fail
  go_region_held3 (fun w' => w'.cell? ⟨bp, 0, none⟩ = some (.pointer (some ⟨H.bl, 0, none⟩)) ∧ w'.cell? ⟨bf, i * 3, none⟩ = some (.pointer (some ⟨b, 0, none⟩))) (go_keep) (first
    | (go_at_call 19
       refine Hlsn.out.mono ?_
       rintro e w2 ⟨rfl, rfl⟩)
    | (go_at_call 130
       refine Hfl.out.mono ?_
       rintro e w1 ⟨rfl, k, fl, hat, τ1, hl1, hd1, hs1⟩
       have hp1 := walr_pool Hpd.out hs1
       have hP1 := HPd.out.step hs1 (pagetag_wal i)
       obtain ⟨x0, x1, x2⟩ := hp1.cells Hf.out
       rw [hpg] at x0
       simp only [Option.map_some] at x0
       have y0 := hp1.hd.at 0 (v := .pointer (some ⟨H.bl, 0, none⟩)) rfl
       have y5 := hp1.hd.at 5 (v := .int .u64 (H.st : Int)) rfl
       have yz5 := hp1.hd.fz 5
       have yz0 := hp1.hd.fz 0
       have Hat := Lib.hid hat
       have Hl1 := Lib.hid hl1
       have Hd1 := Lib.hid hd1
       have Hs1 := Lib.hid hs1
       have Hp1 := Lib.hid hp1
       have HP1 := Lib.hid hP1
       clear hat hl1 hd1 hs1 hp1 hP1))
  have hd1f := flD_f1 L D (k + (if fl = true then 1 else 0))
  have hcalm1 := flD_calm (L := L) Hcalm.out (k + (if fl = true then 1 else 0))
  have hlE : LogAt w1 τ1 H.bl bd (flL L (k + (if fl = true then 1 else 0))) := Hl1.out
  have hdE : DevAt w1 τ1 bd (flD L D (k + (if fl = true then 1 else 0))) := Hd1.out
  have hWR : ∀ (w' : World) (τ' : Tags), PoolW w' τ' bp bf bd { H with st := H.st + 1 } (flL L (k + (if fl = true then 1 else 0))) (wrD (flD L D (k + (if fl = true then 1 else 0))) H.n f.n P (H.st + 1)) (F.set i { f with first := 0 }) s → Step w τ w' τ' PWTag → WriteR w τ bp bf bd H L D F s i f P w' :=
    fun w' τ' h1 h2 => ⟨k, fl, τ', by rw [hm]; exact Hat.out, h1, h2⟩
  generalize flL L (k + (if fl = true then 1 else 0)) = L1 at *
  generalize hE : flD L D (k + (if fl = true then 1 else 0)) = E at *
  have hwst := u64_wrap (H.st + 1) hst
  have hwst' : IntKind.u64.wrap ((H.st : Int) + 1) = ((H.st + 1 : Nat) : Int) := hwst
  have hps := Hp1.out.setSt (H.st + 1) hst
  have hms : Step w1 τ1 (w1.setCell ⟨bp, 5, none⟩ (.int .u64 ((H.st + 1 : Nat) : Int))) τ1 (fun g => g = tPool) := (Step.refl w1 τ1 (fun g => g = tPool)).set Hp1.out.hd.tag rfl _
  have hl2 := hlE.step hms (fun g hg => by rintro rfl; exact pooltag_log hg (.inl rfl))
  have hd2 := hdE.step hms (fun g hg => by subst hg; exact pooltag_dev (.inl rfl))
  have hP2 := HP1.out.step hms (by simp [tPg, tPool])
  have hstA := (Hs1.out.mono (T := PWTag) (fun _ h => .inr h)).trans (hms.mono (T := PWTag) (fun g hg => .inl (.inl hg)))
  generalize hS1 : H.st + 1 = S1 at *
  have Hps := Lib.hid hps
  have Hl2 := Lib.hid hl2
  have Hd2 := Lib.hid hd2
  have HP2 := Lib.hid hP2
  have HstA := Lib.hid hstA
  have HWR := Lib.hid hWR
  have Hcalm1 := Lib.hid hcalm1
  have Hd1f := Lib.hid hd1f
  have HS1 := Lib.hid hS1
  clear hps hl2 hd2 hP2 hstA hWR hcalm1 hd1f hS1
  clear hms hwst hlE hdE Hs1 Hp1 Hl1 Hd1 HP1 Hpd HPd Hfl Hlsn
  go_wp2_with fail
  generalize hw2 : w1.setCell ⟨bp, 5, none⟩ (.int .u64 (S1 : Int)) = w2 at *
  have hp2 := Hps.out
  obtain ⟨g0, g1, g2⟩ := hp2.cells Hf.out
  rw [hpg] at g0
  simp only [Option.map_some] at g0
  have g5 := hp2.hd.at 5 (v := .int .u64 (S1 : Int)) rfl
  have hby := pagebytes_any (HP2.out.step (Step.refl w2 τ1 nil).drew (fun h => h)) tData
  have hpd2 := hp2.step (Step.refl w2 τ1 nil).drew (fun _ _ h => h)
  have hS64 : S1 < 2 ^ 64 := by rw [show (2 : Nat) ^ 64 = 18446744073709551616 from by decide]; exact hst
  have Hby := Lib.hid hby
  have Hpd2 := Lib.hid hpd2
  have HS64 := Lib.hid hS64
  have H448 := Lib.hid h448
  clear hby hpd2 hS64 h448
  clear hp2 hw2 x0 x1 x2 y0 y5 yz5 yz0 c0 c1 c2 d0 z5
  go_region_held3 (fun w' => w'.cell? ⟨bf, i * 3, none⟩ = some (.pointer (some ⟨b, 0, none⟩)) ∧ w'.cell? ⟨bp, 5, none⟩ = some (.int .u64 (S1 : Int))) (go_keep) (first
    | (go_at_call 28
       refine Hby.out.mono ?_
       rintro e w3 ⟨u3, τ3, rfl, hb3, hs3⟩
       have hse := seal_any hb3.bytes H448.out S1 HS64.out
       have hp3 := Hpd2.out.step hs3 (fun _ _ h => h)
       obtain ⟨p3, c3, rfl⟩ := hb3.val
       obtain ⟨r0, r1, r2⟩ := hp3.cells Hf.out
       rw [hpg] at r0
       simp only [Option.map_some] at r0
       have r5 := hp3.hd.at 5 (v := .int .u64 (S1 : Int)) rfl
       have Hse := Lib.hid hse
       have Hs3 := Lib.hid hs3
       have Hp3 := Lib.hid hp3
       clear hse hs3 hp3
       clear hb3)
    | (go_at_call 131
       refine Hse.out.mono ?_
       rintro e w4 ⟨u4, τ4, rfl, hnr4, hs4⟩
       have hp4 := Hp3.out.step hs4 (fun _ _ h => h)
       obtain ⟨p4, c4, rfl⟩ := hnr4.val
       obtain ⟨q0, q1, q2⟩ := hp4.cells Hf.out
       rw [hpg] at q0
       simp only [Option.map_some] at q0
       have q5 := hp4.hd.at 5 (v := .int .u64 (S1 : Int)) rfl
       have q5a := hp4.hd.at 1 (v := .int .i64 (H.n : Int)) rfl
       have Hnr4 := Lib.hid hnr4
       have Hs4 := Lib.hid hs4
       have Hp4 := Lib.hid hp4
       clear hnr4 hs4 hp4))
  have hls4 := sealAll_length P S1
  have hcal0 : (E.lay 1 (4 * H.n) (sealAll P S1)).Calm := Hcalm1.out.lay (by omega) _ _
  have hfE : E.f1.length = D.f1.length := Hd1f.out.1
  have hEl := Dev.lay_length E 1 (4 * H.n) (by omega) (sealAll P S1) 1
  have hfl1 : ∀ (E : Dev), E.file 1 = E.f1 := fun E => rfl
  rw [hfl1, hfl1] at hEl
  have hwrd : wrD E H.n f.n P S1 = (E.lay 1 (4 * H.n) (sealAll P S1)).lay 1 (4 * f.n) (sealAll P S1) := rfl
  rw [hwrd] at HWR
  generalize sealAll P S1 = ls at *
  have hq24 := (Step.refl w2 τ1 nil).drew.trans (Hs3.out.trans Hs4.out)
  have hl4 := Hl2.out.step hq24 (fun _ _ h => h)
  have hd4 := Hd2.out.step hq24 (fun _ h => h.elim)
  have hnr4 := Hnr4.out.row
  rw [hls4] at hnr4 ⊢
  have hlay1 := poollay_any Hp4.out.hd hl4 hd4 H.n (by rw [hfE]; exact hfit1) hnr4 (by simp [DevTag, tOut]) hls4 (Hcalm1.out.lim 800000)
  have hst4 := HstA.out.trans (hq24.mono (T := PWTag) (fun _ h => h.elim))
  have Hlay1 := Lib.hid hlay1
  have Hst4 := Lib.hid hst4
  have Hl4 := Lib.hid hl4
  have Hnr4 := Lib.hid hnr4
  have Hls4 := Lib.hid hls4
  have Hcal0 := Lib.hid hcal0
  have HfE := Lib.hid hfE
  have HEl := Lib.hid hEl
  have Hfl1 := Lib.hid hfl1
  clear hlay1 hst4 hl4 hnr4 hls4 hcal0 hfE hEl hfl1
  clear hq24 hd4 Hby Hse Hs3 Hs4 Hp3 Hpd2 Hl2 Hd2 hwrd
  go_wp2_with fail
  refine Hlay1.out.mono ?_
  rintro e w5 ⟨rfl, τ5, hd5, hs5⟩
  have hp5 := Hp4.out.step hs5 (fun g hg hS => (pooltag_dev hg).1 hS)
  have hl5 := Hl4.out.step hs5 devtag_log
  have hnr5 := Hnr4.out.step hs5 (by simp [DevTag, tOut]) devtag_data
  have hlay2 := poollay_any hp5.hd hl5 hd5 f.n (by rw [HEl.out, HfE.out]; omega) hnr5 (by simp [DevTag, tOut]) Hls4.out (Hcal0.out.lim 800000)
  obtain ⟨k0, k1, k2⟩ := hp5.cells Hf.out
  have hst5 := Hst4.out.trans (hs5.mono (T := PWTag) (fun _ h => .inr (.inr h)))
  have Hlay2 := Lib.hid hlay2
  have Hp5 := Lib.hid hp5
  have Hl5 := Lib.hid hl5
  have Hst5 := Lib.hid hst5
  clear hlay2 hp5 hl5 hst5
  clear hd5 hs5 hnr5 Hlay1 Hst4 Hl4
  go_wp2_with fail
  refine Hlay2.out.mono ?_
  rintro e w6 ⟨rfl, τ6, hd6, hs6⟩
  have hp6 := Hp5.out.step hs6 (fun g hg hS => (pooltag_dev hg).1 hS)
  have hl6 := Hl5.out.step hs6 devtag_log
  obtain ⟨m0, m1, m2⟩ := hp6.cells Hf.out
  have mz2 := hp6.fr.fz (i * 3 + 2)
  obtain ⟨hp7, hs7⟩ := hp6.setFirst Hf.out 0
  have hl7 := hl6.step hs7 (fun g hg => by rintro rfl; exact pooltag_log hg (.inr (.inl rfl)))
  have hd7 := hd6.step hs7 (fun g hg => by subst hg; exact pooltag_dev (.inr (.inl rfl)))
  have hst7 := (Hst5.out.trans (hs6.mono (T := PWTag) (fun _ h => .inr (.inr h)))).trans (hs7.mono (T := PWTag) (fun g hg => .inl (.inr (.inl hg))))
  have Hp7 := Lib.hid hp7
  have Hl7 := Lib.hid hl7
  have Hd7 := Lib.hid hd7
  have Hst7 := Lib.hid hst7
  clear hp7 hl7 hd7 hst7
  clear hp6 hl6 hd6 hs6 hs7
  go_wp2_with fail
  go_returns
  exact ⟨rfl, HWR.out _ τ6 ⟨Hp7.out, Hl7.out, Hd7.out⟩ ((Step.refl w τ PWTag).drew.trans Hst7.out)⟩
end Go.Proofs.YtgjoahddbieliaaGreat
