/-
  append(b, make([]byte, n)...): noughts behind bytes of a call's own.
-/
import Derived.Test.YtgjoahddbieliaaGreatMR8
import Derived.Lib.AppendZerosOnto
namespace Go.Proofs.YtgjoahddbieliaaGreat
open Go.RowKit
set_option linter.unusedVariables false

theorem zeroCells_u8s (n : Nat) : (Builtin.zeroCells (Value.int .u8 0).cells n).toList = u8s (List.replicate n 0) := by
  apply List.ext_getElem?
  intro j
  have e : (Value.int .u8 0).cells = #[Value.int .u8 0] := rfl
  rw [e]
  simp only [Builtin.zeroCells, Array.toList_map, Array.toList_range, u8s, List.map_replicate, List.getElem?_map, List.getElem?_replicate]
  by_cases hj : j < n
  · rw [List.getElem?_range (by simpa using hj)]
    simp [hj, Nat.mod_one]
  · rw [List.getElem?_eq_none (by simp; omega)]
    simp [hj]
theorem run_append_room_zeros {P : Program} (w : World) (t tn ty e : TypeId) (i : TypeInfo) (z : Value) (kq kn : IntKind) (ht : P.underlying t = some (.slice e)) (htn : P.underlying tn = some (.int kn)) (hi : P.info? e = some i) (hz : i.zero = some z)
    (g sLen sCap : Nat) (cur : Array Value) (hg : w.heap[g]? = some (.cells cur e (0, 0))) (k : Nat) (h0 : 0 < k) (hs : 0 < i.size) (h63 : (k : Int) ≤ 9223372036854775807) (h48 : k * i.bytes ≤ 281474976710656)
    (hroom : sLen + k ≤ sCap) (hfit : sLen * i.size + (Builtin.zeroCells z.cells k).toList.length ≤ cur.size) (h1 : ∀ u ∈ (Builtin.zeroCells z.cells k).toList, u.oneCell' = true) :
    (Builtin.append_ #[t, tn] ty #[.slice (some ⟨g, 0, none⟩) sLen sCap, .int kq k]).run P w =
      .ok (.slice (some ⟨g, 0, none⟩) (sLen + k) sCap) (w.setRow g (cur.toList.take (sLen * i.size) ++ (Builtin.zeroCells z.cells k).toList ++ cur.toList.drop (sLen * i.size + (Builtin.zeroCells z.cells k).toList.length)).toArray) := by
  have hk : k ≠ 0 := by omega
  have hw : IntKind.i64.wrap (k : Int) = k := by rw [IntKind.wrap_i64]; omega
  have h48i : ¬ (281474976710656 < (k : Int) * (i.bytes : Int)) := by
    rw [← Int.natCast_mul]
    omega
  have hneg : ¬ ((k : Int) < 0) := by omega
  have hns : ¬ (k * i.size = 0) := Nat.mul_ne_zero hk (by omega)
  have hst := run_storeCells_at P g (sLen * i.size) e (Builtin.zeroCells z.cells k).toList 0 cur w hg (by simpa using hfit) h1
  simp only [Nat.add_zero] at hst
  generalize hzc : Builtin.zeroCells z.cells k = Z at *
  simp [Builtin.append_, run_underlying ht, run_underlying htn, sizeOf, typeInfo, zeroValue, hi, hz, asInt, asIntOf, hw, hneg, hns, h48i, hroom, hzc, Addr.add_lit, hst]
theorem run_append_zeros_nb {w0 w : World} {τ0 τ : Tags} {S : Tag → Prop} (hst : Step w0 τ0 w τ S) {g : Tag} {v : Value} {l : List Int} (hown : NB w0.heap.size w τ g v l) (hl : 0 < l.length) (n : Nat) (h0 : 0 < n) (hn : l.length + n ≤ 1000000) (ty : TypeId) :
    ∃ v' w' τ', (Builtin.append_ #[43, 3] ty #[v, .int .i64 (n : Int)]).run Tryz.prog w = .ok v' w' ∧ NB w0.heap.size w' τ' g v' (l ++ List.replicate n 0) ∧ Step w0 τ0 w' τ' S ∧ Step w τ w' τ' (fun t => t = g) := by
  obtain ⟨i0, hi, hz0, hz1, hz2⟩ := info_parts Tryz.infoU8
  have hB : IsB (l ++ List.replicate n 0) := hown.isB.append (fun x hx => by rw [(List.mem_replicate.1 hx).2]; omega)
  obtain ⟨h1, ⟨rfl, h2⟩ | ⟨b, cap, ys, rfl, ho, h3, h4, h5⟩⟩ := hown.buf
  · omega
  have hzl : (Builtin.zeroCells (Value.int .u8 0).cells n).toList.length = n := by rw [zeroCells_u8s, u8s_length, List.length_replicate]
  have hlow : w0.heap.size ≤ b := hown.low b rfl
  rw [u8s_length] at h1 h3
  by_cases hroom : l.length + n ≤ cap
  · have hr := run_append_room_zeros (P := Tryz.prog) w 43 3 ty 5 i0 (.int .u8 0) .i64 .i64 Tryz.underlying43 Tryz.underlying3 hi hz0 b l.length cap (u8s l ++ ys).toArray ho.row n h0 (by rw [hz1]; omega) (by omega) (by rw [hz2]; omega) hroom
      (by rw [hzl, hz1, List.size_toArray, List.length_append, u8s_length]; omega) (by rw [zeroCells_u8s]; exact u8s_one _)
    have hrow : ((u8s l ++ ys).toArray.toList.take (l.length * i0.size) ++ (Builtin.zeroCells (Value.int .u8 0).cells n).toList ++ (u8s l ++ ys).toArray.toList.drop (l.length * i0.size + (Builtin.zeroCells (Value.int .u8 0).cells n).toList.length)) = u8s (l ++ List.replicate n 0) ++ ys.drop n := by
      rw [hzl, hz1, Nat.mul_one, zeroCells_u8s, u8s_append]
      have e1 : (u8s l ++ ys).take l.length = u8s l := by rw [← u8s_length l]; exact List.take_left
      have e2 : (u8s l ++ ys).drop (l.length + n) = ys.drop n := by rw [← List.drop_drop, ← u8s_length l, List.drop_left]
      show (u8s l ++ ys).take l.length ++ _ ++ (u8s l ++ ys).drop (l.length + n) = _
      rw [e1, e2]
    rw [hrow] at hr
    have hmod : Mod w (w.setRow b (u8s (l ++ List.replicate n 0) ++ ys.drop n).toArray) (fun k => k = b) := ⟨rfl, rfl, rfl, by simp, fun k _ hk => setRow_other w b k _ hk⟩
    have hs2 : Step w τ (w.setRow b (u8s (l ++ List.replicate n 0) ++ ys.drop n).toArray) τ (fun t => t = g) := ⟨hmod.mono (fun k hk hS => by rw [hS]; exact ho.tag), Ext.refl _ _⟩
    refine ⟨_, _, τ, hr, ⟨⟨by rw [u8s_length, List.length_append, List.length_replicate, Nat.mul_one], .inr ⟨b, cap, ys.drop n, by rw [List.length_append, List.length_replicate], ⟨setRow_heap w b _ _ 5 _ ho.row, ho.tag⟩, ?_, by rw [List.length_append, List.length_replicate]; exact hroom, h5⟩⟩, hB, fun k hk => by
      have : b = k := by simpa [Value.ownBlock] using hk
      rw [← this]; exact hlow⟩, ⟨hst.mod.seq hmod (fun k hk hS => absurd hk (by omega)), hst.ext⟩, hs2⟩
    rw [u8s_length, List.length_append, List.length_replicate, List.length_drop]; omega
  · have hold : (Builtin.firstCells i0.size l.length (.slice (some ⟨b, 0, none⟩) l.length cap)).run Tryz.prog w.drew = .ok (u8s l).toArray w.drew := by
      refine run_firstCells_some (P := Tryz.prog) w.drew i0.size l.length ⟨b, 0, none⟩ l.length cap (u8s l) (by rw [u8s_length, hz1, Nat.mul_one]) (fun j u hu => ?_)
      rw [add_zero_addr]
      refine ho.drew.at j ?_
      rw [List.getElem?_append_left (List.getElem?_eq_some_iff.1 hu).1]; exact hu
    have hr := Lib.run_append_grow_zeros (P := Tryz.prog) w 43 3 ty 5 i0 (.int .u8 0) .i64 .i64 Tryz.underlying43 Tryz.underlying3 hi hz0 (some ⟨b, 0, none⟩) l.length cap (u8s l) hold n h0 (by rw [hz1]; omega) (by omega) (by omega) (by rw [hz2]; omega) (growslice_fits (by omega) (by rw [hz2]; omega))
    have hge := grownCap_ge w (l.length + n) cap 5
    have hcm : grownCap w (l.length + n) cap 5 ≤ maxLen := grownCap_le_maxLen w (l.length + n) cap _ (by unfold maxLen; omega)
    generalize grownCap w (l.length + n) cap 5 = G at *
    have hcs : ((u8s l).toArray ++ Builtin.zeroCells (Value.int .u8 0).cells n ++ Builtin.zeroCells (Value.int .u8 0).cells (G - (l.length + n))) = (⟨u8s (l ++ List.replicate n 0) ++ u8s (List.replicate (G - (l.length + n)) 0)⟩ : Array Value) := by
      apply Array.toList_inj.1
      rw [Array.toList_append, Array.toList_append, zeroCells_u8s, zeroCells_u8s, u8s_append]
    rw [hcs] at hr
    have hs2 := ((Step.refl w τ (fun t => t = g)).drew).alloc (.cells ⟨u8s (l ++ List.replicate n 0) ++ u8s (List.replicate (G - (l.length + n)) 0)⟩ 5) g
    refine ⟨_, _, τ.put w.heap.size g, hr, ⟨⟨by rw [u8s_length, List.length_append, List.length_replicate, Nat.mul_one], .inr ⟨w.heap.size, G, u8s (List.replicate (G - (l.length + n)) 0), by rw [List.length_append, List.length_replicate], Own.new w.drew τ g 5 _, ?_, by rw [List.length_append, List.length_replicate]; exact hge, hcm⟩⟩, hB, fun k hk => by
      have : w.heap.size = k := by simpa [Value.ownBlock] using hk
      rw [← this]; exact hst.size⟩, hst.drew.alloc _ g, hs2⟩
    simp only [u8s_length, List.length_append, List.length_replicate]; omega
theorem wpList_append_zeros_nb {w0 w : World} {τ0 τ : Tags} {S : Tag → Prop} (hst : Step w0 τ0 w τ S) {g : Tag} {v : Value} {l : List Int} (hown : NB w0.heap.size w τ g v l) (hl : 0 < l.length) (n : Nat) (h0 : 0 < n) (hn : l.length + n ≤ 1000000)
    {ops : Array Oper} {rest : List Oper} {o : Oper} {a : Act} {Q : Exit → Act → World → Prop} (hgd : o.guard = none) (s x : Operand)
    (ho : o.op = .call { callee := .builtin .append, args := #[s, x], argTypes := #[43, 3] }) (hs : a.eval s = v) (hx : a.eval x = .int .i64 (n : Int))
    (h : ∀ v' w' τ', NB w0.heap.size w' τ' g v' (l ++ List.replicate n 0) → Step w0 τ0 w' τ' S → Step w τ w' τ' (fun t => t = g) → wpList Tryz.prog ops Q rest (a.put o.dst v') w') : wpList Tryz.prog ops Q (o :: rest) a w := by
  refine wpList_plain hgd fun K hK => ?_
  obtain ⟨v', w', τ', hr, h2, h3, h4⟩ := run_append_zeros_nb hst hown hl n h0 hn o.type
  unfold Oper.wp execOp
  simp only [ho, resolve, invoke, builtin, Sem.run_bind, Sem.run_pure, Result.andThen_ok, List.map_toArray, List.map_cons, List.map_nil, hs, hx, hr]
  exact hK _ _ (h v' w' τ' h2 h3 h4)
end Go.Proofs.YtgjoahddbieliaaGreat

/-
  The reference's log: head, New.
-/
namespace Go.Proofs.YtgjoahddbieliaaGreat
open Go.RowKit
set_option linter.unusedVariables false

def RWalTag (g : Tag) : Prop := RLogTag g ∨ RDevTag g
/-- what a call on the reference's log leaves -/
def RWalR (w : World) (τ : Tags) (bl bd : Nat) (L : LogM) (D : Dev) (r : Value) (e : Ending) (w' : World) : Prop := e = .returned r ∧ ∃ τ', RLogAt w' τ' bl bd L ∧ RDevAt w' τ' bd D ∧ Step w τ w' τ' RWalTag
set_option maxHeartbeats 4000000 in
set_option maxRecDepth 100000 in
theorem r8head {w : World} {τ : Tags} {bl bd : Nat} {L : LogM} {D : Dev} (hl : RLogAt w τ bl bd L) (hd : RDevAt w τ bd D) (h2 : 2 ≤ D.f0.length) (hlim : D.lim 800000) :
    Calls Tryz.prog 141 #[.pointer (some ⟨bl, 0, none⟩)] w (RWalR w τ bl bd L.said (sayDev L D) (.tuple #[])) := by
  have hok := hl.ok
  have hB := hl.isB
  obtain ⟨vs, vt, ho, hs, ht⟩ := hl.is
  have hsl := hok.slot
  have c8 := ho.at 8 (v := .int .u64 (L.stamp : Int)) rfl
  have z8 := ho.fz 8
  have c9 := ho.at 9 (v := .int .i64 (L.slot : Int)) rfl
  have z9 := ho.fz 9
  have ho1 := (ho.set 8 (.int .u64 (((L.stamp + 1) % 18446744073709551616 : Nat) : Int))).set 9 (.int .i64 ((1 - L.slot : Nat) : Int))
  have hstw : Step w τ ((w.setCell ⟨bl, 8, none⟩ (.int .u64 (((L.stamp + 1) % 18446744073709551616 : Nat) : Int))).setCell ⟨bl, 9, none⟩ (.int .i64 ((1 - L.slot : Nat) : Int))) τ (fun g => g = tRLog) := ((Step.refl w τ (fun g => g = tRLog)).set (o := 8) ho.tag rfl _).set (o := 9) (ho.set 8 (.int .u64 (((L.stamp + 1) % 18446744073709551616 : Nat) : Int))).tag rfl _
  have hl1 : RLogAt ((w.setCell ⟨bl, 8, none⟩ (.int .u64 (((L.stamp + 1) % 18446744073709551616 : Nat) : Int))).setCell ⟨bl, 9, none⟩ (.int .i64 ((1 - L.slot : Nat) : Int))) τ bl bd L.said :=
    ⟨⟨vs, vt, ho1, hs.step hstw (by simp [tRStream, tRLog]), ht.step hstw (by simp [tRStarts, tRLog])⟩, hB, hok.said⟩
  have hd1 := hd.step hstw (fun g hg => by subst hg; exact ⟨rlogtag_dev (.inl rfl), by simp [tRLog, tData]⟩)
  have hw := u64_succ L.stamp
  have hcs : (1 : Int) - (L.slot : Int) = ((1 - L.slot : Nat) : Int) := by omega
  have hsaid : L.said = { L with stamp := (L.stamp + 1) % 18446744073709551616, slot := 1 - L.slot } := rfl
  have hst1 := hstw.mono (T := RLogTag) (fun g hg => .inl hg)
  generalize hLs : L.said = Ls at *
  have e0 : Ls.stamp = (L.stamp + 1) % 18446744073709551616 := by rw [hsaid]
  have e6 : Ls.slot = 1 - L.slot := by rw [hsaid]
  rw [← e0] at hw hst1 hl1 hd1
  rw [← e6] at hcs hst1 hl1 hd1
  have hsd : sayDev L D = (D.write 0 Ls.slot Ls.head).sync 0 := by unfold sayDev; rw [hLs]
  have hoks := hl1.ok
  have Hst1 := Lib.hid hst1
  have Hl1 := Lib.hid hl1
  have Hd1 := Lib.hid hd1
  have Hlim := Lib.hid hlim
  have Hsd := Lib.hid hsd
  have Hoks := Lib.hid hoks
  clear hst1 hl1 hd1 hlim hsd hoks
  clear ho hs ht ho1 hstw hl hd hok hsaid e0 e6 hB
  go_enter Tryz.func141, Tryz.ntmps141
  go_wp2_with fail
  generalize (w.setCell ⟨bl, 8, none⟩ (.int .u64 (Ls.stamp : Int))).setCell ⟨bl, 9, none⟩ (.int .i64 (Ls.slot : Int)) = W1 at *
  obtain ⟨vs1, vt1, ho1, -, -⟩ := Hl1.out.is
  clear c8 z8 c9 z9
  have hba := Hoks.out.base
  have har := Hoks.out.area
  have hsl2 := Hoks.out.slot
  have hp1 := r1put W1 τ tOut Ls.stamp 8 Hoks.out.stamp (by omega) (by omega)
  have hpb := fun W t => r1put W t tData Ls.base 8 (by omega) (by omega) (by omega)
  have hpc := fun W t => r1put W t tData Ls.check 8 Hoks.out.check (by omega) (by omega)
  have hps := fun W t => r1put W t tData Ls.stamp 8 Hoks.out.stamp (by omega) (by omega)
  have hwa : IntKind.u8.wrap (Ls.area : Int) = (Ls.area : Int) := by
    have : IntKind.u8.wrap (Ls.area : Int) = (Ls.area : Int) % 256 := by simp [IntKind.wrap, IntKind.bits, IntKind.signed]
    rw [this]; omega
  have hhead : Ls.head = headB Ls.stamp Ls.base Ls.check Ls.area := rfl
  unfold headB at hhead
  have c8 := ho1.at 8 (v := .int .u64 (Ls.stamp : Int)) rfl
  have Ho1 := Lib.hid ho1
  have Hp1 := Lib.hid hp1
  have Hpb := Lib.hid hpb
  have Hpc := Lib.hid hpc
  have Hps := Lib.hid hps
  have Hhead := Lib.hid hhead
  clear ho1 hp1 hpb hpc hps hhead
  go_wp2_with fail
  refine Hp1.out.mono ?_
  rintro e w2 ⟨v2, τ2, rfl, hn2, hs2⟩
  have ho2 := Ho1.out.step hs2 (fun h => h)
  have c22 := ho2.at 2 (v := .int .i64 (Ls.area : Int)) rfl
  obtain ⟨L2, hL2⟩ : ∃ L, L = leB Ls.stamp 8 := ⟨_, rfl⟩
  have hl2 : L2.length = 8 := by rw [hL2, leB_length]
  rw [← hL2] at hn2
  obtain ⟨p2, k2, rfl⟩ := hn2.val
  rw [hl2] at hn2 ⊢
  have Hn2 := Lib.hid hn2
  have Hs2 := Lib.hid hs2
  have HL2 := Lib.hid hL2
  have Hl2 := Lib.hid hl2
  clear hn2 hs2 hL2 hl2
  clear ho2
  have harx : (0 : Int) ≤ (Ls.area : Int) ∧ (Ls.area : Int) ≤ 255 := by omega
  go_wp2_with (at_builtin; refine wpList_append_nb1 Hs2.out (v := .slice p2 8 k2) Hn2.out (Ls.area : Int) harx (by rw [Hl2.out]; omega) rfl rfl _ _ rfl rfl rfl ?_; intro v3 w3 τ3 hn3 hs3 hq3; clear hq3; obtain ⟨L3, hL3⟩ : ∃ L, L = L2 ++ [(Ls.area : Int)] := ⟨_, rfl⟩; have hl3 : L3.length = 9 := by { rw [hL3, List.length_append, Hl2.out]; rfl }
               rw [← hL3] at hn3
               obtain ⟨p3, k3, rfl⟩ := hn3.val
               rw [hl3] at hn3 ⊢
               have c33 := (Ho1.out.step hs3 (fun h => h)).at 3 (v := .int .u64 (Ls.base : Int)) rfl
               have Hn3 := Lib.hid hn3
               have Hs3 := Lib.hid hs3
               have HL3 := Lib.hid hL3
               have Hl3 := Lib.hid hl3
               clear hn3 hs3 hL3 hl3)
  refine (Hpb.out w3 τ3).mono ?_
  rintro e w4 ⟨v4, τ4, rfl, hm4, hq4⟩
  have hs4 := Hs3.out.trans hq4
  have hn4 := Hn3.out.step hq4 (fun h => h)
  have hb4 := hm4.bytes
  obtain ⟨p4, k4, rfl⟩ := hm4.val
  rw [leB_length] at hb4 ⊢
  have Hs4 := Lib.hid hs4
  have Hn4 := Lib.hid hn4
  have Hb4 := Lib.hid hb4
  clear hs4 hn4 hb4
  clear hm4 hq4
  go_wp2_with (at_builtin; refine wpList_append_nb Hs4.out (v := .slice p3 9 k3) Hn4.out Hb4.out (by rw [Hl3.out, leB_length]; omega) rfl _ _ rfl rfl rfl ?_; intro v5 w5 τ5 hn5 hs5 hq5; clear hq5; obtain ⟨L5, hL5⟩ : ∃ L, L = L3 ++ leB Ls.base 8 := ⟨_, rfl⟩; have hl5 : L5.length = 17 := by { rw [hL5, List.length_append, Hl3.out, leB_length] }
               rw [← hL5] at hn5
               obtain ⟨p5, k5, rfl⟩ := hn5.val
               rw [hl5] at hn5 ⊢
               have c57 := (Ho1.out.step hs5 (fun h => h)).at 7 (v := .int .u64 (Ls.check : Int)) rfl
               have Hn5 := Lib.hid hn5
               have Hs5 := Lib.hid hs5
               have HL5 := Lib.hid hL5
               have Hl5 := Lib.hid hl5
               clear hn5 hs5 hL5 hl5)
  refine (Hpc.out w5 τ5).mono ?_
  rintro e w6 ⟨v6, τ6, rfl, hm6, hq6⟩
  have hs6 := Hs5.out.trans hq6
  have hn6 := Hn5.out.step hq6 (fun h => h)
  have hb6 := hm6.bytes
  obtain ⟨p6, k6, rfl⟩ := hm6.val
  rw [leB_length] at hb6 ⊢
  have Hs6 := Lib.hid hs6
  have Hn6 := Lib.hid hn6
  have Hb6 := Lib.hid hb6
  clear hs6 hn6 hb6
  clear hm6 hq6
  go_wp2_with (first
    | (at_builtin
       refine wpList_append_nb Hs6.out (v := .slice p5 17 k5) Hn6.out Hb6.out (by rw [Hl5.out, leB_length]; omega) rfl _ _ rfl rfl rfl ?_; intro v7 w7 τ7 hn7 hs7 hq7; clear hq7; obtain ⟨L7, hL7⟩ : ∃ L, L = L5 ++ leB Ls.check 8 := ⟨_, rfl⟩; have hl7 : L7.length = 25 := by { rw [hL7, List.length_append, Hl5.out, leB_length] }
       rw [← hL7] at hn7
       obtain ⟨p7, k7, rfl⟩ := hn7.val
       rw [hl7] at hn7 ⊢
       have c78 := (Ho1.out.step hs7 (fun h => h)).at 8 (v := .int .u64 (Ls.stamp : Int)) rfl
       have Hn7 := Lib.hid hn7
       have Hs7 := Lib.hid hs7
       have HL7 := Lib.hid hL7
       have Hl7 := Lib.hid hl7
       clear hn7 hs7 hL7 hl7)
    | (at_builtin
       refine wpList_append_zeros_nb Hs7.out (v := .slice p7 25 k7) Hn7.out (by rw [Hl7.out]; omega) 95 (by omega) (by rw [Hl7.out]; omega) rfl _ _ rfl rfl rfl ?_; intro v8 w8 τ8 hn8 hs8 hq8; clear hq8; obtain ⟨L8, hL8⟩ : ∃ L, L = L7 ++ List.replicate 95 0 := ⟨_, rfl⟩; have hl8 : L8.length = 120 := by { rw [hL8, List.length_append, Hl7.out, List.length_replicate] }
       rw [← hL8] at hn8
       obtain ⟨p8, k8, rfl⟩ := hn8.val
       rw [hl8] at hn8 ⊢
       have c88 := (Ho1.out.step hs8 (fun h => h)).at 8 (v := .int .u64 (Ls.stamp : Int)) rfl
       have Hn8 := Lib.hid hn8
       have Hs8 := Lib.hid hs8
       have HL8 := Lib.hid hL8
       have Hl8 := Lib.hid hl8
       clear hn8 hs8 hL8 hl8))
  refine (Hps.out w8 τ8).mono ?_
  rintro e w9 ⟨v9, τ9, rfl, hm9, hq9⟩
  have hs9 := Hs8.out.trans hq9
  have hn9 := Hn8.out.step hq9 (fun h => h)
  have hb9 := hm9.bytes
  obtain ⟨p9, k9, rfl⟩ := hm9.val
  rw [leB_length] at hb9 ⊢
  have Hs9 := Lib.hid hs9
  have Hn9 := Lib.hid hn9
  have Hb9 := Lib.hid hb9
  clear hs9 hn9 hb9
  clear hm9 hq9
  go_wp2_with (at_builtin; refine wpList_append_nb Hs9.out (v := .slice p8 120 k8) Hn9.out Hb9.out (by rw [Hl8.out, leB_length]; omega) rfl _ _ rfl rfl rfl ?_; intro v10 w10 τ10 hn10 hs10 hq10; clear hq10; obtain ⟨L10, hL10⟩ : ∃ L, L = L8 ++ leB Ls.stamp 8 := ⟨_, rfl⟩; have hl10 : L10.length = 128 := by { rw [hL10, List.length_append, Hl8.out, leB_length] }
               rw [← hL10] at hn10
               obtain ⟨p10, k10, rfl⟩ := hn10.val
               rw [hl10] at hn10 ⊢
               have Hn10 := Lib.hid hn10
               have Hs10 := Lib.hid hs10
               have HL10 := Lib.hid hL10
               have Hl10 := Lib.hid hl10
               clear hn10 hs10 hL10 hl10)
  have hbytes := Hn10.out.bytes
  have hLH : L10 = Ls.head := by rw [HL10.out, HL8.out, HL7.out, HL5.out, HL3.out, HL2.out, Hhead.out]
  rw [hLH] at hbytes
  have hlh : Ls.head.length = 128 := by rw [← hLH]; exact Hl10.out
  have hd10 := Hd1.out.step Hs10.out (fun _ h => h.elim)
  have hl10 := Hl1.out.step Hs10.out (fun _ _ h => h)
  obtain ⟨vs10, vt10, ho10, -, -⟩ := hl10.is
  have c100 := ho10.at 0 (v := .pointer (some ⟨bd, 0, none⟩)) rfl
  have c109 := ho10.at 9 (v := .int .i64 (Ls.slot : Int)) rfl
  have hwt := r5write (hd10.step (Step.refl w10 τ10 nil).drew (fun _ h => h.elim)) 0 (by omega) Ls.slot (by have hq : D.file 0 = D.f0 := rfl; rw [hq]; omega) (hbytes.step (Step.refl w10 τ10 nil).drew (fun h => h)) hlh (by simp [RDevTag, tOut]) (Dev.lim_mono Hlim.out (by omega))
  have Hl10 := Lib.hid hl10
  have Hwt := Lib.hid hwt
  clear hl10 hwt
  clear ho10 hd10 hbytes hLH hlh
  go_wp2_with fail
  go_region_held3 (fun w' => w'.cell? ⟨bl, 0, none⟩ = some (.pointer (some ⟨bd, 0, none⟩)) ∧ w'.cell? ⟨bl, 9, none⟩ = some (.int .i64 (Ls.slot : Int))) (go_keep) (first
    | (go_at_call 210
       refine Hwt.out.mono ?_
       rintro e w11 ⟨rfl, τ11, hd11, hs11⟩
       have hl11 := (Hl10.out.step (Step.refl w10 τ10 nil).drew (fun _ _ h => h)).step hs11 (fun g hg hS => rlogtag_dev hg hS)
       obtain ⟨vs11, vt11, ho11, -, -⟩ := hl11.is
       have d0 := ho11.at 0 (v := .pointer (some ⟨bd, 0, none⟩)) rfl
       have d9 := ho11.at 9 (v := .int .i64 (Ls.slot : Int)) rfl
       have hsy := r5sync hd11 0 (by omega)
       have Hl11 := Lib.hid hl11
       have Hs11 := Lib.hid hs11
       have Hsy := Lib.hid hsy
       clear hl11 hs11 hsy
       clear ho11 hd11))
  go_wp2_with fail
  refine Hsy.out.mono ?_
  rintro e w12 ⟨rfl, τ12, hd12, hs12⟩
  have hl12 := Hl11.out.step hs12 (fun g hg hS => rlogtag_dev hg hS)
  have hall := (((Hst1.out.mono (T := RWalTag) (fun _ h => .inl h)).trans ((Hs10.out.drew).mono (fun _ h => h.elim))).trans (Hs11.out.mono (T := RWalTag) (fun _ h => .inr h))).trans (hs12.mono (T := RWalTag) (fun _ h => .inr h))
  have Hl12 := Lib.hid hl12
  have Hd12 := Lib.hid hd12
  have Hall := Lib.hid hall
  clear hl12 hd12 hall
  clear hs12
  go_wp2_with fail
  go_returns
  exact ⟨rfl, τ12, Hl12.out, by rw [Hsd.out]; exact Hd12.out, Hall.out⟩
end Go.Proofs.YtgjoahddbieliaaGreat

/-
  The reference's log: New.
-/
namespace Go.Proofs.YtgjoahddbieliaaGreat
open Go.RowKit
set_option linter.unusedVariables false

set_option maxRecDepth 100000 in
theorem r8new_yes {w : World} {τ : Tags} {bd : Nat} {D : Dev} (h : RDevAt w τ bd D) (h18 : 18 ≤ D.f0.length) (hlim : D.lim 700000) :
    Calls Tryz.prog 76 #[.pointer (some ⟨bd, 0, none⟩)] w fun e w' => ∃ bl τ', e = .returned (.tuple #[.pointer (some ⟨bl, 0, none⟩), .int .i64 0]) ∧ w.heap.size ≤ bl ∧ RLogAt w' τ' bl bd (walNewLog D.f0.length) ∧ RDevAt w' τ' bd (walNewDev D) ∧ Step w τ w' τ' RWalTag := by
  have h1 := r8on_yes h h18
  have hlen := r5length h 0 (by omega)
  have hf0 : D.file 0 = D.f0 := rfl
  rw [hf0] at hlen
  generalize hn : D.f0.length = n at *
  have hwd : walNewDev D = sayDev (freshLog n) (D.make 0 n []) := by unfold walNewDev; rw [hn]
  have H1 := Lib.hid h1
  have H_h := Lib.hid h
  have Hlim := Lib.hid hlim
  have Hwd := Lib.hid hwd
  have Hn := Lib.hid hn
  clear h1 h hlim hwd hn
  clear hf0
  go_enter Tryz.func76, Tryz.ntmps76
  go_wp2_with fail
  refine H1.out.mono ?_
  rintro e w1 ⟨bl, τ1, rfl, hlow, hl1, hs1⟩
  have hd1 := H_h.out.step hs1 (fun _ h => h.elim)
  have hsz := r5size' hd1 0 (by omega)
  have hf0 : D.file 0 = D.f0 := rfl
  rw [hf0, Hn.out] at hsz
  have hmk := r8lay hl1 hd1 (g := tData) (v := .slice none 0 0) (want := []) (.inl ⟨rfl, rfl⟩) rdevtag_data 0 n (by rw [Hn.out]; omega) (Dev.lim_mono Hlim.out (by omega))
  have Hl1 := Lib.hid hl1
  have Hs1 := Lib.hid hs1
  have Hd1 := Lib.hid hd1
  have Hsz := Lib.hid hsz
  have Hmk := Lib.hid hmk
  clear hl1 hs1 hd1 hsz hmk
  clear H1 hf0
  go_wp2_with fail
  refine Hsz.out.mono ?_
  rintro e w' ⟨rfl, rfl⟩
  go_wp2_with fail
  refine Hmk.out.mono ?_
  rintro e w2 ⟨rfl, τ2, hd2, hs2⟩
  have hl2 := Hl1.out.step hs2 (fun g hg hS => rlogtag_dev hg hS)
  have hok2 := hl2.ok
  obtain ⟨vs, vt, ho2, hb2, ht2⟩ := hl2.is
  have c1 := ho2.at 3 (v := .int .u64 0) rfl
  have z1 := ho2.fz 3
  have c6 := ho2.at 9 (v := .int .i64 0) rfl
  have z6 := ho2.fz 9
  have hst2 : Step w2 τ2 ((w2.setCell ⟨bl, 3, none⟩ (.int .u64 1)).setCell ⟨bl, 9, none⟩ (.int .i64 1)) τ2 (fun g => g = tRLog) := ((Step.refl w2 τ2 (fun g => g = tRLog)).set (o := 3) ho2.tag rfl _).set (o := 9) (ho2.set 3 (.int .u64 1)).tag rfl _
  have hl3 : RLogAt ((w2.setCell ⟨bl, 3, none⟩ (.int .u64 1)).setCell ⟨bl, 9, none⟩ (.int .i64 1)) τ2 bl bd (freshLog n) :=
    ⟨⟨vs, vt, (ho2.set 3 (.int .u64 1)).set 9 (.int .i64 1), hb2.step hst2 (by simp [tRStream, tRLog]), ht2.step hst2 (by simp [tRStarts, tRLog])⟩, hl2.isB, ⟨hok2.stamp, by simp [freshLog], hok2.check, hok2.area, hok2.strips, by simp [freshLog], hok2.stream, hok2.starts, hok2.lasts⟩⟩
  have hd3 := hd2.step hst2 (fun g hg => by subst hg; exact ⟨rlogtag_dev (.inl rfl), by simp [tRLog, tData]⟩)
  have hsay := r8head hl3 hd3 (by have := Dev.make_length D 0 n [] 0; have hq : ∀ E : Dev, E.file 0 = E.f0 := fun _ => rfl; rw [hq, hq, Hn.out] at this; omega) (Dev.lim_mono (Dev.make_lim Hlim.out 0 n []) (by omega))
  have Hs2 := Lib.hid hs2
  have Hst2 := Lib.hid hst2
  have Hl3 := Lib.hid hl3
  have Hd3 := Lib.hid hd3
  have Hsay := Lib.hid hsay
  clear hs2 hst2 hl3 hd3 hsay
  clear ho2 hb2 ht2 hl2 hok2 hd2
  go_wp2_with fail
  refine Hsay.out.mono ?_
  rintro e w4 ⟨rfl, τ4, hl4, hd4, hs4⟩
  have Hl4 := Lib.hid hl4
  have Hd4 := Lib.hid hd4
  have Hs4 := Lib.hid hs4
  clear hl4 hd4 hs4
  go_wp2_with fail
  go_ret2
  refine ⟨bl, τ4, rfl, hlow, Hl4.out, by rw [Hwd.out]; exact Hd4.out, ?_⟩
  exact (((Hs1.out.mono (fun _ h => h.elim)).trans (Hs2.out.mono (T := RWalTag) (fun _ h => .inr h))).trans (Hst2.out.mono (T := RWalTag) (fun _ h => .inl (.inl h)))).trans Hs4.out
end Go.Proofs.YtgjoahddbieliaaGreat
