/-
  append(b, make([]byte, n)...): noughts behind bytes of a call's own.
-/
import Derived.Test.YtgjoahddbieliaaGreatMR8
import Derived.Lib.AppendZerosOnto
namespace Go.Proofs.YtgjoahddbieliaaGreat
open Go.RowKit
set_option linter.unusedVariables false

theorem zeroCells_u8s (n : Nat) : (Builtin.zeroCells (Value.int .u8 0).cells n).toList = u8s (List.replicate n 0) := by
  apply List.ext_getElem?
  intro j
  have e : (Value.int .u8 0).cells = #[Value.int .u8 0] := rfl
  rw [e]
  simp only [Builtin.zeroCells, Array.toList_map, Array.toList_range, u8s, List.map_replicate, List.getElem?_map, List.getElem?_replicate]
  by_cases hj : j < n
  · rw [List.getElem?_range (by simpa using hj)]
    simp [hj, Nat.mod_one]
  · rw [List.getElem?_eq_none (by simp; omega)]
    simp [hj]
theorem run_append_room_zeros {P : Program} (w : World) (t tn ty e : TypeId) (i : TypeInfo) (z : Value) (kq kn : IntKind) (ht : P.underlying t = some (.slice e)) (htn : P.underlying tn = some (.int kn)) (hi : P.info? e = some i) (hz : i.zero = some z)
    (g sLen sCap : Nat) (cur : Array Value) (hg : w.heap[g]? = some (.cells cur e (0, 0))) (k : Nat) (h0 : 0 < k) (hs : 0 < i.size) (h63 : (k : Int) ≤ 9223372036854775807) (h48 : k * i.bytes ≤ 281474976710656)
    (hroom : sLen + k ≤ sCap) (hfit : sLen * i.size + (Builtin.zeroCells z.cells k).toList.length ≤ cur.size) (h1 : ∀ u ∈ (Builtin.zeroCells z.cells k).toList, u.oneCell' = true) :
    (Builtin.append_ #[t, tn] ty #[.slice (some ⟨g, 0, none⟩) sLen sCap, .int kq k]).run P w =
      .ok (.slice (some ⟨g, 0, none⟩) (sLen + k) sCap) (w.setRow g (cur.toList.take (sLen * i.size) ++ (Builtin.zeroCells z.cells k).toList ++ cur.toList.drop (sLen * i.size + (Builtin.zeroCells z.cells k).toList.length)).toArray) := by
  have hk : k ≠ 0 := by omega
  have hw : IntKind.i64.wrap (k : Int) = k := by rw [IntKind.wrap_i64]; omega
  have h48i : ¬ (281474976710656 < (k : Int) * (i.bytes : Int)) := by
    rw [← Int.natCast_mul]
    omega
  have hneg : ¬ ((k : Int) < 0) := by omega
  have hns : ¬ (k * i.size = 0) := Nat.mul_ne_zero hk (by omega)
  have hst := run_storeCells_at P g (sLen * i.size) e (Builtin.zeroCells z.cells k).toList 0 cur w hg (by simpa using hfit) h1
  simp only [Nat.add_zero] at hst
  generalize hzc : Builtin.zeroCells z.cells k = Z at *
  simp [Builtin.append_, run_underlying ht, run_underlying htn, sizeOf, typeInfo, zeroValue, hi, hz, asInt, asIntOf, hw, hneg, hns, h48i, hroom, hzc, Addr.add_lit, hst]
theorem run_append_zeros_nb {w0 w : World} {τ0 τ : Tags} {S : Tag → Prop} (hst : Step w0 τ0 w τ S) {g : Tag} {v : Value} {l : List Int} (hown : NB w0.heap.size w τ g v l) (hl : 0 < l.length) (n : Nat) (h0 : 0 < n) (hn : l.length + n ≤ 1000000) (ty : TypeId) :
    ∃ v' w' τ', (Builtin.append_ #[43, 3] ty #[v, .int .i64 (n : Int)]).run Tryz.prog w = .ok v' w' ∧ NB w0.heap.size w' τ' g v' (l ++ List.replicate n 0) ∧ Step w0 τ0 w' τ' S ∧ Step w τ w' τ' (fun t => t = g) := by
  obtain ⟨i0, hi, hz0, hz1, hz2⟩ := info_parts Tryz.infoU8
  have hB : IsB (l ++ List.replicate n 0) := hown.isB.append (fun x hx => by rw [(List.mem_replicate.1 hx).2]; omega)
  obtain ⟨h1, ⟨rfl, h2⟩ | ⟨b, cap, ys, rfl, ho, h3, h4, h5⟩⟩ := hown.buf
  · omega
  have hzl : (Builtin.zeroCells (Value.int .u8 0).cells n).toList.length = n := by rw [zeroCells_u8s, u8s_length, List.length_replicate]
  have hlow : w0.heap.size ≤ b := hown.low b rfl
  rw [u8s_length] at h1 h3
  by_cases hroom : l.length + n ≤ cap
  · have hr := run_append_room_zeros (P := Tryz.prog) w 43 3 ty 5 i0 (.int .u8 0) .i64 .i64 Tryz.underlying43 Tryz.underlying3 hi hz0 b l.length cap (u8s l ++ ys).toArray ho.row n h0 (by rw [hz1]; omega) (by omega) (by rw [hz2]; omega) hroom
      (by rw [hzl, hz1, List.size_toArray, List.length_append, u8s_length]; omega) (by rw [zeroCells_u8s]; exact u8s_one _)
    have hrow : ((u8s l ++ ys).toArray.toList.take (l.length * i0.size) ++ (Builtin.zeroCells (Value.int .u8 0).cells n).toList ++ (u8s l ++ ys).toArray.toList.drop (l.length * i0.size + (Builtin.zeroCells (Value.int .u8 0).cells n).toList.length)) = u8s (l ++ List.replicate n 0) ++ ys.drop n := by
      rw [hzl, hz1, Nat.mul_one, zeroCells_u8s, u8s_append]
      have e1 : (u8s l ++ ys).take l.length = u8s l := by rw [← u8s_length l]; exact List.take_left
      have e2 : (u8s l ++ ys).drop (l.length + n) = ys.drop n := by rw [← List.drop_drop, ← u8s_length l, List.drop_left]
      show (u8s l ++ ys).take l.length ++ _ ++ (u8s l ++ ys).drop (l.length + n) = _
      rw [e1, e2]
    rw [hrow] at hr
    have hmod : Mod w (w.setRow b (u8s (l ++ List.replicate n 0) ++ ys.drop n).toArray) (fun k => k = b) := ⟨rfl, rfl, rfl, by simp, fun k _ hk => setRow_other w b k _ hk⟩
    have hs2 : Step w τ (w.setRow b (u8s (l ++ List.replicate n 0) ++ ys.drop n).toArray) τ (fun t => t = g) := ⟨hmod.mono (fun k hk hS => by rw [hS]; exact ho.tag), Ext.refl _ _⟩
    refine ⟨_, _, τ, hr, ⟨⟨by rw [u8s_length, List.length_append, List.length_replicate, Nat.mul_one], .inr ⟨b, cap, ys.drop n, by rw [List.length_append, List.length_replicate], ⟨setRow_heap w b _ _ 5 _ ho.row, ho.tag⟩, ?_, by rw [List.length_append, List.length_replicate]; exact hroom, h5⟩⟩, hB, fun k hk => by
      have : b = k := by simpa [Value.ownBlock] using hk
      rw [← this]; exact hlow⟩, ⟨hst.mod.seq hmod (fun k hk hS => absurd hk (by omega)), hst.ext⟩, hs2⟩
    rw [u8s_length, List.length_append, List.length_replicate, List.length_drop]; omega
  · have hold : (Builtin.firstCells i0.size l.length (.slice (some ⟨b, 0, none⟩) l.length cap)).run Tryz.prog w.drew = .ok (u8s l).toArray w.drew := by
      refine run_firstCells_some (P := Tryz.prog) w.drew i0.size l.length ⟨b, 0, none⟩ l.length cap (u8s l) (by rw [u8s_length, hz1, Nat.mul_one]) (fun j u hu => ?_)
      rw [add_zero_addr]
      refine ho.drew.at j ?_
      rw [List.getElem?_append_left (List.getElem?_eq_some_iff.1 hu).1]; exact hu
    have hr := Lib.run_append_grow_zeros (P := Tryz.prog) w 43 3 ty 5 i0 (.int .u8 0) .i64 .i64 Tryz.underlying43 Tryz.underlying3 hi hz0 (some ⟨b, 0, none⟩) l.length cap (u8s l) hold n h0 (by rw [hz1]; omega) (by omega) (by omega) (by rw [hz2]; omega) (growslice_fits (by omega) (by rw [hz2]; omega))
    have hge := grownCap_ge w (l.length + n) cap 5
    have hcm : grownCap w (l.length + n) cap 5 ≤ maxLen := grownCap_le_maxLen w (l.length + n) cap _ (by unfold maxLen; omega)
    generalize grownCap w (l.length + n) cap 5 = G at *
    have hcs : ((u8s l).toArray ++ Builtin.zeroCells (Value.int .u8 0).cells n ++ Builtin.zeroCells (Value.int .u8 0).cells (G - (l.length + n))) = (⟨u8s (l ++ List.replicate n 0) ++ u8s (List.replicate (G - (l.length + n)) 0)⟩ : Array Value) := by
      apply Array.toList_inj.1
      rw [Array.toList_append, Array.toList_append, zeroCells_u8s, zeroCells_u8s, u8s_append]
    rw [hcs] at hr
    have hs2 := ((Step.refl w τ (fun t => t = g)).drew).alloc (.cells ⟨u8s (l ++ List.replicate n 0) ++ u8s (List.replicate (G - (l.length + n)) 0)⟩ 5) g
    refine ⟨_, _, τ.put w.heap.size g, hr, ⟨⟨by rw [u8s_length, List.length_append, List.length_replicate, Nat.mul_one], .inr ⟨w.heap.size, G, u8s (List.replicate (G - (l.length + n)) 0), by rw [List.length_append, List.length_replicate], Own.new w.drew τ g 5 _, ?_, by rw [List.length_append, List.length_replicate]; exact hge, hcm⟩⟩, hB, fun k hk => by
      have : w.heap.size = k := by simpa [Value.ownBlock] using hk
      rw [← this]; exact hst.size⟩, hst.drew.alloc _ g, hs2⟩
    simp only [u8s_length, List.length_append, List.length_replicate]; omega
theorem wpList_append_zeros_nb {w0 w : World} {τ0 τ : Tags} {S : Tag → Prop} (hst : Step w0 τ0 w τ S) {g : Tag} {v : Value} {l : List Int} (hown : NB w0.heap.size w τ g v l) (hl : 0 < l.length) (n : Nat) (h0 : 0 < n) (hn : l.length + n ≤ 1000000)
    {ops : Array Oper} {rest : List Oper} {o : Oper} {a : Act} {Q : Exit → Act → World → Prop} (hgd : o.guard = none) (s x : Operand)
    (ho : o.op = .call { callee := .builtin .append, args := #[s, x], argTypes := #[43, 3] }) (hs : a.eval s = v) (hx : a.eval x = .int .i64 (n : Int))
    (h : ∀ v' w' τ', NB w0.heap.size w' τ' g v' (l ++ List.replicate n 0) → Step w0 τ0 w' τ' S → Step w τ w' τ' (fun t => t = g) → wpList Tryz.prog ops Q rest (a.put o.dst v') w') : wpList Tryz.prog ops Q (o :: rest) a w := by
  refine wpList_plain hgd fun K hK => ?_
  obtain ⟨v', w', τ', hr, h2, h3, h4⟩ := run_append_zeros_nb hst hown hl n h0 hn o.type
  unfold Oper.wp execOp
  simp only [ho, resolve, invoke, builtin, Sem.run_bind, Sem.run_pure, Result.andThen_ok, List.map_toArray, List.map_cons, List.map_nil, hs, hx, hr]
  exact hK _ _ (h v' w' τ' h2 h3 h4)
end Go.Proofs.YtgjoahddbieliaaGreat
