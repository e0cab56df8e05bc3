/-
 slices.Grow of nothing;slices.Concat over bytes.
-/
import Derived.Test.YtemacanaihaldaaGreatChunk
import Derived.Test.YtemacanaihaldaaGreatMGrow
import Derived.Lib.AppendZerosOnto
import Derived.Lib.Walk
import Derived.Lib.SliceRun
import Derived.Laws.CopyOwn
import Derived.Laws.CopyRow
set_option maxRecDepth 100000
set_option maxHeartbeats 1000000
set_option linter.all false
namespace Go.Proofs.YtemacanaihaldaaGreat
open Go.RowKit
theorem Qxu (w0 w:World) (τ0 τ:Tags) (S:Tag→Prop) (hst:Step w0 τ0 w τ S) (g:Tag) (n:Nat) (h1:1≤n) (hn:n≤100000000) :
 Calls Tryz.prog 271 #[.slice none 0 0,.int .i64 (n:Int)] w fun e w'=>∃v τ',e = .returned v∧NB w0.heap.size w' τ' g v []∧Step w0 τ0 w' τ' S∧Step w τ w' τ' nil:=by
 obtain⟨i0,hi,hz0,hz1,hz2⟩:=info_parts Tryz.infoU8
 have hrz:∀ty,(Builtin.append_ #[37,3] ty #[.slice none 0 0,.int .i64 (n:Int)]).run Tryz.prog w =
  .ok (.slice (some ⟨w.heap.size,0,none⟩) n (grownCap w n 0 5)) (w.drew.alloc (.cells (Builtin.zeroCells #[.int .u8 0] n++Builtin.zeroCells #[.int .u8 0] (grownCap w n 0 5 - n)) 5)):=fun ty=>by
  have hold:(Builtin.firstCells i0.size 0 (.slice none 0 0)).run Tryz.prog w.drew = .ok #[] w.drew:=run_firstCells_none w.drew i0.size 0 0 0
  have h:=Lib.run_append_grow_zeros (P:=Tryz.prog) w 37 3 ty 5 i0 (.int .u8 0) .i64 .i64 Tryz.underlying37 Tryz.underlying3 hi hz0 none 0 0 [] hold n (by omega) (by rw[hz1];omega) (by omega) (by omega) (by rw[hz2];omega)
   (by rw[Nat.zero_add];exact growslice_fits (by omega) (by rw[hz2];omega))
  simp only[Nat.zero_add,Array.empty_append] at h
  exact h
 have hGn:n≤grownCap w n 0 5 := grownCap_ge w _ _ _
 have hGm:grownCap w n 0 5 ≤ maxLen:=grownCap_le_maxLen w n 0 _ (by unfold maxLen;omega)
 generalize grownCap w n 0 5 = G at *
 have hG63:G≤9223372036854775807:=by unfold maxLen at hGm;omega
 generalize hcs:Builtin.zeroCells #[.int .u8 0] n++Builtin.zeroCells #[.int .u8 0] (G-n)=cs at *
 have hsz:cs.size=G:=by rw[←hcs];simp only[Array.size_append,size_zeroCells];simp;omega
 have hown:=Own.born w.drew τ g 5 cs
 have hs1:=(hst.drew).alloc (.cells cs 5) g
 have hs2:=((Step.refl w τ nil).drew).alloc (.cells cs 5) g
 have hnb:NB w0.heap.size (w.drew.alloc (.cells cs 5)) (τ.put w.heap.size g) g (.slice (some ⟨w.heap.size,0,none⟩) 0 G) [] :=
  ⟨⟨rfl,.inr ⟨w.heap.size,G,cs.toList,rfl,by simpa [u8s] using hown,by simp[u8s,hsz],Nat.zero_le _,hGm⟩⟩,fun x hx=>by simp at hx,fun k hk=>by
    have:w.heap.size=k:=by simpa [Value.ownBlock] using hk
    have h2:=hst.size;rw[←this];exact h2⟩
 obtain⟨Hnb,Hs1,Hs2,Hrz⟩:=hid4 hnb hs1 hs2 hrz
 clear hnb hs1 hs2 hrz hown hst hcs hGm
 have a1:decide ((n:Int)<0)=false:=by simp
 go_enter Tryz.func271,Tryz.ntmps271
 go_wp2_with (at_builtin;refine Lib.wpList_append_run _ rfl _ _ _ _ rfl _ _ rfl rfl _ _ (Hrz.out _) ?_)
 all_goals go_ret
 all_goals exact⟨_,_,rfl,Hnb.out,Hs1.out,Hs2.out⟩
def catTo (ls:List (List Int)):Nat→List Int
 | 0=>[]
 | i+1=>catTo ls i++ls.getD i []
theorem Qgy (ls:List (List Int)) (i:Nat):catTo ls (i+1)=catTo ls i++ls.getD i []:=rfl
theorem Qyc (ls:List (List Int)) (i n:Nat) (h:i≤n):(catTo ls i).length≤(catTo ls n).length:=by
 induction n with
 | zero =>
    obtain rfl:i=0:=by omega
    exact Nat.le_refl _
 | succ n ih =>
   by_cases e:i=n+1
   ·subst e;exact Nat.le_refl _
   ·have:=ih (by omega)
    rw[Qgy,List.length_append];omega
theorem Qt2 {w:World}{τ:Tags}{br c:Nat}{ls:List (List Int)}(hr:∀i,i<ls.length→∃u,w.cell? ⟨br,i,none⟩=some u∧∃g,Bytes w τ g u (ls.getD i [])) (g':Tag) (h0:0<ls.length) (hl:ls.length≤1000) (h1:1≤(catTo ls ls.length).length) (hbig:(catTo ls ls.length).length≤1000000) :
 Calls Tryz.prog 232 #[.slice (some ⟨br,0,none⟩) ls.length c] w fun e w'=>∃v τ',e = .returned v∧NB w.heap.size w' τ' g' v (catTo ls ls.length)∧Step w τ w' τ' nil:=by
 have hle:∀i,i≤ls.length→(catTo ls i).length≤1000000:=fun i hi=>Nat.le_trans (Qyc ls i _ hi) hbig
 generalize hn:ls.length=n at *
 obtain⟨Hr,Hle,H1,Hbig,Hn⟩:=hid5 hr hle h1 hbig hn
 clear hr hle h1 hbig hn
 go_enter Tryz.func232,Tryz.ntmps232
 go_wp2_with fail
 go_loopw [3,11] (fun m v wr=>∃i:Nat,i≤n∧v = .int .i64 (i:Int)∧m = .int .i64 ((catTo ls i).length:Int)∧wr=w) (fun _ v _=>n-(intOf v).toNat)
 case atStart=>exact⟨0,Nat.zero_le _,rfl,rfl,rfl⟩
 case round =>
  obtain⟨i,hi,rfl,rfl,rfl⟩:=hrel
  have hln:=Hle.out i hi
  by_cases hlt:i<n
  ·obtain⟨u,hc,g,hb⟩:=Hr.out i hlt
   obtain⟨p,cu,rfl,h2,h3⟩:=hb.any
   have hs:(catTo ls (i+1)).length=(catTo ls i).length+(ls.getD i []).length:=by rw[Qgy,List.length_append]
   have hln2:=Hle.out (i+1) (by omega)
   rw[hs] at hln2
   generalize (catTo ls i).length=a at *
   generalize (ls.getD i []).length=b at *
   have a1:decide ((a:Int)+(b:Int)<0)=false:=by simp;omega
   have Hs:=Lib.hid hs
   clear hs hb h2 h3
   go_wp2_with fail
   go_round
   case rel=>exact⟨i+1,by omega,by simp,by rw[Hs.out];simp,trivial⟩
   case measure=>simp[intOf];omega
  ·have hin:i=n:=by omega
   subst hin
   have hg:=Qxu wr wr τ τ nil (Step.refl _ _ _) g' _ H1.out (by omega)
   generalize hm:(catTo ls i).length=m at *
   obtain⟨Hg,Hm⟩:=hid2 hg hm
   clear hg hm
   go_wp2_with fail
   refine Hg.out.mono ?_
   rintro e w1 ⟨v,τ1,rfl,hnb,hst,-⟩
   obtain⟨Hnb,Hst⟩:=hid2 hnb hst
   clear hnb hst Hg
   go_wp2_with fail
   go_loopw [6,27] (fun m v wq=>∃(j:Nat) (τq:Tags),j≤i∧v = .int .i64 (j:Int)∧NB wr.heap.size wq τq g' m (catTo ls j)∧Step wr τ wq τq nil) (fun _ v _=>i-(intOf v).toNat)
   case atStart=>exact⟨0,τ1,Nat.zero_le _,rfl,Hnb.out,Hst.out⟩
   case round =>
    clear Hnb Hst
    obtain⟨j,τq,hj,rfl,hnb,hst⟩:=hrel
    by_cases hlt2:j<i
    ·obtain⟨u,hc,g,hb⟩:=Hr.out j hlt2
     have c1:=(hst.no.cell br j (cell_lt hc) (fun h=>h)).trans hc
     have hb1:=hb.step hst (fun h=>h)
     have hsz:(catTo ls j).length+(ls.getD j []).length≤100000000000:=by
      have:=Hle.out (j+1) (by omega)
      rw[Qgy,List.length_append] at this;omega
     obtain⟨p,cu,rfl,-,-⟩:=hb1.any
     obtain⟨pm,cm,rfl⟩:=hnb.val
     generalize hx:ls.getD j []=x at *
     clear hb hc
     obtain⟨Hnb,Hst,Hb1,Hsz,Hx⟩:=hid5 hnb hst hb1 hsz hx
     clear hnb hst hb1 hsz hx
     go_wp2_with (at_builtin;refine Qal Hst.out Hnb.out Hb1.out Hsz.out rfl _ _ rfl rfl rfl ?_;intro v' w' τ' hb he hmo;obtain⟨Hb,He,Hmo⟩:=hid3 hb he hmo;clear hb he hmo)
     go_round
     case rel=>exact⟨j+1,τ',by omega,by simp,by rw[Qgy,Hx.out];exact Hb.out,He.out⟩
     case measure=>simp[intOf];omega
    ·have hji:j=i:=by omega
     subst hji
     obtain⟨Hnb,Hst⟩:=hid2 hnb hst
     clear hnb hst
     go_wp2_with fail
     go_returns
     exact⟨_,τq,rfl,Hnb.out,Hst.out⟩
def over (cur:List Value) (off:Nat) (cs:List Value):List Value:=cur.take off++cs++cur.drop (off+cs.length)
theorem Qq0 (cur:List Value) (off:Nat) (cs:List Value) (h:off+cs.length≤cur.length):(over cur off cs).length=cur.length:=by
 unfold over;simp only[List.length_append,List.length_take,List.length_drop];omega
theorem Own.row' {w:World}{τ:Tags}{b:Nat}{g:Tag}{t:TypeId}{xs:List Value}(h:Own w τ b g t xs) (cs:List Value):Own (w.setRow b cs.toArray) τ b g t cs :=
 ⟨setRow_heap w b _ _ t _ h.row,h.tag⟩
theorem Step.row {w a:World}{τ τ1:Tags}{S:Tag→Prop}(h:Step w τ a τ1 S) {b:Nat}{g:Tag}(hb:τ1 b=g) (hs:S g∨w.heap.size≤b) (cs:Array Value):Step w τ (a.setRow b cs) τ1 S :=
 ⟨⟨h.mod.os,h.mod.tape,h.mod.output,by simpa using h.mod.size,fun k hk hn=>(setRow_other a b k cs (fun e=>by
   subst e
   rcases hs with hs|hs
   ·have:=h.ext k hk;rw[hb] at this;exact hn (by rw[←this];exact hs)
   ·omega)).trans (h.mod.block k hk hn)⟩,h.ext⟩
theorem Qcg {w:World}{τ:Tags}{gb:Nat}{tg g2:Tag}{T:TypeId}{cur:List Value}(ho:Own w τ gb tg T cur) {off dLen dCap:Nat}{vx:Value}{m:List Int}(hb:Bytes w τ g2 vx m) (n:Nat) (hn:n=Nat.min m.length dLen) (hfit:off+n≤cur.length) (ty:TypeId) :
 (Builtin.copy_ #[37,37] ty #[.slice (some ⟨gb,off,none⟩) dLen dCap,vx]).run Tryz.prog w = .ok (goInt n) (w.setRow gb (over cur off (u8s (m.take n))).toArray):=by
 obtain⟨i0,hi,hz0,hz1,hz2⟩:=info_parts Tryz.infoU8
 have hsz:(Tryz.prog.info? 5).map (·.size)=some 1:=by rw[hi];simp[hz1]
 obtain⟨p,c,rfl,h1,h2⟩:=hb.any
 have hle:n≤m.length:=by rw[hn];exact Nat.min_le_left _ _
 have hlen:(u8s (m.take n)).length=n:=by rw[Qac,List.length_take];omega
 by_cases h0:n=0
 ·subst h0
  have:=run_copy_none (P:=Tryz.prog) w 37 37 ty 5 (some ⟨gb,off,none⟩) p dLen dCap m.length c Tryz.underlying37 hsz hn.symm
  rw[this]
  have e:(over cur off (u8s (m.take 0))).toArray=cur.toArray:=by simp[over,u8s]
  rw[e,setRow_self w gb cur.toArray T (0,0) ho.row]
  rfl
 ·obtain⟨b,o,c',hv,-,-,-,-,hcell⟩:=hb.pos (by omega)
  simp only[Value.slice.injEq] at hv
  obtain⟨rfl,_,rfl⟩:=hv
  have hnews:=hb.news.2 _ rfl
  have hsrc:∀j v,(u8s (m.take n))[j]?=some v→w.cell? ((⟨b,o,none⟩:Addr).add j)=some v:=fun j v hj=>by
   have hj':j<n:=by have:=(List.getElem?_eq_some_iff.1 hj).1;omega
   refine hnews j v ?_
   rw[←hj]
   simp only[u8s,List.getElem?_map,List.getElem?_take,if_pos hj']
  have:=run_copy_row (P:=Tryz.prog) w 37 37 ty 5 gb off dLen dCap ⟨b,o,none⟩ m.length c cur.toArray T (u8s (m.take n)) Tryz.underlying37 hsz ho.row (by rw[hlen];exact hn) hsrc (by rw[hlen];simpa using hfit) (Qkd _)
  rw[hlen] at this
  rw[this]
  unfold over
  rw[hlen]
theorem Ql4 {w0 w:World}{τ0 τ:Tags}{S:Tag→Prop}(hst:Step w0 τ0 w τ S) {gb:Nat}{tg g2:Tag}{T:TypeId}{cur:List Value}(ho:Own w τ gb tg T cur) (hS:S tg∨w0.heap.size≤gb) {off dLen dCap:Nat}{vx:Value}{m:List Int}(hb:Bytes w τ g2 vx m) (n:Nat) (hn:n=Nat.min m.length dLen) (hfit:off+n≤cur.length)
 {ops:Array Oper} {rest:List Oper} {o:Oper} {a:Act} {Q:Exit→Act→World→Prop} (hgd:o.guard=none) (d s:Operand)
 (hop:o.op = .call {callee:=.builtin .copy,args:=#[d,s],argTypes:=#[37,37]}) (hd:a.eval d = .slice (some ⟨gb,off,none⟩) dLen dCap) (hs:a.eval s=vx)
 (h:∀w',Own w' τ gb tg T (over cur off (u8s (m.take n)))→Step w0 τ0 w' τ S→Step w τ w' τ (fun t=>t=tg)→wpList Tryz.prog ops Q rest (a.put o.dst (goInt n)) w'):wpList Tryz.prog ops Q (o::rest) a w:=by
 refine wpList_plain hgd fun K hK=>?_
 have hr:=Qcg ho (off:=off) (dLen:=dLen) (dCap:=dCap) hb n hn hfit o.type
 unfold Oper.wp execOp
 simp only[hop,resolve,invoke,builtin,Sem.run_bind,Sem.run_pure,Result.andThen_ok,List.map_toArray,List.map_cons,List.map_nil,hd,hs,hr]
 exact hK _ _ (h _ (ho.row' _) (hst.row ho.tag hS _) ((Step.refl w τ (fun t=>t=tg)).row ho.tag (.inl rfl) _))
theorem Qbb {w0 w:World}{τ0 τ:Tags}{S:Tag→Prop}(hst:Step w0 τ0 w τ S) {gb:Nat}{tg g2:Tag}{T:TypeId}{cur:List Value}(ho:Own w τ gb tg T cur) (hS:S tg∨w0.heap.size≤gb) {off dLen dCap:Nat}{vx:Value}{m:List Int}(hb:Bytes w τ g2 vx m) (n:Nat) (hn:n=Nat.min m.length dLen) (hfit:off+n≤cur.length)
 {ops:Array Oper} {o:Oper} {a:Act} {K:Act→World→Prop} {Q:Exit→Act→World→Prop} {E:Prop} (hgd:o.guard=none) (d s:Operand)
 (hop:o.op = .call {callee:=.builtin .copy,args:=#[d,s],argTypes:=#[37,37]}) (hd:a.eval d = .slice (some ⟨gb,off,none⟩) dLen dCap) (hs:a.eval s=vx)
 (h:∀w',Own w' τ gb tg T (over cur off (u8s (m.take n)))→Step w0 τ0 w' τ S→Step w τ w' τ (fun t=>t=tg)→K (a.put o.dst (goInt n)) w'):if Region.wanted o (yielded ops a.tmps)=true then Oper.wp Tryz.prog o a w K Q else E:=by
 have hw:Region.wanted o (yielded ops a.tmps)=true:=by simp[Region.wanted,hgd]
 rw[if_pos hw]
 have hr:=Qcg ho (off:=off) (dLen:=dLen) (dCap:=dCap) hb n hn hfit o.type
 unfold Oper.wp execOp
 simp only[hop,resolve,invoke,builtin,Sem.run_bind,Sem.run_pure,Result.andThen_ok,List.map_toArray,List.map_cons,List.map_nil,hd,hs,hr]
 exact h _ (ho.row' _) (hst.row ho.tag hS _) ((Step.refl w τ (fun t=>t=tg)).row ho.tag (.inl rfl) _)
end Go.Proofs.YtemacanaihaldaaGreat
namespace Go.Proofs.YtemacanaihaldaaGreat
open Go.RowKit Go.Shelf
abbrev Qeq (W:World) (row:Option Nat):Prop:=∀r,row=some r→∃o:Obj,W.heap[r]?=some o∧o.isCells=false
theorem Own.turn {W W':World}{row:Option Nat}{τ:Tags}{b:Nat}{g:Tag}{t:TypeId}{xs:List Value}(h:Own W τ b g t xs) (hg:W.grownBy W' row) (hr:Qeq W row):Own W' τ b g t xs :=
 ⟨(hg.block b h.lt (fun e=>by
   obtain⟨o,ho,hc⟩:=hr b e.symm
   rw[h.row] at ho;cases ho;cases hc)).trans h.row,h.tag⟩
theorem Bytes.turn {W W':World}{row:Option Nat}{τ:Tags}{g:Tag}{v:Value}{l:List Int}(h:Bytes W τ g v l) (hg:W.grownBy W' row) (hr:Qeq W row):Bytes W' τ g v l:=by
 obtain⟨p,c,hv,h1,h2,hc⟩:=h.is
 refine⟨h.isB,p,c,hv,h1,h2,fun hl=>?_⟩
 obtain⟨b,o,hp,ht,hcell⟩:=hc hl
 exact⟨b,o,hp,ht,fun i hi=>cell_kept (hcell i hi) hg hr⟩
theorem Waits.turn {W W':World}{row:Option Nat}{τ:Tags}{g:Tag}{v:Value}{ls:List (List Int)}(h:Waits W τ g v ls) (hg:W.grownBy W' row) (hr:Qeq W row):Waits W' τ g v ls:=by
 rcases h with h|⟨b,cap,xs,ys,hv,ho,h1,h2,h3,hk⟩
 ·exact .inl h
 ·refine .inr ⟨b,cap,xs,ys,hv,ho.turn hg hr,h1,h2,h3,fun k x hx=>?_⟩
  obtain⟨a,u,hu,hb⟩:=hk k x hx
  exact⟨a,u,hu,hb.turn hg hr⟩
theorem NR.turn {n0:Nat}{W W':World}{row:Option Nat}{τ:Tags}{g:Tag}{v:Value}{ls:List (List Int)}(h:NR n0 W τ g v ls) (hg:W.grownBy W' row) (hr:Qeq W row):NR n0 W' τ g v ls:=⟨h.row.turn hg hr,h.low⟩
theorem Step.turn {w W W':World}{row:Option Nat}{τ τ':Tags}{S:Tag→Prop}(h:Step w τ W τ' S) (hg:W.grownBy W' row) (hr:∀r,row=some r→w.heap.size≤r):Step w τ W' τ' S :=
 ⟨h.mod.grown hg (fun k e hk=>absurd (hr k e) (by omega)),h.ext⟩
theorem Keep3.turn {b Bs Bn B:Nat}{X W W':World}{row:Option Nat}(h:Keep3 b Bs Bn X W) (hg:W.grownBy W' row) (hr:∀r,row=some r→B≤r) (h1:b<B) (h2:Bs<B) (h3:Bn<B) (hB:B≤W.heap.size):Keep3 b Bs Bn X W':=by
 intro k hk
 have hlt:k<B:=by rcases hk with rfl|rfl|rfl <;> assumption
 refine(hg.block k (by omega) (fun e=>?_)).trans (h k hk)
 have:=hr k e.symm
 omega
theorem Qh4 {B:Nat}{W W':World}{S:Nat→Prop}(m:Mod W W' S) (hS:∀k o,S k→W.heap[k]?=some o→o.isCells=true):KeepsFrom B W W' :=
 ⟨m.size,fun k o _ hk ho=>(m.block k (Array.getElem?_eq_some_iff.1 hk).1 (fun h=>by rw[hS k o h hk] at ho;cases ho)).trans hk⟩
theorem Qrd (w:World) (row:Option Nat):w.grownBy w.drew row:=⟨rfl,rfl,rfl,Nat.le_refl _,fun _ _ _=>rfl⟩
theorem Qpx (a:Option Addr) (len cap k:Nat) (hk:1≤k) (w:World) :
 Calls Tryz.prog 125 #[.slice a len cap,.int .i64 (k:Int)] w fun e w'=>e = .returned (.func (.func 207) #[] #[.pointer (some ⟨w.heap.size,0,none⟩),.pointer (some ⟨w.heap.size+1,0,none⟩)]) ∧
  w'=(w.alloc (.cells #[.slice a len cap] 37)).alloc (.cells #[.int .i64 (k:Int)] 3):=by
 have a1:decide ((k:Int)<1)=false:=by simp;omega
 have hmf:∀(fn:Fn) (first cap:Array Value) (w:World),(Instr.makeFunc fn first cap).run Tryz.prog w = .ok (.func fn first cap) w:=fun _ _ _ _=>rfl
 go_enter Tryz.func125,Tryz.ntmps125
 go_wp2_with fail
 go_ret
 exact⟨rfl,rfl⟩
theorem Qv9 (F:Fence) (n:Nat) (hf:F.fn 207) (hro:F.round=none) (l Bs:Nat) (v2:Value) (a:Option Addr) (cap:Nat) (J:List Nat→World→Prop)
 (W:World) (hBs:W.cell? ⟨Bs,0,none⟩=some (.slice a 0 cap)) (h0:J [] W) :
 CallsIn F n Tryz.prog 207 #[.func (.yield l) #[] #[],.pointer (some ⟨Bs,0,none⟩),v2] W fun e W'=>(∃v,e = .returned v)∧J [] W':=by
 refine callsIn_of_wp Tryz.func207 rfl hf ?_ hro
 simp only[Tryz.ntmps207,List.size_toArray,List.length_cons,List.length_nil,Nat.reduceAdd,Nat.reduceSub,Array.replicate_succ,Array.replicate_zero,List.push_toArray,List.append_toArray,List.nil_append,List.cons_append]
 gi_wp2
 gi_loopw [4] (fun i wr=>i = .int .i64 0∧wr=W) (fun _ _=>0)
 case atStart=>exact⟨rfl,rfl⟩
 case round =>
  obtain⟨rfl,rfl⟩:=hrel
  gi_wp2
  go_end0
  exact⟨⟨_,rfl⟩,h0⟩
theorem Qta (k:Nat) (hk:1≤k):parts 0 k=0:=by unfold parts;rw[Nat.zero_add];exact Nat.div_eq_of_lt (by omega)
abbrev Ql1 (len k:Nat):={j:Nat // j<parts len k}
theorem Qlx (F:Fence) (n:Nat) (hf:F.fn 207) (hro:F.round=none) (hn:1≤n) (Bs Bn b off len cap k:Nat) (a:Option Addr) (ha:0<len→a=some ⟨b,off,none⟩) (hk:1≤k) (hk2:k≤1000) (hlen:len≤100000000) (hcap:len≤cap) (hcm:cap≤maxLen)
 (w:World) (hs:w.cell? ⟨Bs,0,none⟩=some (.slice a len cap)) (hnn:w.cell? ⟨Bn,0,none⟩=some (.int .i64 (k:Int))) :
 SeqStopsK F n Tryz.prog 207 #[.pointer (some ⟨Bs,0,none⟩),.pointer (some ⟨Bn,0,none⟩)] (fun j:Ql1 len k=>#[partV b off len k j.1]) (Keep3 b Bs Bn) (fun ys=>ys.map Subtype.val=List.range (parts len k)) (fun _=>True) (parts len k) w:=fun l J Jx W hW hJ hJx hY h0=>by
 have c1:=(hW.cell (p:=⟨Bs,0,none⟩) (cell_lt hs)).trans hs
 have c2:=(hW.cell (p:=⟨Bn,0,none⟩) (cell_lt hnn)).trans hnn
 by_cases hl:len=0
 ·subst hl
  refine(Qv9 F n hf hro l Bs _ a cap (fun _ W=>J [] W) W c1 h0).mono ?_
  rintro e W' ⟨he,hj⟩
  exact⟨he,.inl ⟨[],show ([]:List Nat)=List.range (parts 0 k) from by rw[Qta k hk];rfl,hj⟩⟩
 ·obtain rfl:=ha (by omega)
  refine(Qv8 F n hf hro hn l Bs Bn b off len cap k hk hk2 hlen hcap hcm (fun pre W=>∃p:List (Ql1 len k),p.map Subtype.val=pre∧J p W) (fun pre W=>∃p:List (Ql1 len k),p.map Subtype.val=pre∧Jx p W)
   (fun pre W ⟨p,hp,h⟩=>⟨p,hp,hJ p W _ none h (Qrd W none) (fun r e=>by cases e)⟩) ?_ W c1 c2 ⟨[],rfl,h0⟩).mono ?_
  ·rintro pre W1 ⟨p,rfl,hp⟩ hlt
   obtain⟨fn,tmps,assign,body,hy,hR⟩:=hY p ⟨(p.map Subtype.val).length,hlt⟩ W1 hp (by rw[List.length_map] at hlt;exact hlt)
   refine⟨fn,tmps,assign,body,hy,hR.mono ?_⟩
   rintro e W' (⟨rfl,h1,h2⟩|⟨rfl,h1⟩)
   ·exact .inl ⟨rfl,⟨_,by simp,h1⟩,h2⟩
   ·exact .inr ⟨rfl,⟨_,by simp,h1⟩⟩
  ·rintro e W' ⟨he,⟨ys,hys,p,rfl,hp⟩|⟨pre,_,p,_,hp⟩⟩
   ·exact⟨he,.inl ⟨p,hys,hp⟩⟩
   ·exact⟨he,.inr ⟨p,trivial,hp⟩⟩
theorem NR.cells {n0:Nat}{w:World}{τ:Tags}{g:Tag}{v:Value}{ls:List (List Int)}(h:NR n0 w τ g v ls) {k:Nat}(hk:v.ownBlock=some k):τ k=g∧n0≤k∧∃xs,w.heap[k]?=some (.cells ⟨xs⟩ 37 (0,0)):=by
 rcases h.row with ⟨rfl,_⟩|⟨b,cap,xs,ys,rfl,ho,_⟩
 ·simp[Value.ownBlock] at hk
 ·have:b=k:=by simpa [Value.ownBlock] using hk
  subst this
  exact⟨ho.tag,h.low b rfl,_,ho.row⟩
theorem Qvn {b Bs Bn:Nat}{A B C:World}(h:Keep3 b Bs Bn A B) (k:Keep3 b Bs Bn B C):Keep3 b Bs Bn A C:=h.trans k
theorem Qvo {b Bs Bn B:Nat}(h1:b<B) (h2:Bs<B) (h3:Bn<B) (W:World) (l:Nat) (o o':Obj) (hl:B≤l) (h:W.heap[l]?=some o) (hc:o.isCells=false) (hw:o.isWalk=false):Keep3 b Bs Bn W (W.putObj l o'):=by
 intro k hk
 have hlt:k<B:=by rcases hk with rfl|rfl|rfl <;> assumption
 exact World.putObj_heap_other (by omega)
def tFill:Tag:=(92,0)
def Agree (τ τ':Tags):Prop:=∀k,τ k≠tFill→τ' k=τ k
theorem Agree.put {τ:Tags}{b:Nat}(hb:τ b=tFill) (g:Tag):Agree τ (τ.put b g):=fun k hk=>Tags.put_ne _ _ _ _ (fun e=>hk (by rw[e];exact hb))
theorem Own.agree {w:World}{τ τ':Tags}{b:Nat}{g:Tag}{t:TypeId}{xs:List Value}(h:Own w τ b g t xs) (ha:Agree τ τ') (hg:g≠tFill):Own w τ' b g t xs:=⟨h.row,(ha b (by rw[h.tag];exact hg)).trans h.tag⟩
theorem Bytes.agree {w:World}{τ τ':Tags}{g:Tag}{v:Value}{l:List Int}(h:Bytes w τ g v l) (ha:Agree τ τ') (hg:g≠tFill):Bytes w τ' g v l:=by
 obtain⟨p,c,hv,h1,h2,hc⟩:=h.is
 refine⟨h.isB,p,c,hv,h1,h2,fun hl=>?_⟩
 obtain⟨b,o,hp,ht,hcell⟩:=hc hl
 exact⟨b,o,hp,(ha b (by rw[ht];exact hg)).trans ht,hcell⟩
theorem Waits.agree {w:World}{τ τ':Tags}{g:Tag}{v:Value}{ls:List (List Int)}(h:Waits w τ g v ls) (ha:Agree τ τ') (hg:g≠tFill):Waits w τ' g v ls:=by
 rcases h with h|⟨b,cap,xs,ys,hv,ho,h1,h2,h3,hk⟩
 ·exact .inl h
 ·refine .inr ⟨b,cap,xs,ys,hv,ho.agree ha hg,h1,h2,h3,fun k x hx=>?_⟩
  obtain⟨a,u,hu,hb⟩:=hk k x hx
  exact⟨a,u,hu,hb.agree ha (by simp[tData,tFill])⟩
theorem NR.agree {n0:Nat}{w:World}{τ τ':Tags}{g:Tag}{v:Value}{ls:List (List Int)}(h:NR n0 w τ g v ls) (ha:Agree τ τ') (hg:g≠tFill):NR n0 w τ' g v ls:=⟨h.row.agree ha hg,h.low⟩
theorem Step.retag {w a:World}{τ τ1:Tags}{S:Tag→Prop}(h:Step w τ a τ1 S) {b:Nat}(hb:w.heap.size≤b) (g:Tag):Step w τ a (τ1.put b g) S:=⟨h.mod,h.ext.put _ _ hb⟩
theorem Own.retag {w:World}{τ:Tags}{b:Nat}{g:Tag}{t:TypeId}{xs:List Value}(h:Own w τ b g t xs) (g':Tag):Own w (τ.put b g') b g' t xs:=⟨h.row,Tags.put_same _ _ _⟩
theorem Qg7 {F:Fence}{n:Nat}{w0 w:World}{τ0 τ:Tags}{S:Tag→Prop}(hst:Step w0 τ0 w τ S) {g:Tag}(hg:g≠tData) {v u:Value}{ls:List (List Int)}{x:List Int}(hown:NR w0.heap.size w τ g v ls) (hb:Bytes w τ tData u x) (h128:x.length=128) (hsz:ls.length≤1000000000) {kb:Nat}(hkb:kb=w.heap.size)
 {ops:Array Oper} {rest:List Oper} {o:Oper} {a:Act} {Q:Exit→Act→World→Prop} (hgd:o.guard=none) (s y:Operand)
 (hop:o.op = .call {callee:=.builtin .append,args:=#[s,y],argTypes:=#[52,52]}) (hs:a.eval s=v) (hy:a.eval y = .slice (some ⟨kb,0,none⟩) 1 1)
 (h:∀v' w' τ',NR w0.heap.size w' τ' g v' (ls++[x])→Step w0 τ0 w' τ' S→Step w τ w' τ' (fun t=>t=g)→Mod w w' (fun k=>v.ownBlock=some k)→wpListIn F n Tryz.prog ops Q rest (a.put o.dst v') w'):wpListIn F n Tryz.prog ops Q (o::rest) a (w.alloc (.cells #[u] 37)):=by
 subst hkb
 refine wpListIn_plain hgd fun K hK'=>?_
 obtain⟨v',w',τ',hrun,h2,h3,h4,h5⟩:=Qdn (hst.alloc' (.cells #[u] 37)) hg (hown.alloc _) (hb.alloc _) h128 hsz (heap_alloc_new w _) o.type
 unfold Oper.wpIn
 refine⟨?_,?_⟩
 ·simp[Oper.about,hop,resolve,Target.leads,Sem.run_pure]
 ·rw[Oper.semAt_plain F _ _ (by rw[hop];intro c hc';cases hc')]
  simp[execOp,hop,resolve,invoke,builtin,hs,hy,hrun,Result.andThen]
  exact hK' _ _ (h v' w' τ' h2 h3 (((Step.refl w τ _).alloc' _).trans h4) (((Mod.refl w _).alloc _).trans h5))
theorem Qih {F:Fence}{n:Nat}{w0 w:World}{τ0 τ:Tags}{S:Tag→Prop}(hst:Step w0 τ0 w τ S) {g:Tag}(hg:g≠tData) {v u:Value}{ls:List (List Int)}{x:List Int}(hown:NR w0.heap.size w τ g v ls) (hb:Bytes w τ tData u x) (h128:x.length=128) (hsz:ls.length≤1000000000) {kb:Nat}(hkb:kb=w.heap.size)
 {ops:Array Oper} {o:Oper} {a:Act} {K:Act→World→Prop} {Q:Exit→Act→World→Prop} {E:Prop} (hgd:o.guard=none) (s y:Operand)
 (hop:o.op = .call {callee:=.builtin .append,args:=#[s,y],argTypes:=#[52,52]}) (hs:a.eval s=v) (hy:a.eval y = .slice (some ⟨kb,0,none⟩) 1 1)
 (h:∀v' w' τ',NR w0.heap.size w' τ' g v' (ls++[x])→Step w0 τ0 w' τ' S→Step w τ w' τ' (fun t=>t=g)→Mod w w' (fun k=>v.ownBlock=some k)→K (a.put o.dst v') w'):if Region.wanted o (yielded ops a.tmps)=true then Oper.wpIn F n Tryz.prog o a (w.alloc (.cells #[u] 37)) K Q else E:=by
 subst hkb
 have hw:Region.wanted o (yielded ops a.tmps)=true:=by simp[Region.wanted,hgd]
 rw[if_pos hw]
 obtain⟨v',w',τ',hrun,h2,h3,h4,h5⟩:=Qdn (hst.alloc' (.cells #[u] 37)) hg (hown.alloc _) (hb.alloc _) h128 hsz (heap_alloc_new w _) o.type
 unfold Oper.wpIn
 refine⟨?_,?_⟩
 ·simp[Oper.about,hop,resolve,Target.leads,Sem.run_pure]
 ·rw[Oper.semAt_plain F _ _ (by rw[hop];intro c hc';cases hc')]
  simp[execOp,hop,resolve,invoke,builtin,hs,hy,hrun,Result.andThen]
  exact h v' w' τ' h2 h3 (((Step.refl w τ _).alloc' _).trans h4) (((Mod.refl w _).alloc _).trans h5)
theorem Qjn {F:Fence}{nf:Nat}{w0 w:World}{τ0 τ:Tags}{S:Tag→Prop}(hst:Step w0 τ0 w τ S) {gb:Nat}{tg g2:Tag}{T:TypeId}{cur:List Value}(ho:Own w τ gb tg T cur) (hS:S tg∨w0.heap.size≤gb) {off dLen dCap:Nat}{vx:Value}{m:List Int}(hb:Bytes w τ g2 vx m) (n:Nat) (hn:n=Nat.min m.length dLen) (hfit:off+n≤cur.length)
 {ops:Array Oper} {rest:List Oper} {o:Oper} {a:Act} {Q:Exit→Act→World→Prop} (hgd:o.guard=none) (d s:Operand)
 (hop:o.op = .call {callee:=.builtin .copy,args:=#[d,s],argTypes:=#[37,37]}) (hd:a.eval d = .slice (some ⟨gb,off,none⟩) dLen dCap) (hs:a.eval s=vx)
 (h:∀w',Own w' τ gb tg T (over cur off (u8s (m.take n)))→Step w0 τ0 w' τ S→Step w τ w' τ (fun t=>t=tg)→wpListIn F nf Tryz.prog ops Q rest (a.put o.dst (goInt n)) w'):wpListIn F nf Tryz.prog ops Q (o::rest) a w:=by
 refine wpListIn_plain hgd fun K hK'=>?_
 have hr:=Qcg ho (off:=off) (dLen:=dLen) (dCap:=dCap) hb n hn hfit o.type
 unfold Oper.wpIn
 refine⟨?_,?_⟩
 ·simp[Oper.about,hop,resolve,Target.leads,Sem.run_pure]
 ·rw[Oper.semAt_plain F _ _ (by rw[hop];intro c hc';cases hc')]
  simp only[execOp,hop,resolve,invoke,builtin,Sem.run_bind,Sem.run_pure,Result.andThen_ok,List.map_toArray,List.map_cons,List.map_nil,hd,hs,hr]
  exact hK' _ _ (h _ (ho.row' _) (hst.row ho.tag hS _) ((Step.refl w τ (fun t=>t=tg)).row ho.tag (.inl rfl) _))
end Go.Proofs.YtemacanaihaldaaGreat