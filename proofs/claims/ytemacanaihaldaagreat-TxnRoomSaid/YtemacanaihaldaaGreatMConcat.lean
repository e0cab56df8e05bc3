/-
 slices.Grow of nothing;slices.Concat over bytes.
-/
import Derived.Test.YtemacanaihaldaaGreatChunk
import Derived.Test.YtemacanaihaldaaGreatMGrow
import Derived.Lib.AppendZerosOnto
import Derived.Lib.Walk
import Derived.Lib.SliceRun
import Derived.Laws.CopyOwn
import Derived.Laws.CopyRow
set_option maxRecDepth 100000
set_option maxHeartbeats 2000000
set_option linter.all false
namespace Go.Proofs.YtemacanaihaldaaGreat
open Go.RowKit
theorem Qxu (z w:World) (l τ:Tags) (S:Tag->Prop) (d:Step z l w τ S) (g:Tag) (n:Nat) (h1:1<=n) (hn:n<=100000000) :
 Calls Tryz.prog 271 #[.slice none 0 0,.int .i64 (n:Int)] w fun e B=>∃v i,e = .returned v/\NB z.heap.size B i g v []/\Step z l B i S/\Step w τ B i nil:=by
 obtain⟨i0,hi,C,D,m⟩:=info_parts Tryz.infoU8
 have o:∀E,(Builtin.append_ #[37,3] E #[.slice none 0 0,.int .i64 (n:Int)]).run Tryz.prog w =
  .ok (.slice (some ⟨w.heap.size,0,none⟩) n (grownCap w n 0 5)) (w.drew.alloc (.cells (Builtin.zeroCells #[.int .u8 0] n++Builtin.zeroCells #[.int .u8 0] (grownCap w n 0 5 - n)) 5)):=fun E=>by
  have p:(Builtin.firstCells i0.size 0 (.slice none 0 0)).run Tryz.prog w.drew = .ok #[] w.drew:=run_firstCells_none w.drew i0.size 0 0 0
  have h:=Lib.run_append_grow_zeros (P:=Tryz.prog) w 37 3 E 5 i0 (.int .u8 0) .i64 .i64 Tryz.underlying37 Tryz.underlying3 hi C none 0 0 [] p n (by omega) (by rw[D];omega) (by omega) (by omega) (by rw[m];omega)
   (by rw[Nat.zero_add];exact growslice_fits (by omega) (by rw[m];omega))
  simp only[Nat.zero_add,Array.empty_append] at h
  exact h
 have hGn:n<=grownCap w n 0 5 := grownCap_ge w _ _ _
 have j:grownCap w n 0 5 <= maxLen:=grownCap_le_maxLen w n 0 _ (by unfold maxLen;omega)
 generalize grownCap w n 0 5 = G at *
 have hG63:G<=9223372036854775807:=by unfold maxLen at j;omega
 generalize q:Builtin.zeroCells #[.int .u8 0] n++Builtin.zeroCells #[.int .u8 0] (G-n)=cs at *
 have F:cs.size=G:=by rw[<-q];simp only[Array.size_append,size_zeroCells];simp;omega
 have b:=Own.born w.drew τ g 5 cs
 have r:=(d.drew).alloc (.cells cs 5) g
 have s:=((Step.refl w τ nil).drew).alloc (.cells cs 5) g
 have y:NB z.heap.size (w.drew.alloc (.cells cs 5)) (τ.put w.heap.size g) g (.slice (some ⟨w.heap.size,0,none⟩) 0 G) [] :=
  ⟨⟨rfl,.inr ⟨w.heap.size,G,cs.toList,rfl,by simpa [u8s] using b,by simp[u8s,F],Z9 _,j⟩⟩,fun x N=>by simp at N,fun k hk=>by
    have:w.heap.size=k:=by simpa [Value.ownBlock] using hk
    have h2:=d.size;rw[<-this];exact h2⟩
 obtain⟨I,J,L,M⟩:=hid4 y r s o
 clear y r s o b d q j
 have a1:decide ((n:Int)<0)=false:=by simp
 go_enter Tryz.func271,Tryz.ntmps271
 go_wp2_with (at_builtin;refine Lib.wpList_append_run _ rfl _ _ _ _ rfl _ _ rfl rfl _ _ (M.out _) ?_)
 all_goals go_ret
 all_goals exact⟨_,_,rfl,I.out,J.out,L.out⟩
def catTo (ls:List (List Int)):Nat->List Int
 | 0=>[]
 | i+1=>catTo ls i++ls.getD i []
theorem Qgy (ls:List (List Int)) (i:Nat):catTo ls (i+1)=catTo ls i++ls.getD i []:=rfl
theorem Qyc (ls:List (List Int)) (i n:Nat) (h:i<=n):(catTo ls i).length<=(catTo ls n).length:=by
 induction n with
 | zero =>
    obtain rfl:i=0:=by omega
    exact Z0 _
 | succ n ih =>
   by_cases e:i=n+1
   ·subst e;exact Z0 _
   ·have:=ih (by omega)
    rw[Qgy,Z6];omega
theorem Qt2 {w:World}{τ:Tags}{br c:Nat}{ls:List (List Int)}(Y:∀i,i<ls.length->∃u,w.cell? ⟨br,i,none⟩=some u/\∃g,Bytes w τ g u (ls.getD i [])) (J:Tag) (h0:0<ls.length) (hl:ls.length<=1000) (h1:1<=(catTo ls ls.length).length) (q:(catTo ls ls.length).length<=1000000) :
 Calls Tryz.prog 232 #[.slice (some ⟨br,0,none⟩) ls.length c] w fun e L=>∃v r,e = .returned v/\NB w.heap.size L r J v (catTo ls ls.length)/\Step w τ L r nil:=by
 have C:∀i,i<=ls.length->(catTo ls i).length<=1000000:=fun i hi=>Y3 (Qyc ls i _ hi) q
 generalize hn:ls.length=n at *
 obtain⟨Z,z,H1,Hbig,Hn⟩:=hid5 Y C h1 q hn
 clear Y C h1 q hn
 go_enter Tryz.func232,Tryz.ntmps232
 go_wp2_with fail
 go_loopw [3,11] (fun m v wr=>∃i:Nat,i<=n/\v = .int .i64 (i:Int)/\m = .int .i64 ((catTo ls i).length:Int)/\wr=w) (fun _ v _=>n-(intOf v).toNat)
 case atStart=>exact⟨0,Z9 _,rfl,rfl,rfl⟩
 case round =>
  obtain⟨i,hi,rfl,rfl,rfl⟩:=hrel
  have hln:=z.out i hi
  by_cases M:i<n
  ·obtain⟨u,I,g,y⟩:=Z.out i M
   obtain⟨p,cu,rfl,h2,h3⟩:=y.any
   have N:(catTo ls (i+1)).length=(catTo ls i).length+(ls.getD i []).length:=by rw[Qgy,Z6]
   have D:=z.out (i+1) (by omega)
   rw[N] at D
   generalize (catTo ls i).length=a at *
   generalize (ls.getD i []).length=b at *
   have a1:decide ((a:Int)+(b:Int)<0)=false:=by simp;omega
   have Hs:=Z2 N
   clear N y h2 h3
   go_wp2_with fail
   go_round
   case rel=>exact⟨i+1,by omega,by simp,by rw[Hs.out];simp,trivial⟩
   case measure=>simp[intOf];omega
  ·have O:i=n:=by omega
   subst O
   have hg:=Qxu wr wr τ τ nil (Step.refl _ _ _) J _ H1.out (by omega)
   generalize hm:(catTo ls i).length=m at *
   obtain⟨Hg,Hm⟩:=hid2 hg hm
   clear hg hm
   go_wp2_with fail
   refine Hg.out.mono ?_
   rintro e w1 ⟨v,τ1,rfl,k,d,-⟩
   obtain⟨l,o⟩:=hid2 k d
   clear k d Hg
   go_wp2_with fail
   go_loopw [6,27] (fun m v wq=>∃(j:Nat) (s:Tags),j<=i/\v = .int .i64 (j:Int)/\NB wr.heap.size wq s J m (catTo ls j)/\Step wr τ wq s nil) (fun _ v _=>i-(intOf v).toNat)
   case atStart=>exact⟨0,τ1,Z9 _,rfl,l.out,o.out⟩
   case round =>
    clear l o
    obtain⟨j,s,hj,rfl,k,d⟩:=hrel
    by_cases E:j<i
    ·obtain⟨u,I,g,y⟩:=Z.out j E
     have c1:=(d.no.cell br j (cell_lt I) (fun h=>h)).trans I
     have B:=y.step d (fun h=>h)
     have F:(catTo ls j).length+(ls.getD j []).length<=100000000000:=by
      have:=z.out (j+1) (by omega)
      rw[Qgy,Z6] at this;omega
     obtain⟨p,cu,rfl,-,-⟩:=B.any
     obtain⟨pm,cm,rfl⟩:=k.val
     generalize hx:ls.getD j []=x at *
     clear y I
     obtain⟨l,o,R,U,Hx⟩:=hid5 k d B F hx
     clear k d B F hx
     go_wp2_with (at_builtin;refine Qal o.out l.out R.out U.out rfl _ _ rfl rfl rfl ?_;intro v' L r y he G;obtain⟨Hb,He,Hmo⟩:=hid3 y he G;clear y he G)
     go_round
     case rel=>exact⟨j+1,r,by omega,by simp,by rw[Qgy,Hx.out];exact Hb.out,He.out⟩
     case measure=>simp[intOf];omega
    ·have X:j=i:=by omega
     subst X
     obtain⟨l,o⟩:=hid2 k d
     clear k d
     go_wp2_with fail
     go_returns
     exact⟨_,s,rfl,l.out,o.out⟩
def over (cur:List Value) (off:Nat) (cs:List Value):List Value:=cur.take off++cs++cur.drop (off+cs.length)
theorem Qq0 (b:List Value) (off:Nat) (cs:List Value) (h:off+cs.length<=b.length):(over b off cs).length=b.length:=by
 unfold over;simp only[Z6,List.length_take,List.length_drop];omega
theorem Own.row' {w:World}{τ:Tags}{b:Nat}{g:Tag}{t:TypeId}{d:List Value}(h:Own w τ b g t d) (cs:List Value):Own (w.setRow b cs.toArray) τ b g t cs :=
 ⟨setRow_heap w b _ _ t _ h.row,h.tag⟩
theorem Step.row {w a:World}{τ τ1:Tags}{S:Tag->Prop}(h:Step w τ a τ1 S) {b:Nat}{g:Tag}(i:τ1 b=g) (d:S g\/w.heap.size<=b) (cs:Array Value):Step w τ (a.setRow b cs) τ1 S :=
 ⟨⟨h.mod.os,h.mod.tape,h.mod.output,by simpa using h.mod.size,fun k hk hn=>(setRow_other a b k cs (fun e=>by
   subst e
   rcases d with d|d
   ·have:=h.ext k hk;rw[i] at this;exact hn (by rw[<-this];exact d)
   ·omega)).trans (h.mod.block k hk hn)⟩,h.ext⟩
theorem Qcg {w:World}{τ:Tags}{k:Nat}{F g2:Tag}{T:TypeId}{d:List Value}(B:Own w τ k F T d) {off dLen dCap:Nat}{C:Value}{m:List Int}(s:Bytes w τ g2 C m) (n:Nat) (hn:n=Nat.min m.length dLen) (l:off+n<=d.length) (x:TypeId) :
 (Builtin.copy_ #[37,37] x #[.slice (some ⟨k,off,none⟩) dLen dCap,C]).run Tryz.prog w = .ok (goInt n) (w.setRow k (over d off (u8s (m.take n))).toArray):=by
 obtain⟨i0,hi,hz0,y,hz2⟩:=info_parts Tryz.infoU8
 have q:(Tryz.prog.info? 5).map (·.size)=some 1:=by rw[hi];simp[y]
 obtain⟨p,c,rfl,h1,h2⟩:=s.any
 have hle:n<=m.length:=by rw[hn];exact Nat.min_le_left _ _
 have h:(u8s (m.take n)).length=n:=by rw[Qac,List.length_take];omega
 by_cases h0:n=0
 ·subst h0
  have:=run_copy_none (P:=Tryz.prog) w 37 37 x 5 (some ⟨k,off,none⟩) p dLen dCap m.length c Tryz.underlying37 q hn.symm
  rw[this]
  have e:(over d off (u8s (m.take 0))).toArray=d.toArray:=by simp[over,u8s]
  rw[e,setRow_self w k d.toArray T (0,0) B.row]
  rfl
 ·obtain⟨b,o,c',D,-,-,-,-,hcell⟩:=s.pos (by omega)
  simp only[Value.slice.injEq] at D
  obtain⟨rfl,_,rfl⟩:=D
  have i:=s.news.2 _ rfl
  have r:∀j v,(u8s (m.take n))[j]?=some v->w.cell? ((⟨b,o,none⟩:Addr).add j)=some v:=fun j v E=>by
   have z:j<n:=by have:=(Z4 E).1;omega
   refine i j v ?_
   rw[<-E]
   simp only[u8s,List.getElem?_map,List.getElem?_take,if_pos z]
  have:=run_copy_row (P:=Tryz.prog) w 37 37 x 5 k off dLen dCap ⟨b,o,none⟩ m.length c d.toArray T (u8s (m.take n)) Tryz.underlying37 q B.row (by rw[h];exact hn) r (by rw[h];simpa using l) (Qkd _)
  rw[h] at this
  rw[this]
  unfold over
  rw[h]
theorem Ql4 {q w:World}{e τ:Tags}{S:Tag->Prop}(r:Step q e w τ S) {k:Nat}{i g2:Tag}{T:TypeId}{b:List Value}(l:Own w τ k i T b) (B:S i\/q.heap.size<=k) {off dLen dCap:Nat}{z:Value}{m:List Int}(C:Bytes w τ g2 z m) (n:Nat) (hn:n=Nat.min m.length dLen) (j:off+n<=b.length)
 {ops:Array Oper} {rest:List Oper} {o:Oper} {a:Act} {Q:Exit->Act->World->Prop} (x:o.guard=none) (d s:Operand)
 (y:o.op = .call {callee:=.builtin .copy,args:=#[d,s],argTypes:=#[37,37]}) (hd:a.eval d = .slice (some ⟨k,off,none⟩) dLen dCap) (D:a.eval s=z)
 (h:∀p,Own p τ k i T (over b off (u8s (m.take n)))->Step q e p τ S->Step w τ p τ (fun t=>t=i)->wpList Tryz.prog ops Q rest (a.put o.dst (goInt n)) p):wpList Tryz.prog ops Q (o::rest) a w:=by
 refine wpList_plain x fun K E=>?_
 have F:=Qcg l (off:=off) (dLen:=dLen) (dCap:=dCap) C n hn j o.type
 unfold Oper.wp execOp
 simp only[y,resolve,invoke,builtin,Sem.run_bind,Sem.run_pure,Result.andThen_ok,List.map_toArray,X1,List.map_nil,hd,D,F]
 exact E _ _ (h _ (l.row' _) (r.row l.tag B _) ((Step.refl w τ (fun t=>t=i)).row l.tag (.inl rfl) _))
theorem Qbb {q w:World}{e τ:Tags}{S:Tag->Prop}(r:Step q e w τ S) {k:Nat}{i g2:Tag}{T:TypeId}{b:List Value}(l:Own w τ k i T b) (B:S i\/q.heap.size<=k) {off dLen dCap:Nat}{z:Value}{m:List Int}(C:Bytes w τ g2 z m) (n:Nat) (hn:n=Nat.min m.length dLen) (j:off+n<=b.length)
 {ops:Array Oper} {o:Oper} {a:Act} {K:Act->World->Prop} {Q:Exit->Act->World->Prop} {E:Prop} (x:o.guard=none) (d s:Operand)
 (y:o.op = .call {callee:=.builtin .copy,args:=#[d,s],argTypes:=#[37,37]}) (hd:a.eval d = .slice (some ⟨k,off,none⟩) dLen dCap) (D:a.eval s=z)
 (h:∀p,Own p τ k i T (over b off (u8s (m.take n)))->Step q e p τ S->Step w τ p τ (fun t=>t=i)->K (a.put o.dst (goInt n)) p):if Region.wanted o (yielded ops a.tmps)=true then Oper.wp Tryz.prog o a w K Q else E:=by
 have F:Region.wanted o (yielded ops a.tmps)=true:=by simp[Region.wanted,x]
 rw[if_pos F]
 have G:=Qcg l (off:=off) (dLen:=dLen) (dCap:=dCap) C n hn j o.type
 unfold Oper.wp execOp
 simp only[y,resolve,invoke,builtin,Sem.run_bind,Sem.run_pure,Result.andThen_ok,List.map_toArray,X1,List.map_nil,hd,D,G]
 exact h _ (l.row' _) (r.row l.tag B _) ((Step.refl w τ (fun t=>t=i)).row l.tag (.inl rfl) _)
end Go.Proofs.YtemacanaihaldaaGreat
namespace Go.Proofs.YtemacanaihaldaaGreat
open Go.RowKit Go.Shelf
abbrev Qeq (W:World) (row:Option Nat):Prop:=∀r,row=some r->∃o:Obj,W.heap[r]?=some o/\o.isCells=false
theorem Own.turn {W d:World}{row:Option Nat}{τ:Tags}{b:Nat}{g:Tag}{t:TypeId}{i:List Value}(h:Own W τ b g t i) (k:W.grownBy d row) (l:Qeq W row):Own d τ b g t i :=
 ⟨(k.block b h.lt (fun e=>by
   obtain⟨o,j,m⟩:=l b e.symm
   rw[h.row] at j;cases j;cases m)).trans h.row,h.tag⟩
theorem Bytes.turn {W e:World}{row:Option Nat}{τ:Tags}{g:Tag}{v:Value}{l:List Int}(h:Bytes W τ g v l) (j:W.grownBy e row) (k:Qeq W row):Bytes e τ g v l:=by
 obtain⟨p,c,m,h1,h2,q⟩:=h.is
 refine⟨h.isB,p,c,m,h1,h2,fun hl=>?_⟩
 obtain⟨b,o,r,s,d⟩:=q hl
 exact⟨b,o,r,s,fun i hi=>cell_kept (d i hi) j k⟩
theorem Waits.turn {W d:World}{row:Option Nat}{τ:Tags}{g:Tag}{v:Value}{ls:List (List Int)}(h:Waits W τ g v ls) (e:W.grownBy d row) (i:Qeq W row):Waits d τ g v ls:=by
 rcases h with h|⟨b,cap,xs,ys,j,l,h1,h2,m,hk⟩
 ·exact .inl h
 ·refine .inr ⟨b,cap,xs,ys,j,l.turn e i,h1,h2,m,fun k x o=>?_⟩
  obtain⟨a,u,hu,p⟩:=hk k x o
  exact⟨a,u,hu,p.turn e i⟩
theorem NR.turn {n0:Nat}{W b:World}{row:Option Nat}{τ:Tags}{g:Tag}{v:Value}{ls:List (List Int)}(h:NR n0 W τ g v ls) (d:W.grownBy b row) (e:Qeq W row):NR n0 b τ g v ls:=⟨h.row.turn d e,h.low⟩
theorem Step.turn {w W d:World}{row:Option Nat}{τ b:Tags}{S:Tag->Prop}(h:Step w τ W b S) (i:W.grownBy d row) (j:∀r,row=some r->w.heap.size<=r):Step w τ d b S :=
 ⟨h.mod.grown i (fun k e hk=>absurd (j k e) (by omega)),h.ext⟩
theorem Keep3.turn {b d i B:Nat}{X W j:World}{row:Option Nat}(h:Keep3 b d i X W) (l:W.grownBy j row) (m:∀r,row=some r->B<=r) (h1:b<B) (h2:d<B) (h3:i<B) (hB:B<=W.heap.size):Keep3 b d i X j:=by
 intro k hk
 have hlt:k<B:=by rcases hk with rfl|rfl|rfl <;> assumption
 refine(l.block k (by omega) (fun e=>?_)).trans (h k hk)
 have:=m k e.symm
 omega
theorem Qh4 {B:Nat}{W b:World}{S:Nat->Prop}(m:Mod W b S) (e:∀k o,S k->W.heap[k]?=some o->o.isCells=true):KeepsFrom B W b :=
 ⟨m.size,fun k o _ hk d=>(m.block k (Array.getElem?_eq_some_iff.1 hk).1 (fun h=>by rw[e k o h hk] at d;cases d)).trans hk⟩
theorem Qrd (w:World) (row:Option Nat):w.grownBy w.drew row:=⟨rfl,rfl,rfl,Z0 _,fun _ _ _=>rfl⟩
theorem Qpx (a:Option Addr) (len cap k:Nat) (hk:1<=k) (w:World) :
 Calls Tryz.prog 125 #[.slice a len cap,.int .i64 (k:Int)] w fun e b=>e = .returned (.func (.func 207) #[] #[.pointer (some ⟨w.heap.size,0,none⟩),.pointer (some ⟨w.heap.size+1,0,none⟩)]) /\
  b=(w.alloc (.cells #[.slice a len cap] 37)).alloc (.cells #[.int .i64 (k:Int)] 3):=by
 have a1:decide ((k:Int)<1)=false:=by simp;omega
 have hmf:∀(fn:Fn) (first cap:Array Value) (w:World),(Instr.makeFunc fn first cap).run Tryz.prog w = .ok (.func fn first cap) w:=fun _ _ _ _=>rfl
 go_enter Tryz.func125,Tryz.ntmps125
 go_wp2_with fail
 go_ret
 exact⟨rfl,rfl⟩
theorem Qv9 (F:Fence) (n:Nat) (h:F.fn 207) (b:F.round=none) (l d:Nat) (v2:Value) (a:Option Addr) (cap:Nat) (J:List Nat->World->Prop)
 (W:World) (hBs:W.cell? ⟨d,0,none⟩=some (.slice a 0 cap)) (h0:J [] W) :
 CallsIn F n Tryz.prog 207 #[.func (.yield l) #[] #[],.pointer (some ⟨d,0,none⟩),v2] W fun e j=>(∃v,e = .returned v)/\J [] j:=by
 refine callsIn_of_wp Tryz.func207 rfl h ?_ b
 simp only[Tryz.ntmps207,List.size_toArray,Y4,List.length_nil,Nat.reduceAdd,Nat.reduceSub,Array.replicate_succ,Array.replicate_zero,List.push_toArray,List.append_toArray,List.nil_append,List.cons_append]
 gi_wp2
 gi_loopw [4] (fun i wr=>i = .int .i64 0/\wr=W) (fun _ _=>0)
 case atStart=>exact⟨rfl,rfl⟩
 case round =>
  obtain⟨rfl,rfl⟩:=hrel
  gi_wp2
  go_end0
  exact⟨⟨_,rfl⟩,h0⟩
theorem Qta (k:Nat) (hk:1<=k):parts 0 k=0:=by unfold parts;rw[Nat.zero_add];exact Nat.div_eq_of_lt (by omega)
abbrev Ql1 (len k:Nat):={j:Nat // j<parts len k}
theorem Qlx (F:Fence) (n:Nat) (E:F.fn 207) (o:F.round=none) (hn:1<=n) (m q b off len cap k:Nat) (a:Option Addr) (L:0<len->a=some ⟨b,off,none⟩) (hk:1<=k) (B:k<=1000) (s:len<=100000000) (x:len<=cap) (C:cap<=maxLen)
 (w:World) (G:w.cell? ⟨m,0,none⟩=some (.slice a len cap)) (y:w.cell? ⟨q,0,none⟩=some (.int .i64 (k:Int))) :
 SeqStopsK F n Tryz.prog 207 #[.pointer (some ⟨m,0,none⟩),.pointer (some ⟨q,0,none⟩)] (fun j:Ql1 len k=>#[partV b off len k j.1]) (Keep3 b m q) (fun ys=>ys.map Subtype.val=List.range (parts len k)) (fun _=>True) (parts len k) w:=fun l J M W hW N hJx O h0=>by
 have c1:=(hW.cell (p:=⟨m,0,none⟩) (cell_lt G)).trans G
 have c2:=(hW.cell (p:=⟨q,0,none⟩) (cell_lt y)).trans y
 by_cases hl:len=0
 ·subst hl
  refine(Qv9 F n E o l m _ a cap (fun _ W=>J [] W) W c1 h0).mono ?_
  rintro e I ⟨z,R⟩
  exact⟨z,.inl ⟨[],show ([]:List Nat)=List.range (parts 0 k) from by rw[Qta k hk];rfl,R⟩⟩
 ·obtain rfl:=L (by omega)
  refine(Qv8 F n E o hn l m q b off len cap k hk B s x C (fun pre W=>∃p:List (Ql1 len k),p.map Subtype.val=pre/\J p W) (fun pre W=>∃p:List (Ql1 len k),p.map Subtype.val=pre/\M p W)
   (fun pre W ⟨p,d,h⟩=>⟨p,d,N p W _ none h (Qrd W none) (fun r e=>by cases e)⟩) ?_ W c1 c2 ⟨[],rfl,h0⟩).mono ?_
  ·rintro pre U ⟨p,rfl,d⟩ i
   obtain⟨fn,tmps,assign,body,X,Y⟩:=O p ⟨(p.map Subtype.val).length,i⟩ U d (by rw[Y0] at i;exact i)
   refine⟨fn,tmps,assign,body,X,Y.mono ?_⟩
   rintro e I (⟨rfl,h1,h2⟩|⟨rfl,h1⟩)
   ·exact .inl ⟨rfl,⟨_,by simp,h1⟩,h2⟩
   ·exact .inr ⟨rfl,⟨_,by simp,h1⟩⟩
  ·rintro e I ⟨z,⟨ys,D,p,rfl,d⟩|⟨pre,_,p,_,d⟩⟩
   ·exact⟨z,.inl ⟨p,D,d⟩⟩
   ·exact⟨z,.inr ⟨p,trivial,d⟩⟩
theorem NR.cells {n0:Nat}{w:World}{τ:Tags}{g:Tag}{v:Value}{ls:List (List Int)}(h:NR n0 w τ g v ls) {k:Nat}(hk:v.ownBlock=some k):τ k=g/\n0<=k/\∃d,w.heap[k]?=some (.cells ⟨d⟩ 37 (0,0)):=by
 rcases h.row with ⟨rfl,_⟩|⟨b,cap,d,ys,rfl,e,_⟩
 ·simp[Value.ownBlock] at hk
 ·have:b=k:=by simpa [Value.ownBlock] using hk
  subst this
  exact⟨e.tag,h.low b rfl,_,e.row⟩
theorem Qvn {b d e:Nat}{A B C:World}(h:Keep3 b d e A B) (k:Keep3 b d e B C):Keep3 b d e A C:=h.trans k
theorem Qvo {b d e B:Nat}(h1:b<B) (h2:d<B) (h3:e<B) (W:World) (l:Nat) (o i:Obj) (hl:B<=l) (h:W.heap[l]?=some o) (hc:o.isCells=false) (hw:o.isWalk=false):Keep3 b d e W (W.putObj l i):=by
 intro k hk
 have hlt:k<B:=by rcases hk with rfl|rfl|rfl <;> assumption
 exact World.putObj_heap_other (by omega)
def tFill:Tag:=(92,0)
def Agree (τ τ':Tags):Prop:=∀k,τ k≠tFill->τ' k=τ k
theorem Agree.put {τ:Tags}{b:Nat}(d:τ b=tFill) (g:Tag):Agree τ (τ.put b g):=fun k hk=>Tags.put_ne _ _ _ _ (fun e=>hk (by rw[e];exact d))
theorem Own.agree {w:World}{τ d:Tags}{b:Nat}{g:Tag}{t:TypeId}{e:List Value}(h:Own w τ b g t e) (i:Agree τ d) (j:g≠tFill):Own w d b g t e:=⟨h.row,(i b (by rw[h.tag];exact j)).trans h.tag⟩
theorem Bytes.agree {w:World}{τ e:Tags}{g:Tag}{v:Value}{l:List Int}(h:Bytes w τ g v l) (j:Agree τ e) (k:g≠tFill):Bytes w e g v l:=by
 obtain⟨p,c,m,h1,h2,q⟩:=h.is
 refine⟨h.isB,p,c,m,h1,h2,fun hl=>?_⟩
 obtain⟨b,o,r,i,d⟩:=q hl
 exact⟨b,o,r,(j b (by rw[i];exact k)).trans i,d⟩
theorem Waits.agree {w:World}{τ d:Tags}{g:Tag}{v:Value}{ls:List (List Int)}(h:Waits w τ g v ls) (e:Agree τ d) (i:g≠tFill):Waits w d g v ls:=by
 rcases h with h|⟨b,cap,xs,ys,j,l,h1,h2,m,hk⟩
 ·exact .inl h
 ·refine .inr ⟨b,cap,xs,ys,j,l.agree e i,h1,h2,m,fun k x o=>?_⟩
  obtain⟨a,u,hu,p⟩:=hk k x o
  exact⟨a,u,hu,p.agree e (by simp[tData,tFill])⟩
theorem NR.agree {n0:Nat}{w:World}{τ b:Tags}{g:Tag}{v:Value}{ls:List (List Int)}(h:NR n0 w τ g v ls) (d:Agree τ b) (e:g≠tFill):NR n0 w b g v ls:=⟨h.row.agree d e,h.low⟩
theorem Step.retag {w a:World}{τ τ1:Tags}{S:Tag->Prop}(h:Step w τ a τ1 S) {b:Nat}(d:w.heap.size<=b) (g:Tag):Step w τ a (τ1.put b g) S:=⟨h.mod,h.ext.put _ _ d⟩
theorem Own.retag {w:World}{τ:Tags}{b:Nat}{g:Tag}{t:TypeId}{d:List Value}(h:Own w τ b g t d) (e:Tag):Own w (τ.put b e) b e t d:=⟨h.row,Tags.put_same _ _ _⟩
theorem Qg7 {F:Fence}{n:Nat}{p w:World}{i τ:Tags}{S:Tag->Prop}(r:Step p i w τ S) {g:Tag}(G:g≠tData) {v u:Value}{ls:List (List Int)}{x:List Int}(j:NR p.heap.size w τ g v ls) (I:Bytes w τ tData u x) (l:x.length=128) (z:ls.length<=1000000000) {kb:Nat}(B:kb=w.heap.size)
 {ops:Array Oper} {rest:List Oper} {o:Oper} {a:Act} {Q:Exit->Act->World->Prop} (C:o.guard=none) (s y:Operand)
 (d:o.op = .call {callee:=.builtin .append,args:=#[s,y],argTypes:=#[52,52]}) (J:a.eval s=v) (L:a.eval y = .slice (some ⟨kb,0,none⟩) 1 1)
 (h:∀q e b,NR p.heap.size e b g q (ls++[x])->Step p i e b S->Step w τ e b (fun t=>t=g)->Mod w e (fun k=>v.ownBlock=some k)->wpListIn F n Tryz.prog ops Q rest (a.put o.dst q) e):wpListIn F n Tryz.prog ops Q (o::rest) a (w.alloc (.cells #[u] 37)):=by
 subst B
 refine wpListIn_plain C fun K D=>?_
 obtain⟨q,e,b,m,h2,M,N,O⟩:=Qdn (r.alloc' (.cells #[u] 37)) G (j.alloc _) (I.alloc _) l z (heap_alloc_new w _) o.type
 unfold Oper.wpIn
 refine⟨?_,?_⟩
 ·simp[Oper.about,d,resolve,Target.leads,Sem.run_pure]
 ·rw[Oper.semAt_plain F _ _ (by rw[d];intro c E;cases E)]
  simp[execOp,d,resolve,invoke,builtin,J,L,m,Result.andThen]
  exact D _ _ (h q e b h2 M (((Step.refl w τ _).alloc' _).trans N) (((Mod.refl w _).alloc _).trans O))
theorem Qih {F:Fence}{n:Nat}{p w:World}{i τ:Tags}{S:Tag->Prop}(r:Step p i w τ S) {g:Tag}(G:g≠tData) {v u:Value}{ls:List (List Int)}{x:List Int}(j:NR p.heap.size w τ g v ls) (I:Bytes w τ tData u x) (l:x.length=128) (z:ls.length<=1000000000) {kb:Nat}(B:kb=w.heap.size)
 {ops:Array Oper} {o:Oper} {a:Act} {K:Act->World->Prop} {Q:Exit->Act->World->Prop} {E:Prop} (C:o.guard=none) (s y:Operand)
 (d:o.op = .call {callee:=.builtin .append,args:=#[s,y],argTypes:=#[52,52]}) (J:a.eval s=v) (L:a.eval y = .slice (some ⟨kb,0,none⟩) 1 1)
 (h:∀q e b,NR p.heap.size e b g q (ls++[x])->Step p i e b S->Step w τ e b (fun t=>t=g)->Mod w e (fun k=>v.ownBlock=some k)->K (a.put o.dst q) e):if Region.wanted o (yielded ops a.tmps)=true then Oper.wpIn F n Tryz.prog o a (w.alloc (.cells #[u] 37)) K Q else E:=by
 subst B
 have M:Region.wanted o (yielded ops a.tmps)=true:=by simp[Region.wanted,C]
 rw[if_pos M]
 obtain⟨q,e,b,m,h2,N,O,R⟩:=Qdn (r.alloc' (.cells #[u] 37)) G (j.alloc _) (I.alloc _) l z (heap_alloc_new w _) o.type
 unfold Oper.wpIn
 refine⟨?_,?_⟩
 ·simp[Oper.about,d,resolve,Target.leads,Sem.run_pure]
 ·rw[Oper.semAt_plain F _ _ (by rw[d];intro c D;cases D)]
  simp[execOp,d,resolve,invoke,builtin,J,L,m,Result.andThen]
  exact h q e b h2 N (((Step.refl w τ _).alloc' _).trans O) (((Mod.refl w _).alloc _).trans R)
theorem Qjn {F:Fence}{C:Nat}{r w:World}{i τ:Tags}{S:Tag->Prop}(x:Step r i w τ S) {l:Nat}{j g2:Tag}{T:TypeId}{b:List Value}(p:Own w τ l j T b) (E:S j\/r.heap.size<=l) {off dLen dCap:Nat}{D:Value}{m:List Int}(G:Bytes w τ g2 D m) (n:Nat) (hn:n=Nat.min m.length dLen) (k:off+n<=b.length)
 {ops:Array Oper} {rest:List Oper} {o:Oper} {a:Act} {Q:Exit->Act->World->Prop} (y:o.guard=none) (d s:Operand)
 (e:o.op = .call {callee:=.builtin .copy,args:=#[d,s],argTypes:=#[37,37]}) (hd:a.eval d = .slice (some ⟨l,off,none⟩) dLen dCap) (I:a.eval s=D)
 (h:∀q,Own q τ l j T (over b off (u8s (m.take n)))->Step r i q τ S->Step w τ q τ (fun t=>t=j)->wpListIn F C Tryz.prog ops Q rest (a.put o.dst (goInt n)) q):wpListIn F C Tryz.prog ops Q (o::rest) a w:=by
 refine wpListIn_plain y fun K z=>?_
 have J:=Qcg p (off:=off) (dLen:=dLen) (dCap:=dCap) G n hn k o.type
 unfold Oper.wpIn
 refine⟨?_,?_⟩
 ·simp[Oper.about,e,resolve,Target.leads,Sem.run_pure]
 ·rw[Oper.semAt_plain F _ _ (by rw[e];intro c B;cases B)]
  simp only[execOp,e,resolve,invoke,builtin,Sem.run_bind,Sem.run_pure,Result.andThen_ok,List.map_toArray,X1,List.map_nil,hd,I,J]
  exact z _ _ (h _ (p.row' _) (x.row p.tag E _) ((Step.refl w τ (fun t=>t=j)).row p.tag (.inl rfl) _))
end Go.Proofs.YtemacanaihaldaaGreat
namespace Go.Proofs.YtemacanaihaldaaGreat
open Go.RowKit Go.Shelf
attribute [local go_sem] Oper.semAt_some
def stripPart (st:List Int) (j:Nat):List Int:=(st.drop (j*127)).take 127
def Qbt (st:List Int) (j:Nat):List Int:=stripPart st j++List.replicate (127-(stripPart st j).length) 0++[((stripPart st j).length:Int)]
def Quz (st:List Int) (k:Nat):List (List Int):=(List.range k).map (Qbt st)
def Qeg (st:List Int):List (List Int):=Quz st (parts st.length 127)
theorem Qb5 (st:List Int) (j:Nat):(stripPart st j).length=min 127 (st.length-j*127):=by
 unfold stripPart;rw[List.length_take,List.length_drop]
theorem Ql5 (st:List Int) (j:Nat):(Qbt st j).length=128:=by
 have:=Qb5 st j
 unfold Qbt;simp only[Z6,Z7,Y4,List.length_nil];omega
theorem Qqg {st:List Int}(h:IsB st) (j:Nat):IsB (Qbt st j):=by
 have:=Qb5 st j
 intro x b
 unfold Qbt at b
 rcases List.mem_append.1 b with b|b
 ·rcases List.mem_append.1 b with b|b
  ·exact h x (List.mem_of_mem_drop (List.mem_of_mem_take b))
  ·rw[(List.mem_replicate.1 b).2];omega
 ·rw[Y8 b];omega
def tBox:Tag:=(90,0)
def tOut:Tag:=(91,0)
theorem Qhm (n:Nat):(madeCells #[Value.int .u8 0] n).toList=u8s (List.replicate n 0):=by
 rw[Qgp 0 n]
 apply List.ext_getElem?
 intro j
 by_cases b:j<n
 ·rw[Qc2 _ _ _ _ b,if_neg (by omega)]
  simp[u8s,b]
 ·rw[List.getElem?_eq_none (by rw[Qb4];omega),List.getElem?_eq_none (by rw[Qac,Z7];omega)]
theorem Quy (st:List Int) (j n:Nat) (hn:n=Nat.min (stripPart st j).length 128) :
 (over (u8s (List.replicate 128 0)) 0 (u8s ((stripPart st j).take n))).set 127 (.int .u8 (n:Int))=u8s (Qbt st j):=by
 have hl:=Qb5 st j
 have b:Nat.min (stripPart st j).length 128=(stripPart st j).length:=Nat.min_eq_left (by omega)
 rw[b] at hn
 subst hn
 unfold Qbt
 generalize stripPart st j=x at *
 have hx:x.length<=127:=by omega
 apply List.ext_getElem?
 intro i
 rw[List.take_length]
 unfold over
 simp only[List.take_zero,List.nil_append,Nat.zero_add,u8s,List.map_append,List.map_replicate,X1,List.map_nil]
 by_cases hi:i=127
 ·subst hi
  rw[List.getElem?_set_self (by simp only[Z6,Y0,List.length_drop,Z7];omega),Y6 (by simp only[Z6,Y0,Z7];omega)]
  simp only[Z6,Y0,Z7]
  rw[show 127-(x.length+(127-x.length))=0 by omega];rfl
 ·rw[List.getElem?_set_ne (by omega)]
  by_cases h1:i<x.length
  ·rw[Y5 (by simpa using h1),X0,Y5 (by simpa using h1)]
  ·rw[Y6 (by simpa using h1),X0,Y6 (by simpa using h1),List.getElem?_drop,Y0]
   by_cases h2:i<127
   ·rw[Y5 (by simp only[Z7];omega),List.getElem?_replicate,List.getElem?_replicate,if_pos (by omega),if_pos (by omega)]
   ·rw[Y6 (by simp only[Z7];omega),List.getElem?_replicate,if_neg (by omega)]
    rw[List.getElem?_eq_none (by simp only[Z7,Y4,List.length_nil];omega)]
theorem Bytes.part {w:World}{τ:Tags}{g:Tag}{a:Option Addr}{c:Nat}{st:List Int}(h:Bytes w τ g (.slice a st.length c) st) {b off:Nat}(i:0<st.length->a=some ⟨b,off,none⟩) (k:Nat) (j:Nat) :
 Bytes w τ g (partV b off st.length k j) ((st.drop (j*k)).take k):=by
 have hl:((st.drop (j*k)).take k).length=min k (st.length-j*k):=by rw[List.length_take,List.length_drop]
 obtain⟨p,c',l,h1,h2,_⟩:=h.is
 cases l
 by_cases h0:0<min k (st.length-j*k)
 ·obtain rfl:=i (by omega)
  have:=h.sub (j*k) (j*k+min k (st.length-j*k)) (min k (st.length-j*k)) (by omega) (by omega) (by omega) (by omega)
  rw[Nat.add_sub_cancel_left] at this
  have e:(st.drop (j*k)).take k=(st.drop (j*k)).take (min k (st.length-j*k)):=by
   by_cases hk:k<=st.length-j*k
   ·rw[Nat.min_eq_left hk]
   ·rw[Nat.min_eq_right (by omega),List.take_of_length_le (by rw[List.length_drop];omega),List.take_of_length_le (by rw[List.length_drop];omega)]
  rw[e]
  exact this
 ·have e:(st.drop (j*k)).take k=[]:=List.eq_nil_of_length_eq_zero (by omega)
  rw[e]
  unfold partV
  have m:min k (st.length-j*k)=0:=by omega
  rw[m]
  exact⟨fun x d=>by simp at d,_,0,rfl,Z0 _,Z9 _,fun d=>by simp at d⟩
def LayI (w W0:World) (τ:Tags) (b:Nat) (st:List Int) (pre:List (Ql1 st.length 127)) (W:World):Prop :=
 ∃τ' vo,Step w τ W τ' nil/\Own W τ' w.heap.size tBox 52 [vo]/\NR w.heap.size W τ' tOut vo (pre.map (fun x=>Qbt st x.1))/\Keep3 b (w.heap.size+1) (w.heap.size+1+1) W0 W/\τ' (w.heap.size+1)=tBox/\τ' (w.heap.size+1+1)=tBox
theorem Qvl {w:World}{τ:Tags}{g:Tag}{v:Value}{st:List Int}(h:Bytes w τ g v st) (hbig:st.length<=1000000) :
 Calls Tryz.prog 58 #[v] w fun e w'=>∃u d,e = .returned u/\NR w.heap.size w' d tOut u (Qeg st)/\Step w τ w' d nil:=by
 obtain⟨p,c,rfl,cy,cz⟩:=h.any
 obtain⟨b,off,ha,hbl,hbk⟩:∃b off,(0<st.length->p=some ⟨b,off,none⟩)/\b<w.heap.size+1+1/\(b<w.heap.size\/b=w.heap.size+1):=by
  by_cases h0:0<st.length
  ·obtain⟨b,o,c',hv,-,-,-,bl,-⟩:=h.pos h0
   cases hv
   exact⟨b,o,fun _=>rfl,by omega,.inl bl⟩
  ·exact⟨w.heap.size+1,0,fun h=>absurd h h0,by omega,.inr rfl⟩
 have bm:∀(m:Nat) (W:World),CallsIn Fence.wide m Tryz.prog 125 #[.slice p st.length c,.int .i64 127] W fun e w'=>e = .returned (.func (.func 207) #[] #[.pointer (some ⟨W.heap.size,0,none⟩),.pointer (some ⟨W.heap.size+1,0,none⟩)]) /\
  w'=(W.alloc (.cells #[.slice p st.length c] 37)).alloc (.cells #[.int .i64 127] 3):=fun m W=>(callsIn_wide (n:=m)).2 (Qpx p st.length c 127 (by omega) W)
 obtain⟨b1,da,Ha⟩:=hid3 h bm ha
 have X:=((((Step.refl w τ nil).alloc (.cells #[Value.slice none 0 0] 52) tBox).alloc (.cells #[Value.slice p st.length c] 37) tBox).alloc (.cells #[Value.int .i64 127] 3) tBox)
 have L:=((Own.new w τ tBox 52 [.slice none 0 0]).step_new (.cells #[Value.slice p st.length c] 37) tBox).step_new (.cells #[Value.int .i64 127] 3) tBox
 simp only[World.size_alloc] at X L
 have G:((τ.put w.heap.size tBox).put (w.heap.size+1) tBox).put (w.heap.size+1+1) tBox (w.heap.size+1)=tBox:=by rw[Tags.put_ne _ _ _ _ (by omega),Tags.put_same]
 have I:((τ.put w.heap.size tBox).put (w.heap.size+1) tBox).put (w.heap.size+1+1) tBox (w.heap.size+1+1)=tBox:=Tags.put_same _ _ _
 have bn:(((w.alloc (.cells #[.slice none 0 0] 52)).alloc (.cells #[.slice p st.length c] 37)).alloc (.cells #[.int .i64 127] 3)).cell? ⟨w.heap.size+1,0,none⟩=some (.slice p st.length c):=by
  have:=(Own.new (w.alloc (.cells #[.slice none 0 0] 52)) τ tBox 37 [.slice p st.length c]).alloc (.cells #[Value.int .i64 127] 3)
  rw[World.size_alloc] at this
  exact this.at 0 rfl
 have bo:(((w.alloc (.cells #[.slice none 0 0] 52)).alloc (.cells #[.slice p st.length c] 37)).alloc (.cells #[.int .i64 127] 3)).cell? ⟨w.heap.size+1+1,0,none⟩=some (.int .i64 127):=by
  have:=Own.new ((w.alloc (.cells #[.slice none 0 0] 52)).alloc (.cells #[.slice p st.length c] 37)) τ tBox 3 [.int .i64 127]
  rw[World.size_alloc,World.size_alloc] at this
  exact this.at 0 rfl
 have aj:(((w.alloc (.cells #[.slice none 0 0] 52)).alloc (.cells #[.slice p st.length c] 37)).alloc (.cells #[.int .i64 127] 3)).heap.size=w.heap.size+1+1+1:=by simp
 obtain⟨bp,b2,b3,M,C,ab,ac⟩:=hid7 X L bn bo aj G I
 clear X L bn bo aj G I h bm ha
 refine(callsIn_wide (n:=4)).1 ?_
 refine callsIn_of_wp_marks Tryz.func58 rfl trivial ?_ rfl
 simp only[Tryz.ntmps58,List.size_toArray,Y4,List.length_nil,Nat.reduceAdd,Nat.reduceSub,Array.replicate_succ,Array.replicate_zero,List.push_toArray,List.append_toArray,List.nil_append,List.cons_append]
 gi_wp2_with (refine⟨trivial,?_⟩;gi_at_call 125;refine(da.out _ _).mono ?_;rintro e w' ⟨rfl,rfl⟩)
 generalize ((w.alloc (.cells #[.slice none 0 0] 52)).alloc (.cells #[.slice p st.length c] 37)).alloc (.cells #[.int .i64 127] 3)=W0 at *
 refine wpIn_rangeFunc_ownG rfl (by omega) (gf := 207) (lb:=#[.pointer (some ⟨w.heap.size+1,0,none⟩),.pointer (some ⟨w.heap.size+1+1,0,none⟩)]) rfl trivial (enters_of Tryz.func207 (by kernel_rfl) rfl)
  (Qlx Fence.wide 3 trivial rfl (by omega) (w.heap.size+1) (w.heap.size+1+1) b off st.length c 127 p Ha.out (by omega) (by omega) (by omega) cy cz W0 b3.out M.out)
  Qvn (Qvo (by have:=C.out;omega) (by have:=C.out;omega) (by have:=C.out;omega)) (Below.refl _ _) (fun _=>rfl)
  (LayI w W0 τ b st) (fun _ _ _=>False) ?hI (fun _ _ _ _ _ hs _ _=>hs) ?h0
  (fun j=>{tmps:=#[.slice p st.length c,undef,.slice none 0 0,.pointer (some ⟨w.heap.size,0,none⟩),partV b off st.length 127 j.1,undef,.slice p st.length c,.func (.func 207) #[] #[.pointer (some ⟨w.heap.size+1,0,none⟩),.pointer (some ⟨w.heap.size+1+1,0,none⟩)],partV b off st.length 127 j.1,undef,undef,undef,undef,undef,undef,undef,undef,undef,undef,undef,undef],defers:=[]}) ?assign ?body ?done ?stop
 case hI =>
  rintro pre W W' row ⟨d,vo,h1,h2,h3,h4,G,I⟩ hg hr
  have ad:Qeq W row:=fun r e=>(hr r e).2
  exact⟨d,vo,h1.turn hg (fun r e=>by have:=(hr r e).1;rw[C.out] at this;omega),h2.turn hg ad,h3.turn hg ad,h4.turn (B:=w.heap.size+1+1+1) hg (fun r e=>by have:=(hr r e).1;rw[C.out] at this;exact this) (by omega) (by omega) (by omega) (by
   have h5:=h4 (w.heap.size+1+1) (.inr (.inr rfl))
   have h6:=cell_lt M.out
   have h7:=(Array.getElem?_eq_some_iff.1 (h5.trans (Array.getElem?_eq_getElem h6))).1
   omega),G,I⟩
 case h0=>exact⟨_,_,bp.out,b2.out,NR.nil _ _ _ _,Keep3.refl _ _ _ _,ab.out,ac.out⟩
 case assign =>
  intro l x W K hK
  gi_wp2
  exact hK
 case body =>
  rintro l pre ⟨j,dh⟩ W ⟨d,vo,J,i,E,ae,G,I⟩ bl
  obtain⟨po,co,rfl⟩:=E.val
  have di:=Qb5 st j
  have b5:Bytes W d g (partV b off st.length 127 j) (stripPart st j):=(b1.out.step J (fun h=>h)).part Ha.out 127 j
  have bq:=Ql5 st j
  have br:=Qqg b1.out.isB j
  obtain⟨n,hn⟩:∃n,n=Nat.min (stripPart st j).length 128:=⟨_,rfl⟩
  have ak:=Quy st j n hn
  have hn127:n<=127:=by rw[hn];exact Y3 (Nat.min_le_left _ _) (by omega)
  have O:((pre.map (fun x=>Qbt st x.1)).length:Nat)<=1000000000:=by
   rw[Y0]
   have:parts st.length 127<=1000000:=by unfold parts;omega
   omega
  have hltb:=i.lt
  have c0:=i.at 0 rfl
  have z0:=i.fz 0
  have dj:=(b5.alloc (.cells (madeCells #[.int .u8 0] 128) 5))
  have bs:Own (W.alloc (.cells (madeCells #[.int .u8 0] 128) 5)) (d.put W.heap.size tFill) W.heap.size tFill 5 (u8s (List.replicate 128 0)):=by
   have:=Own.born W d tFill 5 (madeCells #[.int .u8 0] 128)
   rwa [Qhm] at this
  have bv:=J.alloc (.cells (madeCells #[.int .u8 0] 128) 5) tFill
  have Y:=(Step.refl W d nil).alloc (.cells (madeCells #[.int .u8 0] 128) 5) tFill
  have al:=b5.step Y (fun h=>h)
  have Z:=i.step Y (fun h=>h)
  have am:=E.step Y (fun h=>h) (fun h=>h)
  have rn:=Qcz
  have R:(u8s (List.replicate 128 0)).length=128:=by rw[Qac,Z7]
  have an:0+n<=(u8s (List.replicate 128 0)).length:=by rw[R];omega
  have ao:nil tFill\/W.heap.size<=W.heap.size:=.inr (Z0 _)
  have ap:w.heap.size+1+1<W.heap.size:=by
   have h5:=ae (w.heap.size+1+1) (.inr (.inr rfl))
   have h6:=cell_lt M.out
   exact(Array.getElem?_eq_some_iff.1 (h5.trans (Array.getElem?_eq_getElem h6))).1
  have bw:=i.row
  have bz:=fun k=>E.cells (k:=k)
  have a1:=J.size
  have hne:W.heap.size≠w.heap.size:=by omega
  have hne':w.heap.size≠W.heap.size:=by omega
  have hwr:IntKind.u8.wrap (n:Int)=(n:Int):=by
   have:IntKind.u8.wrap (n:Int)=(n:Int)%256:=by simp[IntKind.wrap,IntKind.bits,IntKind.signed]
   rw[this];omega
  have U:∃u,(over (u8s (List.replicate 128 0)) 0 (u8s ((stripPart st j).take n)))[127]?=some u:=by
   refine⟨_,Z3 ?_⟩
   rw[Qq0 _ _ _ (by rw[Qac,R,List.length_take];omega),R];omega
  have aq:(pre++[(⟨j,dh⟩:Ql1 st.length 127)]).map (fun x=>Qbt st x.1)=pre.map (fun x=>Qbt st x.1)++[Qbt st j]:=by simp
  generalize dk:partV b off st.length 127 j=pv at *
  generalize dl:stripPart st j=x at *
  generalize dm:Qbt st j=y at *
  generalize dn:pre.map (fun x=>Qbt st x.1)=ls at *
  generalize ar:over (u8s (List.replicate 128 0)) 0 (u8s (x.take n))=cur at *
  obtain⟨u127,U⟩:=U
  have b6:tBox≠tFill:=by simp[tBox,tFill]
  have c3:¬tData=tFill:=by simp[tData,tFill]
  have b7:¬tOut=tFill:=by simp[tOut,tFill]
  have c5:tOut≠tData:=by simp[tOut,tData]
  have dp:¬tBox=tOut:=by simp[tOut,tBox]
  obtain⟨Hs1,dq,c6⟩:=hid3 bv bs ao
  have c7:=Z2 al
  obtain⟨Hn,c8,b8,c9,ca,b9,dr,af,ds,cb,cc,dt⟩:=hid12 hn an Z am ak bq br O ae ar U Y
  have Hlow':=Z2 a1
  obtain⟨cd,ba,a6,dv,ce,ab,ac⟩:=hid7 aq J ap bw bz G I
  clear bv bs ao al hn an Z am ak bq br O ae ar U Y a1 aq J ap bw bz G I b5 i dj E b1 Ha di R dk dl dm dn
  gi_wp2_with (first
   | (refine Qjn dt.out dq.out c6.out c7.out n Hn.out c8.out rfl _ _ rfl rfl rfl ?_
      intro w2 N bb ag
      rw[cb.out] at N
      have c127:=N.at 127 cc.out
      have z127:=N.fz 127
      have q:=b8.out.step ag b6
      have c02:=q.at 0 rfl
      have z02:=q.fz 0
      have a7:=c9.out.step ag b7 c3
      have ah:=N.set 127 (.int .u8 (n:Int))
      rw[ca.out] at ah
      have hb2:=N.lt
      have av:w2.heap.size=(w2.setCell ⟨W.heap.size,127,none⟩ (.int .u8 (n:Int))).heap.size:=by simp[World.setCell]
      have s:=N.tag
      have ai:=(Step.refl w2 (d.put W.heap.size tFill) (fun t=>t=tFill)).set (o:=127) s rfl (.int .u8 (n:Int))
      have F:=(q.step ai b6).agree (Agree.put s tData) b6
      have aw:=(a7.step ai b7 c3).agree (Agree.put s tData) b7
      have bc:=(bb.setNew (b:=W.heap.size) (o:=127) (Z0 _) (.int .u8 (n:Int))).retag (Z0 _) tData
      have ax:=ba.out.trans bc
      have bd:=(ah.retag tData).bytes dr.out (by rw[b9.out];unfold maxLen;omega)
      rw[b9.out] at bd
      have c03:=F.at 0 rfl
      have z03:=F.fz 0
      obtain⟨Hs2,HW2,Ho3,Hbox2,Hnr2,Htag2,HW3,be,cf,bf,cg,dx⟩:=hid12 bb ag ah q a7 s ai F aw bc ax bd
      have ch:=Z2 av
      clear bb ag ah q a7 s ai F aw bc ax bd av
      clear N)
   | (refine Qg7 cg.out c5 cf.out dx.out b9.out af.out ch.out rfl _ _ rfl rfl rfl ?_
      intro v4 w4 bg a8 ci bh cj
      obtain⟨p4,c4,rfl⟩:=a8.val
      have z:=be.out.step bh dp
      have c04:=z.at 0 rfl
      have z04:=z.fz 0
      have aa:=z.tag
      obtain⟨ck,dy,dz,e0,bi,bj⟩:=hid6 a8 ci bh cj z aa
      clear a8 ci bh cj z aa))
  have e1:Mod W w4 (fun k=>(Value.slice po ls.length co).ownBlock=some k):=(bf.out.no.mono (fun _ _ h=>h.elim)).seq e0.out (fun _ _ h=>h)
  have ay:Mod W (w4.setCell ⟨w.heap.size,0,none⟩ (.slice p4 (ls.length+1) c4)) (fun k=>k=w.heap.size\/(Value.slice po ls.length co).ownBlock=some k):=(e1.mono (fun _ _ h=>.inr h)).setCell (p:=⟨w.heap.size,0,none⟩) (fun _=>.inl rfl) _
  have cm:Ext W d bg:=bf.out.ext.trans dz.out.ext bf.out.size
  have cn:(ls++[y]).length=ls.length+1:=by simp
  have az:=ck.out.step ((Step.refl w4 bg (fun t=>t=tBox)).set (o:=0) bj.out rfl (.slice p4 (ls.length+1) c4)) (fun h=>by simp[tOut,tBox] at h) (fun h=>by simp[tData,tBox] at h)
  rw[cn] at az
  have cp:Keep3 b (w.heap.size+1) (w.heap.size+1+1) W (w4.setCell ⟨w.heap.size,0,none⟩ (.slice p4 (ls.length+1) c4)):=by
   intro k hk
   have h3:=a6.out
   refine ay.block k (by omega) ?_
   rintro(h|h)
   ·omega
   ·obtain⟨h1,h2,_⟩:=ce.out k h
    have hn1:k≠w.heap.size+1:=fun e=>by rw[e,ab.out] at h1;simp[tBox,tOut] at h1
    have hn2:k≠w.heap.size+1+1:=fun e=>by rw[e,ac.out] at h1;simp[tBox,tOut] at h1
    omega
  refine⟨Qh4 ay ?_,cp,bg,.slice p4 (ls.length+1) c4,dy.out.setNew (Z0 _) _,bi.out.set 0 _,?_,ds.out.trans cp,?_,?_⟩
  ·rintro k o (rfl|hk) ho
   ·rw[dv.out] at ho;cases ho;rfl
   ·obtain⟨_,_,xs,hx⟩:=ce.out k hk
    rw[hx] at ho;cases ho;rfl
  ·rw[cd.out];exact az
  ·rw[cm _ (by have:=a6.out;omega)];exact ab.out
  ·rw[cm _ (by have:=a6.out;omega)];exact ac.out
 case done =>
  rintro D ys W hD cq ⟨d,vo,J,i,E,ae,G,I⟩ hK
  have b0:ys.map (fun x=>Qbt st x.1)=(List.range (parts st.length 127)).map (Qbt st):=by rw[<-cq,List.map_map];rfl
  rw[b0] at E
  clear cq b0
  obtain⟨po,co,rfl⟩:=E.val
  have c0:=i.at 0 rfl
  have hl:((List.range (parts st.length 127)).map (Qbt st)).length=parts st.length 127:=by simp
  obtain⟨ba,e2,HK⟩:=hid3 J E hK
  clear J E hK
  gi_wp2
  refine⟨by simp,.inl ⟨_,_,rfl,run_takeDeferred HK.out,?_⟩⟩
  have hg:=grownBy_putObj' W D (.deferred none)
  have ad:Qeq W (some D):=fun r e=>by cases e;exact⟨_,HK.out,rfl⟩
  exact⟨_,results_tmp rfl _ _ _,.slice po ((List.range (parts st.length 127)).map (Qbt st)).length co,d,by first|rfl|(rw[hl];rfl),e2.out.turn hg ad,ba.out.turn hg (fun r e=>by cases e;have:=C.out;omega)⟩
 case stop =>
  rintro D c pre W _ _ h _
  exact h.elim
end Go.Proofs.YtemacanaihaldaaGreat
namespace Go.Proofs.YtemacanaihaldaaGreat
open Go.RowKit
theorem Bytes.fst {w:World}{τ:Tags}{g:Tag}{b o n c:Nat}{l:List Int}(h:Bytes w τ g (.slice (some ⟨b,o,none⟩) n c) l) (k:Nat) (hk:k<=n):Bytes w τ g (.slice (some ⟨b,o,none⟩) k c) (l.take k):=by
 obtain⟨p',c2,e,h1,h2,j⟩:=h.is
 simp only[Value.slice.injEq] at e
 obtain⟨rfl,rfl,rfl⟩:=e
 have hl:(l.take k).length=k:=by rw[List.length_take];omega
 refine⟨fun x m=>h.isB x (List.mem_of_mem_take m),_,c,by rw[hl],by omega,h2,fun h0=>?_⟩
 obtain⟨p,q,r,s,d⟩:=j (by omega)
 refine⟨p,q,r,s,fun i hi=>?_⟩
 rw[hl] at hi
 rw[d i (by omega)]
 congr 2
 simp only[Z5,List.getElem?_take,if_pos hi]
def pw (k:Nat):Nat:=2 ^ k
theorem Qzg (k:Nat):pw (k+1)=pw k+pw k:=by unfold pw;rw[Nat.pow_succ];omega
theorem Jan (k:Nat):0<pw k:=Nat.pow_pos (by omega)
theorem pw_lt (k:Nat) (h:k<64):pw k<18446744073709551616:=by
 have:pw k<=2 ^ 63:=Nat.pow_le_pow_right (by omega) (by omega)
 have e:(2:Nat) ^ 63=9223372036854775808:=by decide
 omega
theorem Qzd (w:World) (n:Nat) (hn:n<64):Calls Tryz.prog 286 #[.int .u64 (n:Int)] w fun e m=>e = .returned (.int .u64 (pw n:Int))/\m=w:=by
 have h0:(1:Int)=(pw 0:Int):=rfl
 have o:=Z2 h0
 clear h0
 go_enter Tryz.func286,Tryz.ntmps286
 go_wp2_with fail
 go_loop [3,4] (fun p v=>∃(i:Nat),i<=n/\v = .int .u64 (i:Int)/\p = .int .u64 (pw i:Int)) (fun _ v=>n-(intOf v).toNat)
 case atStart=>exact⟨0,Z9 _,rfl,by rw[<-o.out]⟩
 case round =>
  obtain⟨i,hi,rfl,rfl⟩:=hrel
  have hp:=Jan i
  have k:=Qzg i
  have d:i<n->IntKind.u64.wrap ((pw i:Int)+(pw i:Int))=(pw (i+1):Int):=fun b=>by
   rw[<-X3,<-k];exact Qam _ (pw_lt _ (by omega))
  have h:i<n->IntKind.u64.wrap ((i:Int)+1)=((i+1:Nat):Int):=fun b=>Qam (i+1) (by omega)
  generalize j:pw i=q at *
  obtain⟨Hs,l⟩:=hid2 k j
  clear k j
  by_cases b:i<n
  ·have e1:=d b
   have e2:=h b
   clear d h
   go_wp2_with fail
   go_round
   case rel=>exact⟨i+1,by omega,rfl,rfl⟩
   case measure=>simp[intOf];omega
  ·clear d h
   obtain rfl:i=n:=by omega
   go_wp2_with fail
   go_returns
   exact⟨by rw[l.out];rfl,rfl⟩
theorem Qez {k w:World}{e τ:Tags}{S:Tag->Prop}(p:Step k e w τ S) {g:Tag}{v:Value}{l:List Int}(j:NB k.heap.size w τ g v l) (x:Int) (B:0<=x/\x<=255) (hsz:l.length<=1000000000) {kb:Nat}(q:kb=w.heap.size)
 {ops:Array Oper} {rest:List Oper} {o:Oper} {a:Act} {Q:Exit->Act->World->Prop} (r:o.guard=none) (s y:Operand)
 (C:o.op = .call {callee:=.builtin .append,args:=#[s,y],argTypes:=#[37,37]}) (D:a.eval s=v) (E:a.eval y = .slice (some ⟨kb,0,none⟩) 1 1)
 (h:∀m d b,NB k.heap.size d b g m (l++[x])->Step k e d b S->Step w τ d b (fun t=>t=g)->wpList Tryz.prog ops Q rest (a.put o.dst m) d):wpList Tryz.prog ops Q (o::rest) a (w.alloc (.cells #[.int .u8 x] 5)):=by
 subst q
 have F:Bytes (w.alloc (.cells #[.int .u8 x] 5)) (τ.put w.heap.size tBox) tBox (.slice (some ⟨w.heap.size,0,none⟩) 1 1) [x] :=
  ⟨fun z G=>by rw[Y8 G];exact B,_,1,rfl,Z0 _,by unfold maxLen;omega,fun _=>⟨_,0,rfl,Tags.put_same _ _ _,fun i hi=>by
   have hi:i<1:=hi
   obtain rfl:i=0:=by omega
   exact(Own.new w τ tBox 5 [.int .u8 x]).at 0 rfl⟩⟩
 refine Qal (p.alloc (.cells #[.int .u8 x] 5) tBox) (j.step ((Step.refl w τ nil).alloc _ tBox) (fun h=>h)) F (by simp;omega) r s y C D E (fun m d b h1 h2 I=>h m d b h1 h2 ?_)
 exact((Step.refl w τ _).alloc _ tBox).trans I
theorem Qxr (n k:Nat):leB n (k+1)=leB n k++[Qep n k]:=by simp[leB,List.range_succ]
theorem Qt7 (n i:Nat):Qep n i=(((n/2 ^ (8*i))%256:Nat):Int):=by
 unfold Qep
 rw[Int.natCast_emod,Int.natCast_ediv,Int.natCast_pow];rfl
theorem Qx4 (n i:Nat):n/2 ^ (8*i)/256=n/2 ^ (8*(i+1)):=by
 rw[Qr9,Nat.div_div_eq_div_mul,Nat.mul_comm]
theorem r1put (w:World) (τ:Tags) (g:Tag) (n k:Nat) (hn:n<18446744073709551616) (h1:1<=k) (h8:k<=8) :
 Calls Tryz.prog 248 #[.int .u64 (n:Int),.int .i64 (k:Int)] w fun e D=>∃v d,e = .returned v/\NB w.heap.size D d g v (leB n k)/\Step w τ D d nil:=by
 have a0:decide ((k:Int)<1)=false:=by simp;omega
 have a1:decide ((8:Int)<(k:Int))=false:=by simp;omega
 have r:(n:Int)=((n/2 ^ (8*0):Nat):Int):=by simp
 obtain⟨N,E⟩:=hid2 hn r
 clear hn r
 go_enter Tryz.func248,Tryz.ntmps248
 go_wp2_with fail
 go_loopw [0,5,6] (fun nv O F wr=>∃(i:Nat) (h:Tags),i<=k/\F = .int .i64 (i:Int)/\nv = .int .u64 ((n/2 ^ (8*i):Nat):Int)/\NB w.heap.size wr h g O (leB n i)/\Step w τ wr h nil) (fun _ _ F _=>k-(intOf F).toNat)
 case atStart=>exact⟨0,τ,Z9 _,rfl,by rw[<-E.out],NB.nil _ _ _ _,Step.refl _ _ _⟩
 case round =>
  obtain⟨i,h,hi,rfl,rfl,b,j⟩:=hrel
  by_cases hlt:i<k
  ·have s:=Qt7 n i
   have x:=Qx4 n i
   have y:=Qxr n i
   have l:=Qaa n i
   have J:n/2 ^ (8*i)<18446744073709551616:=Nat.lt_of_le_of_lt (Nat.div_le_self _ _) N.out
   generalize n/2 ^ (8*i)=q at *
   have e1:IntKind.u8.wrap ((q:Int)%256)=(q:Int)%256:=by
    have:IntKind.u8.wrap ((q:Int)%256)=((q:Int)%256)%256:=by simp[IntKind.wrap,IntKind.bits,IntKind.signed]
    rw[this];omega
   have e2:IntKind.u64.wrap ((q:Int)/256)=(q:Int)/256:=by have:=Qam (q/256) (by omega);rw[Int.natCast_ediv] at this;exact this
   have m:Qep n i=(q:Int)%256:=by rw[s];omega
   obtain⟨pv,cv,rfl⟩:=b.val
   obtain⟨z,G,I,B,o,p,Hq⟩:=hid7 m x y l b j J
   clear m x y l b j J s
   go_wp2_with (at_builtin;refine Qez p.out o.out ((q:Int)%256) (by omega) (by rw[B.out];omega) rfl rfl _ _ rfl rfl rfl ?_;intro v' D d L M C;obtain⟨R,U,Hmo⟩:=hid3 L M C;clear L M C)
   go_round
   case rel=>exact⟨i+1,d,by omega,by simp,by rw[<-G.out];exact congrArg (Value.int .u64) (by omega),by rw[I.out,z.out];exact R.out,U.out⟩
   case measure=>simp[intOf];omega
  ·obtain rfl:i=k:=by omega
   obtain⟨o,p⟩:=hid2 b j
   clear b j
   go_wp2_with fail
   go_returns
   exact⟨_,h,rfl,o.out,p.out⟩
theorem Qxp {l:List Int}(h:IsB l) (i:Nat) (hi:i<8):∃x:Nat,l.getD i 0=(x:Int)/\x<=255/\x*pw (8*i)<18446744073709551616/\leN l i+x*pw (8*i)=leN l (i+1)/\leN l (i+1)<18446744073709551616:=by
 have e:=h.at i
 obtain⟨x,b⟩:=Int.eq_ofNat_of_zero_le e.1
 have j:leN l (i+1)=leN l i+x*pw (8*i):=by
  show leN l i+(l.getD i 0).toNat*2 ^ (8*i)=_
  rw[b];rfl
 have d:=Qyq h (i+1) (by omega)
 exact⟨x,b,by omega,by omega,j.symm,d⟩
theorem Qsf (l:List Int) (k i:Nat) (h:i<=k):leN (l.take k) i=leN l i:=by
 induction i with
 | zero=>rfl
 | succ i ih =>
   show leN (l.take k) i+((l.take k).getD i 0).toNat*2 ^ (8*i)=leN l i+(l.getD i 0).toNat*2 ^ (8*i)
   rw[ih (by omega),Z5,Z5,List.getElem?_take,if_pos (by omega)]
theorem r1get {w:World}{τ:Tags}{g:Tag}{v:Value}{l:List Int}(h:Bytes w τ g v l) (h8:8<=l.length) :
 Calls Tryz.prog 253 #[v] w fun e R=>e = .returned (.int .u64 (leN l 8:Int))/\∃n,R=w.drewN n:=by
 obtain⟨b,o,c,rfl,hc1,hc2,ht,r,d⟩:=h.pos (by omega)
 have N:=h.isB
 have B:=fun (W:World) (i:Nat) (hi:i<8)=>Qzd W (8*i) (by omega)
 generalize O:l.length=m at *
 obtain⟨s,U,F,Hm⟩:=hid4 d N B O
 clear d N B O h
 go_enter Tryz.func253,Tryz.ntmps253
 go_wp2_with fail
 go_loopw [3,4] (fun nv G wr=>∃(i q:Nat),i<=8/\G = .int .i64 (i:Int)/\nv = .int .u64 (leN l i:Int)/\wr=w.drewN q) (fun _ G _=>8-(intOf G).toNat)
 case atStart=>exact⟨0,0,Z9 _,rfl,rfl,rfl⟩
 case round =>
  obtain⟨i,q,hi,rfl,rfl,j⟩:=hrel
  by_cases r:i<8
  ·have c0:=s.out i (by omega)
   obtain⟨x,I,hx255,y,k,p⟩:=Qxp U.out i r
   rw[I] at c0
   have c1:wr.cell? ⟨b,o+i,none⟩=some (.int .u8 (x:Int)):=by rw[j];exact c0
   clear c0
   have J:=fun W=>F.out W i r
   generalize C:pw (8*i)=P at *
   generalize D:leN l i=L at *
   generalize E:leN l (i+1)=X at *
   rw[show ((8*i:Nat):Int)=8*(i:Int) by omega] at J
   have e1:IntKind.u64.wrap (8*(i:Int))=8*(i:Int):=by have:=Qam (8*i) (by omega);push_cast at this;exact this
   have e2:IntKind.u64.wrap (x:Int)=(x:Int):=Qam x (by omega)
   have e3:IntKind.u64.wrap ((x:Int)*(P:Int))=(x:Int)*(P:Int):=by rw[<-Int.natCast_mul];exact Qam _ y
   have e4:IntKind.u64.wrap ((L:Int)+(x:Int)*(P:Int))=(X:Int):=by rw[<-Int.natCast_mul,<-X3,k];exact Qam _ p
   obtain⟨Y,Hx,Hxp,Hsum,Hs64,Hpi,Hli,M,z⟩:=hid9 J I y k p C D E j
   clear J I y k p C D E j
   go_wp2_with fail
   go_quiet ((go_at_call 286;exact Calls.quiet_of_same (Y.out _)))
   go_wp2_with fail
   go_round
   case rel=>exact⟨i+1,q+nq,by omega,by simp,by rw[M.out],by rw[z.out,World.drewN_drewN]⟩
   case measure=>simp[intOf];omega
  ·obtain rfl:i=8:=by omega
   have z:=Z2 j
   clear j
   go_wp2_with fail
   all_goals go_ret
   all_goals exact⟨rfl,q,z.out⟩
theorem Bytes.tail {w:World}{τ:Tags}{g:Tag}{b o c n:Nat}{l:List Int}(h:Bytes w τ g (.slice (some ⟨b,o,none⟩) n c) l) (k:Nat) (hk:k<l.length):Bytes w τ g (.slice (some ⟨b,o+k,none⟩) (l.length-k) (c-k)) (l.drop k):=by
 obtain⟨p',c',e,h1,h2,j⟩:=h.is
 simp only[Value.slice.injEq] at e
 obtain⟨rfl,rfl,rfl⟩:=e
 obtain⟨b',o',m,p,d⟩:=j (by omega)
 cases m
 refine⟨fun x q=>h.isB x (List.mem_of_mem_drop q),_,_,by rw[List.length_drop],by rw[List.length_drop];omega,by omega,fun _=>⟨b,o+k,rfl,p,fun i hi=>?_⟩⟩
 rw[List.length_drop] at hi
 have:=d (k+i) (by omega)
 rw[show o+k+i=o+(k+i) by omega,this,Z5,Z5,List.getElem?_drop]
theorem Qq5 (l:List Int):leN l 8=lowMark l:=by
 unfold lowMark
 rw[List.drop_zero,Nat.sub_zero,Qsf l 8 8 (Z0 _)]
theorem Qpm (l:List Int):leN (l.drop 120) 8=highMark l:=by
 unfold highMark
 rw[show 128-120=8 from rfl,Qsf _ 8 8 (Z0 _)]
theorem Qnn {w:World}{τ:Tags}{g:Tag}{b o c:Nat}{l:List Int}(h:Bytes w τ g (.slice (some ⟨b,o,none⟩) 128 c) l) (d:l.length=128) :
 (∀W,Step w τ W τ nil->Calls Tryz.prog 253 #[.slice (some ⟨b,o,none⟩) 128 c] W fun e i=>e = .returned (.int .u64 (lowMark l:Int))/\∃n,i=W.drewN n) /\
 (∀W,Step w τ W τ nil->Calls Tryz.prog 253 #[.slice (some ⟨b,o+120,none⟩) 8 (c-120)] W fun e i=>e = .returned (.int .u64 (highMark l:Int))/\∃n,i=W.drewN n):=by
 refine⟨fun W j=>?_,fun W j=>?_⟩
 ·rw[<-Qq5]
  exact r1get (h.step j (fun h=>h)) (by omega)
 ·rw[<-Qpm]
  have:=(h.step j (fun h=>h)).tail 120 (by omega)
  rw[d] at this
  exact r1get this (by rw[List.length_drop];omega)
theorem Qqs {w:World}{τ:Tags}{g:Tag}{v:Value}{ls:List (List Int)}(h:Waits w τ g v ls) :
 Calls Tryz.prog 179 #[v] w fun e L=>e = .returned (.int .u64 (greatTo ls ls.length:Int))/\Step w τ L τ nil:=by
 obtain⟨pv,cv,rfl,M,J⟩:=h.read
 generalize hn:ls.length=n at *
 obtain⟨N,O⟩:=hid2 J hn
 clear J hn h
 go_enter Tryz.func179,Tryz.ntmps179
 go_wp2_with fail
 go_loopw [3,4] (fun nv z wr=>∃(i:Nat),i<=n/\z = .int .i64 (i:Int)/\nv = .int .u64 (greatTo ls i:Int)/\Step w τ wr τ nil) (fun _ z _=>n-(intOf z).toNat)
 case atStart=>exact⟨0,Z9 _,rfl,rfl,Step.refl _ _ _⟩
 case round =>
  obtain⟨i,hi,rfl,rfl,d⟩:=hrel
  have hmx:n<=9223372036854775807:=by unfold maxLen at M;omega
  by_cases B:i<n
  ·obtain⟨x,C⟩:∃x,ls[i]?=some x:=⟨_,Z3 (by rw[O.out];exact B)⟩
   obtain⟨k,b,u,rfl,s,y⟩:=N.out i x C
   obtain⟨bu,ou,cu,rfl,D,hu2,-,-,-⟩:=y.pos (by omega)
   rw[k] at y s D
   have cc:=(Mod.cell d.mod b i (cell_lt s) (fun h=>h)).trans s
   obtain⟨h1,h2⟩:=Qnn (y.step d (fun h=>h)) k
   have m:ls.getD i []=x:=by rw[Z5,C];rfl
   have j:greatTo ls (i+1)=max (max (greatTo ls i) (lowMark x)) (highMark x):=by
    show max (max (greatTo ls i) (lowMark (ls.getD i []))) (highMark (ls.getD i []))=_
    rw[m]
   have hmx3:=fun (W:World) (ts:Array TypeId) (t:TypeId)=>Qr3 (P:=Tryz.prog) W ts t _ _ _ _ j
   generalize greatTo ls i=G at *
   generalize o:greatTo ls (i+1)=G1 at *
   generalize lowMark x=lo at *
   generalize highMark x=hi' at *
   have p:=fun q=>h1 (wr.drewN q) ((Step.refl wr τ nil).drews q)
   have r:=fun q=>h2 (wr.drewN q) ((Step.refl wr τ nil).drews q)
   have E:=Z2 p
   have F:=Z2 r
   obtain⟨l,I,Hmax⟩:=hid3 d o j
   clear p r d o j h1 h2 y m C s
   go_wp2_with fail
   go_quiet ((first|(go_at_call 253;with_reducible exact Calls.quiet_of (E.out _))|(go_at_call 253;with_reducible exact Calls.quiet_of (F.out _))))
   go_wp2_with fail
   go_round
   case rel=>exact⟨i+1,by omega,by simp,by rw[I.out],l.out.drews _⟩
   case measure=>simp[intOf];omega
  ·obtain rfl:i=n:=by omega
   have l:=Z2 d
   clear d
   go_wp2_with fail
   go_returns
   exact⟨rfl,l.out⟩
theorem Qzf {w:World}{τ:Tags}{g:Tag}{v:Value}{ls:List (List Int)}(h:Waits w τ g v ls) (g':Tag) (h4:ls.length=4) :
 Calls Tryz.prog 249 #[v] w (OpenD w τ g' ls):=by
 obtain⟨p,c,rfl,hm,hr⟩:=h.read
 have Hr:=Z2 hr
 rw[h4]
 obtain⟨x0,ag⟩:∃x,ls[0]?=some x:=⟨_,Z3 (by omega)⟩
 obtain⟨j,b,u0,rfl,an,a8⟩:=hr 0 x0 ag
 have lb:=cell_lt an
 obtain⟨bu,ou,cu0,rfl,-,-,-,-,-⟩:=a8.pos (by omega)
 rw[j] at a8 an
 have ah:=(Qnn a8 j).1 w (Step.refl _ _ _)
 have l:lowMark x0=sealStamp ls:=by unfold sealStamp;rw[Z5,ag];rfl
 have ae:∀(k:Nat) (x:List Int),ls[k]?=some x->x.length=128:=fun k x hx=>(hr k x hx).1
 rw[l] at ah
 generalize hs:sealStamp ls=s at *
 obtain⟨ao,H4,ap,Hs⟩:=hid4 ah h4 ae hs
 clear ah h4 ae hs hr a8 ag hm h j l
 go_enter Tryz.func249,Tryz.ntmps249
 go_wp2_with fail
 refine ao.out.mono ?_
 rintro e w0 ⟨rfl,q0,aq⟩
 have ar:Step w τ w0 τ nil:=by rw[aq];exact(Step.refl w τ nil).drews q0
 have b5:=Z2 ar
 clear ar aq ao
 go_wp2_with fail
 go_loopw [5,7] (fun m v wr=>∃(i:Nat) (d:Tags),i<=4/\v = .int .i64 (i:Int)/\NB w.heap.size wr d g' m (Qcu ls i)/\Step w τ wr d nil/\Hid (okTo ls s i=true)) (fun _ v _=>4-(intOf v).toNat)
 case atStart=>exact⟨0,τ,Z9 _,rfl,NB.nil _ _ _ _,b5.out,Z2 rfl⟩
 case round =>
  obtain⟨i,d,hi,rfl,q,l,HO⟩:=hrel
  by_cases b6:i<4
  ·obtain⟨x,hx⟩:∃x,ls[i]?=some x:=⟨_,Z3 (by rw[H4.out];exact b6)⟩
   obtain⟨j,b',u,b7,hc,hb⟩:=Hr.out i x hx
   cases b7
   have c1:=(l.no.cell b i lb (fun h=>h)).trans hc
   have J:=hb.step l (fun h=>h)
   obtain⟨bb,oo,cu,rfl,b8,h2c,-⟩:=J.pos (by omega)
   rw[j] at J c1
   obtain⟨O,E⟩:=Qnn J j
   have R:ls.getD i []=x:=by rw[Z5,hx];rfl
   have C:okTo ls s (i+1)=(lowMark x==s && highMark x==s):=by
    rw[Qh0,HO.out,R,Bool.true_and]
   have aa:Qcu ls (i+1)=Qcu ls i++((x.drop 8).take (120-8)):=by
    show Qcu ls i++(((ls.getD i []).drop 8).take (120-8))=_
    rw[R]
   have ab:=J.sub 8 120 (cu-8) (by omega) (by omega) (by omega) (by omega)
   have D:((x.drop 8).take (120-8)).length=112:=by rw[List.length_take,List.length_drop];omega
   have U:=Qib ap.out i (by rw[H4.out];omega)
   have e1:112<=cu:=by omega
   have e2:120<=cu:=by omega
   have e3:(120:Int)<=(cu:Int):=by omega
   have e4:¬cu=8:=by omega
   have e5:¬cu=120:=by omega
   have e6:128<=cu:=by omega
   generalize hp:(x.drop 8).take (120-8)=part at *
   generalize lowMark x=m1 at *
   generalize highMark x=m2 at *
   have ac:(Qcu ls i).length+part.length<=100000000000:=by omega
   obtain⟨pm,cm,rfl⟩:=q.val
   rw[j] at b8
   have o:=O wr (Step.refl _ _ _)
   by_cases h1:m1=s
   ·subst h1
    by_cases h2:m2=m1
    ·subst h2
     have r:okTo ls m2 (i+1)=true:=by rw[C];simp
     rw[U] at q
     have z:=Z2 o
     obtain⟨X,Y,L,b9,av,ba,bc,bd,Hlen2,Hp⟩:=hid10 E q l ab r aa ac U D hp
     clear o E q l ab r aa ac U D hp J hb hc hx j C R O
     rw[bd.out]
     go_wp2_with fail
     refine z.out.mono ?_
     rintro e w1 ⟨rfl,q1,F⟩
     have M:Step wr d w1 d nil:=by rw[F];exact(Step.refl wr d nil).drews q1
     have B:=X.out w1 M
     have N:=Z2 B
     have al:=Z2 M
     clear B M F
     go_wp2_with fail
     refine N.out.mono ?_
     rintro e w2 ⟨rfl,q2,Z⟩
     have ad:Step wr d w2 d nil:=by rw[Z];exact al.out.drews q2
     have y:=L.out.trans ad
     have a1:=Y.out.step ad (fun h=>h)
     have af:=b9.out.step ad (fun h=>h)
     obtain⟨G,am,ax⟩:=hid3 y a1 af
     clear y a1 af Z ad
     go_wp2_with (at_builtin;refine Qal G.out am.out ax.out bc.out rfl _ _ rfl rfl rfl ?_;intro v' w' bg hb he ay;obtain⟨Hb,He,Hmo⟩:=hid3 hb he ay;clear hb he ay)
     go_round
     case rel=>exact⟨i+1,bg,by omega,by simp,by rw[ba.out];exact Hb.out,He.out,Z2 av.out⟩
     case measure=>simp[intOf];omega
    ·have r:okTo ls m1 (i+1)=false:=by rw[C];simp[h2]
     have a6:=Qq1 r 4 (by omega)
     have I:Qb3 ls=false:=by unfold Qb3;rw[Hs.out];exact a6
     have b1:((m2:Int) != (m1:Int))=true:=by rw[bne_iff_ne];omega
     have z:=Z2 o
     obtain⟨X,L,a7⟩:=hid3 E l I
     clear o E l I q J hb hc hx j C R r aa ac U D ab a6 hp O h2
     go_wp2_with fail
     refine z.out.mono ?_
     rintro e w1 ⟨rfl,q1,F⟩
     have M:Step wr d w1 d nil:=by rw[F];exact(Step.refl wr d nil).drews q1
     have B:=X.out w1 M
     have N:=Z2 B
     have al:=Z2 M
     clear B M F
     go_wp2_with fail
     refine N.out.mono ?_
     rintro e w2 ⟨rfl,q2,Z⟩
     have y:=L.out.trans (show Step wr d w2 d nil by rw[Z];exact al.out.drews q2)
     have G:=Z2 y
     clear y Z
     go_wp2_with fail
     go_returns
     exact⟨d,G.out,.inr ⟨a7.out,rfl⟩⟩
   ·have r:okTo ls s (i+1)=false:=by rw[C];simp[h1]
    have a6:=Qq1 r 4 (by omega)
    have I:Qb3 ls=false:=by unfold Qb3;rw[Hs.out];exact a6
    have b1:((m1:Int) != (s:Int))=true:=by rw[bne_iff_ne];omega
    have z:=Z2 o
    obtain⟨L,a7⟩:=hid2 l I
    clear o l I q J hb hc hx j C R r aa ac U D ab a6 hp O E h1
    go_wp2_with fail
    refine z.out.mono ?_
    rintro e w1 ⟨rfl,q1,F⟩
    have y:=L.out.trans (show Step wr d w1 d nil by rw[F];exact(Step.refl wr d nil).drews q1)
    have G:=Z2 y
    clear y F
    go_wp2_with fail
    go_returns
    exact⟨d,G.out,.inr ⟨a7.out,rfl⟩⟩
  ·obtain rfl:i=4:=by omega
   have C:Qb3 ls=true:=by unfold Qb3;rw[Hs.out];exact HO.out
   obtain⟨Y,L,bh⟩:=hid3 q l C
   clear q l C
   go_wp2_with fail
   go_returns
   exact⟨d,L.out,.inl ⟨bh.out,_,by rw[Hs.out];rfl,Y.out.bytes⟩⟩
