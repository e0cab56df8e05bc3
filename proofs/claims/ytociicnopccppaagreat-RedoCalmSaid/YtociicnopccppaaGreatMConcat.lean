/-
 slices.Grow of nothing;slices.Concat over bytes.
-/
import Derived.Test.YtociicnopccppaaGreatChunk
import Derived.Test.YtociicnopccppaaGreatMNum
import Derived.Lib.AppendZerosOnto
import Derived.Lib.Walk
import Derived.Lib.SliceRun
import Derived.Laws.CopyOwn
import Derived.Laws.CopyRow
set_option maxRecDepth 100000
set_option maxHeartbeats 2000000
set_option linter.all false
namespace Go.Proofs.YtociicnopccppaaGreat
open Go.RowKit
theorem Qxu (y w:World) (d τ:qa1) (S:Tag->Prop) (b:Step y d w τ S) (g:Tag) (n:Nat) (h1:1<=n) (hn:n<=100000000) :
 Calls Tryz.prog 228 #[.slice none 0 0,.int .i64 n] w fun e z=>∃v c,e = .returned v/\NB y.heap.size z c g v []/\Step y d z c S/\Step w τ z c nil:=by
 obtain⟨B,hi,C,D,i⟩:=info_parts Tryz.infoU8
 have j:∀E,(Builtin.append_ #[58,3] E #[.slice none 0 0,.int .i64 n]).run Tryz.prog w =
  .ok (.slice (some ⟨w.heap.size,0,none⟩) n (grownCap w n 0 5)) (w.drew.alloc (.cells (Builtin.zeroCells #[.int .u8 0] n++Builtin.zeroCells #[.int .u8 0] (grownCap w n 0 5 - n)) 5)):=fun E=>by
  have l:(Builtin.firstCells B.size 0 (.slice none 0 0)).run Tryz.prog w.drew = .ok #[] w.drew:=run_firstCells_none w.drew B.size 0 0 0
  have h:=Lib.run_append_grow_zeros (P:=Tryz.prog) w 58 3 E 5 B (.int .u8 0) .i64 .i64 Tryz.underlying58 Tryz.underlying3 hi C none 0 0 [] l n oM (by rw[D];omega) oM oM (by rw[i];omega)
   (by rw[Nat.zero_add];exact growslice_fits oM (by rw[i];omega))
  simp only[Nat.zero_add,Array.empty_append] at h
  exact h
 have hGn:n<=grownCap w n 0 5 := grownCap_ge w _ _ _
 have o:grownCap w n 0 5 <= maxLen:=grownCap_le_maxLen w n 0 _ (by unfold maxLen;omega)
 generalize grownCap w n 0 5 = G at *
 generalize p:Builtin.zeroCells #[.int .u8 0] n++Builtin.zeroCells #[.int .u8 0] (G-n)=cs at *
 have F:cs.size=G:=by rw[<-p];simp only[Array.size_append,size_zeroCells];simp;omega
 have a:=Own.born w.drew τ g 5 cs
 have q:=(b.drew).alloc (.cells cs 5) g
 have r:=((zS w τ).drew).alloc (.cells cs 5) g
 have s:NB y.heap.size (w.drew.alloc (.cells cs 5)) (τ.put w.heap.size g) g (.slice (some ⟨w.heap.size,0,none⟩) 0 G) [] :=
  ⟨⟨rfl,.inr ⟨w.heap.size,G,cs.toList,rfl,by simpa [u8s] using a,by simp[u8s,F],Z9 _,o⟩⟩,fun x O=>by simp at O,fun k R=>by
    have:w.heap.size=k:=by simpa [Value.ownBlock] using R
    have h2:=b.size;rw[<-this];exact h2⟩
 obtain⟨I,J,L,M⟩:=qb9 s q r j
 clear s q r j a b p o
 have a1:decide ((n:Int)<0)=false:=sM
 go_enter Tryz.func228,Tryz.ntmps228
 go_wp2_with (at_builtin;refine Lib.wpList_append_run _ rfl _ _ _ _ rfl _ _ rfl rfl _ _ (M _) ?_)
 all_goals go_ret
 all_goals exact⟨_,_,rfl,I,J,L⟩
def qe9 (ls:List (List Int)):Nat->List Int
 | 0=>[]
 | i+1=>qe9 ls i++ls.getD i []
theorem Qgy (ls:List (List Int)) (i:Nat):qe9 ls (i+1)=qe9 ls i++ls.getD i []:=rfl
theorem Qyc (ls:List (List Int)) (i n:Nat) (h:i<=n):(qe9 ls i).length<=(qe9 ls n).length:=by
 induction n with
 | zero =>
    obtain rfl:i=0:=oM
    exact Z0 _
 | succ n ih =>
   by_cases e:i=n+1
   ·subst e;exact Z0 _
   ·have:=ih oM
    rw[Qgy,Z6];omega
theorem Qt2 {w:World}{τ:qa1}{br c:Nat}{ls:List (List Int)}(Y:∀i,i<ls.length->∃u,w.cell? ⟨br,i,none⟩=some u/\∃g,Bytes w τ g u (ls.getD i [])) (I:Tag) (h0:0<ls.length) (hl:ls.length<=1000) (h1:1<=(qe9 ls ls.length).length) (o:(qe9 ls ls.length).length<=1000000) :
 Calls Tryz.prog 188 #[.slice (some ⟨br,0,none⟩) ls.length c] w fun e J=>∃v q,e = .returned v/\NB w.heap.size J q I v (qe9 ls ls.length)/\Step w τ J q nil:=by
 have B:∀i,i<=ls.length->(qe9 ls i).length<=1000000:=fun i hi=>Y3 (Qyc ls i _ hi) o
 generalize hn:ls.length=n at *
 obtain⟨Z,y,H1,Hbig,Hn⟩:=qbq Y B h1 o hn
 clear Y B h1 o hn
 go_enter Tryz.func188,Tryz.ntmps188
 go_wp2_with fail
 go_loopw [3,11] (fun m v wr=>∃i:Nat,i<=n/\v = .int .i64 i/\m = .int .i64 ((qe9 ls i).length:Int)/\wr=w) (fun _ v _=>n-(intOf v).toNat)
 case atStart=>exact⟨0,Z9 _,rfl,rfl,rfl⟩
 case round =>
  obtain⟨i,hi,rfl,rfl,rfl⟩:=hrel
  have hln:=y i hi
  by_cases L:i<n
  ·obtain⟨u,G,g,s⟩:=Z i L
   obtain⟨p,cu,rfl,h2,h3⟩:=s.any
   have M:(qe9 ls (i+1)).length=(qe9 ls i).length+(ls.getD i []).length:=by rw[Qgy,Z6]
   have C:=y (i+1) oM
   rw[M] at C
   generalize (qe9 ls i).length=a at *
   generalize (ls.getD i []).length=b at *
   have a1:decide ((a:Int)+b<0)=false:=by simp;omega
   have Hs:=Z2 M
   clear M s h2 h3
   go_wp2_with fail
   go_round
   case rel=>exact⟨i+1,oM,sM,by rw[Hs.out];simp,trivial⟩
   case measure=>simp[intOf];omega
  ·have O:i=n:=oM
   subst O
   have hg:=Qxu wr wr τ τ nil (Step.refl _ _ _) I _ H1 oM
   generalize hm:(qe9 ls i).length=m at *
   obtain⟨Hg,Hm⟩:=qaj hg hm
   clear hg hm
   go_wp2_with fail
   refine Hg.mono ?_
   rintro e w1 ⟨v,τ1,rfl,h,d,-⟩
   obtain⟨k,l⟩:=qaj h d
   clear h d Hg
   go_wp2_with fail
   go_loopw [6,27] (fun m v wq=>∃(j:Nat) (r:qa1),j<=i/\v = .int .i64 j/\NB wr.heap.size wq r I m (qe9 ls j)/\Step wr τ wq r nil) (fun _ v _=>i-(intOf v).toNat)
   case atStart=>exact⟨0,τ1,Z9 _,rfl,k,l⟩
   case round =>
    clear k l
    obtain⟨j,r,hj,rfl,h,d⟩:=hrel
    by_cases D:j<i
    ·obtain⟨u,G,g,s⟩:=Z j D
     have c1:=(d.no.cell br j (qb0 G) id).trans G
     have z:=s.step d id
     have E:(qe9 ls j).length+(ls.getD j []).length<=100000000000:=by
      have:=y (j+1) oM
      rw[Qgy,Z6] at this;omega
     obtain⟨p,cu,rfl,-,-⟩:=z.any
     obtain⟨pm,cm,rfl⟩:=h.val
     generalize hx:ls.getD j []=x at *
     clear s G
     obtain⟨k,l,R,U,Hx⟩:=qbq h d z E hx
     clear h d z E hx
     go_wp2_with (at_builtin;refine Qal l k R U rfl _ _ rfl rfl rfl ?_;intro v' J q s he F;obtain⟨Hb,He,Hmo⟩:=qan s he F;clear s he F)
     go_round
     case rel=>exact⟨j+1,q,oM,sM,by rw[Qgy,Hx.out];exact Hb,He⟩
     case measure=>simp[intOf];omega
    ·have X:j=i:=oM
     subst X
     obtain⟨k,l⟩:=qaj h d
     clear h d
     go_wp2_with fail
     go_returns
     exact⟨_,r,rfl,k,l⟩
def over (cur:List Value) (off:Nat) (cs:List Value):List Value:=cur.take off++cs++cur.drop (off+cs.length)
theorem Qq0 (cur:List Value) (off:Nat) (cs:List Value) (h:off+cs.length<=cur.length):(over cur off cs).length=cur.length:=by
 unfold over;simp only[Z6,List.length_take,List.length_drop];omega
theorem Own.row' {w:World}{τ:qa1}{b:Nat}{g:Tag}{t:TypeId}{a:List Value}(h:Own w τ b g t a) (cs:List Value):Own (w.setRow b cs.toArray) τ b g t cs :=
 ⟨setRow_heap w b _ _ t _ h.row,h.tag⟩
theorem Step.row {w a:World}{τ τ1:qa1}{S:Tag->Prop}(h:Step w τ a τ1 S) {b:Nat}{g:Tag}(i:τ1 b=g) (c:S g\/w.heap.size<=b) (cs:Array Value):Step w τ (a.setRow b cs) τ1 S :=
 ⟨⟨h.mod.os,h.mod.tape,h.mod.output,by simpa using h.mod.size,fun k d hn=>(setRow_other a b k cs (fun e=>by
   subst e
   rcases c with c|c
   ·have:=h.ext k d;rw[i] at this;exact hn (by rw[<-this];exact c)
   ·omega)).trans (h.mod.block k d hn)⟩,h.ext⟩
theorem Qcg {w:World}{τ:qa1}{g:Nat}{B C:Tag}{T:TypeId}{cur:List Value}(x:Own w τ g B T cur) {off dLen dCap:Nat}{y:Value}{m:List Int}(l:Bytes w τ C y m) (n:Nat) (hn:n=Nat.min m.length dLen) (h:off+n<=cur.length) (q:TypeId) :
 (Builtin.copy_ #[58,58] q #[.slice (some ⟨g,off,none⟩) dLen dCap,y]).run Tryz.prog w = .ok (goInt n) (w.setRow g (over cur off (u8s (m.take n))).toArray):=by
 obtain⟨i0,hi,hz0,r,hz2⟩:=info_parts Tryz.infoU8
 have i:(Tryz.prog.info? 5).map (·.size)=some 1:=by rw[hi];simp[r]
 obtain⟨p,c,rfl,h1,h2⟩:=l.any
 have hle:n<=m.length:=by rw[hn];exact Nat.min_le_left _ _
 have a:(u8s (m.take n)).length=n:=by rw[Qac,List.length_take];omega
 by_cases h0:n=0
 ·subst h0
  have:=run_copy_none (P:=Tryz.prog) w 58 58 q 5 (some ⟨g,off,none⟩) p dLen dCap m.length c Tryz.underlying58 i hn.symm
  rw[this]
  have e:(over cur off (u8s (m.take 0))).toArray=cur.toArray:=by simp[over,u8s]
  rw[e,setRow_self w g cur.toArray T (0,0) x.row]
  rfl
 ·obtain⟨b,o,c',hv,-,-,-,-,hcell⟩:=l.pos oM
  simp only[Value.slice.injEq] at hv
  obtain⟨rfl,_,rfl⟩:=hv
  have d:=l.news.2 _ rfl
  have k:∀j v,(u8s (m.take n))[j]?=some v->w.cell? ((⟨b,o,none⟩:Addr).add j)=some v:=fun j v z=>by
   have s:j<n:=by have:=(Z4 z).1;omega
   refine d j v ?_
   rw[<-z]
   simp only[u8s,List.getElem?_map,List.getElem?_take,if_pos s]
  have:=run_copy_row (P:=Tryz.prog) w 58 58 q 5 g off dLen dCap ⟨b,o,none⟩ m.length c cur.toArray T (u8s (m.take n)) Tryz.underlying58 i x.row (by rw[a];exact hn) k (by rw[a];simpa using h) (Qkd _)
  rw[a] at this
  rw[this]
  unfold over
  rw[a]
theorem Ql4 {k w:World}{b τ:qa1}{S:Tag->Prop}(l:Step k b w τ S) {g:Nat}{c x:Tag}{T:TypeId}{cur:List Value}(i:Own w τ g c T cur) (y:S c\/k.heap.size<=g) {off dLen dCap:Nat}{r:Value}{m:List Int}(z:Bytes w τ x r m) (n:Nat) (hn:n=Nat.min m.length dLen) (e:off+n<=cur.length)
 {ops:Array Oper} {rest:List Oper} {o:Oper} {a:Act} {Q:Exit->Act->World->Prop} (p:o.guard=none) (d s:Operand)
 (q:o.op = .call {callee:=.builtin .copy,args:=#[d,s],argTypes:=#[58,58]}) (hd:a.eval d = .slice (some ⟨g,off,none⟩) dLen dCap) (B:a.eval s=r)
 (h:∀j,Own j τ g c T (over cur off (u8s (m.take n)))->Step k b j τ S->Step w τ j τ (fun t=>t=c)->wpList Tryz.prog ops Q rest (a.put o.dst (goInt n)) j):wpList Tryz.prog ops Q (o::rest) a w:=by
 refine wpList_plain p fun K C=>?_
 have D:=Qcg i (off:=off) (dLen:=dLen) (dCap:=dCap) z n hn e o.type
 unfold Oper.wp execOp
 simp only[q,resolve,invoke,builtin,Sem.run_bind,Sem.run_pure,Result.andThen_ok,List.map_toArray,X0,List.map_nil,hd,B,D]
 exact C _ _ (h _ (i.row' _) (l.row i.tag y _) ((Step.refl w τ (fun t=>t=c)).row i.tag (.inl rfl) _))
theorem Qbb {k w:World}{b τ:qa1}{S:Tag->Prop}(l:Step k b w τ S) {g:Nat}{c x:Tag}{T:TypeId}{cur:List Value}(i:Own w τ g c T cur) (y:S c\/k.heap.size<=g) {off dLen dCap:Nat}{r:Value}{m:List Int}(z:Bytes w τ x r m) (n:Nat) (hn:n=Nat.min m.length dLen) (e:off+n<=cur.length)
 {ops:Array Oper} {o:Oper} {a:Act} {K:Act->World->Prop} {Q:Exit->Act->World->Prop} {E:Prop} (p:o.guard=none) (d s:Operand)
 (q:o.op = .call {callee:=.builtin .copy,args:=#[d,s],argTypes:=#[58,58]}) (hd:a.eval d = .slice (some ⟨g,off,none⟩) dLen dCap) (B:a.eval s=r)
 (h:∀j,Own j τ g c T (over cur off (u8s (m.take n)))->Step k b j τ S->Step w τ j τ (fun t=>t=c)->K (a.put o.dst (goInt n)) j):if Region.wanted o (yielded ops a.tmps)=true then Oper.wp Tryz.prog o a w K Q else E:=by
 have C:Region.wanted o (yielded ops a.tmps)=true:=by simp[Region.wanted,p]
 rw[if_pos C]
 have D:=Qcg i (off:=off) (dLen:=dLen) (dCap:=dCap) z n hn e o.type
 unfold Oper.wp execOp
 simp only[q,resolve,invoke,builtin,Sem.run_bind,Sem.run_pure,Result.andThen_ok,List.map_toArray,X0,List.map_nil,hd,B,D]
 exact h _ (i.row' _) (l.row i.tag y _) ((Step.refl w τ (fun t=>t=c)).row i.tag (.inl rfl) _)
end Go.Proofs.YtociicnopccppaaGreat
namespace Go.Proofs.YtociicnopccppaaGreat
open Go.RowKit Go.Shelf
abbrev Qeq (W:World) (row:Option Nat):Prop:=∀r,row=some r->∃o:Obj,W.heap[r]?=some o/\o.isCells=false
theorem Own.turn {W a:World}{row:Option Nat}{τ:qa1}{b:Nat}{g:Tag}{t:TypeId}{c:List Value}(h:Own W τ b g t c) (i:W.grownBy a row) (j:Qeq W row):Own a τ b g t c :=
 ⟨(i.block b h.lt (fun e=>by
   obtain⟨o,d,k⟩:=j b e.symm
   rw[h.row] at d;cases d;cases k)).trans h.row,h.tag⟩
theorem Bytes.turn {W d:World}{row:Option Nat}{τ:qa1}{g:Tag}{v:Value}{l:List Int}(h:Bytes W τ g v l) (e:W.grownBy d row) (j:Qeq W row):Bytes d τ g v l:=by
 obtain⟨p,c,hv,h1,h2,k⟩:=h.is
 refine⟨h.isB,p,c,hv,h1,h2,fun hl=>?_⟩
 obtain⟨b,o,n,q,a⟩:=k hl
 exact⟨b,o,n,q,fun i hi=>cell_kept (a i hi) e j⟩
theorem qcv.turn {W c:World}{row:Option Nat}{τ:qa1}{g:Tag}{v:Value}{ls:List (List Int)}(h:qcv W τ g v ls) (d:W.grownBy c row) (e:Qeq W row):qcv c τ g v ls:=by
 rcases h with h|⟨b,cap,xs,ys,hv,i,h1,h2,j,l⟩
 ·exact .inl h
 ·refine .inr ⟨b,cap,xs,ys,hv,i.turn d e,h1,h2,j,fun k x n=>?_⟩
  obtain⟨a,u,o,p⟩:=l k x n
  exact⟨a,u,o,p.turn d e⟩
theorem NR.turn {n0:Nat}{W a:World}{row:Option Nat}{τ:qa1}{g:Tag}{v:Value}{ls:List (List Int)}(h:NR n0 W τ g v ls) (b:W.grownBy a row) (c:Qeq W row):NR n0 a τ g v ls:=⟨h.row.turn b c,h.low⟩
theorem Step.turn {w W b:World}{row:Option Nat}{τ a:qa1}{S:Tag->Prop}(h:Step w τ W a S) (c:W.grownBy b row) (d:∀r,row=some r->w.heap.size<=r):Step w τ b a S :=
 ⟨h.mod.grown c (fun k e hk=>absurd (d k e) oM),h.ext⟩
theorem qcy.turn {b a c B:Nat}{X W d:World}{row:Option Nat}(h:qcy b a c X W) (i:W.grownBy d row) (j:∀r,row=some r->B<=r) (h1:b<B) (h2:a<B) (h3:c<B) (hB:B<=W.heap.size):qcy b a c X d:=by
 intro k g
 have hlt:k<B:=by rcases g with rfl|rfl|rfl <;> assumption
 refine(i.block k oM (fun e=>?_)).trans (h k g)
 have:=j k e.symm
 omega
theorem Qh4 {B:Nat}{W b:World}{S:Nat->Prop}(m:Mod W b S) (d:∀k o,S k->W.heap[k]?=some o->o.isCells=true):KeepsFrom B W b :=
 ⟨m.size,fun k o _ a c=>(m.block k (Array.getElem?_eq_some_iff.1 a).1 (fun h=>by rw[d k o h a] at c;cases c)).trans a⟩
theorem Qrd (w:World) (row:Option Nat):w.grownBy w.drew row:=⟨rfl,rfl,rfl,Z0 _,fun _ _ _=>rfl⟩
theorem Qpx (a:Option Addr) (len cap k:Nat) (hk:1<=k) (w:World) :
 Calls Tryz.prog 101 #[.slice a len cap,.int .i64 k] w fun e b=>e = .returned (.func (.func 163) #[] #[.pointer (some ⟨w.heap.size,0,none⟩),.pointer (some ⟨w.heap.size+1,0,none⟩)]) /\
  b=(w.alloc (.cells #[.slice a len cap] 58)).alloc (.cells #[.int .i64 k] 3):=by
 have a1:decide ((k:Int)<1)=false:=by simp;omega
 go_enter Tryz.func101,Tryz.ntmps101
 go_wp2_with fail
 go_ret
 exact⟨rfl,rfl⟩
theorem Qv9 (F:Fence) (n:Nat) (d:F.fn 163) (b:F.round=none) (l c:Nat) (g:Value) (a:Option Addr) (cap:Nat) (J:List Nat->World->Prop)
 (W:World) (hBs:W.cell? ⟨c,0,none⟩=some (.slice a 0 cap)) (h0:J [] W) :
 CallsIn F n Tryz.prog 163 #[.func (.yield l) #[] #[],.pointer (some ⟨c,0,none⟩),g] W fun e h=>(∃v,e = .returned v)/\J [] h:=by
 refine callsIn_of_wp Tryz.func163 rfl d ?_ b
 simp only[Tryz.ntmps163,List.size_toArray,Y4,List.length_nil,Nat.reduceAdd,Nat.reduceSub,Array.replicate_succ,Array.replicate_zero,List.push_toArray,List.append_toArray,List.nil_append,List.cons_append]
 gi_wp2
 gi_loopw [4] (fun i wr=>i = .int .i64 0/\wr=W) (fun _ _=>0)
 case atStart=>exact⟨rfl,rfl⟩
 case round =>
  obtain⟨rfl,rfl⟩:=hrel
  gi_wp2
  go_end0
  exact⟨⟨_,rfl⟩,h0⟩
theorem Qta (k:Nat) (hk:1<=k):parts 0 k=0:=by unfold parts;rw[Nat.zero_add];exact Nat.div_eq_of_lt oM
abbrev Ql1 (len k:Nat):={j:Nat // j<parts len k}
theorem Qlx (F:Fence) (n:Nat) (D:F.fn 163) (i:F.round=none) (hn:1<=n) (g o b off len cap k:Nat) (a:Option Addr) (L:0<len->a=some ⟨b,off,none⟩) (E:1<=k) (z:k<=1000) (q:len<=100000000) (s:len<=cap) (B:cap<=maxLen)
 (w:World) (G:w.cell? ⟨g,0,none⟩=some (.slice a len cap)) (x:w.cell? ⟨o,0,none⟩=some (.int .i64 k)) :
 SeqStopsK F n Tryz.prog 163 #[.pointer (some ⟨g,0,none⟩),.pointer (some ⟨o,0,none⟩)] (fun j:Ql1 len k=>#[qf8 b off len k j.1]) (qcy b g o) (fun ys=>ys.map Subtype.val=List.range (parts len k)) (fun _=>True) (parts len k) w:=fun l J M W hW O hJx R h0=>by
 have c1:=(hW.cell (p:=⟨g,0,none⟩) (qb0 G)).trans G
 have c2:=(hW.cell (p:=⟨o,0,none⟩) (qb0 x)).trans x
 by_cases hl:len=0
 ·subst hl
  refine(Qv9 F n D i l g _ a cap (fun _ W=>J [] W) W c1 h0).mono ?_
  rintro e I ⟨y,U⟩
  exact⟨y,.inl ⟨[],show ([]:List Nat)=List.range (parts 0 k) from by rw[Qta k E];rfl,U⟩⟩
 ·obtain rfl:=L oM
  refine(Qv8 F n D i hn l g o b off len cap k E z q s B (fun pre W=>∃p:List (Ql1 len k),p.map Subtype.val=pre/\J p W) (fun pre W=>∃p:List (Ql1 len k),p.map Subtype.val=pre/\M p W)
   (fun pre W ⟨p,c,h⟩=>⟨p,c,O p W _ none h (Qrd W none) (fun r e=>by cases e)⟩) ?_ W c1 c2 ⟨[],rfl,h0⟩).mono ?_
  ·rintro pre X ⟨p,rfl,c⟩ d
   obtain⟨fn,tmps,assign,body,Y,Z⟩:=R p ⟨(p.map Subtype.val).length,d⟩ X c (by rw[Y0] at d;exact d)
   refine⟨fn,tmps,assign,body,Y,Z.mono ?_⟩
   rintro e I (⟨rfl,h1,h2⟩|⟨rfl,h1⟩)
   ·exact .inl ⟨rfl,⟨_,sM,h1⟩,h2⟩
   ·exact .inr ⟨rfl,⟨_,sM,h1⟩⟩
  ·rintro e I ⟨y,⟨ys,C,p,rfl,c⟩|⟨pre,_,p,_,c⟩⟩
   ·exact⟨y,.inl ⟨p,C,c⟩⟩
   ·exact⟨y,.inr ⟨p,trivial,c⟩⟩
theorem NR.cells {n0:Nat}{w:World}{τ:qa1}{g:Tag}{v:Value}{ls:List (List Int)}(h:NR n0 w τ g v ls) {k:Nat}(a:v.ownBlock=some k):τ k=g/\n0<=k/\∃c,w.heap[k]?=some (.cells ⟨c⟩ 58 (0,0)):=by
 rcases h.row with ⟨rfl,_⟩|⟨b,cap,c,ys,rfl,d,_⟩
 ·simp[Value.ownBlock] at a
 ·have:b=k:=by simpa [Value.ownBlock] using a
  subst this
  exact⟨d.tag,h.low b rfl,_,d.row⟩
theorem Qvn {b a c:Nat}{A B C:World}(h:qcy b a c A B) (k:qcy b a c B C):qcy b a c A C:=h.trans k
theorem Qvo {b a c B:Nat}(h1:b<B) (h2:a<B) (h3:c<B) (W:World) (l:Nat) (o d:Obj) (hl:B<=l) (h:W.heap[l]?=some o) (hc:o.isCells=false) (hw:o.isWalk=false):qcy b a c W (W.putObj l d):=by
 intro k e
 have hlt:k<B:=by rcases e with rfl|rfl|rfl <;> assumption
 exact World.putObj_heap_other oM
def qcs:Tag:=(92,0)
def Agree (τ τ':qa1):Prop:=∀k,τ k≠qcs->τ' k=τ k
theorem Agree.put {τ:qa1}{b:Nat}(a:τ b=qcs) (g:Tag):Agree τ (τ.put b g):=fun k c=>qa1.qgm _ _ _ _ (fun e=>c (by rw[e];exact a))
theorem Own.agree {w:World}{τ a:qa1}{b:Nat}{g:Tag}{t:TypeId}{c:List Value}(h:Own w τ b g t c) (d:Agree τ a) (e:g≠qcs):Own w a b g t c:=⟨h.row,(d b (by rw[h.tag];exact e)).trans h.tag⟩
theorem Bytes.agree {w:World}{τ d:qa1}{g:Tag}{v:Value}{l:List Int}(h:Bytes w τ g v l) (i:Agree τ d) (j:g≠qcs):Bytes w d g v l:=by
 obtain⟨p,c,hv,h1,h2,k⟩:=h.is
 refine⟨h.isB,p,c,hv,h1,h2,fun hl=>?_⟩
 obtain⟨b,o,n,e,a⟩:=k hl
 exact⟨b,o,n,(i b (by rw[e];exact j)).trans e,a⟩
theorem qcv.agree {w:World}{τ c:qa1}{g:Tag}{v:Value}{ls:List (List Int)}(h:qcv w τ g v ls) (d:Agree τ c) (e:g≠qcs):qcv w c g v ls:=by
 rcases h with h|⟨b,cap,xs,ys,hv,i,h1,h2,j,l⟩
 ·exact .inl h
 ·refine .inr ⟨b,cap,xs,ys,hv,i.agree d e,h1,h2,j,fun k x n=>?_⟩
  obtain⟨a,u,o,p⟩:=l k x n
  exact⟨a,u,o,p.agree d (by simp[qa2,qcs])⟩
theorem NR.agree {n0:Nat}{w:World}{τ a:qa1}{g:Tag}{v:Value}{ls:List (List Int)}(h:NR n0 w τ g v ls) (b:Agree τ a) (c:g≠qcs):NR n0 w a g v ls:=⟨h.row.agree b c,h.low⟩
theorem Step.retag {w a:World}{τ τ1:qa1}{S:Tag->Prop}(h:Step w τ a τ1 S) {b:Nat}(c:w.heap.size<=b) (g:Tag):Step w τ a (τ1.put b g) S:=⟨h.mod,h.ext.put _ _ c⟩
theorem Own.retag {w:World}{τ:qa1}{b:Nat}{g:Tag}{t:TypeId}{a:List Value}(h:Own w τ b g t a) (c:Tag):Own w (τ.put b c) b c t a:=⟨h.row,qa1.qd9 _ _ _⟩
theorem Qg7 {F:Fence}{n:Nat}{q w:World}{i τ:qa1}{S:Tag->Prop}(z:Step q i w τ S) {g:Tag}(I:g≠qa2) {v u:Value}{ls:List (List Int)}{x:List Int}(j:NR q.heap.size w τ g v ls) (J:Bytes w τ qa2 u x) (l:x.length=128) (B:ls.length<=1000000000) {kb:Nat}(C:kb=w.heap.size)
 {ops:Array Oper} {rest:List Oper} {o:Oper} {a:Act} {Q:Exit->Act->World->Prop} (D:o.guard=none) (s y:Operand)
 (d:o.op = .call {callee:=.builtin .append,args:=#[s,y],argTypes:=#[31,31]}) (L:a.eval s=v) (M:a.eval y = .slice (some ⟨kb,0,none⟩) 1 1)
 (h:∀r e b,NR q.heap.size e b g r (ls++[x])->Step q i e b S->Step w τ e b (fun t=>t=g)->Mod w e (fun k=>v.ownBlock=some k)->wpListIn F n Tryz.prog ops Q rest (a.put o.dst r) e):wpListIn F n Tryz.prog ops Q (o::rest) a (w.alloc (.cells #[u] 58)):=by
 subst C
 refine wpListIn_plain D fun K E=>?_
 obtain⟨r,e,b,p,h2,O,R,U⟩:=Qdn (z.alloc' (.cells #[u] 58)) I (j.alloc _) (J.alloc _) l B (heap_alloc_new w _) o.type
 unfold Oper.wpIn
 refine⟨?_,?_⟩
 ·simp[Oper.about,d,resolve,Target.leads,Sem.run_pure]
 ·rw[Oper.semAt_plain F _ _ (by rw[d];intro c G;cases G)]
  simp[execOp,d,resolve,invoke,builtin,L,M,p,Result.andThen]
  exact E _ _ (h r e b h2 O (((Step.refl w τ _).alloc' _).trans R) (((Mod.refl w _).alloc _).trans U))
theorem Qih {F:Fence}{n:Nat}{q w:World}{i τ:qa1}{S:Tag->Prop}(z:Step q i w τ S) {g:Tag}(I:g≠qa2) {v u:Value}{ls:List (List Int)}{x:List Int}(j:NR q.heap.size w τ g v ls) (J:Bytes w τ qa2 u x) (l:x.length=128) (B:ls.length<=1000000000) {kb:Nat}(C:kb=w.heap.size)
 {ops:Array Oper} {o:Oper} {a:Act} {K:Act->World->Prop} {Q:Exit->Act->World->Prop} {E:Prop} (D:o.guard=none) (s y:Operand)
 (d:o.op = .call {callee:=.builtin .append,args:=#[s,y],argTypes:=#[31,31]}) (L:a.eval s=v) (M:a.eval y = .slice (some ⟨kb,0,none⟩) 1 1)
 (h:∀r e b,NR q.heap.size e b g r (ls++[x])->Step q i e b S->Step w τ e b (fun t=>t=g)->Mod w e (fun k=>v.ownBlock=some k)->K (a.put o.dst r) e):if Region.wanted o (yielded ops a.tmps)=true then Oper.wpIn F n Tryz.prog o a (w.alloc (.cells #[u] 58)) K Q else E:=by
 subst C
 have O:Region.wanted o (yielded ops a.tmps)=true:=by simp[Region.wanted,D]
 rw[if_pos O]
 obtain⟨r,e,b,p,h2,R,U,X⟩:=Qdn (z.alloc' (.cells #[u] 58)) I (j.alloc _) (J.alloc _) l B (heap_alloc_new w _) o.type
 unfold Oper.wpIn
 refine⟨?_,?_⟩
 ·simp[Oper.about,d,resolve,Target.leads,Sem.run_pure]
 ·rw[Oper.semAt_plain F _ _ (by rw[d];intro c G;cases G)]
  simp[execOp,d,resolve,invoke,builtin,L,M,p,Result.andThen]
  exact h r e b h2 R (((Step.refl w τ _).alloc' _).trans U) (((Mod.refl w _).alloc _).trans X)
theorem Qjn {F:Fence}{z:Nat}{p w:World}{e τ:qa1}{S:Tag->Prop}(q:Step p e w τ S) {j:Nat}{g C:Tag}{T:TypeId}{cur:List Value}(k:Own w τ j g T cur) (D:S g\/p.heap.size<=j) {off dLen dCap:Nat}{B:Value}{m:List Int}(E:Bytes w τ C B m) (n:Nat) (hn:n=Nat.min m.length dLen) (i:off+n<=cur.length)
 {ops:Array Oper} {rest:List Oper} {o:Oper} {a:Act} {Q:Exit->Act->World->Prop} (r:o.guard=none) (d s:Operand)
 (b:o.op = .call {callee:=.builtin .copy,args:=#[d,s],argTypes:=#[58,58]}) (hd:a.eval d = .slice (some ⟨j,off,none⟩) dLen dCap) (G:a.eval s=B)
 (h:∀l,Own l τ j g T (over cur off (u8s (m.take n)))->Step p e l τ S->Step w τ l τ (fun t=>t=g)->wpListIn F z Tryz.prog ops Q rest (a.put o.dst (goInt n)) l):wpListIn F z Tryz.prog ops Q (o::rest) a w:=by
 refine wpListIn_plain r fun K x=>?_
 have I:=Qcg k (off:=off) (dLen:=dLen) (dCap:=dCap) E n hn i o.type
 unfold Oper.wpIn
 refine⟨?_,?_⟩
 ·simp[Oper.about,b,resolve,Target.leads,Sem.run_pure]
 ·rw[Oper.semAt_plain F _ _ (by rw[b];intro c y;cases y)]
  simp only[execOp,b,resolve,invoke,builtin,Sem.run_bind,Sem.run_pure,Result.andThen_ok,List.map_toArray,X0,List.map_nil,hd,G,I]
  exact x _ _ (h _ (k.row' _) (q.row k.tag D _) ((Step.refl w τ (fun t=>t=g)).row k.tag (.inl rfl) _))
end Go.Proofs.YtociicnopccppaaGreat
namespace Go.Proofs.YtociicnopccppaaGreat
open Go.RowKit Go.Shelf
attribute [local go_sem] Oper.semAt_some
def qat (st:List Int) (j:Nat):List Int:=(st.drop (j*127)).take 127
def Qbt (st:List Int) (j:Nat):List Int:=qat st j++List.replicate (127-(qat st j).length) 0++[((qat st j).length:Int)]
def Quz (st:List Int) (k:Nat):List (List Int):=(List.range k).map (Qbt st)
def Qeg (st:List Int):List (List Int):=Quz st (parts st.length 127)
theorem Qb5 (st:List Int) (j:Nat):(qat st j).length=min 127 (st.length-j*127):=by
 unfold qat;rw[List.length_take,List.length_drop]
theorem Ql5 (st:List Int) (j:Nat):(Qbt st j).length=128:=by
 have:=Qb5 st j
 unfold Qbt;simp only[Z6,Z7,Y4,List.length_nil];omega
theorem Qqg {st:List Int}(h:IsB st) (j:Nat):IsB (Qbt st j):=by
 have:=Qb5 st j
 intro x a
 unfold Qbt at a
 rcases List.mem_append.1 a with a|a
 ·rcases List.mem_append.1 a with a|a
  ·exact h x (List.mem_of_mem_drop (List.mem_of_mem_take a))
  ·rw[(List.mem_replicate.1 a).2];omega
 ·rw[Y8 a];omega
def qay:Tag:=(90,0)
def qe3:Tag:=(91,0)
theorem Qhm (n:Nat):(madeCells #[Value.int .u8 0] n).toList=u8s (List.replicate n 0):=by
 rw[Qgp 0 n]
 apply List.ext_getElem?
 intro j
 by_cases a:j<n
 ·rw[Qc2 _ _ _ _ a,if_neg oM]
  simp[u8s,a]
 ·rw[List.getElem?_eq_none (by rw[Qb4];omega),List.getElem?_eq_none (by rw[Qac,Z7];omega)]
theorem Quy (st:List Int) (j n:Nat) (hn:n=Nat.min (qat st j).length 128) :
 (over (u8s (List.replicate 128 0)) 0 (u8s ((qat st j).take n))).set 127 (.int .u8 n)=u8s (Qbt st j):=by
 have hl:=Qb5 st j
 have a:Nat.min (qat st j).length 128=(qat st j).length:=Nat.min_eq_left oM
 rw[a] at hn
 subst hn
 unfold Qbt
 generalize qat st j=x at *
 have hx:x.length<=127:=oM
 apply List.ext_getElem?
 intro i
 rw[List.take_length]
 unfold over
 simp only[List.take_zero,List.nil_append,Nat.zero_add,u8s,List.map_append,List.map_replicate,X0,List.map_nil]
 by_cases hi:i=127
 ·subst hi
  rw[List.getElem?_set_self (by simp only[Z6,Y0,List.length_drop,Z7];omega),Y6 (by simp only[Z6,Y0,Z7];omega)]
  simp only[Z6,Y0,Z7]
  rw[show 127-(x.length+(127-x.length))=0 by omega];rfl
 ·rw[List.getElem?_set_ne oM]
  by_cases h1:i<x.length
  ·rw[Y5 (by simpa using h1),Y9,Y5 (by simpa using h1)]
  ·rw[Y6 (by simpa using h1),Y9,Y6 (by simpa using h1),List.getElem?_drop,Y0]
   by_cases h2:i<127
   ·rw[Y5 (by simp only[Z7];omega),List.getElem?_replicate,List.getElem?_replicate,if_pos oM,if_pos oM]
   ·rw[Y6 (by simp only[Z7];omega),List.getElem?_replicate,if_neg oM]
    rw[List.getElem?_eq_none (by simp only[Z7,Y4,List.length_nil];omega)]
theorem Bytes.part {w:World}{τ:qa1}{g:Tag}{a:Option Addr}{c:Nat}{st:List Int}(h:Bytes w τ g (.slice a st.length c) st) {b off:Nat}(i:0<st.length->a=some ⟨b,off,none⟩) (k:Nat) (j:Nat) :
 Bytes w τ g (qf8 b off st.length k j) ((st.drop (j*k)).take k):=by
 have hl:((st.drop (j*k)).take k).length=min k (st.length-j*k):=by rw[List.length_take,List.length_drop]
 obtain⟨p,c',hv,h1,h2,_⟩:=h.is
 cases hv
 by_cases h0:0<min k (st.length-j*k)
 ·obtain rfl:=i oM
  have:=h.sub (j*k) (j*k+min k (st.length-j*k)) (min k (st.length-j*k)) oM oM oM oM
  rw[Nat.add_sub_cancel_left] at this
  have e:(st.drop (j*k)).take k=(st.drop (j*k)).take (min k (st.length-j*k)):=by
   by_cases l:k<=st.length-j*k
   ·rw[Nat.min_eq_left l]
   ·rw[Nat.min_eq_right oM,List.take_of_length_le (by rw[List.length_drop];omega),List.take_of_length_le (by rw[List.length_drop];omega)]
  rw[e]
  exact this
 ·have e:(st.drop (j*k)).take k=[]:=List.eq_nil_of_length_eq_zero oM
  rw[e]
  unfold qf8
  have n:min k (st.length-j*k)=0:=oM
  rw[n]
  exact⟨fun x d=>by simp at d,_,0,rfl,Z0 _,Z9 _,fun d=>by simp at d⟩
def LayI (w W0:World) (τ:qa1) (b:Nat) (st:List Int) (pre:List (Ql1 st.length 127)) (W:World):Prop :=
 ∃τ' vo,Step w τ W τ' nil/\Own W τ' w.heap.size qay 31 [vo]/\NR w.heap.size W τ' qe3 vo (pre.map (fun x=>Qbt st x.1))/\qcy b (w.heap.size+1) (w.heap.size+1+1) W0 W/\τ' (w.heap.size+1)=qay/\τ' (w.heap.size+1+1)=qay
theorem Qvl {w:World}{τ:qa1}{g:Tag}{v:Value}{st:List Int}(h:Bytes w τ g v st) (hbig:st.length<=1000000) :
 Calls Tryz.prog 50 #[v] w fun e w'=>∃u a,e = .returned u/\NR w.heap.size w' a qe3 u (Qeg st)/\Step w τ w' a nil:=by
 obtain⟨p,c,rfl,cq,cr⟩:=h.any
 obtain⟨b,off,ha,hbl,hbk⟩:∃b off,(0<st.length->p=some ⟨b,off,none⟩)/\b<w.heap.size+1+1/\(b<w.heap.size\/b=w.heap.size+1):=by
  by_cases h0:0<st.length
  ·obtain⟨b,o,c',hv,-,-,-,bd,-⟩:=h.pos h0
   cases hv
   exact⟨b,o,fun _=>rfl,oM,.inl bd⟩
  ·exact⟨w.heap.size+1,0,fun h=>absurd h h0,oM,.inr rfl⟩
 have be:∀(m:Nat) (W:World),CallsIn Fence.wide m Tryz.prog 101 #[.slice p st.length c,.int .i64 127] W fun e w'=>e = .returned (.func (.func 163) #[] #[.pointer (some ⟨W.heap.size,0,none⟩),.pointer (some ⟨W.heap.size+1,0,none⟩)]) /\
  w'=(W.alloc (.cells #[.slice p st.length c] 58)).alloc (.cells #[.int .i64 127] 3):=fun m W=>(callsIn_wide (n:=m)).2 (Qpx p st.length c 127 oM W)
 obtain⟨ap,cs,Ha⟩:=qan h be ha
 have U:=((((zS w τ).alloc (.cells #[Value.slice none 0 0] 31) qay).alloc (.cells #[Value.slice p st.length c] 58) qay).alloc (.cells #[Value.int .i64 127] 3) qay)
 have F:=((Own.new w τ qay 31 [.slice none 0 0]).qbn (.cells #[Value.slice p st.length c] 58) qay).qbn (.cells #[Value.int .i64 127] 3) qay
 simp only[World.size_alloc] at U F
 have C:((τ.put w.heap.size qay).put (w.heap.size+1) qay).put (w.heap.size+1+1) qay (w.heap.size+1)=qay:=by rw[qa1.qgm _ _ _ _ oM,qa1.qd9]
 have E:((τ.put w.heap.size qay).put (w.heap.size+1) qay).put (w.heap.size+1+1) qay (w.heap.size+1+1)=qay:=qa1.qd9 _ _ _
 have bf:(((w.alloc (.cells #[.slice none 0 0] 31)).alloc (.cells #[.slice p st.length c] 58)).alloc (.cells #[.int .i64 127] 3)).cell? ⟨w.heap.size+1,0,none⟩=some (.slice p st.length c):=by
  have:=(Own.new (w.alloc (.cells #[.slice none 0 0] 31)) τ qay 58 [.slice p st.length c]).alloc (.cells #[Value.int .i64 127] 3)
  rw[World.size_alloc] at this
  exact this.at 0 rfl
 have bg:(((w.alloc (.cells #[.slice none 0 0] 31)).alloc (.cells #[.slice p st.length c] 58)).alloc (.cells #[.int .i64 127] 3)).cell? ⟨w.heap.size+1+1,0,none⟩=some (.int .i64 127):=by
  have:=Own.new ((w.alloc (.cells #[.slice none 0 0] 31)).alloc (.cells #[.slice p st.length c] 58)) τ qay 3 [.int .i64 127]
  rw[World.size_alloc,World.size_alloc] at this
  exact this.at 0 rfl
 have a9:(((w.alloc (.cells #[.slice none 0 0] 31)).alloc (.cells #[.slice p st.length c] 58)).alloc (.cells #[.int .i64 127] 3)).heap.size=w.heap.size+1+1+1:=sM
 obtain⟨bh,aq,ar,G,i,a4,a5⟩:=qdr U F bf bg a9 C E
 clear U F bf bg a9 C E h be ha
 refine(callsIn_wide (n:=4)).1 ?_
 refine callsIn_of_wp_marks Tryz.func50 rfl trivial ?_ rfl
 simp only[Tryz.ntmps50,List.size_toArray,Y4,List.length_nil,Nat.reduceAdd,Nat.reduceSub,Array.replicate_succ,Array.replicate_zero,List.push_toArray,List.append_toArray,List.nil_append,List.cons_append]
 gi_wp2_with (refine⟨trivial,?_⟩;gi_at_call 101;refine(cs _ _).mono ?_;rintro e w' ⟨rfl,rfl⟩)
 generalize ((w.alloc (.cells #[.slice none 0 0] 31)).alloc (.cells #[.slice p st.length c] 58)).alloc (.cells #[.int .i64 127] 3)=W0 at *
 refine wpIn_rangeFunc_ownG rfl oM (gf := 163) (lb:=#[.pointer (some ⟨w.heap.size+1,0,none⟩),.pointer (some ⟨w.heap.size+1+1,0,none⟩)]) rfl trivial (enters_of Tryz.func163 kR rfl)
  (Qlx Fence.wide 3 trivial rfl oM (w.heap.size+1) (w.heap.size+1+1) b off st.length c 127 p Ha oM oM oM cq cr W0 ar G)
  Qvn (Qvo (by have:=i.out;omega) (by have:=i.out;omega) (by have:=i.out;omega)) (Below.refl _ _) (fun _=>rfl)
  (LayI w W0 τ b st) (fun _ _ _=>False) ?hI (fun _ _ _ _ _ hs _ _=>hs) ?h0
  (fun j=>{tmps:=#[.slice p st.length c,undef,.slice none 0 0,.pointer (some ⟨w.heap.size,0,none⟩),qf8 b off st.length 127 j.1,undef,.slice p st.length c,.func (.func 163) #[] #[.pointer (some ⟨w.heap.size+1,0,none⟩),.pointer (some ⟨w.heap.size+1+1,0,none⟩)],qf8 b off st.length 127 j.1,undef,undef,undef,undef,undef,undef,undef,undef,undef,undef,undef,undef],defers:=[]}) ?assign ?body ?done ?stop
 case hI =>
  rintro pre W W' row ⟨a,vo,h1,h2,h3,h4,C,E⟩ hg hr
  have a6:Qeq W row:=fun r e=>(hr r e).2
  exact⟨a,vo,h1.turn hg (fun r e=>by have:=(hr r e).1;rw[i.out] at this;omega),h2.turn hg a6,h3.turn hg a6,h4.turn (B:=w.heap.size+1+1+1) hg (fun r e=>by have:=(hr r e).1;rw[i.out] at this;exact this) oM oM oM (by
   have h5:=h4 (w.heap.size+1+1) (.inr (.inr rfl))
   have h6:=qb0 G
   have h7:=(Array.getElem?_eq_some_iff.1 (h5.trans (Array.getElem?_eq_getElem h6))).1
   omega),C,E⟩
 case h0=>exact⟨_,_,bh,aq,NR.nil _ _ _ _,qcy.refl _ _ _ _,a4,a5⟩
 case assign =>
  intro l x W K hK
  gi_wp2
  exact hK
 case body =>
  rintro l pre ⟨j,cz⟩ W ⟨a,vo,I,q,s,a7,C,E⟩ bd
  obtain⟨po,co,rfl⟩:=s.val
  have d0:=Qb5 st j
  have bi:Bytes W a g (qf8 b off st.length 127 j) (qat st j):=(ap.step I id).part Ha 127 j
  have bj:=Ql5 st j
  have bk:=Qqg ap.isB j
  obtain⟨n,hn⟩:∃n,n=Nat.min (qat st j).length 128:=⟨_,rfl⟩
  have aa:=Quy st j n hn
  have hn127:n<=127:=by rw[hn];exact Y3 (Nat.min_le_left _ _) oM
  have L:((pre.map (fun x=>Qbt st x.1)).length:Nat)<=1000000000:=by
   rw[Y0]
   have:parts st.length 127<=1000000:=by unfold parts;omega
   omega
  have c0:=q.at 0 rfl
  have bl:Own (W.alloc (.cells (madeCells #[.int .u8 0] 128) 5)) (a.put W.heap.size qcs) W.heap.size qcs 5 (u8s (List.replicate 128 0)):=by
   have:=Own.born W a qcs 5 (madeCells #[.int .u8 0] 128)
   rwa [Qhm] at this
  have X:=(zS W a).alloc (.cells (madeCells #[.int .u8 0] 128) 5) qcs
  have ab:=bi.step X id
  have Y:=q.step X id
  have ac:=s.step X id id
  have rn:=Qcz
  have M:(u8s (List.replicate 128 0)).length=128:=by rw[Qac,Z7]
  have ad:0+n<=(u8s (List.replicate 128 0)).length:=by rw[M];omega
  have ae:nil qcs\/W.heap.size<=W.heap.size:=.inr (Z0 _)
  have af:w.heap.size+1+1<W.heap.size:=by
   have h5:=a7 (w.heap.size+1+1) (.inr (.inr rfl))
   have h6:=qb0 G
   exact(Array.getElem?_eq_some_iff.1 (h5.trans (Array.getElem?_eq_getElem h6))).1
  have bm:=q.row
  have bn:=fun k=>s.cells (k:=k)
  have Z:=I.size
  have hne:W.heap.size≠w.heap.size:=oM
  have hne':w.heap.size≠W.heap.size:=oM
  have hwr:IntKind.u8.wrap (n:Int)=n:=by
   have:IntKind.u8.wrap (n:Int)=n%256:=by simp[IntKind.wrap,IntKind.bits,IntKind.signed]
   rw[this];omega
  have O:∃u,(over (u8s (List.replicate 128 0)) 0 (u8s ((qat st j).take n)))[127]?=some u:=by
   refine⟨_,Z3 ?_⟩
   rw[Qq0 _ _ _ (by rw[Qac,M,List.length_take];omega),M];omega
  have ag:(pre++[(⟨j,cz⟩:Ql1 st.length 127)]).map (fun x=>Qbt st x.1)=pre.map (fun x=>Qbt st x.1)++[Qbt st j]:=sM
  generalize d1:qf8 b off st.length 127 j=pv at *
  generalize d2:qat st j=x at *
  generalize d3:Qbt st j=y at *
  generalize d4:pre.map (fun x=>Qbt st x.1)=ls at *
  generalize ah:over (u8s (List.replicate 128 0)) 0 (u8s (x.take n))=cur at *
  obtain⟨u127,O⟩:=O
  have aw:qay≠qcs:=by simp[qay,qcs]
  have bo:¬qa2=qcs:=by simp[qa2,qcs]
  have ax:¬qe3=qcs:=by simp[qe3,qcs]
  have bp:qe3≠qa2:=by simp[qe3,qa2]
  have d5:¬qay=qe3:=by simp[qe3,qay]
  obtain⟨d6,bq⟩:=qaj bl ae
  have br:=Z2 ab
  obtain⟨Hn,bs,ay,bv,bw,az,d7,a8,d8,bz,c3,d9⟩:=qds hn ad Y ac aa bj bk L a7 ah O X
  have Hlow':=Z2 Z
  obtain⟨c5,b0,a0,da,c6,a4,a5⟩:=qdr ag I af bm bn C E
  clear bl ae ab hn ad Y ac aa bj bk L a7 ah O X Z ag I af bm bn C E bi q s ap Ha d0 M d1 d2 d3 d4
  gi_wp2_with (first
   | (refine Qjn d9 d6 bq br n Hn bs rfl _ _ rfl rfl rfl ?_
      intro w2 R c7 b1
      rw[bz.out] at R
      have c127:=R.at 127 c3
      have z127:=R.fz 127
      have a1:=ay.step b1 aw
      have ai:=bv.step b1 ax bo
      have b2:=R.set 127 (.int .u8 n)
      rw[bw.out] at b2
      have aj:w2.heap.size=(w2.setCell ⟨W.heap.size,127,none⟩ (.int .u8 n)).heap.size:=by simp[World.setCell]
      have z:=R.tag
      have b3:=(Step.refl w2 (a.put W.heap.size qcs) (fun t=>t=qcs)).set (o:=127) z rfl (.int .u8 n)
      have J:=(a1.step b3 aw).agree (Agree.put z qa2) aw
      have ak:=(ai.step b3 ax bo).agree (Agree.put z qa2) ax
      have b4:=(c7.qa3 (b:=W.heap.size) (o:=127) (Z0 _) (.int .u8 n)).retag (Z0 _) qa2
      have al:=b0.trans b4
      have b5:=(b2.retag qa2).bytes d7 (by rw[az.out];unfold maxLen;omega)
      rw[az.out] at b5
      have c03:=J.at 0 rfl
      obtain⟨b6,c8,b7,c9,dc,ca⟩:=qcq J ak b4 al b5 aj
      clear c7 b1 b2 a1 ai z b3 J ak b4 al b5 aj
      clear R)
   | (refine Qg7 c9 bp c8 dc az a8 ca rfl _ _ rfl rfl rfl ?_
      intro v4 w4 b8 a2 cb b9 cc
      obtain⟨p4,c4,rfl⟩:=a2.val
      have d:=b6.step b9 d5
      have c04:=d.at 0 rfl
      have z04:=d.fz 0
      have a3:=d.tag
      obtain⟨cd,dd,de,df,ba,bb⟩:=qcq a2 cb b9 cc d a3
      clear a2 cb b9 cc d a3))
  have dh:Mod W w4 (fun k=>(Value.slice po ls.length co).ownBlock=some k):=(b7.no.mono (fun _ _ h=>h.elim)).seq df (fun _ _ h=>h)
  have am:Mod W (w4.setCell ⟨w.heap.size,0,none⟩ (.slice p4 (ls.length+1) c4)) (fun k=>k=w.heap.size\/(Value.slice po ls.length co).ownBlock=some k):=(dh.mono (fun _ _ h=>.inr h)).setCell (p:=⟨w.heap.size,0,none⟩) (fun _=>.inl rfl) _
  have ce:Ext W a b8:=b7.ext.trans de.ext b7.size
  have cf:(ls++[y]).length=ls.length+1:=sM
  have an:=cd.step ((Step.refl w4 b8 (fun t=>t=qay)).set (o:=0) bb rfl (.slice p4 (ls.length+1) c4)) (fun h=>by simp[qe3,qay] at h) (fun h=>by simp[qa2,qay] at h)
  rw[cf] at an
  have cg:qcy b (w.heap.size+1) (w.heap.size+1+1) W (w4.setCell ⟨w.heap.size,0,none⟩ (.slice p4 (ls.length+1) c4)):=by
   intro k hk
   have h3:=a0.out
   refine am.block k oM ?_
   rintro(h|h)
   ·omega
   ·obtain⟨h1,h2,_⟩:=c6 k h
    have hn1:k≠w.heap.size+1:=fun e=>by rw[e,a4.out] at h1;simp[qay,qe3] at h1
    have hn2:k≠w.heap.size+1+1:=fun e=>by rw[e,a5.out] at h1;simp[qay,qe3] at h1
    omega
  refine⟨Qh4 am ?_,cg,b8,.slice p4 (ls.length+1) c4,dd.qa3 (Z0 _) _,ba.set 0 _,?_,d8.trans cg,?_,?_⟩
  ·rintro k o (rfl|hk) ho
   ·rw[da.out] at ho;cases ho;rfl
   ·obtain⟨_,_,xs,hx⟩:=c6 k hk
    rw[hx] at ho;cases ho;rfl
  ·rw[c5.out];exact an
  ·rw[ce _ (by have:=a0.out;omega)];exact a4
  ·rw[ce _ (by have:=a0.out;omega)];exact a5
 case done =>
  rintro D ys W hD ch ⟨a,vo,I,q,s,a7,C,E⟩ hK
  have ao:ys.map (fun x=>Qbt st x.1)=(List.range (parts st.length 127)).map (Qbt st):=by rw[<-ch,List.map_map];rfl
  rw[ao] at s
  clear ch ao
  obtain⟨po,co,rfl⟩:=s.val
  have c0:=q.at 0 rfl
  have hl:((List.range (parts st.length 127)).map (Qbt st)).length=parts st.length 127:=sM
  obtain⟨b0,di,HK⟩:=qan I s hK
  clear I s hK
  gi_wp2
  refine⟨sM,.inl ⟨_,_,rfl,run_takeDeferred HK,?_⟩⟩
  have hg:=grownBy_putObj' W D (.deferred none)
  have a6:Qeq W (some D):=fun r e=>by cases e;exact⟨_,HK,rfl⟩
  exact⟨_,results_tmp rfl _ _ _,.slice po ((List.range (parts st.length 127)).map (Qbt st)).length co,a,by first|rfl|(rw[hl];rfl),di.turn hg a6,b0.turn hg (fun r e=>by cases e;have:=i.out;omega)⟩
 case stop =>
  rintro D c pre W _ _ h _
  exact h.elim
end Go.Proofs.YtociicnopccppaaGreat
namespace Go.Proofs.YtociicnopccppaaGreat
open Go.RowKit
def Jcu:List (List Int)->List Int
 | []=>[]
 | x::r=>if 127<x.getD 127 0 then [] else x.take (x.getD 127 0).toNat++(if x.getD 127 0<127 then [] else Jcu r)
theorem Bytes.fst {w:World}{τ:qa1}{g:Tag}{b o n c:Nat}{l:List Int}(h:Bytes w τ g (.slice (some ⟨b,o,none⟩) n c) l) (k:Nat) (hk:k<=n):Bytes w τ g (.slice (some ⟨b,o,none⟩) k c) (l.take k):=by
 obtain⟨p',c2,hv,h1,h2,d⟩:=h.is
 simp only[Value.slice.injEq] at hv
 obtain⟨rfl,rfl,rfl⟩:=hv
 have hl:(l.take k).length=k:=by rw[List.length_take];omega
 refine⟨fun x e=>h.isB x (List.mem_of_mem_take e),_,c,by rw[hl],oM,h2,fun h0=>?_⟩
 obtain⟨j,p,q,r,a⟩:=d oM
 refine⟨j,p,q,r,fun i hi=>?_⟩
 rw[hl] at hi
 rw[a i oM]
 congr 2
 simp only[Z5,List.getElem?_take,if_pos hi]
theorem Jc4 (ls:List (List Int)):(Jcu ls).length<=127*ls.length:=by
 induction ls with
 | nil=>simp[Jcu]
 | cons y r ih =>
   unfold Jcu
   split
   ·simp
   ·rename_i h1
    have h3:(y.take (y.getD 127 0).toNat).length<=127:=by rw[List.length_take];omega
    rw[Z6,Y4]
    split
    ·rw[List.length_nil];omega
    ·omega
theorem Jds {w:World}{τ:qa1}{g:Tag}{v:Value}{ls:List (List Int)}(h:qcv w τ g v ls) (g':Tag) (hbig:ls.length<=100000) :
 Calls Tryz.prog 69 #[v] w fun e X=>∃u s,e = .returned u/\NB w.heap.size X s g' u (Jcu ls)/\Step w τ X s nil:=by
 obtain⟨p,c,rfl,hm,hr⟩:=h.read
 generalize hn:ls.length=n at *
 generalize z:Jcu ls=res
 have a1:=Jc4 ls
 rw[z,hn] at a1
 obtain⟨Hr,Y,L⟩:=qan hr hn z
 clear hr hn z hm h
 go_enter Tryz.func69,Tryz.ntmps69
 go_wp2_with fail
 go_loopw [3,9] (fun m v wr=>∃(i:Nat) (B:qa1) (y:List Int),i<=n/\v = .int .i64 i/\NB w.heap.size wr B g' m y/\Step w τ wr B nil/\Hid (y++Jcu (ls.drop i)=res)) (fun _ v _=>n-(intOf v).toNat)
 case atStart=>exact⟨0,τ,[],Z9 _,rfl,NB.nil _ _ _ _,Step.refl _ _ _,Z2 (by simpa using L.out)⟩
 case round =>
  obtain⟨i,B,y,hi,rfl,j,d,HO⟩:=hrel
  by_cases I:i<n
  ·obtain⟨x,Z⟩:∃x,ls[i]?=some x:=⟨_,Z3 (by rw[Y.out];exact I)⟩
   obtain⟨F,b,u,rfl,hc,G⟩:=Hr i x Z
   have c1:=(d.no.cell b i (qb0 hc) id).trans hc
   have k:=G.step d id
   obtain⟨bb,oo,cu,rfl,a4,h2c,-,-,C⟩:=k.pos oM
   have M:=C 127 oM
   have hB:=k.isB.at 127
   rw[F] at k c1 a4
   have O:ls.drop i=x::ls.drop (i+1):=by
    rw[List.drop_eq_getElem_cons (by rw[Y.out];exact I)]
    congr 1
    rw[Z3 (by rw[Y.out];exact I)] at Z
    exact Option.some.inj Z
   have a:=HO.out
   rw[O,Jcu] at a
   obtain⟨q,hq⟩:=Int.eq_ofNat_of_zero_le hB.1
   rw[hq] at M a hB
   clear G C Z hc F O hq HO
   by_cases hbad:127<q
   ·rw[if_pos oM,List.append_nil] at a
    subst a
    obtain⟨l,o⟩:=qaj j d
    clear j d k
    go_wp2_with fail
    go_returns
    exact⟨_,B,rfl,l,o⟩
   ·rw[if_neg oM] at a
    have hf:=k.fst q oM
    have R:((q:Nat):Int).toNat=q:=oM
    rw[R] at a
    have a5:(x.take q).length<=127:=by rw[List.length_take];omega
    have E:y.length+(x.take q).length<=100000000000:=by
     have:y.length<=res.length:=by rw[<-a,Z6];omega
     omega
    have hqc:q<=cu:=oM
    have hqi:(q:Int)<=cu:=oM
    obtain⟨pm,cm,rfl⟩:=j.val
    clear R a5 hB
    by_cases h7:q<127
    ·rw[if_pos oM,List.append_nil] at a
     obtain⟨l,o,Hf,J,r⟩:=qbq j d hf E a
     clear j d hf E a k
     go_wp2_with (at_builtin;refine Qal o l Hf J rfl _ _ rfl rfl rfl ?_;intro v' X s G U D;obtain⟨Hb,He,a9⟩:=qan G U D;clear G U D)
     go_returns
     exact⟨_,s,rfl,by rw[<-r.out];exact Hb,He⟩
    ·rw[if_neg oM,<-Y9] at a
     obtain⟨l,o,Hf,J,r⟩:=qbq j d hf E a
     clear j d hf E a k
     go_wp2_with (at_builtin;refine Qal o l Hf J rfl _ _ rfl rfl rfl ?_;intro v' X s G U D;obtain⟨Hb,He,a9⟩:=qan G U D;clear G U D)
     go_round
     case rel=>exact⟨i+1,s,y++x.take q,oM,sM,Hb,He,Z2 r⟩
     case measure=>simp[intOf];omega
  ·have aa:i=n:=oM
   subst aa
   have a:=HO.out
   rw[List.drop_eq_nil_of_le (by rw[Y.out];omega),Jcu,List.append_nil] at a
   subst a
   obtain⟨l,o⟩:=qaj j d
   clear j d
   go_wp2_with fail
   go_returns
   exact⟨_,B,rfl,l,o⟩
def pw (k:Nat):Nat:=2 ^ k
