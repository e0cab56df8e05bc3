/-
 The reference's pool without a page at hand: At,find,Dirty.
-/
import Derived.Test.YtemacanaihaldaaGreatMR12
import Derived.Test.YtemacanaihaldaaGreatMPoolD
set_option maxRecDepth 100000
set_option linter.all false
namespace Go.Proofs.YtemacanaihaldaaGreat
variable {bp k:Nat}{g:Tag}{w:World}{τ:Tags}
open Go.RowKit
structure NZ (n0:Nat) (w:World) (τ:Tags) (g:Tag) (v:Value) (l:List Int):Prop where
 buf:IntsZ w τ g v l
 low:∀k,v.ownBlock=some k->n0<=k
theorem NZ.nil (n0:Nat) (w:World) (τ:Tags) (g:Tag):NZ n0 w τ g (.slice none 0 0) []:=⟨Buf.nil _ _ _ _ _,fun k hk=>by simp[Value.ownBlock] at hk⟩
theorem Qjj {z:World} {p:Tags} {S:Tag->Prop}(q:Step z p w τ S) {g:Tag}{v:Value}{l:List Int}(b:NZ z.heap.size w τ g v l) (x:Int) (hsz:l.length<=1000000) {kb:Nat}(B:kb=w.heap.size)
 {ops:Array Oper} {rest:List Oper} {o:Oper} {a:Act} {Q:Exit->Act->World->Prop} (C:o.guard=none) (s y:Operand)
 (D:o.op = .call {callee:=.builtin .append,args:=#[s,y],argTypes:=#[98,98]}) (N:a.eval s=v) (O:a.eval y = .slice (some ⟨kb,0,none⟩) 1 1)
 (h:∀r m d,NZ z.heap.size m d g r (l++[x])->Step z p m d S->wpList Tryz.prog ops Q rest (a.put o.dst r) m):wpList Tryz.prog ops Q (o::rest) a (w.alloc (.cells #[.int .i64 x] 3)):=by
 subst B
 refine wpList_plain C fun K R=>?_
 obtain⟨i0,hi,E,F,G⟩:=info_parts Tryz.infoInt
 have I:Step w τ (w.alloc (.cells #[.int .i64 x] 3)) τ nil:=(Step.refl w τ nil).alloc' _
 have j:Buf (w.alloc (.cells #[.int .i64 x] 3)) τ g 3 1 v l.length (i64z l):=Buf.step b.buf I (fun h=>h)
 have i:=q.alloc' (.cells #[.int .i64 x] 3)
 obtain⟨r,m,d,U,J,X,Y,L⟩:=Qap (P:=Tryz.prog) (w.alloc (.cells #[.int .i64 x] 3)) τ g 98 o.type 3 i0 (.int .i64 0) 1 8 Tryz.underlying98 hi E F G rfl (by decide) v l.length (i64z l) j
  (some ⟨w.heap.size,0,none⟩) 1 1 [.int .i64 x] rfl (fun h=>by cases h) (by
    intro ad had;cases had;exact World.news_of_block (cs:=#[.int .i64 x]) (t := 3) (fr:=(0,0)) (heap_alloc_new w _)) (by simp[Value.oneCell']) (by unfold maxLen;omega) (by omega)
 unfold Oper.wp execOp
 simp only[D,resolve,invoke,builtin,Sem.run_bind,Sem.run_pure,Result.andThen_ok,List.map_toArray,X1,List.map_nil,N,O,U]
 have M:IntsZ m d g r (l++[x]):=by
  unfold IntsZ
  rw[Z6]
  have e:i64z (l++[x])=i64z l++[.int .i64 x]:=by simp[i64z]
  rw[e];exact J
 refine R _ _ (h r m d ⟨M,fun k hk=>?_⟩ ⟨i.mod.seq Y (fun k hk Z=>absurd (b.low k Z) (by omega)),i.ext.trans X i.size⟩)
 rcases L k hk with h1|h1
 ·exact b.low k h1
 ·have:=q.size;simp at h1;omega
theorem NZ.val {n0:Nat} {v:Value} {l:List Int}(h:NZ n0 w τ g v l):∃p c,v = .slice p l.length c:=Buf.len h.buf
theorem RPoolAt0.row {H:RPoolH}(h:RPoolAt0 w τ bp H k) (h0:0<k):∃bf c,H.vf = .slice (some ⟨bf,0,none⟩) k c/\∀i,i<k->w.cell? ⟨bf,i*3,none⟩=some (.int .i64 (-1)):=by
 obtain⟨h1,⟨_,h2⟩|⟨b,cap,ys,d,e,h3,h4,h5⟩⟩:=h.fr
 ·omega
 ·refine⟨b,cap,d,fun i hi=>e.at _ ?_⟩
  rw[Y5 (by rw[Qcm];omega)]
  exact Qqm k i hi
theorem r12at {H:RPoolH}(h:RPoolAt0 w τ bp H k) (h0:0<k) :
 Calls Tryz.prog 189 #[.pointer (some ⟨bp,0,none⟩)] w fun e y=>∃v l,e = .returned v/\IntsZ y l tOut v (List.replicate k (-1))/\Step w τ y l nil:=by
 have hk:=h.k1
 have z:=Z2 h
 clear h
 go_enter Tryz.func189,Tryz.ntmps189
 go_wp2_with fail
 go_loopw [3,4] (fun m B wr=>∃(i:Nat) (o:Tags),i<=k/\B = .int .i64 (i:Int)/\NZ w.heap.size wr o tOut m (List.replicate i (-1))/\Step w τ wr o nil) (fun _ B _=>k-(intOf B).toNat)
 case atStart=>exact⟨0,τ,Z9 _,rfl,NZ.nil _ _ _ _,Step.refl _ _ _⟩
 case round =>
  obtain⟨i,o,hi,rfl,r,d⟩:=hrel
  have x:=z.out.step d (fun _ _ h=>h)
  obtain⟨bf,c,p,j⟩:=x.row h0
  have c2:=x.hd.at 2 (v:=H.vf) rfl
  rw[p] at c2
  by_cases C:i<k
  ·have ci:=j i C
   have b:(List.replicate i (-1:Int)).length=i:=Z7
   have E:=Qnk i (-1:Int)
   generalize F:List.replicate i (-1:Int)=L at *
   obtain⟨pm,cm,rfl⟩:=r.val
   rw[b] at r
   rw[b]
   obtain⟨D,q,s,J,HL⟩:=hid5 r d b E F
   clear r d b E F x p j
   go_wp2_with (at_builtin;refine Qjj q.out D.out (-1) (by rw[s.out];omega) rfl rfl _ _ rfl rfl rfl ?_;intro v' y l G I;obtain⟨M,N⟩:=hid2 G I;clear G I)
   go_round
   case rel=>exact⟨i+1,l,by omega,by simp,by rw[J.out];exact M.out,N.out⟩
   case measure=>simp[intOf];omega
  ·obtain rfl:i=k:=by omega
   obtain⟨D,q⟩:=hid2 r d
   clear r d x p j
   go_wp2_with fail
   go_returns
   exact⟨_,o,rfl,D.out.buf,q.out⟩
theorem Qze {H:RPoolH}(h:RPoolAt0 w τ bp H k) (h0:0<k) (n:Nat) (hn:n<4294967296) :
 Calls Tryz.prog 255 #[.pointer (some ⟨bp,0,none⟩),.int .u32 (n:Int)] w fun e o=>e = .returned (.int .i64 (-1))/\w=o:=by
 have hk:=h.k1
 obtain⟨bf,c,d,b⟩:=h.row h0
 have c2:=h.hd.at 2 (v:=H.vf) rfl
 rw[d] at c2
 have hwr:wrap64 (n:Int)=(n:Int):=by unfold wrap64;omega
 have hne:((-1:Int)==(n:Int))=false:=by rw[beq_eq_false_iff_ne];omega
 have j:=Z2 b
 clear b h d
 go_enter Tryz.func255,Tryz.ntmps255
 go_wp2_with fail
 go_loopw [5] (fun l wr=>∃(i:Nat),i<=k/\l = .int .i64 (i:Int)/\wr=w) (fun l _=>k-(intOf l).toNat)
 case atStart=>exact⟨0,Z9 _,rfl,rfl⟩
 case round =>
  obtain⟨i,hi,rfl,rfl⟩:=hrel
  by_cases m:i<k
  ·have ci:=j.out i m
   go_wp2_with fail
   go_round
   case rel=>exact⟨i+1,by omega,by simp,trivial⟩
   case measure=>simp[intOf];omega
  ·obtain rfl:i=k:=by omega
   go_wp2_with fail
   go_ret
   exact⟨rfl,rfl⟩
theorem Qxc {H:RPoolH}(h:RPoolAt0 w τ bp H k) (h0:0<k) :
 Calls Tryz.prog 191 #[.pointer (some ⟨bp,0,none⟩)] w fun e l=>e = .returned (.slice none 0 0)/\w=l:=by
 have hn:=h.n1
 have c1:=h.hd.at 1 (v:=.int .i64 (H.n:Int)) rfl
 have o:=fun (n:Nat) (hn:n<4294967296)=>Qze h h0 n hn
 generalize H.n=m at *
 have p:=Z2 o
 clear o h
 go_enter Tryz.func191,Tryz.ntmps191
 go_wp2_with fail
 go_loopw [3,4] (fun q d wr=>∃(i:Nat),i<=m/\d = .int .i64 (i:Int)/\q = .slice none 0 0/\wr=w) (fun _ d _=>m-(intOf d).toNat)
 case atStart=>exact⟨0,Z9 _,rfl,rfl,rfl⟩
 case round =>
  obtain⟨i,hi,rfl,rfl,rfl⟩:=hrel
  by_cases hlt:i<m
  ·have b:=p.out i (by omega)
   have hwr:=Qb1 i (by omega)
   have j:=Z2 b
   clear b
   go_wp2_with fail
   refine j.out.mono ?_
   rintro e l ⟨rfl,rfl⟩
   go_wp2_with fail
   go_round
   case rel=>exact⟨i+1,by omega,by simp,rfl,trivial⟩
   case measure=>simp[intOf];omega
  ·obtain rfl:i=m:=by omega
   go_wp2_with fail
   go_ret
   exact⟨rfl,rfl⟩
theorem LogTag.fst(h:LogTag g):10<=g.1/\g.1<=12:=by rcases h with rfl|rfl|rfl <;> simp[tLog,Qah,Qag]
theorem DevTag.fst(h:DevTag g):2<=g.1/\g.1<=5:=by rcases h with h|h|h|h <;> omega
theorem RDevTag.fst(h:RDevTag g):40<=g.1/\g.1<=42:=by rcases h with h|h|h <;> omega
theorem RLogTag.fst(h:RLogTag g):50<=g.1/\g.1<=52:=by rcases h with rfl|rfl|rfl <;> simp[tRLog,Qee,Qef]
theorem RPoolTag.fst(h:RPoolTag g):60<=g.1/\g.1<=62:=by rcases h with rfl|rfl|rfl <;> simp[Qdc,tRFr,tRClk]
theorem PoolTag.fst(h:PoolTag g):g.1=20\/(30<=g.1/\g.1<=33):=by rcases h with rfl|rfl|rfl|rfl|⟨i,rfl⟩ <;> simp[tPool,tFr,tWhere,tClk,tPg]
theorem WalTag.fst(h:WalTag g):2<=g.1/\g.1<=12:=by
 rcases h with h|h
 ·have:=h.fst;omega
 ·have:=h.fst;omega
theorem RWalTag.fst(h:RWalTag g):40<=g.1/\g.1<=52:=by
 rcases h with h|h
 ·have:=h.fst;omega
 ·have:=h.fst;omega
theorem Qf6:tData.1=1:=rfl
def AnyTag (g:Tag):Prop:=g.1≠90
theorem Qiv {d:World} {b:Tags}(h:Step w (fun _=>tBox) d b AnyTag):Mod w d no :=
 ⟨h.mod.os,h.mod.tape,h.mod.output,h.mod.size,fun k hk _=>h.mod.block k hk (fun e=>e rfl)⟩
theorem Qru (D:Dev) (k:Nat) (l:List Int):(D.write 0 k l).f1=D.f1:=by
 unfold Dev.write
 have b:D.go.2.f1=D.f1:=Dev.go_file D 1
 split
 ·split
  ·exact b
  ·rfl
 ·exact b
theorem Quu (D:Dev):(D.sync 0).f1=D.f1:=by
 unfold Dev.sync
 have b:D.go.2.f1=D.f1:=Dev.go_file D 1
 split <;> exact b
theorem Qpk (D:Dev) (a:Nat) (want:List (List Int)) (i:Nat):(Qa7 D a want i).1.f1=D.f1:=by
 induction i with
 | zero=>rfl
 | succ i ih =>
   show (if _ then Qa7 D a want i else _).1.f1=_
   split
   ·exact ih
   ·rw[Qru,ih]
theorem Qot (D:Dev):(Qbl D).f1=D.f1:=by
 unfold Qbl Qf9
 rw[Quu,Qru]
 unfold Dev.make
 split
 ·rw[Quu,Qpk]
 ·rw[Qpk]
theorem Qsp {D:Dev} {m:Nat}(h:D.f1=List.replicate m zsec) (i:Nat) (hi:4*i+4<=m):lastTo D i 4=blank:=by
 apply List.ext_getElem?
 intro j
 unfold lastTo blank
 rw[List.getElem?_map,List.getElem?_replicate]
 by_cases b:j<4
 ·rw[List.getElem?_range b,if_pos b]
  show some (D.last 1 (4*i+j))=some Qff
  unfold Dev.last
  have:D.file 1=D.f1:=rfl
  rw[this,h,List.getElem?_replicate,if_pos (by omega)]
  rfl
 ·rw[List.getElem?_eq_none (by simp;omega),if_neg b];rfl
theorem Qzq (a b:Nat):(⟨List.replicate a zsec,List.replicate b zsec,none,false⟩:Dev).lim 0:=by
 intro f k s hk
 unfold Dev.file at hk
 split at hk
 ·rw[List.getElem?_replicate] at hk
  split at hk
  ·cases hk;exact Z0 _
  ·cases hk
 ·split at hk
  ·rw[List.getElem?_replicate] at hk
   split at hk
   ·cases hk;exact Z0 _
   ·cases hk
  ·simp at hk
