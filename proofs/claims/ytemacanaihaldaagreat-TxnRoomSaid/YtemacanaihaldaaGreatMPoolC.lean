/-
 Pools: New over homes that are whole.
-/
import Derived.Test.YtemacanaihaldaaGreatMPool
set_option maxRecDepth 100000
set_option maxHeartbeats 16000000
set_option linter.all false
namespace Go.Proofs.YtemacanaihaldaaGreat
variable {W w:World}{τ:Tags}
open Go.RowKit
structure Fr where
 pg:Option (Nat×List Int)
 n:Nat
 first:Nat
def Fr.cells (f:Fr):List Value:=[.pointer (f.pg.map (fun x=>(⟨x.1,0,none⟩:Addr))),.int .u32 (f.n:Int),.int .u64 (f.first:Int)]
def Qao (F:List Fr):List Value:=F.flatMap Fr.cells
def Fr.no:Fr:=⟨none,0,0⟩
def Fr.has (f:Fr) (n:Nat):Bool:=f.pg.isSome && f.n==n
def Qaq (F:List Fr) (n:Nat):Option Nat:=F.findIdx? (fun f=>f.has n)
theorem Qmg (F:List Fr):(Qao F).length=F.length*3:=by
 induction F with
 | nil=>rfl
 | cons f F ih =>
   show (f.cells++Qao F).length=_
   rw[Z6,ih,Y4]
   simp only[Fr.cells,Y4,List.length_nil];omega
theorem Qci (F:List Fr) (i j:Nat) (hj:j<3) (hi:i<F.length):(Qao F)[i*3+j]?=(F[i]).cells[j]?:=by
 induction F generalizing i with
 | nil=>simp at hi
 | cons f F ih =>
   show (f.cells++Qao F)[i*3+j]?=_
   have hl:f.cells.length=3:=rfl
   cases i with
   | zero=>rw[Y5 (by rw[hl];omega)];simp
   | succ i =>
     rw[Y6 (by rw[hl];omega),hl,show (i+1)*3+j-3=i*3+j by omega,ih i (by simpa using hi)]
     rfl
theorem Qrf (k:Nat):madeCells #[Value.pointer none,.int .u32 0,.int .u64 0] (k*3)=(Qao (List.replicate k Fr.no)).toArray:=by
 apply Array.ext_getElem?
 intro i
 by_cases hi:i<k*3
 ·rw[Ck.made_get _ _ _ hi]
  have e:i=i/3*3+i%3:=by omega
  rw[List.getElem?_toArray]
  conv=>rhs;rw[e]
  rw[Qci _ _ _ (by omega) (by rw[Z7];omega),List.getElem_replicate]
  show some (#[Value.pointer none,.int .u32 0,.int .u64 0][i%3]!)=_
  have:i%3=0\/i%3=1\/i%3=2:=by omega
  rcases this with h|h|h <;> rw[h] <;> rfl
 ·have r:(Qao (List.replicate k Fr.no)).toArray[i]?=none:=by
   rw[List.getElem?_toArray]
   exact List.getElem?_eq_none (by rw[Qmg,Z7];omega)
  have l:(madeCells #[Value.pointer none,.int .u32 0,.int .u64 0] (k*3))[i]?=none:=by
   unfold madeCells
   rw[Array.getElem?_map,Array.getElem?_range,if_neg hi];rfl
  rw[l,r]
theorem Qma (k:Nat) (hk:k<=64) (W:World):(Instr.makeSlice 135 (.int .i64 (k:Int)) (.int .i64 (k:Int))).run Tryz.prog W =
 .ok (.slice (some ⟨W.heap.size,0,none⟩) k k) (W.alloc (.cells (Qao (List.replicate k Fr.no)).toArray 148)):=by
 obtain⟨i,hi,b,d,e⟩:=info_parts Ck.zeroFrame_row
 have:=run_make (P:=Tryz.prog) W 135 148 i (.agg #[.pointer none,.int .u32 0,.int .u64 0]) Tryz.underlying135 hi b .i64 .i64 k k (by omega) (Int.le_refl _) (by rw[e];omega) (by omega)
 simp only[Int.toNat_natCast,d] at this
 rw[<-Qrf]
 exact this
structure PoolAt (w:World) (τ:Tags) (bp bf:Nat) (H:PoolH) (F:List Fr) (s:Ck.Clk.St):Prop where
 hd:Qji w τ bp H
 vf:H.vf = .slice (some ⟨bf,0,none⟩) F.length F.length
 fr:Own w τ bf tFr 148 (Qao F)
 pg:∀i b P,(F[i]?).bind Fr.pg=some (b,P)->PageAt w τ (tPg i) b P
 mp:MapIs w τ H.bm tWhere H.n (Qaq F)
 ck:ClkAt w τ H.bc s
 n1:1<=H.n/\H.n<=512
 k1:3<=F.length/\F.length<=64
 sn:s.n=F.length
 st:H.st<18446744073709551616
 one:∀(i j n:Nat) (f g:Fr),F[i]?=some f->F[j]?=some g->f.has n=true->g.has n=true->i=j
 low:∀(i n:Nat) (f:Fr),F[i]?=some f->f.has n=true->n<H.n
def PoolTag (g:Tag):Prop:=g=tPool\/g=tFr\/g=tWhere\/g=tClk\/∃i,g=tPg i
theorem PoolAt.step {j:World} {d:Tags} {S:Tag->Prop} {bp bf:Nat} {H:PoolH} {F:List Fr} {s:Ck.Clk.St}(h:PoolAt w τ bp bf H F s) (m:Step w τ j d S) (e:∀g,PoolTag g->¬S g):PoolAt j d bp bf H F s :=
 ⟨h.hd.step m (e _ (.inl rfl)),h.vf,h.fr.step m (e _ (.inr (.inl rfl))),fun i b P k=>(h.pg i b P k).step m (e _ (.inr (.inr (.inr (.inr ⟨i,rfl⟩))))),h.mp.step m (e _ (.inr (.inr (.inl rfl)))),h.ck.step m (e _ (.inr (.inr (.inr (.inl rfl))))),h.n1,h.k1,h.sn,h.st,h.one,h.low⟩
theorem PoolAt.setSt {bp bf:Nat} {H:PoolH} {F:List Fr} {s:Ck.Clk.St}(h:PoolAt w τ bp bf H F s) (n:Nat) (hn:n<18446744073709551616):PoolAt (w.setCell ⟨bp,5,none⟩ (.int .u64 (n:Int))) τ bp bf {H with st:=n} F s:=by
 have m:Step w τ (w.setCell ⟨bp,5,none⟩ (.int .u64 (n:Int))) τ (fun g=>g=tPool):=(Step.refl w τ (fun g=>g=tPool)).set h.hd.tag rfl _
 exact⟨h.hd.set 5 _,h.vf,h.fr.step m (by decide),fun i b P d=>(h.pg i b P d).step m (by simp[tPg,tPool]),h.mp.step m (by decide),h.ck.step m (by decide),h.n1,h.k1,h.sn,hn,h.one,h.low⟩
theorem Qr4 {P:Program}(W:World) (ts:Array TypeId) (t:TypeId) (x y m:Nat) (b:m=max x y):(Builtin.max_ ts t #[.int .u64 (x:Int),.int .u64 (y:Int)]).run P W = .ok (.int .u64 (m:Int)) W:=by
 rw[run_max_int2]
 congr 2
 subst b
 split <;> omega
theorem Qzt {l:List Int}(h:IsB l):lowMark l<18446744073709551616/\highMark l<18446744073709551616:=by
 have h1:=Qle (fun x b=>h x (List.mem_of_mem_drop (List.mem_of_mem_take b))) (l:=(l.drop 0).take (8-0)) 8
 have h2:=Qle (fun x b=>h x (List.mem_of_mem_drop (List.mem_of_mem_take b))) (l:=(l.drop 120).take (128-120)) 8
 have e:(2:Nat) ^ (8*8)=18446744073709551616:=by decide
 rw[e] at h1 h2
 exact⟨h1,h2⟩
theorem Qto {ls:List (List Int)}(h:∀x∈ls,IsB x) (i:Nat) (hi:i<=ls.length):greatTo ls i<18446744073709551616:=by
 induction i with
 | zero=>show 0<_;omega
 | succ i ih =>
   have b:IsB (ls.getD i []):=by
    rw[Z5,Z3 (by omega)]
    exact h _ (List.getElem_mem _)
   have h1:=Qzt b
   have h2:=ih (by omega)
   show max (max (greatTo ls i) _) _<_
   omega
def stampTo (D:Dev):Nat->Nat
 | 0=>0
 | i+1=>max (stampTo D i) (greatTo (lastTo D i 4) 4)
structure Grew (k:Nat) (w W:World) (f m c:Option Nat):Prop where
 mod:Mod w W no
 f:∀b,f=some b->w.heap.size<=b/\W.heap[b]?=some (.cells (Qao (List.replicate k Fr.no)).toArray 148 (0,0))
 m:∀b,m=some b->w.heap.size<=b/\W.heap[b]?=some (.map #[] 0)
 c:∀b,c=some b->w.heap.size<=b/\∃q,w.heap.size<=q/\Ck.PC W b q (Ck.Clk.newS k)
theorem kept_alloc {b:Nat} {o d:Obj}(h:W.heap[b]?=some o):(W.alloc d).heap[b]?=some o:=by
 rw[Below.heap_alloc _ _ _ (Array.getElem?_eq_some_iff.1 h).1];exact h
theorem Grew.start (k:Nat) (w:World):Grew k w w none none none:=⟨Mod.refl _ _,by simp,by simp,by simp⟩
theorem Qom (W:World) (o:Obj):Ck.Mod W (W.alloc o) []:=(Ck.Mod.refl W []).alloc o
theorem Grew.slice {k:Nat} {m c:Option Nat}(h:Grew k w W none m c):Grew k w (W.alloc (.cells (Qao (List.replicate k Fr.no)).toArray 148)) (some W.heap.size) m c :=
 ⟨h.mod.alloc _,fun b d=>by cases d;exact⟨h.mod.size,heap_alloc_new W _⟩,fun b d=>⟨(h.m b d).1,kept_alloc (h.m b d).2⟩,fun b d=>by
  obtain⟨e,q,a2,a3⟩:=h.c b d
  exact⟨e,q,a2,a3.mod (Qom W _) (by simp) (by simp)⟩⟩
theorem Grew.map {k:Nat} {f c:Option Nat}(h:Grew k w W f none c):Grew k w (W.alloc (.map #[] 0)) f (some W.heap.size) c :=
 ⟨h.mod.alloc _,fun b d=>⟨(h.f b d).1,kept_alloc (h.f b d).2⟩,fun b d=>by cases d;exact⟨h.mod.size,heap_alloc_new W _⟩,fun b d=>by
  obtain⟨e,q,a2,a3⟩:=h.c b d
  exact⟨e,q,a2,a3.mod (Qom W _) (by simp) (by simp)⟩⟩
theorem Grew.clk {k:Nat} {wc:World} {f m:Option Nat}(h:Grew k w W f m none) (j:Ck.PC wc (W.drew.heap.size+1) W.drew.heap.size (Ck.Clk.newS k)) (e:Ck.Mod W.drew wc []):Grew k w wc f m (some (W.heap.size+1)):=by
 have l:Mod W wc no:=⟨e.os,e.tape,e.output,e.size,fun k hk _=>e.block k hk (by simp)⟩
 have hk:∀(b:Nat) (o:Obj),W.heap[b]?=some o->wc.heap[b]?=some o:=fun b o i=>by
  rw[e.block b (Array.getElem?_eq_some_iff.1 i).1 (by simp)];exact i
 refine⟨h.mod.trans l,fun b d=>⟨(h.f b d).1,hk _ _ (h.f b d).2⟩,fun b d=>⟨(h.m b d).1,hk _ _ (h.m b d).2⟩,fun b d=>?_⟩
 cases d
 exact⟨Y3 h.mod.size (Nat.le_add_right _ _),W.drew.heap.size,h.mod.size,j⟩
theorem Qp3 (k:Nat):Qaq (List.replicate k Fr.no)=fun _=>none:=by
 funext n
 unfold Qaq
 rw[List.findIdx?_eq_none_iff]
 intro x b
 rw[(List.mem_replicate.1 b).2];rfl
theorem Qvf {k i n:Nat} {f:Fr}(b:(List.replicate k Fr.no)[i]?=some f) (hh:f.has n=true):False:=by
 rw[List.getElem?_replicate] at b
 split at b
 ·cases b;simp[Fr.has,Fr.no] at hh
 ·cases b
theorem Grew.pool {k:Nat} {bf bm bc:Nat}(h:Grew k w W (some bf) (some bm) (some bc)) (τ:Tags) (bl n:Nat) (h1:1<=n) (y:n<=512) (z:3<=k) (p:k<=64) {bf' bm' bc' bp':Nat}(B:bf'=bf) (em:bm'=bm) (C:bc'=bc) (D:bp'=W.heap.size) :
 ∃d H bp bf,PoolAt (W.alloc (.cells #[.pointer (some ⟨bl,0,none⟩),.int .i64 (n:Int),.slice (some ⟨bf',0,none⟩) k k,.map (some bm'),.pointer (some ⟨bc',0,none⟩),.int .u64 0] 140)) d bp bf H (List.replicate k Fr.no) (Ck.Clk.newS k) /\
   bp=bp'/\H.bl=bl/\H.n=n/\H.st=0/\w.heap.size<=bp/\Step w τ (W.alloc (.cells #[.pointer (some ⟨bl,0,none⟩),.int .i64 (n:Int),.slice (some ⟨bf',0,none⟩) k k,.map (some bm'),.pointer (some ⟨bc',0,none⟩),.int .u64 0] 140)) d nil:=by
 subst B em C D
 obtain⟨f1,f2⟩:=h.f _ rfl
 obtain⟨m1,m2⟩:=h.m _ rfl
 obtain⟨c1,q,E,l⟩:=h.c _ rfl
 have lf:=(Array.getElem?_eq_some_iff.1 f2).1
 have lm:=(Array.getElem?_eq_some_iff.1 m2).1
 have lc:=Ck.cell_lt l.c0
 have lq:=Ck.cell_lt (l.ct 0 l.n1)
 have o:W.cell? ⟨bf',0,none⟩=some (.pointer none):=by
  have:=Qci (List.replicate k Fr.no) 0 0 (by omega) (by rw[Z7];omega)
  simp only[World.cell?,f2]
  rw[List.getElem?_toArray,this,List.getElem_replicate];rfl
 have n1:bf'≠bm':=fun e=>by rw[e,m2] at f2;cases f2
 have F:bf'≠bc':=fun e=>by have:=l.c0;rw[<-e,o] at this;cases this
 have G:bf'≠q:=fun e=>by have:=l.ct 0 l.n1;rw[<-e,Nat.zero_mul,o] at this;cases this
 have n4:bm'≠bc':=fun e=>by have:=l.c0;rw[<-e] at this;simp[World.cell?,m2] at this
 have n5:bm'≠q:=fun e=>by have:=l.ct 0 l.n1;rw[<-e] at this;simp[World.cell?,m2] at this
 have n6:=l.ne
 generalize I:(Obj.cells #[.pointer (some ⟨bl,0,none⟩),.int .i64 (n:Int),.slice (some ⟨bf',0,none⟩) k k,.map (some bm'),.pointer (some ⟨bc',0,none⟩),.int .u64 0] 140)=O
 let d:Tags:=((((τ.put bf' tFr).put bm' tWhere).put bc' tClk).put q tClk).put W.heap.size tPool
 have t0:d W.heap.size=tPool:=Tags.put_same _ _ _
 have t1:d bf'=tFr:=by simp only[d,Tags.put];rw[if_neg (by omega),if_neg G,if_neg F,if_neg n1,if_pos trivial]
 have t2:d bm'=tWhere:=by simp only[d,Tags.put];rw[if_neg (by omega),if_neg n5,if_neg n4,if_pos trivial]
 have t3:d bc'=tClk:=by simp only[d,Tags.put];rw[if_neg (by omega),if_neg n6,if_pos trivial]
 have t4:d q=tClk:=by simp only[d,Tags.put];rw[if_neg (by omega),if_pos trivial]
 have hmap:=MapIs.made w τ tWhere n
 refine⟨d,⟨bl,n,.slice (some ⟨bf',0,none⟩) k k,bm',bc',0⟩,W.heap.size,bf',⟨⟨by subst I;exact heap_alloc_new W _,t0⟩,by rw[Z7],⟨kept_alloc f2,t1⟩,?_,?_,⟨t3,q,l.mod (Qom W _) (by simp) (by simp),t4⟩,⟨h1,y⟩,by rw[Z7];exact⟨z,p⟩,by rw[Z7];rfl,by simp,fun i j n f g r _ hh _=>(Qvf r hh).elim,fun i n f r hh=>(Qvf r hh).elim⟩,rfl,rfl,rfl,rfl,h.mod.size,?_⟩
 ·intro i b P s
  rw[List.getElem?_replicate] at s
  split at s <;> simp[Fr.no] at s
 ·rw[Qp3]
  refine⟨t2,0,.map [],⟨#[],0,kept_alloc m2,?_,by simp,rfl⟩,fun kl h=>by simp[Maps.has] at h,fun k=>by simp[Maps.has],fun k v h=>by simp at h⟩
  obtain⟨es,c,J,a2,a3,a4⟩:=World.ownsMap_made (H:=Unit) w Tryz.prog 36 rdInt
  have x:=heap_alloc_new w (.map #[] 0)
  rw[J] at x
  cases x
  exact a2
 ·refine⟨h.mod.alloc _ |>.mono (fun _ _ h=>h.elim),?_⟩
  exact(((((Ext.refl w τ).put _ _ f1).put _ _ m1).put _ _ c1).put _ _ E).put _ _ h.mod.size
theorem Qmm {bd:Nat} {D:Dev}(h:DevAt w τ bd D) (i:Nat) (hi:4*i<=D.f1.length):stampTo D i<18446744073709551616:=by
 induction i with
 | zero=>show 0<_;omega
 | succ i ih =>
   have h1:=Qto (ls:=lastTo D i 4) (fun x b=>by
    obtain⟨k,hk,rfl⟩:=List.mem_map.1 b
    exact(h.last128 1 (4*i+k) (by have:=List.mem_range.1 hk;show _<D.f1.length;omega)).2) 4 (by rw[Qbe];exact Z0 _)
   have h2:=ih (by omega)
   show max _ _<_
   omega
theorem Jc9 {S:Tag->Prop} {bl bd:Nat} {L:LogM} {Di:Nat->Dev} {m:Nat}(hl:LogAt w τ bl bd L) (hd:DevAt w τ bd (Di 0)) (n k:Nat) (h1:1<=n) (h5:n<=512) (h3:3<=k) (l:k<=64) (hm:∀i,(Di i).f1.length=m) (hn:4*(n+1)<=m) (ag:∀g,PoolTag g->¬S g) (ah:∀g,LogTag g->¬S g)
 (B:∀i,i<n->∀(W:World) (T:Tags) (bp:Nat) (H:PoolH),Qji W T bp H->H.n=n->LogAt W T H.bl bd L->DevAt W T bd (Di i)->Calls Tryz.prog 63 #[.pointer (some ⟨bp,0,none⟩),.int .i64 (i:Int)] W fun e G=>e = .returned (.bool true)/\∃q,DevAt G q bd (Di (i+1))/\Step W T G q S) :
 Calls Tryz.prog 14 #[.pointer (some ⟨bl,0,none⟩),.int .i64 (n:Int),.int .i64 (k:Int)] w fun e G=>∃bp bf q H,e = .returned (.tuple #[.pointer (some ⟨bp,0,none⟩),.int .u16 0])/\PoolAt G q bp bf H (List.replicate k Fr.no) (Ck.Clk.newS k)/\H.bl=bl/\H.n=n/\H.st=stampTo (Di n) (n+1)/\w.heap.size<=bp/\DevAt G q bd (Di n)/\Step w τ G q S:=by
 have N:=Qlz w (n:Int) 1 512
 rw[decide_eq_true (show (1:Int)<=(n:Int) by omega),decide_eq_true (show (n:Int)<=512 by omega),Bool.and_self] at N
 have O:=Qlz w (k:Int) 3 64
 rw[decide_eq_true (show (3:Int)<=(k:Int) by omega),decide_eq_true (show (k:Int)<=64 by omega),Bool.and_self] at O
 have ai:=Qv5 hl
 have R:=Qjs hd 1 (by omega)
 have b9:(Di 0).file 1=(Di 0).f1:=rfl
 have aj:=hd.length 1
 rw[b9,hm] at R aj
 have hfr:=Qma k l
 have hmm:=@run_makeMap Tryz.prog
 have ak:=fun w=>Ck.new_ok w k (by omega) l
 have a1:decide ((m:Int)<4*((n:Int)+1))=false:=by simp;omega
 obtain⟨ba,bb,bc,be,Hl,Hd,bg,U,bh,al,Hm⟩:=hid11 N O ai R hl hd ak B ag ah hm
 clear N O ai R hl hd ak B ag ah hm
 go_enter Tryz.func14,Tryz.ntmps14
 go_wp2_with fail
 refine ba.out.mono ?_
 rintro e G ⟨rfl,rfl⟩
 go_wp2_with fail
 refine bb.out.mono ?_
 rintro e G ⟨rfl,rfl⟩
 go_wp2_with fail
 refine bc.out.mono ?_
 rintro e G ⟨rfl,rfl⟩
 go_wp2_with fail
 refine be.out.mono ?_
 rintro e G ⟨rfl,rfl⟩
 go_wp2_with fail
 go_region_law (first
  | (go_simp
     go_at_call 62
     refine(bg.out _).mono ?_
     rintro e wc ⟨rfl,am,an⟩
     obtain⟨r,s⟩:=hid2 am an
     clear am an))
 all_goals (first
  | (have hG:=Grew.pool ((Grew.start k w).slice.map.clk r.out s.out) τ bl n h1 h5 h3 l (bf':=w.heap.size) (bm':=w.heap.size+1) (bc':=w.heap.size+1+1+1) (bp':=wc.heap.size) (by simp) (by simp) (by simp) (by simp))
  | (have hG:=Grew.pool ((Grew.start k w).slice.clk r.out s.out).map τ bl n h1 h5 h3 l (bf':=w.heap.size) (bm':=wc.heap.size) (bc':=w.heap.size+1+1) (bp':=wc.heap.size+1) (by simp) (by simp) (by simp) (by simp))
  | (have hG:=Grew.pool ((Grew.start k w).map.slice.clk r.out s.out) τ bl n h1 h5 h3 l (bf':=w.heap.size+1) (bm':=w.heap.size) (bc':=w.heap.size+1+1+1) (bp':=wc.heap.size) (by simp) (by simp) (by simp) (by simp))
  | (have hG:=Grew.pool ((Grew.start k w).map.clk r.out s.out).slice τ bl n h1 h5 h3 l (bf':=wc.heap.size) (bm':=w.heap.size) (bc':=w.heap.size+1+1) (bp':=wc.heap.size+1) (by simp) (by simp) (by simp) (by simp))
  | (rw[show ((wc.alloc (.cells (Qao (List.replicate k Fr.no)).toArray 148)).alloc (.map #[] 0))=((wc.alloc (.cells (Qao (List.replicate k Fr.no)).toArray 148)).alloc (.map #[] 0)) from rfl];have hG:=Grew.pool ((Grew.start k w).clk r.out s.out).slice.map τ bl n h1 h5 h3 l (bf':=wc.heap.size) (bm':=wc.heap.size+1) (bc':=w.heap.size+1) (bp':=wc.heap.size+1+1) (by simp) (by simp) (by simp) (by simp))
  | (rw[show ((wc.alloc (.map #[] 0)).alloc (.cells (Qao (List.replicate k Fr.no)).toArray 148))=((wc.alloc (.map #[] 0)).alloc (.cells (Qao (List.replicate k Fr.no)).toArray 148)) from rfl];have hG:=Grew.pool ((Grew.start k w).clk r.out s.out).map.slice τ bl n h1 h5 h3 l (bf':=wc.heap.size+1) (bm':=wc.heap.size) (bc':=w.heap.size+1) (bp':=wc.heap.size+1+1) (by simp) (by simp) (by simp) (by simp))
  )
 all_goals obtain⟨τ1,H,bp,bf,ao,ap,X,aq,bi,J,ar⟩:=hG
 all_goals rw[<-ap]
 all_goals clear ap
 all_goals (obtain⟨bj,av⟩:=hid2 ao ar;clear ao ar)
 all_goals (
  go_wp2_with fail
  go_loopw [38] (fun v wr=>∃(i:Nat) (b:Tags),i<=n/\v = .int .i64 (i:Int)/\PoolAt wr b bp bf H (List.replicate k Fr.no) (Ck.Clk.newS k)/\DevAt wr b bd (Di i)/\Step w τ wr b S) (fun v _=>n-(intOf v).toNat)
  case atStart=>exact⟨0,τ1,Z9 _,rfl,bj.out,Hd.out.step av.out (fun _ h=>h.elim),av.out.mono (fun _ h=>h.elim)⟩
  case round =>
   obtain⟨i,b,hi,rfl,x,Y,d⟩:=hrel
   by_cases aw:i<n
   ·have ax:=U.out i aw wr b bp H x.hd aq (by rw[X];exact Hl.out.step d al.out) Y
    obtain⟨bk,Hp,p⟩:=hid3 ax x d
    clear ax x d
    go_wp2_with fail
    refine bk.out.mono ?_
    rintro e w2 ⟨rfl,C,ay,y⟩
    obtain⟨D,bm⟩:=hid2 y ay
    clear y ay
    go_wp2_with fail
    go_round
    case rel=>exact⟨i+1,C,by omega,by simp,Hp.out.step D.out bh.out,bm.out,p.out.trans D.out⟩
    case measure=>simp[intOf];omega
   ·have bn:i=n:=by omega
    subst bn
    have az:PoolAt wr b bp bf {H with st:=stampTo (Di i) 0} (List.replicate k Fr.no) (Ck.Clk.newS k):=by
     have e:({H with st:=stampTo (Di i) 0}:PoolH)=H:=by rw[show stampTo (Di i) 0=H.st from bi.symm]
     rw[e];exact x
    obtain⟨Hp,p,bo,bq⟩:=hid4 x d az Y
    clear x d az Y
    go_wp2_with fail
    go_loopw [48] (fun v wr=>∃(j:Nat) (b:Tags),j<=i+1/\v = .int .i64 (j:Int)/\PoolAt wr b bp bf {H with st:=stampTo (Di i) j} (List.replicate k Fr.no) (Ck.Clk.newS k)/\DevAt wr b bd (Di i)/\Step w τ wr b S) (fun v _=>i+1-(intOf v).toNat)
    case atStart=>exact⟨0,b,Z9 _,rfl,bo.out,bq.out,p.out⟩
    case round =>
     obtain⟨j,b,hj,rfl,x,z,d⟩:=hrel
     by_cases aw:j<i+1
     ·have M:=Qfi x.hd.drew (by show LogAt _ _ H.bl _ _;rw[X];exact Hl.out.step d.drew al.out) (z.step (Step.refl wr b nil).drew (fun _ h=>h.elim)) j (by rw[Hm.out];omega)
      have E:stampTo (Di i) (j+1)=max (stampTo (Di i) j) (greatTo (lastTo (Di i) j 4) 4):=rfl
      have hmx:=fun (W:World) (ts:Array TypeId) (t:TypeId)=>Qr4 (P:=Tryz.prog) W ts t _ _ _ E
      have F:=Qmm z (j+1) (by rw[Hm.out];omega)
      have c5:=x.hd.at 5 (v:=.int .u64 (stampTo (Di i) j:Int)) rfl
      obtain⟨b0,Hp,p,Z,a6⟩:=hid5 M x d F z
      clear M x d F z
      generalize br:stampTo (Di i) (j+1)=s1 at *
      generalize hS0:stampTo (Di i) j=s0 at *
      go_wp2_with fail
      go_region_law (first
       | (go_simp
          go_at_call 65
          refine b0.out.mono ?_
          rintro e w2 ⟨u2,C,rfl,a7,y⟩
          have a8:=(Hp.out.step (Step.refl wr b nil).drew (fun _ _ h=>h)).step y (fun _ _ h=>h)
          have d5:=a8.hd.at 5 (v:=.int .u64 (s0:Int)) rfl
          have aa:=Qpn a7.row
          rw[Qbe] at aa
          obtain⟨pu,cu,rfl⟩:=a7.val
          obtain⟨bs,D,bv⟩:=hid3 a8 y aa
          clear a8 y aa
          clear a7)
       | (go_simp
          go_at_call 64
          refine bv.out.mono ?_
          rintro e w3 ⟨rfl,b2⟩
          have ab:=Step.of nil b2 (Ext.refl _ C)
          have I:=bs.out.step ab (fun _ _ h=>h)
          have e5:=I.hd.at 5 (v:=.int .u64 (s0:Int)) rfl
          have f5:=I.hd.fz 5
          obtain⟨b3,b4⟩:=hid2 I ab
          clear I ab
          clear b2))
      all_goals (
       have b5:=b3.out.setSt (max s0 (greatTo (lastTo (Di i) j 4) 4)) (by rw[<-E];exact Z.out)
       have bw:=((a6.out.step (Step.refl wr b nil).drew (fun _ h=>h.elim)).step D.out (fun _ h=>h.elim)).step b4.out (fun _ h=>h.elim)
       have b6:=(p.out.drew.trans ((D.out.trans b4.out).mono (fun _ h=>h.elim))).setNew (o:=5) J (.int .u64 ((max s0 (greatTo (lastTo (Di i) j 4) 4):Nat):Int))
       have b7:=bw.step ((Step.refl _ C (fun g=>g=tPool)).set (o:=5) b3.out.hd.tag rfl (.int .u64 ((max s0 (greatTo (lastTo (Di i) j 4) 4):Nat):Int))) (fun g hg=>by subst hg;exact⟨by simp[DevTag,tPool],by decide⟩)
       obtain⟨bz,c3,c4⟩:=hid3 b5 b6 b7
       clear b5 b6 b7
       go_wp2_with fail
       go_round)
      all_goals first
       | exact⟨j+1,C,by omega,by simp,by rw[br,E];exact bz.out,c4.out,c3.out⟩
       | (simp[intOf];omega)
     ·obtain rfl:j=i+1:=by omega
      obtain⟨Hp,p,a6⟩:=hid3 x d z
      clear x d z
      go_wp2_with fail
      go_ret2
      exact⟨bp,bf,b,_,rfl,Hp.out,X,aq,rfl,J,a6.out,p.out⟩)
theorem Qkv {bl bd:Nat} {L:LogM} {D:Dev}(hl:LogAt w τ bl bd L) (hd:DevAt w τ bd D) (n k:Nat) (h1:1<=n) (p:n<=512) (q:3<=k) (l:k<=64) (hn:4*(n+1)<=D.f1.length) (r:∀i,i<n->Qb3 (lastTo D i 4)=true) :
 Calls Tryz.prog 14 #[.pointer (some ⟨bl,0,none⟩),.int .i64 (n:Int),.int .i64 (k:Int)] w fun e j=>∃bp bf b H,e = .returned (.tuple #[.pointer (some ⟨bp,0,none⟩),.int .u16 0])/\PoolAt j b bp bf H (List.replicate k Fr.no) (Ck.Clk.newS k)/\H.bl=bl/\H.n=n/\H.st=stampTo D (n+1)/\w.heap.size<=bp/\Step w τ j b nil:=by
 refine(Jc9 (S:=nil) (Di:=fun _=>D) hl hd n k h1 p q l (fun _=>rfl) hn (fun _ _ h=>h) (fun _ _ h=>h) (fun i hi W T bp H s _ m d=>?_)).mono ?_
 ·refine(Qxk s m d i (by omega) (r i hi)).mono ?_
  rintro e j ⟨rfl,b,o⟩
  exact⟨rfl,b,d.step o (fun _ h=>h.elim),o⟩
 ·rintro e j ⟨bp,bf,b,H,x,y,z,B,C,E,-,F⟩
  exact⟨bp,bf,b,H,x,y,z,B,C,E,F⟩
