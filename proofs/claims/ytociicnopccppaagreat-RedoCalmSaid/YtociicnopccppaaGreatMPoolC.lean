/-
 Pools: New over homes that are whole.
-/
import Derived.Test.YtociicnopccppaaGreatMPool
set_option maxRecDepth 100000
set_option maxHeartbeats 16000000
set_option linter.all false
namespace Go.Proofs.YtociicnopccppaaGreat
variable {W w:World}{k:Nat}{τ:qa1}
open Go.RowKit
structure Fr where
 pg:Option (Nat×List Int)
 n:Nat
 first:Nat
def Fr.cells (f:Fr):List Value:=[.pointer (f.pg.map (fun x=>(⟨x.1,0,none⟩:Addr))),.int .u32 f.n,.int .u64 f.first]
def Qao (F:List Fr):List Value:=F.flatMap Fr.cells
def Fr.no:Fr:=⟨none,0,0⟩
def Fr.has (f:Fr) (n:Nat):Bool:=f.pg.isSome && f.n==n
def Qaq (F:List Fr) (n:Nat):Option Nat:=F.findIdx? (fun f=>f.has n)
theorem Qmg (F:List Fr):(Qao F).length=F.length*3:=by
 induction F with
 | nil=>rfl
 | cons f F ih =>
   show (f.cells++Qao F).length=_
   rw[Z6,ih,Y4]
   simp only[Fr.cells,Y4,List.length_nil];omega
theorem Qci (F:List Fr) (i j:Nat) (hj:j<3) (hi:i<F.length):(Qao F)[i*3+j]?=(F[i]).cells[j]?:=by
 induction F generalizing i with
 | nil=>simp at hi
 | cons f F ih =>
   show (f.cells++Qao F)[i*3+j]?=_
   have hl:f.cells.length=3:=rfl
   cases i with
   | zero=>rw[Y5 (by rw[hl];omega)];simp
   | succ i =>
     rw[Y6 (by rw[hl];omega),hl,show (i+1)*3+j-3=i*3+j by omega,ih i (by simpa using hi)]
     rfl
theorem Qrf (k:Nat):madeCells #[Value.pointer none,.int .u32 0,.int .u64 0] (k*3)=(Qao (List.replicate k Fr.no)).toArray:=by
 apply Array.ext_getElem?
 intro i
 by_cases hi:i<k*3
 ·rw[Ck.qda _ _ _ hi]
  have e:i=i/3*3+i%3:=oM
  rw[List.getElem?_toArray]
  conv=>rhs;rw[e]
  rw[Qci _ _ _ oM (by rw[Z7];omega),List.getElem_replicate]
  show some (#[Value.pointer none,.int .u32 0,.int .u64 0][i%3]!)=_
  have:i%3=0\/i%3=1\/i%3=2:=oM
  rcases this with h|h|h <;> rw[h] <;> rfl
 ·have r:(Qao (List.replicate k Fr.no)).toArray[i]?=none:=by
   rw[List.getElem?_toArray]
   exact List.getElem?_eq_none (by rw[Qmg,Z7];omega)
  have l:(madeCells #[Value.pointer none,.int .u32 0,.int .u64 0] (k*3))[i]?=none:=by
   unfold madeCells
   rw[Array.getElem?_map,Array.getElem?_range,if_neg hi];rfl
  rw[l,r]
theorem Qma (k:Nat) (hk:k<=64) (W:World):(Instr.makeSlice 153 (.int .i64 k) (.int .i64 k)).run Tryz.prog W =
 .ok (.slice (some ⟨W.heap.size,0,none⟩) k k) (W.alloc (.cells (Qao (List.replicate k Fr.no)).toArray 189)):=by
 obtain⟨i,hi,a,b,c⟩:=info_parts Ck.qgq
 have:=run_make (P:=Tryz.prog) W 153 189 i (.agg #[.pointer none,.int .u32 0,.int .u64 0]) Tryz.underlying153 hi a .i64 .i64 k k oM (Int.le_refl _) (by rw[c];omega) oM
 simp only[Int.toNat_natCast,b] at this
 rw[<-Qrf]
 exact this
structure qau (w:World) (τ:qa1) (bp bf:Nat) (H:qaq) (F:List Fr) (s:Ck.Clk.St):Prop where
 hd:Qji w τ bp H
 vf:H.vf = .slice (some ⟨bf,0,none⟩) F.length F.length
 fr:Own w τ bf tFr 189 (Qao F)
 pg:∀i b P,(F[i]?).bind Fr.pg=some (b,P)->qag w τ (tPg i) b P
 mp:qei w τ H.bm qbi H.n (Qaq F)
 ck:qec w τ H.bc s
 n1:1<=H.n/\H.n<=512
 k1:3<=F.length/\F.length<=64
 sn:s.n=F.length
 st:H.st<18446744073709551616
 one:∀(i j n:Nat) (f g:Fr),F[i]?=some f->F[j]?=some g->f.has n=true->g.has n=true->i=j
 low:∀(i n:Nat) (f:Fr),F[i]?=some f->f.has n=true->n<H.n
def qb3 (g:Tag):Prop:=g=qcd\/g=tFr\/g=qbi\/g=qdk\/∃i,g=tPg i
theorem qau.step {d:World} {a:qa1} {S:Tag->Prop} {bp bf:Nat} {H:qaq} {F:List Fr} {s:Ck.Clk.St}(h:qau w τ bp bf H F s) (m:Step w τ d a S) (c:∀g,qb3 g->¬S g):qau d a bp bf H F s :=
 ⟨h.hd.step m (c _ (.inl rfl)),h.vf,h.fr.step m (c _ (.inr (.inl rfl))),fun i b P e=>(h.pg i b P e).step m (c _ (.inr (.inr (.inr (.inr ⟨i,rfl⟩))))),h.mp.step m (c _ (.inr (.inr (.inl rfl)))),h.ck.step m (c _ (.inr (.inr (.inr (.inl rfl))))),h.n1,h.k1,h.sn,h.st,h.one,h.low⟩
theorem qau.setSt {bp bf:Nat} {H:qaq} {F:List Fr} {s:Ck.Clk.St}(h:qau w τ bp bf H F s) (n:Nat) (hn:n<18446744073709551616):qau (w.setCell ⟨bp,5,none⟩ (.int .u64 n)) τ bp bf {H with st:=n} F s:=by
 have m:Step w τ (w.setCell ⟨bp,5,none⟩ (.int .u64 n)) τ (fun g=>g=qcd):=(Step.refl w τ (fun g=>g=qcd)).set h.hd.tag rfl _
 exact⟨h.hd.set 5 _,h.vf,h.fr.step m dC,fun i b P a=>(h.pg i b P a).step m (by simp[tPg,qcd]),h.mp.step m dC,h.ck.step m dC,h.n1,h.k1,h.sn,hn,h.one,h.low⟩
theorem Qr4 {P:Program}(W:World) (ts:Array TypeId) (t:TypeId) (x y m:Nat) (a:m=max x y):(Builtin.max_ ts t #[.int .u64 x,.int .u64 y]).run P W = .ok (.int .u64 m) W:=by
 rw[run_max_int2]
 congr 2
 subst a
 split <;> omega
theorem Qzt {l:List Int}(h:IsB l):qcf l<18446744073709551616/\qbx l<18446744073709551616:=by
 have h1:=Qle (fun x a=>h x (List.mem_of_mem_drop (List.mem_of_mem_take a))) (l:=(l.drop 0).take (8-0)) 8
 have h2:=Qle (fun x a=>h x (List.mem_of_mem_drop (List.mem_of_mem_take a))) (l:=(l.drop 120).take (128-120)) 8
 have e:(2:Nat) ^ (8*8)=18446744073709551616:=dC
 rw[e] at h1 h2
 exact⟨h1,h2⟩
theorem Qto {ls:List (List Int)}(h:∀x∈ls,IsB x) (i:Nat) (hi:i<=ls.length):qbu ls i<18446744073709551616:=by
 induction i with
 | zero=>show 0<_;omega
 | succ i ih =>
   have a:IsB (ls.getD i []):=by
    rw[Z5,Z3 oM]
    exact h _ (List.getElem_mem _)
   have h1:=Qzt a
   have h2:=ih oM
   show max (max (qbu ls i) _) _<_
   omega
def Ji2 (D:Dev):Nat->Nat
 | 0=>0
 | i+1=>max (Ji2 D i) (qbu (qap D i 4) 4)
structure qft (k:Nat) (w W:World) (f m c:Option Nat):Prop where
 mod:Mod w W no
 f:∀b,f=some b->w.heap.size<=b/\W.heap[b]?=some (.cells (Qao (List.replicate k Fr.no)).toArray 189 (0,0))
 m:∀b,m=some b->w.heap.size<=b/\W.heap[b]?=some (.map #[] 0)
 c:∀b,c=some b->w.heap.size<=b/\∃q,w.heap.size<=q/\Ck.PC W b q (Ck.Clk.qil k)
theorem kept_alloc {b:Nat} {o a:Obj}(h:W.heap[b]?=some o):(W.alloc a).heap[b]?=some o:=by
 rw[Below.heap_alloc _ _ _ (Array.getElem?_eq_some_iff.1 h).1];exact h
theorem qft.start (k:Nat) (w:World):qft k w w none none none:=⟨Mod.refl _ _,sM,sM,sM⟩
theorem Qom (W:World) (o:Obj):Ck.Mod W (W.alloc o) []:=(Ck.Mod.refl W []).alloc o
theorem qft.slice {m c:Option Nat}(h:qft k w W none m c):qft k w (W.alloc (.cells (Qao (List.replicate k Fr.no)).toArray 189)) (some W.heap.size) m c :=
 ⟨h.mod.alloc _,fun b a=>by cases a;exact⟨h.mod.size,heap_alloc_new W _⟩,fun b a=>⟨(h.m b a).1,kept_alloc (h.m b a).2⟩,fun b a=>by
  obtain⟨d,q,e,a3⟩:=h.c b a
  exact⟨d,q,e,a3.mod (Qom W _) sM sM⟩⟩
theorem qft.map {f c:Option Nat}(h:qft k w W f none c):qft k w (W.alloc (.map #[] 0)) f (some W.heap.size) c :=
 ⟨h.mod.alloc _,fun b a=>⟨(h.f b a).1,kept_alloc (h.f b a).2⟩,fun b a=>by cases a;exact⟨h.mod.size,heap_alloc_new W _⟩,fun b a=>by
  obtain⟨d,q,e,a3⟩:=h.c b a
  exact⟨d,q,e,a3.mod (Qom W _) sM sM⟩⟩
theorem qft.clk {wc:World} {f m:Option Nat}(h:qft k w W f m none) (g:Ck.PC wc (W.drew.heap.size+1) W.drew.heap.size (Ck.Clk.qil k)) (c:Ck.Mod W.drew wc []):qft k w wc f m (some (W.heap.size+1)):=by
 have i:Mod W wc no:=⟨c.os,c.tape,c.output,c.size,fun k d _=>c.block k d sM⟩
 have d:∀(b:Nat) (o:Obj),W.heap[b]?=some o->wc.heap[b]?=some o:=fun b o e=>by
  rw[c.block b (Array.getElem?_eq_some_iff.1 e).1 sM];exact e
 refine⟨h.mod.trans i,fun b a=>⟨(h.f b a).1,d _ _ (h.f b a).2⟩,fun b a=>⟨(h.m b a).1,d _ _ (h.m b a).2⟩,fun b a=>?_⟩
 cases a
 exact⟨Y3 h.mod.size (Nat.le_add_right _ _),W.drew.heap.size,h.mod.size,g⟩
theorem Qp3 (k:Nat):Qaq (List.replicate k Fr.no)=fun _=>none:=by
 funext n
 unfold Qaq
 rw[List.findIdx?_eq_none_iff]
 intro x a
 rw[(List.mem_replicate.1 a).2];rfl
theorem Qvf {i n:Nat} {f:Fr}(a:(List.replicate k Fr.no)[i]?=some f) (hh:f.has n=true):False:=by
 rw[List.getElem?_replicate] at a
 split at a
 ·cases a;simp[Fr.has,Fr.no] at hh
 ·cases a
theorem qft.pool {bf bm bc:Nat}(h:qft k w W (some bf) (some bm) (some bc)) (τ:qa1) (bl n:Nat) (h1:1<=n) (z:n<=512) (B:3<=k) (r:k<=64) {bf' bm' bc' bp':Nat}(C:bf'=bf) (em:bm'=bm) (D:bc'=bc) (E:bp'=W.heap.size) :
 ∃a H bp bf,qau (W.alloc (.cells #[.pointer (some ⟨bl,0,none⟩),.int .i64 n,.slice (some ⟨bf',0,none⟩) k k,.map (some bm'),.pointer (some ⟨bc',0,none⟩),.int .u64 0] 157)) a bp bf H (List.replicate k Fr.no) (Ck.Clk.qil k) /\
   bp=bp'/\H.bl=bl/\H.n=n/\H.st=0/\w.heap.size<=bp/\Step w τ (W.alloc (.cells #[.pointer (some ⟨bl,0,none⟩),.int .i64 n,.slice (some ⟨bf',0,none⟩) k k,.map (some bm'),.pointer (some ⟨bc',0,none⟩),.int .u64 0] 157)) a nil:=by
 subst C em D E
 obtain⟨f1,l⟩:=h.f _ rfl
 obtain⟨F,o⟩:=h.m _ rfl
 obtain⟨c1,q,G,d⟩:=h.c _ rfl
 have lf:=(Array.getElem?_eq_some_iff.1 l).1
 have lm:=(Array.getElem?_eq_some_iff.1 o).1
 have lc:=Ck.qb0 d.c0
 have lq:=Ck.qb0 (d.ct 0 d.n1)
 have p:W.cell? ⟨bf',0,none⟩=some (.pointer none):=by
  have:=Qci (List.replicate k Fr.no) 0 0 oM (by rw[Z7];omega)
  simp only[World.cell?,l]
  rw[List.getElem?_toArray,this,List.getElem_replicate];rfl
 have n1:bf'≠bm':=fun e=>by rw[e,o] at l;cases l
 have I:bf'≠bc':=fun e=>by have:=d.c0;rw[<-e,p] at this;cases this
 have J:bf'≠q:=fun e=>by have:=d.ct 0 d.n1;rw[<-e,Nat.zero_mul,p] at this;cases this
 have n4:bm'≠bc':=fun e=>by have:=d.c0;rw[<-e] at this;simp[World.cell?,o] at this
 have n5:bm'≠q:=fun e=>by have:=d.ct 0 d.n1;rw[<-e] at this;simp[World.cell?,o] at this
 have n6:=d.ne
 generalize L:(Obj.cells #[.pointer (some ⟨bl,0,none⟩),.int .i64 n,.slice (some ⟨bf',0,none⟩) k k,.map (some bm'),.pointer (some ⟨bc',0,none⟩),.int .u64 0] 157)=O
 let a:qa1:=((((τ.put bf' tFr).put bm' qbi).put bc' qdk).put q qdk).put W.heap.size qcd
 have t0:a W.heap.size=qcd:=qa1.qd9 _ _ _
 have M:a bf'=tFr:=by simp only[a,qa1.put];rw[if_neg oM,if_neg J,if_neg I,if_neg n1,if_pos trivial]
 have R:a bm'=qbi:=by simp only[a,qa1.put];rw[if_neg oM,if_neg n5,if_neg n4,if_pos trivial]
 have t3:a bc'=qdk:=by simp only[a,qa1.put];rw[if_neg oM,if_neg n6,if_pos trivial]
 have t4:a q=qdk:=by simp only[a,qa1.put];rw[if_neg oM,if_pos trivial]
 refine⟨a,⟨bl,n,.slice (some ⟨bf',0,none⟩) k k,bm',bc',0⟩,W.heap.size,bf',⟨⟨by subst L;exact heap_alloc_new W _,t0⟩,by rw[Z7],⟨kept_alloc l,M⟩,?_,?_,⟨t3,q,d.mod (Qom W _) sM sM,t4⟩,⟨h1,z⟩,by rw[Z7];exact⟨B,r⟩,by rw[Z7];rfl,sM,fun i j n f g s _ hh _=>(Qvf s hh).elim,fun i n f s hh=>(Qvf s hh).elim⟩,rfl,rfl,rfl,rfl,h.mod.size,?_⟩
 ·intro i b P x
  rw[List.getElem?_replicate] at x
  split at x <;> simp[Fr.no] at x
 ·rw[Qp3]
  refine⟨R,0,.map [],⟨#[],0,kept_alloc o,?_,sM,rfl⟩,fun kl h=>by simp[Maps.has] at h,fun k=>by simp[Maps.has],fun k v h=>by simp at h⟩
  obtain⟨es,c,U,X,a3,a4⟩:=World.ownsMap_made (H:=Unit) w Tryz.prog 39 qit
  have y:=heap_alloc_new w (.map #[] 0)
  rw[U] at y
  cases y
  exact X
 ·refine⟨h.mod.alloc _ |>.mono (fun _ _ h=>h.elim),?_⟩
  exact(((((Ext.refl w τ).put _ _ f1).put _ _ F).put _ _ c1).put _ _ G).put _ _ h.mod.size
theorem Qmm {bd:Nat} {D:Dev}(h:qax w τ bd D) (i:Nat) (hi:4*i<=D.f1.length):Ji2 D i<18446744073709551616:=by
 induction i with
 | zero=>show 0<_;omega
 | succ i ih =>
   have h1:=Qto (ls:=qap D i 4) (fun x a=>by
    obtain⟨k,b,rfl⟩:=List.mem_map.1 a
    exact(h.qg5 1 (4*i+k) (by have:=List.mem_range.1 b;show _<D.f1.length;omega)).2) 4 (by rw[Qbe];exact Z0 _)
   have h2:=ih oM
   show max _ _<_
   omega
theorem Jc9 {S:Tag->Prop} {bl bd:Nat} {L:qac} {Di:Nat->Dev} {m:Nat}(hl:qaw w τ bl bd L) (hd:qax w τ bd (Di 0)) (n k:Nat) (h1:1<=n) (h5:n<=512) (h3:3<=k) (c:k<=64) (hm:∀i,(Di i).f1.length=m) (hn:4*(n+1)<=m) (a9:∀g,qb3 g->¬S g) (aa:∀g,qai g->¬S g)
 (y:∀i,i<n->∀(W:World) (T:qa1) (bp:Nat) (H:qaq),Qji W T bp H->H.n=n->qaw W T H.bl bd L->qax W T bd (Di i)->Calls Tryz.prog 82 #[.pointer (some ⟨bp,0,none⟩),.int .i64 i] W fun e w'=>e = .returned (.bool true)/\∃l,qax w' l bd (Di (i+1))/\Step W T w' l S) :
 Calls Tryz.prog 30 #[.pointer (some ⟨bl,0,none⟩),.int .i64 n,.int .i64 k] w fun e w'=>∃bp bf l H,e = .returned (.tuple #[.pointer (some ⟨bp,0,none⟩),.int .u16 0])/\qau w' l bp bf H (List.replicate k Fr.no) (Ck.Clk.qil k)/\H.bl=bl/\H.n=n/\H.st=Ji2 (Di n) (n+1)/\w.heap.size<=bp/\qax w' l bd (Di n)/\Step w τ w' l S:=by
 have I:=Qlz w (n:Int) 1 512
 rw[decide_eq_true (show (1:Int)<=n by omega),decide_eq_true (show (n:Int)<=512 by omega),Bool.and_self] at I
 have J:=Qlz w (k:Int) 3 64
 rw[decide_eq_true (show (3:Int)<=k by omega),decide_eq_true (show (k:Int)<=64 by omega),Bool.and_self] at J
 have ab:=Qv5 hl
 have M:=Qjs hd 1 oM
 have b0:(Di 0).file 1=(Di 0).f1:=rfl
 rw[b0,hm] at M
 have hfr:=Qma k c
 have hmm:=@run_makeMap Tryz.prog
 have ac:=fun w=>Ck.new_ok w k oM c
 have a1:decide ((m:Int)<4*((n:Int)+1))=false:=by simp;omega
 obtain⟨b1,b2,b3,b4,Hl,Hd,b5,O,b6,ad,Hm⟩:=qg6 I J ab M hl hd ac y a9 aa hm
 clear I J ab M hl hd ac y a9 aa hm
 go_enter Tryz.func30,Tryz.ntmps30
 go_wp2_with fail
 refine zC b1 ?_
 go_wp2_with fail
 refine zC b2 ?_
 go_wp2_with fail
 refine zC b3 ?_
 go_wp2_with fail
 refine zC b4 ?_
 go_wp2_with fail
 go_region_law (first
  | (go_simp
     go_at_call 81
     refine(b5 _).mono ?_
     rintro e wc ⟨rfl,ae,af⟩
     obtain⟨p,q⟩:=qaj ae af
     clear ae af))
 all_goals (first
  | (have hG:=qft.pool ((qft.start k w).slice.map.clk p q) τ bl n h1 h5 h3 c (bf':=w.heap.size) (bm':=w.heap.size+1) (bc':=w.heap.size+1+1+1) (bp':=wc.heap.size) sM sM sM sM)
  | (have hG:=qft.pool ((qft.start k w).slice.clk p q).map τ bl n h1 h5 h3 c (bf':=w.heap.size) (bm':=wc.heap.size) (bc':=w.heap.size+1+1) (bp':=wc.heap.size+1) sM sM sM sM)
  | (have hG:=qft.pool ((qft.start k w).map.slice.clk p q) τ bl n h1 h5 h3 c (bf':=w.heap.size+1) (bm':=w.heap.size) (bc':=w.heap.size+1+1+1) (bp':=wc.heap.size) sM sM sM sM)
  | (have hG:=qft.pool ((qft.start k w).map.clk p q).slice τ bl n h1 h5 h3 c (bf':=wc.heap.size) (bm':=w.heap.size) (bc':=w.heap.size+1+1) (bp':=wc.heap.size+1) sM sM sM sM)
  | (rw[show ((wc.alloc (.cells (Qao (List.replicate k Fr.no)).toArray 189)).alloc (.map #[] 0))=((wc.alloc (.cells (Qao (List.replicate k Fr.no)).toArray 189)).alloc (.map #[] 0)) from rfl];have hG:=qft.pool ((qft.start k w).clk p q).slice.map τ bl n h1 h5 h3 c (bf':=wc.heap.size) (bm':=wc.heap.size+1) (bc':=w.heap.size+1) (bp':=wc.heap.size+1+1) sM sM sM sM)
  | (rw[show ((wc.alloc (.map #[] 0)).alloc (.cells (Qao (List.replicate k Fr.no)).toArray 189))=((wc.alloc (.map #[] 0)).alloc (.cells (Qao (List.replicate k Fr.no)).toArray 189)) from rfl];have hG:=qft.pool ((qft.start k w).clk p q).map.slice τ bl n h1 h5 h3 c (bf':=wc.heap.size+1) (bm':=wc.heap.size) (bc':=w.heap.size+1) (bp':=wc.heap.size+1+1) sM sM sM sM)
  )
 all_goals obtain⟨τ1,H,bp,bf,ag,ah,R,ai,b7,F,aj⟩:=hG
 all_goals rw[<-ah]
 all_goals clear ah
 all_goals (obtain⟨b8,ak⟩:=qaj ag aj;clear ag aj)
 all_goals (
  go_wp2_with fail
  go_loopw [38] (fun v wr=>∃(i:Nat) (a:qa1),i<=n/\v = .int .i64 i/\qau wr a bp bf H (List.replicate k Fr.no) (Ck.Clk.qil k)/\qax wr a bd (Di i)/\Step w τ wr a S) (fun v _=>n-(intOf v).toNat)
  case atStart=>exact⟨0,τ1,Z9 _,rfl,b8,Hd.step ak zE,ak.nz⟩
  case round =>
   obtain⟨i,a,hi,rfl,r,U,b⟩:=hrel
   by_cases al:i<n
   ·have am:=O i al wr a bp H r.hd ai (by rw[R];exact Hl.step b ad) U
    obtain⟨b9,Hp,d⟩:=qan am r b
    clear am r b
    go_wp2_with fail
    refine b9.mono ?_
    rintro e w2 ⟨rfl,z,an,s⟩
    obtain⟨B,ba⟩:=qaj s an
    clear s an
    go_wp2_with fail
    go_round
    case rel=>exact⟨i+1,z,oM,sM,Hp.step B b6,ba,d.trans B⟩
    case measure=>simp[intOf];omega
   ·have bb:i=n:=oM
    subst bb
    have ao:qau wr a bp bf {H with st:=Ji2 (Di i) 0} (List.replicate k Fr.no) (Ck.Clk.qil k):=by
     have e:({H with st:=Ji2 (Di i) 0}:qaq)=H:=by rw[show Ji2 (Di i) 0=H.st from b7.symm]
     rw[e];exact r
    obtain⟨Hp,d,bc,be⟩:=qb9 r b ao U
    clear r b ao U
    go_wp2_with fail
    go_loopw [48] (fun v wr=>∃(j:Nat) (a:qa1),j<=i+1/\v = .int .i64 j/\qau wr a bp bf {H with st:=Ji2 (Di i) j} (List.replicate k Fr.no) (Ck.Clk.qil k)/\qax wr a bd (Di i)/\Step w τ wr a S) (fun v _=>i+1-(intOf v).toNat)
    case atStart=>exact⟨0,a,Z9 _,rfl,bc,be,d⟩
    case round =>
     obtain⟨j,a,hj,rfl,r,x,b⟩:=hrel
     by_cases al:j<i+1
     ·have G:=Qfi r.hd.drew (by show qaw _ _ H.bl _ _;rw[R];exact Hl.step b.drew ad) (x.step (zS wr a).drew (fun _ h=>h.elim)) j (by rw[Hm.out];omega)
      have C:Ji2 (Di i) (j+1)=max (Ji2 (Di i) j) (qbu (qap (Di i) j 4) 4):=rfl
      have hmx:=fun (W:World) (ts:Array TypeId) (t:TypeId)=>Qr4 (P:=Tryz.prog) W ts t _ _ _ C
      have D:=Qmm x (j+1) (by rw[Hm.out];omega)
      have c5:=r.hd.at 5 rfl
      obtain⟨ap,Hp,d,X,Y⟩:=qbq G r b D x
      clear G r b D x
      generalize bg:Ji2 (Di i) (j+1)=s1 at *
      generalize hS0:Ji2 (Di i) j=s0 at *
      go_wp2_with fail
      go_region_law (first
       | (go_simp
          go_at_call 84
          refine ap.mono ?_
          rintro e w2 ⟨u2,z,rfl,Z,s⟩
          have a0:=(Hp.step (zS wr a).drew (fun _ _ h=>h)).step s zN
          have d5:=a0.hd.at 5 rfl
          have a2:=Qpn Z.row
          rw[Qbe] at a2
          obtain⟨pu,cu,rfl⟩:=Z.val
          obtain⟨bh,B,bi⟩:=qan a0 s a2
          clear a0 s a2
          clear Z)
       | (go_simp
          go_at_call 83
          refine bi.mono ?_
          rintro e w3 ⟨rfl,aq⟩
          have a3:=Step.of nil aq (Ext.refl _ z)
          have E:=bh.step a3 zN
          have e5:=E.hd.at 5 rfl
          have f5:=E.hd.fz 5
          obtain⟨ar,av⟩:=qaj E a3
          clear E a3
          clear aq))
      all_goals (
       have aw:=ar.setSt (max s0 (qbu (qap (Di i) j 4) 4)) (by rw[<-C];exact X)
       have bj:=((Y.step (zS wr a).drew (fun _ h=>h.elim)).step B zE).step av zE
       have ax:=(d.drew.trans ((B.trans av).nz)).qa3 (o:=5) F (.int .u64 ((max s0 (qbu (qap (Di i) j 4) 4):Nat):Int))
       have ay:=bj.step ((Step.refl _ z (fun g=>g=qcd)).set (o:=5) ar.hd.tag rfl (.int .u64 ((max s0 (qbu (qap (Di i) j 4) 4):Nat):Int))) (fun g hg=>by subst hg;exact⟨by simp[qah,qcd],dC⟩)
       obtain⟨bk,bm,bn⟩:=qan aw ax ay
       clear aw ax ay
       go_wp2_with fail
       go_round)
      all_goals first
       | exact⟨j+1,z,oM,sM,by rw[bg,C];exact bk,bn,bm⟩
       | (simp[intOf];omega)
     ·obtain rfl:j=i+1:=oM
      obtain⟨Hp,d,Y⟩:=qan r b x
      clear r b x
      go_wp2_with fail
      go_ret2
      exact⟨bp,bf,a,_,rfl,Hp,R,ai,rfl,F,Y,d⟩)
theorem Qkv {bl bd:Nat} {L:qac} {D:Dev}(hl:qaw w τ bl bd L) (hd:qax w τ bd D) (n k:Nat) (h1:1<=n) (l:n<=512) (o:3<=k) (d:k<=64) (hn:4*(n+1)<=D.f1.length) (p:∀i,i<n->Qb3 (qap D i 4)=true) :
 Calls Tryz.prog 30 #[.pointer (some ⟨bl,0,none⟩),.int .i64 n,.int .i64 k] w fun e c=>∃bp bf a H,e = .returned (.tuple #[.pointer (some ⟨bp,0,none⟩),.int .u16 0])/\qau c a bp bf H (List.replicate k Fr.no) (Ck.Clk.qil k)/\H.bl=bl/\H.n=n/\H.st=Ji2 D (n+1)/\w.heap.size<=bp/\Step w τ c a nil:=by
 refine(Jc9 (S:=nil) (Di:=fun _=>D) hl hd n k h1 l o d (fun _=>rfl) hn (fun _ _ h=>h) (fun _ _ h=>h) (fun i hi W T bp H q _ g b=>?_)).mono ?_
 ·refine(Qxk q g b i oM (p i hi)).mono ?_
  rintro e c ⟨rfl,a,j⟩
  exact⟨rfl,a,b.step j zE,j⟩
 ·rintro e c ⟨bp,bf,a,H,r,s,x,y,z,B,-,C⟩
  exact⟨bp,bf,a,H,r,s,x,y,z,B,C⟩
