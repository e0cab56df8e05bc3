/-
 Pools: New over homes that are whole.
-/
import Derived.Test.YtemacanaihaldaaGreatMPool
set_option maxRecDepth 100000
set_option maxHeartbeats 16000000
set_option linter.all false
namespace Go.Proofs.YtemacanaihaldaaGreat
variable {W w:World}{τ:Tags}
open Go.RowKit
structure Fr where
 pg:Option (Nat×List Int)
 n:Nat
 first:Nat
def Fr.cells (f:Fr):List Value:=[.pointer (f.pg.map (fun x=>(⟨x.1,0,none⟩:Addr))),.int .u32 (f.n:Int),.int .u64 (f.first:Int)]
def Qao (F:List Fr):List Value:=F.flatMap Fr.cells
def Fr.no:Fr:=⟨none,0,0⟩
def Fr.has (f:Fr) (n:Nat):Bool:=f.pg.isSome && f.n==n
def Qaq (F:List Fr) (n:Nat):Option Nat:=F.findIdx? (fun f=>f.has n)
theorem Qmg (F:List Fr):(Qao F).length=F.length*3:=by
 induction F with
 | nil=>rfl
 | cons f F ih =>
   show (f.cells++Qao F).length=_
   rw[List.length_append,ih,List.length_cons]
   simp only[Fr.cells,List.length_cons,List.length_nil];omega
theorem Qci (F:List Fr) (i j:Nat) (hj:j<3) (hi:i<F.length):(Qao F)[i*3+j]?=(F[i]).cells[j]?:=by
 induction F generalizing i with
 | nil=>simp at hi
 | cons f F ih =>
   show (f.cells++Qao F)[i*3+j]?=_
   have hl:f.cells.length=3:=rfl
   cases i with
   | zero=>rw[List.getElem?_append_left (by rw[hl];omega)];simp
   | succ i =>
     rw[List.getElem?_append_right (by rw[hl];omega),hl,show (i+1)*3+j-3=i*3+j by omega,ih i (by simpa using hi)]
     rfl
theorem Qrf (k:Nat):madeCells #[Value.pointer none,.int .u32 0,.int .u64 0] (k*3)=(Qao (List.replicate k Fr.no)).toArray:=by
 apply Array.ext_getElem?
 intro i
 by_cases hi:i<k*3
 ·rw[Ck.made_get _ _ _ hi]
  have e:i=i/3*3+i%3:=by omega
  rw[List.getElem?_toArray]
  conv=>rhs;rw[e]
  rw[Qci _ _ _ (by omega) (by rw[List.length_replicate];omega),List.getElem_replicate]
  show some (#[Value.pointer none,.int .u32 0,.int .u64 0][i%3]!)=_
  have:i%3=0∨i%3=1∨i%3=2:=by omega
  rcases this with h|h|h <;> rw[h] <;> rfl
 ·have r:(Qao (List.replicate k Fr.no)).toArray[i]?=none:=by
   rw[List.getElem?_toArray]
   exact List.getElem?_eq_none (by rw[Qmg,List.length_replicate];omega)
  have l:(madeCells #[Value.pointer none,.int .u32 0,.int .u64 0] (k*3))[i]?=none:=by
   unfold madeCells
   rw[Array.getElem?_map,Array.getElem?_range,if_neg hi];rfl
  rw[l,r]
theorem Qma (k:Nat) (hk:k≤64) (W:World):(Instr.makeSlice 135 (.int .i64 (k:Int)) (.int .i64 (k:Int))).run Tryz.prog W =
 .ok (.slice (some ⟨W.heap.size,0,none⟩) k k) (W.alloc (.cells (Qao (List.replicate k Fr.no)).toArray 148)):=by
 obtain⟨i,hi,hz0,hz1,hz2⟩:=info_parts Ck.zeroFrame_row
 have:=run_make (P:=Tryz.prog) W 135 148 i (.agg #[.pointer none,.int .u32 0,.int .u64 0]) Tryz.underlying135 hi hz0 .i64 .i64 k k (by omega) (Int.le_refl _) (by rw[hz2];omega) (by omega)
 simp only[Int.toNat_natCast,hz1] at this
 rw[←Qrf]
 exact this
structure PoolAt (w:World) (τ:Tags) (bp bf:Nat) (H:PoolH) (F:List Fr) (s:Ck.Clk.St):Prop where
 hd:Qji w τ bp H
 vf:H.vf = .slice (some ⟨bf,0,none⟩) F.length F.length
 fr:Own w τ bf tFr 148 (Qao F)
 pg:∀i b P,(F[i]?).bind Fr.pg=some (b,P)→PageAt w τ (tPg i) b P
 mp:MapIs w τ H.bm tWhere H.n (Qaq F)
 ck:ClkAt w τ H.bc s
 n1:1≤H.n∧H.n≤512
 k1:3≤F.length∧F.length≤64
 sn:s.n=F.length
 st:H.st<18446744073709551616
 one:∀(i j n:Nat) (f g:Fr),F[i]?=some f→F[j]?=some g→f.has n=true→g.has n=true→i=j
 low:∀(i n:Nat) (f:Fr),F[i]?=some f→f.has n=true→n<H.n
def PoolTag (g:Tag):Prop:=g=tPool∨g=tFr∨g=tWhere∨g=tClk∨∃i,g=tPg i
theorem PoolAt.step {w':World} {τ':Tags} {S:Tag→Prop} {bp bf:Nat} {H:PoolH} {F:List Fr} {s:Ck.Clk.St}(h:PoolAt w τ bp bf H F s) (m:Step w τ w' τ' S) (hs:∀g,PoolTag g→¬S g):PoolAt w' τ' bp bf H F s :=
 ⟨h.hd.step m (hs _ (.inl rfl)),h.vf,h.fr.step m (hs _ (.inr (.inl rfl))),fun i b P hb=>(h.pg i b P hb).step m (hs _ (.inr (.inr (.inr (.inr ⟨i,rfl⟩))))),h.mp.step m (hs _ (.inr (.inr (.inl rfl)))),h.ck.step m (hs _ (.inr (.inr (.inr (.inl rfl))))),h.n1,h.k1,h.sn,h.st,h.one,h.low⟩
theorem PoolAt.setSt {bp bf:Nat} {H:PoolH} {F:List Fr} {s:Ck.Clk.St}(h:PoolAt w τ bp bf H F s) (n:Nat) (hn:n<18446744073709551616):PoolAt (w.setCell ⟨bp,5,none⟩ (.int .u64 (n:Int))) τ bp bf {H with st:=n} F s:=by
 have m:Step w τ (w.setCell ⟨bp,5,none⟩ (.int .u64 (n:Int))) τ (fun g=>g=tPool):=(Step.refl w τ (fun g=>g=tPool)).set h.hd.tag rfl _
 exact⟨h.hd.set 5 _,h.vf,h.fr.step m (by decide),fun i b P hb=>(h.pg i b P hb).step m (by simp[tPg,tPool]),h.mp.step m (by decide),h.ck.step m (by decide),h.n1,h.k1,h.sn,hn,h.one,h.low⟩
theorem Qr4 {P:Program}(W:World) (ts:Array TypeId) (t:TypeId) (x y m:Nat) (hm:m=max x y):(Builtin.max_ ts t #[.int .u64 (x:Int),.int .u64 (y:Int)]).run P W = .ok (.int .u64 (m:Int)) W:=by
 rw[run_max_int2]
 congr 2
 subst hm
 split <;> omega
theorem Qzt {l:List Int}(h:IsB l):lowMark l<18446744073709551616∧highMark l<18446744073709551616:=by
 have h1:=Qle (fun x hx=>h x (List.mem_of_mem_drop (List.mem_of_mem_take hx))) (l:=(l.drop 0).take (8-0)) 8
 have h2:=Qle (fun x hx=>h x (List.mem_of_mem_drop (List.mem_of_mem_take hx))) (l:=(l.drop 120).take (128-120)) 8
 have e:(2:Nat) ^ (8*8)=18446744073709551616:=by decide
 rw[e] at h1 h2
 exact⟨h1,h2⟩
theorem Qto {ls:List (List Int)}(h:∀x∈ls,IsB x) (i:Nat) (hi:i≤ls.length):greatTo ls i<18446744073709551616:=by
 induction i with
 | zero=>show 0<_;omega
 | succ i ih =>
   have hx:IsB (ls.getD i []):=by
    rw[List.getD_eq_getElem?_getD,List.getElem?_eq_getElem (by omega)]
    exact h _ (List.getElem_mem _)
   have h1:=Qzt hx
   have h2:=ih (by omega)
   show max (max (greatTo ls i) _) _<_
   omega
def stampTo (D:Dev):Nat→Nat
 | 0=>0
 | i+1=>max (stampTo D i) (greatTo (lastTo D i 4) 4)
structure Grew (k:Nat) (w W:World) (f m c:Option Nat):Prop where
 mod:Mod w W no
 f:∀b,f=some b→w.heap.size≤b∧W.heap[b]?=some (.cells (Qao (List.replicate k Fr.no)).toArray 148 (0,0))
 m:∀b,m=some b→w.heap.size≤b∧W.heap[b]?=some (.map #[] 0)
 c:∀b,c=some b→w.heap.size≤b∧∃q,w.heap.size≤q∧Ck.PC W b q (Ck.Clk.newS k)
theorem kept_alloc {b:Nat} {o o':Obj}(h:W.heap[b]?=some o):(W.alloc o').heap[b]?=some o:=by
 rw[Below.heap_alloc _ _ _ (Array.getElem?_eq_some_iff.1 h).1];exact h
theorem Grew.start (k:Nat) (w:World):Grew k w w none none none:=⟨Mod.refl _ _,by simp,by simp,by simp⟩
theorem Qom (W:World) (o:Obj):Ck.Mod W (W.alloc o) []:=(Ck.Mod.refl W []).alloc o
theorem Grew.slice {k:Nat} {m c:Option Nat}(h:Grew k w W none m c):Grew k w (W.alloc (.cells (Qao (List.replicate k Fr.no)).toArray 148)) (some W.heap.size) m c :=
 ⟨h.mod.alloc _,fun b hb=>by cases hb;exact⟨h.mod.size,heap_alloc_new W _⟩,fun b hb=>⟨(h.m b hb).1,kept_alloc (h.m b hb).2⟩,fun b hb=>by
  obtain⟨a1,q,a2,a3⟩:=h.c b hb
  exact⟨a1,q,a2,a3.mod (Qom W _) (by simp) (by simp)⟩⟩
theorem Grew.map {k:Nat} {f c:Option Nat}(h:Grew k w W f none c):Grew k w (W.alloc (.map #[] 0)) f (some W.heap.size) c :=
 ⟨h.mod.alloc _,fun b hb=>⟨(h.f b hb).1,kept_alloc (h.f b hb).2⟩,fun b hb=>by cases hb;exact⟨h.mod.size,heap_alloc_new W _⟩,fun b hb=>by
  obtain⟨a1,q,a2,a3⟩:=h.c b hb
  exact⟨a1,q,a2,a3.mod (Qom W _) (by simp) (by simp)⟩⟩
theorem Grew.clk {k:Nat} {wc:World} {f m:Option Nat}(h:Grew k w W f m none) (hp:Ck.PC wc (W.drew.heap.size+1) W.drew.heap.size (Ck.Clk.newS k)) (hm:Ck.Mod W.drew wc []):Grew k w wc f m (some (W.heap.size+1)):=by
 have hM:Mod W wc no:=⟨hm.os,hm.tape,hm.output,hm.size,fun k hk _=>hm.block k hk (by simp)⟩
 have hk:∀(b:Nat) (o:Obj),W.heap[b]?=some o→wc.heap[b]?=some o:=fun b o ho=>by
  rw[hm.block b (Array.getElem?_eq_some_iff.1 ho).1 (by simp)];exact ho
 refine⟨h.mod.trans hM,fun b hb=>⟨(h.f b hb).1,hk _ _ (h.f b hb).2⟩,fun b hb=>⟨(h.m b hb).1,hk _ _ (h.m b hb).2⟩,fun b hb=>?_⟩
 cases hb
 exact⟨Nat.le_trans h.mod.size (Nat.le_add_right _ _),W.drew.heap.size,h.mod.size,hp⟩
theorem Qp3 (k:Nat):Qaq (List.replicate k Fr.no)=fun _=>none:=by
 funext n
 unfold Qaq
 rw[List.findIdx?_eq_none_iff]
 intro x hx
 rw[(List.mem_replicate.1 hx).2];rfl
theorem Qvf {k i n:Nat} {f:Fr}(hf:(List.replicate k Fr.no)[i]?=some f) (hh:f.has n=true):False:=by
 rw[List.getElem?_replicate] at hf
 split at hf
 ·cases hf;simp[Fr.has,Fr.no] at hh
 ·cases hf
theorem Grew.pool {k:Nat} {bf bm bc:Nat}(h:Grew k w W (some bf) (some bm) (some bc)) (τ:Tags) (bl n:Nat) (h1:1≤n) (h5:n≤512) (h3:3≤k) (h64:k≤64) {bf' bm' bc' bp':Nat}(ef:bf'=bf) (em:bm'=bm) (ec:bc'=bc) (ep:bp'=W.heap.size) :
 ∃τ' H bp bf,PoolAt (W.alloc (.cells #[.pointer (some ⟨bl,0,none⟩),.int .i64 (n:Int),.slice (some ⟨bf',0,none⟩) k k,.map (some bm'),.pointer (some ⟨bc',0,none⟩),.int .u64 0] 140)) τ' bp bf H (List.replicate k Fr.no) (Ck.Clk.newS k) ∧
   bp=bp'∧H.bl=bl∧H.n=n∧H.st=0∧w.heap.size≤bp∧Step w τ (W.alloc (.cells #[.pointer (some ⟨bl,0,none⟩),.int .i64 (n:Int),.slice (some ⟨bf',0,none⟩) k k,.map (some bm'),.pointer (some ⟨bc',0,none⟩),.int .u64 0] 140)) τ' nil:=by
 subst ef em ec ep
 obtain⟨f1,f2⟩:=h.f _ rfl
 obtain⟨m1,m2⟩:=h.m _ rfl
 obtain⟨c1,q,q1,hp⟩:=h.c _ rfl
 have lf:=(Array.getElem?_eq_some_iff.1 f2).1
 have lm:=(Array.getElem?_eq_some_iff.1 m2).1
 have lc:=Ck.cell_lt hp.c0
 have lq:=Ck.cell_lt (hp.ct 0 hp.n1)
 have hf0:W.cell? ⟨bf',0,none⟩=some (.pointer none):=by
  have:=Qci (List.replicate k Fr.no) 0 0 (by omega) (by rw[List.length_replicate];omega)
  simp only[World.cell?,f2]
  rw[List.getElem?_toArray,this,List.getElem_replicate];rfl
 have n1:bf'≠bm':=fun e=>by rw[e,m2] at f2;cases f2
 have n2:bf'≠bc':=fun e=>by have:=hp.c0;rw[←e,hf0] at this;cases this
 have n3:bf'≠q:=fun e=>by have:=hp.ct 0 hp.n1;rw[←e,Nat.zero_mul,hf0] at this;cases this
 have n4:bm'≠bc':=fun e=>by have:=hp.c0;rw[←e] at this;simp[World.cell?,m2] at this
 have n5:bm'≠q:=fun e=>by have:=hp.ct 0 hp.n1;rw[←e] at this;simp[World.cell?,m2] at this
 have n6:=hp.ne
 generalize hO:(Obj.cells #[.pointer (some ⟨bl,0,none⟩),.int .i64 (n:Int),.slice (some ⟨bf',0,none⟩) k k,.map (some bm'),.pointer (some ⟨bc',0,none⟩),.int .u64 0] 140)=O
 let τ':Tags:=((((τ.put bf' tFr).put bm' tWhere).put bc' tClk).put q tClk).put W.heap.size tPool
 have t0:τ' W.heap.size=tPool:=Tags.put_same _ _ _
 have t1:τ' bf'=tFr:=by simp only[τ',Tags.put];rw[if_neg (by omega),if_neg n3,if_neg n2,if_neg n1,if_pos trivial]
 have t2:τ' bm'=tWhere:=by simp only[τ',Tags.put];rw[if_neg (by omega),if_neg n5,if_neg n4,if_pos trivial]
 have t3:τ' bc'=tClk:=by simp only[τ',Tags.put];rw[if_neg (by omega),if_neg n6,if_pos trivial]
 have t4:τ' q=tClk:=by simp only[τ',Tags.put];rw[if_neg (by omega),if_pos trivial]
 have hmap:=MapIs.made w τ tWhere n
 refine⟨τ',⟨bl,n,.slice (some ⟨bf',0,none⟩) k k,bm',bc',0⟩,W.heap.size,bf',⟨⟨by subst hO;exact heap_alloc_new W _,t0⟩,by rw[List.length_replicate],⟨kept_alloc f2,t1⟩,?_,?_,⟨t3,q,hp.mod (Qom W _) (by simp) (by simp),t4⟩,⟨h1,h5⟩,by rw[List.length_replicate];exact⟨h3,h64⟩,by rw[List.length_replicate];rfl,by simp,fun i j n f g hf _ hh _=>(Qvf hf hh).elim,fun i n f hf hh=>(Qvf hf hh).elim⟩,rfl,rfl,rfl,rfl,h.mod.size,?_⟩
 ·intro i b P hb
  rw[List.getElem?_replicate] at hb
  split at hb <;> simp[Fr.no] at hb
 ·rw[Qp3]
  refine⟨t2,0,.map [],⟨#[],0,kept_alloc m2,?_,by simp,rfl⟩,fun kl h=>by simp[Maps.has] at h,fun k=>by simp[Maps.has],fun k v h=>by simp at h⟩
  obtain⟨es,c,a1,a2,a3,a4⟩:=World.ownsMap_made (H:=Unit) w Tryz.prog 36 rdInt
  have e1:=heap_alloc_new w (.map #[] 0)
  rw[a1] at e1
  cases e1
  exact a2
 ·refine⟨h.mod.alloc _ |>.mono (fun _ _ h=>h.elim),?_⟩
  exact(((((Ext.refl w τ).put _ _ f1).put _ _ m1).put _ _ c1).put _ _ q1).put _ _ h.mod.size
theorem Qmm {bd:Nat} {D:Dev}(h:DevAt w τ bd D) (i:Nat) (hi:4*i≤D.f1.length):stampTo D i<18446744073709551616:=by
 induction i with
 | zero=>show 0<_;omega
 | succ i ih =>
   have h1:=Qto (ls:=lastTo D i 4) (fun x hx=>by
    obtain⟨k,hk,rfl⟩:=List.mem_map.1 hx
    exact(h.last128 1 (4*i+k) (by have:=List.mem_range.1 hk;show _<D.f1.length;omega)).2) 4 (by rw[Qbe];exact Nat.le_refl _)
   have h2:=ih (by omega)
   show max _ _<_
   omega
theorem Jc9 {S:Tag→Prop} {bl bd:Nat} {L:LogM} {Di:Nat→Dev} {m:Nat}(hl:LogAt w τ bl bd L) (hd:DevAt w τ bd (Di 0)) (n k:Nat) (h1:1≤n) (h5:n≤512) (h3:3≤k) (h64:k≤64) (hm:∀i,(Di i).f1.length=m) (hn:4*(n+1)≤m) (hSp:∀g,PoolTag g→¬S g) (hSl:∀g,LogTag g→¬S g)
 (hmend:∀i,i<n→∀(W:World) (T:Tags) (bp:Nat) (H:PoolH),Qji W T bp H→H.n=n→LogAt W T H.bl bd L→DevAt W T bd (Di i)→Calls Tryz.prog 63 #[.pointer (some ⟨bp,0,none⟩),.int .i64 (i:Int)] W fun e w'=>e = .returned (.bool true)∧∃τ',DevAt w' τ' bd (Di (i+1))∧Step W T w' τ' S) :
 Calls Tryz.prog 14 #[.pointer (some ⟨bl,0,none⟩),.int .i64 (n:Int),.int .i64 (k:Int)] w fun e w'=>∃bp bf τ' H,e = .returned (.tuple #[.pointer (some ⟨bp,0,none⟩),.int .u16 0])∧PoolAt w' τ' bp bf H (List.replicate k Fr.no) (Ck.Clk.newS k)∧H.bl=bl∧H.n=n∧H.st=stampTo (Di n) (n+1)∧w.heap.size≤bp∧DevAt w' τ' bd (Di n)∧Step w τ w' τ' S:=by
 have hb1:=Qlz w (n:Int) 1 512
 rw[decide_eq_true (show (1:Int)≤(n:Int) by omega),decide_eq_true (show (n:Int)≤512 by omega),Bool.and_self] at hb1
 have hb2:=Qlz w (k:Int) 3 64
 rw[decide_eq_true (show (3:Int)≤(k:Int) by omega),decide_eq_true (show (k:Int)≤64 by omega),Bool.and_self] at hb2
 have hdv:=Qv5 hl
 have hsz:=Qjs hd 1 (by omega)
 have hf1:(Di 0).file 1=(Di 0).f1:=rfl
 have hlen:=hd.length 1
 rw[hf1,hm] at hsz hlen
 have hfr:=Qma k h64
 have hmm:=@run_makeMap Tryz.prog
 have hck:=fun w=>Ck.new_ok w k (by omega) h64
 have a1:decide ((m:Int)<4*((n:Int)+1))=false:=by simp;omega
 obtain⟨Hb1,Hb2,Hdv,Hsz,Hl,Hd,Hck,Hmend,HSp,HSl,Hm⟩:=hid11 hb1 hb2 hdv hsz hl hd hck hmend hSp hSl hm
 clear hb1 hb2 hdv hsz hl hd hck hmend hSp hSl hm
 go_enter Tryz.func14,Tryz.ntmps14
 go_wp2_with fail
 refine Hb1.out.mono ?_
 rintro e w' ⟨rfl,rfl⟩
 go_wp2_with fail
 refine Hb2.out.mono ?_
 rintro e w' ⟨rfl,rfl⟩
 go_wp2_with fail
 refine Hdv.out.mono ?_
 rintro e w' ⟨rfl,rfl⟩
 go_wp2_with fail
 refine Hsz.out.mono ?_
 rintro e w' ⟨rfl,rfl⟩
 go_wp2_with fail
 go_region_law (first
  | (go_simp
     go_at_call 62
     refine(Hck.out _).mono ?_
     rintro e wc ⟨rfl,hpc,hmc⟩
     obtain⟨Hpc,Hmc⟩:=hid2 hpc hmc
     clear hpc hmc))
 all_goals (first
  | (have hG:=Grew.pool ((Grew.start k w).slice.map.clk Hpc.out Hmc.out) τ bl n h1 h5 h3 h64 (bf':=w.heap.size) (bm':=w.heap.size+1) (bc':=w.heap.size+1+1+1) (bp':=wc.heap.size) (by simp) (by simp) (by simp) (by simp))
  | (have hG:=Grew.pool ((Grew.start k w).slice.clk Hpc.out Hmc.out).map τ bl n h1 h5 h3 h64 (bf':=w.heap.size) (bm':=wc.heap.size) (bc':=w.heap.size+1+1) (bp':=wc.heap.size+1) (by simp) (by simp) (by simp) (by simp))
  | (have hG:=Grew.pool ((Grew.start k w).map.slice.clk Hpc.out Hmc.out) τ bl n h1 h5 h3 h64 (bf':=w.heap.size+1) (bm':=w.heap.size) (bc':=w.heap.size+1+1+1) (bp':=wc.heap.size) (by simp) (by simp) (by simp) (by simp))
  | (have hG:=Grew.pool ((Grew.start k w).map.clk Hpc.out Hmc.out).slice τ bl n h1 h5 h3 h64 (bf':=wc.heap.size) (bm':=w.heap.size) (bc':=w.heap.size+1+1) (bp':=wc.heap.size+1) (by simp) (by simp) (by simp) (by simp))
  | (rw[show ((wc.alloc (.cells (Qao (List.replicate k Fr.no)).toArray 148)).alloc (.map #[] 0))=((wc.alloc (.cells (Qao (List.replicate k Fr.no)).toArray 148)).alloc (.map #[] 0)) from rfl];have hG:=Grew.pool ((Grew.start k w).clk Hpc.out Hmc.out).slice.map τ bl n h1 h5 h3 h64 (bf':=wc.heap.size) (bm':=wc.heap.size+1) (bc':=w.heap.size+1) (bp':=wc.heap.size+1+1) (by simp) (by simp) (by simp) (by simp))
  | (rw[show ((wc.alloc (.map #[] 0)).alloc (.cells (Qao (List.replicate k Fr.no)).toArray 148))=((wc.alloc (.map #[] 0)).alloc (.cells (Qao (List.replicate k Fr.no)).toArray 148)) from rfl];have hG:=Grew.pool ((Grew.start k w).clk Hpc.out Hmc.out).map.slice τ bl n h1 h5 h3 h64 (bf':=wc.heap.size+1) (bm':=wc.heap.size) (bc':=w.heap.size+1) (bp':=wc.heap.size+1+1) (by simp) (by simp) (by simp) (by simp))
  )
 all_goals obtain⟨τ1,H,bp,bf,hp1,hbp,hHl,hHn,hHs,hlow,hs1⟩:=hG
 all_goals rw[←hbp]
 all_goals clear hbp
 all_goals (obtain⟨Hp1,Hs1⟩:=hid2 hp1 hs1;clear hp1 hs1)
 all_goals (
  go_wp2_with fail
  go_loopw [38] (fun v wr=>∃(i:Nat) (τr:Tags),i≤n∧v = .int .i64 (i:Int)∧PoolAt wr τr bp bf H (List.replicate k Fr.no) (Ck.Clk.newS k)∧DevAt wr τr bd (Di i)∧Step w τ wr τr S) (fun v _=>n-(intOf v).toNat)
  case atStart=>exact⟨0,τ1,Nat.zero_le _,rfl,Hp1.out,Hd.out.step Hs1.out (fun _ h=>h.elim),Hs1.out.mono (fun _ h=>h.elim)⟩
  case round =>
   obtain⟨i,τr,hi,rfl,hp,hdi,hst⟩:=hrel
   by_cases hlt:i<n
   ·have hm1:=Hmend.out i hlt wr τr bp H hp.hd hHn (by rw[hHl];exact Hl.out.step hst HSl.out) hdi
    obtain⟨Hm1,Hp,Hst⟩:=hid3 hm1 hp hst
    clear hm1 hp hst
    go_wp2_with fail
    refine Hm1.out.mono ?_
    rintro e w2 ⟨rfl,τ2,hd2,hs2⟩
    obtain⟨Hs2,Hd2⟩:=hid2 hs2 hd2
    clear hs2 hd2
    go_wp2_with fail
    go_round
    case rel=>exact⟨i+1,τ2,by omega,by simp,Hp.out.step Hs2.out HSp.out,Hd2.out,Hst.out.trans Hs2.out⟩
    case measure=>simp[intOf];omega
   ·have hin:i=n:=by omega
    subst hin
    have hp0:PoolAt wr τr bp bf {H with st:=stampTo (Di i) 0} (List.replicate k Fr.no) (Ck.Clk.newS k):=by
     have e:({H with st:=stampTo (Di i) 0}:PoolH)=H:=by rw[show stampTo (Di i) 0=H.st from hHs.symm]
     rw[e];exact hp
    obtain⟨Hp,Hst,Hp0,Hdi⟩:=hid4 hp hst hp0 hdi
    clear hp hst hp0 hdi
    go_wp2_with fail
    go_loopw [48] (fun v wr=>∃(j:Nat) (τr:Tags),j≤i+1∧v = .int .i64 (j:Int)∧PoolAt wr τr bp bf {H with st:=stampTo (Di i) j} (List.replicate k Fr.no) (Ck.Clk.newS k)∧DevAt wr τr bd (Di i)∧Step w τ wr τr S) (fun v _=>i+1-(intOf v).toNat)
    case atStart=>exact⟨0,τr,Nat.zero_le _,rfl,Hp0.out,Hdi.out,Hst.out⟩
    case round =>
     obtain⟨j,τr,hj,rfl,hp,hdj,hst⟩:=hrel
     by_cases hlt:j<i+1
     ·have hsec:=Qfi hp.hd.drew (by show LogAt _ _ H.bl _ _;rw[hHl];exact Hl.out.step hst.drew HSl.out) (hdj.step (Step.refl wr τr nil).drew (fun _ h=>h.elim)) j (by rw[Hm.out];omega)
      have hmax:stampTo (Di i) (j+1)=max (stampTo (Di i) j) (greatTo (lastTo (Di i) j 4) 4):=rfl
      have hmx:=fun (W:World) (ts:Array TypeId) (t:TypeId)=>Qr4 (P:=Tryz.prog) W ts t _ _ _ hmax
      have hlt64:=Qmm hdj (j+1) (by rw[Hm.out];omega)
      have c5:=hp.hd.at 5 (v:=.int .u64 (stampTo (Di i) j:Int)) rfl
      obtain⟨Hsec,Hp,Hst,Hlt64,Hdj⟩:=hid5 hsec hp hst hlt64 hdj
      clear hsec hp hst hlt64 hdj
      generalize hS1:stampTo (Di i) (j+1)=s1 at *
      generalize hS0:stampTo (Di i) j=s0 at *
      go_wp2_with fail
      go_region_law (first
       | (go_simp
          go_at_call 65
          refine Hsec.out.mono ?_
          rintro e w2 ⟨u2,τ2,rfl,hr2,hs2⟩
          have hp2:=(Hp.out.step (Step.refl wr τr nil).drew (fun _ _ h=>h)).step hs2 (fun _ _ h=>h)
          have d5:=hp2.hd.at 5 (v:=.int .u64 (s0:Int)) rfl
          have hgr:=Qpn hr2.row
          rw[Qbe] at hgr
          obtain⟨pu,cu,rfl⟩:=hr2.val
          obtain⟨Hp2,Hs2,Hgr⟩:=hid3 hp2 hs2 hgr
          clear hp2 hs2 hgr
          clear hr2)
       | (go_simp
          go_at_call 64
          refine Hgr.out.mono ?_
          rintro e w3 ⟨rfl,hm3⟩
          have hs3:=Step.of nil hm3 (Ext.refl _ τ2)
          have hp3:=Hp2.out.step hs3 (fun _ _ h=>h)
          have e5:=hp3.hd.at 5 (v:=.int .u64 (s0:Int)) rfl
          have f5:=hp3.hd.fz 5
          obtain⟨Hp3,Hs3⟩:=hid2 hp3 hs3
          clear hp3 hs3
          clear hm3))
      all_goals (
       have hpf:=Hp3.out.setSt (max s0 (greatTo (lastTo (Di i) j 4) 4)) (by rw[←hmax];exact Hlt64.out)
       have hd3:=((Hdj.out.step (Step.refl wr τr nil).drew (fun _ h=>h.elim)).step Hs2.out (fun _ h=>h.elim)).step Hs3.out (fun _ h=>h.elim)
       have hsf:=(Hst.out.drew.trans ((Hs2.out.trans Hs3.out).mono (fun _ h=>h.elim))).setNew (o:=5) hlow (.int .u64 ((max s0 (greatTo (lastTo (Di i) j 4) 4):Nat):Int))
       have hd4:=hd3.step ((Step.refl _ τ2 (fun g=>g=tPool)).set (o:=5) Hp3.out.hd.tag rfl (.int .u64 ((max s0 (greatTo (lastTo (Di i) j 4) 4):Nat):Int))) (fun g hg=>by subst hg;exact⟨by simp[DevTag,tPool],by decide⟩)
       obtain⟨Hpf,Hsf,Hd4⟩:=hid3 hpf hsf hd4
       clear hpf hsf hd4
       go_wp2_with fail
       go_round)
      all_goals first
       | exact⟨j+1,τ2,by omega,by simp,by rw[hS1,hmax];exact Hpf.out,Hd4.out,Hsf.out⟩
       | (simp[intOf];omega)
     ·obtain rfl:j=i+1:=by omega
      obtain⟨Hp,Hst,Hdj⟩:=hid3 hp hst hdj
      clear hp hst hdj
      go_wp2_with fail
      go_ret2
      exact⟨bp,bf,τr,_,rfl,Hp.out,hHl,hHn,rfl,hlow,Hdj.out,Hst.out⟩)
theorem Qkv {bl bd:Nat} {L:LogM} {D:Dev}(hl:LogAt w τ bl bd L) (hd:DevAt w τ bd D) (n k:Nat) (h1:1≤n) (h5:n≤512) (h3:3≤k) (h64:k≤64) (hn:4*(n+1)≤D.f1.length) (hw:∀i,i<n→Qb3 (lastTo D i 4)=true) :
 Calls Tryz.prog 14 #[.pointer (some ⟨bl,0,none⟩),.int .i64 (n:Int),.int .i64 (k:Int)] w fun e w'=>∃bp bf τ' H,e = .returned (.tuple #[.pointer (some ⟨bp,0,none⟩),.int .u16 0])∧PoolAt w' τ' bp bf H (List.replicate k Fr.no) (Ck.Clk.newS k)∧H.bl=bl∧H.n=n∧H.st=stampTo D (n+1)∧w.heap.size≤bp∧Step w τ w' τ' nil:=by
 refine(Jc9 (S:=nil) (Di:=fun _=>D) hl hd n k h1 h5 h3 h64 (fun _=>rfl) hn (fun _ _ h=>h) (fun _ _ h=>h) (fun i hi W T bp H hp _ hlW hdW=>?_)).mono ?_
 ·refine(Qxk hp hlW hdW i (by omega) (hw i hi)).mono ?_
  rintro e w' ⟨rfl,τ',hs⟩
  exact⟨rfl,τ',hdW.step hs (fun _ h=>h.elim),hs⟩
 ·rintro e w' ⟨bp,bf,τ',H,e1,e2,e3,e4,e5,e6,-,e7⟩
  exact⟨bp,bf,τ',H,e1,e2,e3,e4,e5,e6,e7⟩
end Go.Proofs.YtemacanaihaldaaGreat