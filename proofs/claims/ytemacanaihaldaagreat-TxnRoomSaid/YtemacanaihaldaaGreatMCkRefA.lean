/-
 The reference's clock in memory: stores into it;is.
-/
import Derived.Test.YtemacanaihaldaaGreatMCkModel
set_option linter.all false
namespace Go.Proofs.YtemacanaihaldaaGreat.Ck
open Go.RowKit Clk
structure RC (w:World) (br bt bu bp:Nat) (s:St):Prop where
 n1:1<=s.n
 n64:s.n<=64
 hh:s.h<s.n
 d1:br≠bt
 d2:br≠bu
 d3:br≠bp
 d4:bt≠bu
 d5:bt≠bp
 d6:bu≠bp
 c0:w.cell? ⟨br,0,none⟩=some (.slice (some ⟨bt,0,none⟩) s.n s.n)
 c1:w.cell? ⟨br,1,none⟩=some (.slice (some ⟨bu,0,none⟩) s.n s.n)
 c2:w.cell? ⟨br,2,none⟩=some (.slice (some ⟨bp,0,none⟩) s.n s.n)
 c3:w.cell? ⟨br,3,none⟩=some (.int .i64 (s.h:Int))
 fr:∀o,w.frozen? ⟨br,o,none⟩=false
 ct:∀k,k<s.n->w.cell? ⟨bt,k,none⟩=some (.bool (s.t k))
 ft:∀o,w.frozen? ⟨bt,o,none⟩=false
 cu:∀k,k<s.n->w.cell? ⟨bu,k,none⟩=some (.bool (s.u k))
 fu:∀o,w.frozen? ⟨bu,o,none⟩=false
 cp:∀k,k<s.n->w.cell? ⟨bp,k,none⟩=some (.int .i64 (s.p k:Int))
 fp:∀o,w.frozen? ⟨bp,o,none⟩=false
end Go.Proofs.YtemacanaihaldaaGreat.Ck
namespace Go.Proofs.YtemacanaihaldaaGreat.Ck
open Go.RowKit Clk
end Go.Proofs.YtemacanaihaldaaGreat.Ck
namespace Go.Proofs.YtemacanaihaldaaGreat.Ck
open Go.RowKit Clk
end Go.Proofs.YtemacanaihaldaaGreat.Ck
namespace Go.Proofs.YtemacanaihaldaaGreat.Ck
open Go.RowKit Clk
theorem Ck.info4 : (Tryz.prog.info? 4).map (fun i=>(i.zero,i.size,i.bytes))=some (some (.bool false),1,1):=by kernel_rfl
theorem Ck.info3 : (Tryz.prog.info? 3).map (fun i=>(i.zero,i.size,i.bytes))=some (some (.int .i64 0),1,8):=by kernel_rfl
theorem Qu4 (k:Nat) (hk:k<=64) (W:World):(Instr.makeSlice 350 (.int .i64 (k:Int)) (.int .i64 (k:Int))).run Tryz.prog W =
 .ok (.slice (some ⟨W.heap.size,0,none⟩) k k) (W.alloc (.cells (madeCells #[.bool false] k) 4)):=by
 obtain⟨i,hi,b,d,e⟩:=info_parts Ck.info4
 have:=run_make (P:=Tryz.prog) W 350 4 i (.bool false) Tryz.underlying350 hi b .i64 .i64 k k (by omega) (Int.le_refl _) (by rw[e];omega) (by omega)
 simp only[Int.toNat_natCast,d,Nat.mul_one] at this
 exact this
theorem Qnh (k:Nat) (hk:k<=64) (W:World):(Instr.makeSlice 98 (.int .i64 (k:Int)) (.int .i64 (k:Int))).run Tryz.prog W =
 .ok (.slice (some ⟨W.heap.size,0,none⟩) k k) (W.alloc (.cells (madeCells #[.int .i64 0] k) 3)):=by
 obtain⟨i,hi,b,d,e⟩:=info_parts Ck.info3
 have:=run_make (P:=Tryz.prog) W 98 3 i (.int .i64 0) Tryz.underlying98 hi b .i64 .i64 k k (by omega) (Int.le_refl _) (by rw[e];omega) (by omega)
 simp only[Int.toNat_natCast,d,Nat.mul_one] at this
 exact this
def MadeR (w:World) (s:St) (e:Ending) (w':World):Prop :=
 ∃br bt bu bp,e = .returned (.pointer (some ⟨br,0,none⟩))/\w.heap.size<=br/\w.heap.size<=bt/\w.heap.size<=bu/\w.heap.size<=bp/\RC w' br bt bu bp s/\Mod w w' []
theorem Qn9 (w:World) (o:Obj) (k:Nat):(w.alloc o).heap[k]?=if k=w.heap.size then some o else w.heap[k]?:=by
 rw[show (w.alloc o).heap=w.heap.push o from rfl,Array.getElem?_push]
theorem Qs1 (w:World) (o:Obj):(w.alloc o).heap.size=w.heap.size+1:=by simp
theorem Qvt (w:World):w.drew.heap=w.heap:=rfl
theorem heap4 (w:World) (A B C D:Obj):((((w.alloc A).alloc B).alloc C).alloc D).drew.heap[w.heap.size]?=some A/\((((w.alloc A).alloc B).alloc C).alloc D).drew.heap[w.heap.size+1]?=some B /\
 ((((w.alloc A).alloc B).alloc C).alloc D).drew.heap[w.heap.size+1+1]?=some C/\((((w.alloc A).alloc B).alloc C).alloc D).drew.heap[w.heap.size+1+1+1]?=some D:=by
 simp only[Qvt,Qn9,Qs1]
 refine⟨?_,?_,?_,?_⟩
 ·rw[if_neg (by omega),if_neg (by omega),if_neg (by omega),if_pos trivial]
 ·rw[if_neg (by omega),if_neg (by omega),if_pos trivial]
 ·rw[if_neg (by omega),if_pos trivial]
 ·rw[if_pos trivial]
theorem Qij (W:World) (br bt d bp k:Nat) (h1:1<=k) (h:k<=64) (d1:br≠bt) (d2:br≠d) (d3:br≠bp) (d4:bt≠d) (d5:bt≠bp) (d6:d≠bp)
 (i:W.heap[bt]?=some (.cells (madeCells #[.bool false] k) 4)) (hu:W.heap[d]?=some (.cells (madeCells #[.bool false] k) 4))
 (l:W.heap[bp]?=some (.cells (madeCells #[.int .i64 0] k) 3))
 (e:W.heap[br]?=some (.cells #[.slice (some ⟨bt,0,none⟩) k k,.slice (some ⟨d,0,none⟩) k k,.slice (some ⟨bp,0,none⟩) k k,.int .i64 0] 352)):RC W br bt d bp (newS k):=by
 have m:∀j,j<k->(madeCells #[.bool false] k)[j]?=some (.bool false):=by
  intro j b
  rw[made_get _ _ _ b]
  show some (#[Value.bool false][j%1]!)=_
  rw[Nat.mod_one];rfl
 have p:∀j,j<k->(madeCells #[.int .i64 0] k)[j]?=some (.int .i64 0):=by
  intro j b
  rw[made_get _ _ _ b]
  show some (#[Value.int .i64 0][j%1]!)=_
  rw[Nat.mod_one];rfl
 refine⟨h1,h,h1,d1,d2,d3,d4,d5,d6,?_,?_,?_,?_,?_,?_,?_,?_,?_,?_,?_⟩
 ·simp[World.cell?,e,newS]
 ·simp[World.cell?,e,newS]
 ·simp[World.cell?,e,newS]
 ·simp[World.cell?,e,newS]
 ·intro o;simp[World.frozen?,e]
 ·intro j b;simp only[World.cell?,i];simpa [newS] using m j b
 ·intro o;simp[World.frozen?,i]
 ·intro j b;simp only[World.cell?,hu];simpa [newS] using m j b
 ·intro o;simp[World.frozen?,hu]
 ·intro j b;simp only[World.cell?,l];simpa [newS] using p j b
 ·intro o;simp[World.frozen?,l]
theorem rnew_ok (w:World) (k:Nat) (h1:1<=k) (b:k<=64) :
 Calls Tryz.prog 177 #[.int .i64 (k:Int)] w (MadeR w (newS k)):=by
 have hmk:=Qu4 k b
 have hmi:=Qnh k b
 have a0:decide ((k:Int)<1)=false:=by simp;omega
 have a1:decide ((64:Int)<(k:Int))=false:=by simp;omega
 go_enter Tryz.func177,Tryz.ntmps177
 go_wp2
 go_region
 all_goals (go_wp2;go_ret)
 all_goals first
  | (refine⟨_,w.heap.size,(w.heap.size+1),(w.heap.size+1+1),rfl,?_,?_,?_,?_,Qij _ _ _ _ _ k h1 b ?_ ?_ ?_ ?_ ?_ ?_ ?_ ?_ ?_ ?_,?_⟩ <;> first|omega|exact(heap4 _ _ _ _ _).1|exact(heap4 _ _ _ _ _).2.1|exact(heap4 _ _ _ _ _).2.2.1|exact(heap4 _ _ _ _ _).2.2.2|exact(((((Mod.refl _ _).alloc _).alloc _).alloc _).alloc _).drew)
  | (refine⟨_,w.heap.size,(w.heap.size+1+1),(w.heap.size+1),rfl,?_,?_,?_,?_,Qij _ _ _ _ _ k h1 b ?_ ?_ ?_ ?_ ?_ ?_ ?_ ?_ ?_ ?_,?_⟩ <;> first|omega|exact(heap4 _ _ _ _ _).1|exact(heap4 _ _ _ _ _).2.1|exact(heap4 _ _ _ _ _).2.2.1|exact(heap4 _ _ _ _ _).2.2.2|exact(((((Mod.refl _ _).alloc _).alloc _).alloc _).alloc _).drew)
  | (refine⟨_,(w.heap.size+1),w.heap.size,(w.heap.size+1+1),rfl,?_,?_,?_,?_,Qij _ _ _ _ _ k h1 b ?_ ?_ ?_ ?_ ?_ ?_ ?_ ?_ ?_ ?_,?_⟩ <;> first|omega|exact(heap4 _ _ _ _ _).1|exact(heap4 _ _ _ _ _).2.1|exact(heap4 _ _ _ _ _).2.2.1|exact(heap4 _ _ _ _ _).2.2.2|exact(((((Mod.refl _ _).alloc _).alloc _).alloc _).alloc _).drew)
  | (refine⟨_,(w.heap.size+1),(w.heap.size+1+1),w.heap.size,rfl,?_,?_,?_,?_,Qij _ _ _ _ _ k h1 b ?_ ?_ ?_ ?_ ?_ ?_ ?_ ?_ ?_ ?_,?_⟩ <;> first|omega|exact(heap4 _ _ _ _ _).1|exact(heap4 _ _ _ _ _).2.1|exact(heap4 _ _ _ _ _).2.2.1|exact(heap4 _ _ _ _ _).2.2.2|exact(((((Mod.refl _ _).alloc _).alloc _).alloc _).alloc _).drew)
  | (refine⟨_,(w.heap.size+1+1),w.heap.size,(w.heap.size+1),rfl,?_,?_,?_,?_,Qij _ _ _ _ _ k h1 b ?_ ?_ ?_ ?_ ?_ ?_ ?_ ?_ ?_ ?_,?_⟩ <;> first|omega|exact(heap4 _ _ _ _ _).1|exact(heap4 _ _ _ _ _).2.1|exact(heap4 _ _ _ _ _).2.2.1|exact(heap4 _ _ _ _ _).2.2.2|exact(((((Mod.refl _ _).alloc _).alloc _).alloc _).alloc _).drew)
  | (refine⟨_,(w.heap.size+1+1),(w.heap.size+1),w.heap.size,rfl,?_,?_,?_,?_,Qij _ _ _ _ _ k h1 b ?_ ?_ ?_ ?_ ?_ ?_ ?_ ?_ ?_ ?_,?_⟩ <;> first|omega|exact(heap4 _ _ _ _ _).1|exact(heap4 _ _ _ _ _).2.1|exact(heap4 _ _ _ _ _).2.2.1|exact(heap4 _ _ _ _ _).2.2.2|exact(((((Mod.refl _ _).alloc _).alloc _).alloc _).alloc _).drew)
end Go.Proofs.YtemacanaihaldaaGreat.Ck
