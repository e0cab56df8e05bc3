/-
 A row of dirty pages,sorted by their numbers.
-/
import Derived.Test.YtemacanaihaldaaGreatMPoolZ
import Derived.Test.YtemacanaihaldaaGreatSortL
set_option linter.all false
namespace Go.Proofs.YtemacanaihaldaaGreat
open Go.RowKit Go.Lib Go.Sort
theorem Jdd (w:World) (x:Int):Calls Tryz.prog 225 #[.int .u32 x] w fun e w'=>e = .returned (.bool false)∧w=w':=by
 go_enter Tryz.func225,Tryz.ntmps225
 go_wp2_with fail
 go_ret
 exact⟨rfl,rfl⟩
theorem Jdu (w:World) (x y:Int):Calls Tryz.prog 148 #[.int .u32 x,.int .u32 y] w fun e w'=>e = .returned (.int .i64 (compareInt x y))∧w=w':=by
 have h1:=Jdd w x
 have h2:=Jdd w y
 obtain⟨H1,H2⟩:=hid2 h1 h2
 clear h1 h2
 unfold compareInt
 by_cases hxy:x<y
 ·rw[if_pos hxy]
  go_enter Tryz.func148,Tryz.ntmps148
  go_wp2_with fail
  refine H1.out.mono ?_
  rintro e w' ⟨rfl,rfl⟩
  go_wp2_with fail
  refine H2.out.mono ?_
  rintro e w' ⟨rfl,rfl⟩
  go_wp2_with fail
  go_ret
  exact⟨rfl,rfl⟩
 ·rw[if_neg hxy]
  by_cases hyx:x>y
  ·rw[if_pos hyx]
   go_enter Tryz.func148,Tryz.ntmps148
   go_wp2_with fail
   refine H1.out.mono ?_
   rintro e w' ⟨rfl,rfl⟩
   go_wp2_with fail
   refine H2.out.mono ?_
   rintro e w' ⟨rfl,rfl⟩
   go_wp2_with fail
   go_ret
   exact⟨rfl,rfl⟩
  ·rw[if_neg hyx]
   go_enter Tryz.func148,Tryz.ntmps148
   go_wp2_with fail
   refine H1.out.mono ?_
   rintro e w' ⟨rfl,rfl⟩
   go_wp2_with fail
   refine H2.out.mono ?_
   rintro e w' ⟨rfl,rfl⟩
   go_wp2_with fail
   go_ret
   exact⟨rfl,rfl⟩
def dCmp (x y:Nat×Nat):Int:=compareInt (x.1:Int) (y.1:Int)
theorem Jel (x y:Nat×Nat) (W:World):Calls Tryz.prog 147 #[.agg #[.int .u32 (x.1:Int),.int .u64 (x.2:Int)],.agg #[.int .u32 (y.1:Int),.int .u64 (y.2:Int)]] W fun e w'=>e = .returned (.int .i64 (dCmp x y))∧∃q os',w'=grow (W.drewN q) os':=by
 have hcon:=fun W'=>Jdu W' (x.1:Int) (y.1:Int)
 show Calls _ _ _ _ (fun e w'=>e = .returned (.int .i64 (compareInt (x.1:Int) (y.1:Int)))∧_)
 generalize compareInt (x.1:Int) (y.1:Int)=r at hcon ⊢
 have Hcon:=Lib.hid hcon
 clear hcon
 go_enter Tryz.func147,Tryz.ntmps147
 go_wp2_with fail
 refine(Hcon.out _).mono ?_
 rintro e w' ⟨rfl,rfl⟩
 go_wp2_with fail
 go_ret
 exact⟨rfl,0,_,by rw[alloc_eq_grow,alloc_eq_grow,grow_grow];rfl⟩
theorem Jdt (x y:Nat×Nat):ltOf dCmp x y=decide (x.1<y.1):=by
 unfold ltOf dCmp compareInt
 by_cases h:x.1<y.1
 ·rw[if_pos (by omega),decide_eq_true h];rfl
 ·rw[if_neg (by omega),decide_eq_false h]
  split <;> rfl
theorem Jgh:SWO (ltOf dCmp):=by
 refine⟨fun x=>?_,fun x y z h1 h2=>?_,fun x y z h1 h2=>?_⟩
 ·rw[Jdt];simp
 ·rw[Jdt] at *
  have:=of_decide_eq_true h1
  have:=of_decide_eq_true h2
  exact decide_eq_true (by omega)
 ·rw[Jdt] at *
  have:=of_decide_eq_false h1
  have:=of_decide_eq_false h2
  exact decide_eq_false (by omega)
theorem Jdm (d:Array (Nat×Nat)) (i:Nat) (h:i<d.size*2):(Qf1 d.toList)[i]?=some ((flatK dOne 2 d)[i]!):=by
 rw[get_flatK dOne 2 d i h]
 have h1:i/2<d.toList.length:=by rw[Array.length_toList];omega
 have h2:=Ja0 d.toList (i/2) (i%2) (by omega) h1
 rw[show i/2*2+i%2=i by omega] at h2
 rw[h2]
 have h3:d[i/2]! = d.toList[i/2]:=by
  rw[getElem!_pos d (i/2) (by omega)];rfl
 rw[h3]
 have h4:i%2=0∨i%2=1:=by omega
 rcases h4 with h4|h4 <;> rw[h4] <;> rfl
theorem Jdy (K:Nat) (hK:K≤1000000):SortD K:=by
 intro n0 W T v l hl hnd
 obtain⟨hx,⟨rfl,he⟩|⟨b,cap,ys,rfl,ho,h3,h4,h5⟩⟩:=hnd.buf
 ·have hnil:l=[]:=List.eq_nil_of_length_eq_zero he
  subst hnil
  refine(Qw4 W _).mono ?_
  rintro e w' ⟨he,rfl⟩
  exact⟨he,[],List.Perm.refl _,List.Pairwise.nil,hnd,Mod.refl _ _⟩
 ·have eg:∀args w,(callFunc 147 args).run Tryz.prog w = .ok (.enter 147 args) w:=enters_of Tryz.func147 (by kernel_rfl) rfl
  have hH:HoldsK dOne 2 W b 0 l.toArray:=by
   intro j hj
   rw[size_flatK] at hj
   rw[Nat.zero_add]
   have hf:=Jdm l.toArray j hj
   refine⟨?_,ho.fz _⟩
   rw[ho.cell,List.getElem?_append_left (by rw[Qx5];simpa using hj)]
   exact hf
  have hcon:=AnyQ.slices_SortFunc Tryz.sortD 2 Tryz.isAgg195 Tryz.sizeOf195 dOne (fun _=>rfl) (fun x u hu=>by simp[dOne] at hu;rcases hu with rfl|rfl <;> rfl) dCmp Jgh 147 #[] b 0 cap l.toArray W eg (fun _ _ _ _ x y=>Jel x y _) hH ho.lt (by simp;omega)
  rw[show l.toArray.size=l.length by simp] at hcon
  refine hcon.mono ?_
  rintro e w' ⟨he,d',m,os,hp,hs,rfl⟩
  have hsz:d'.size=l.length:=by rw[hp.1];simp
  have hheap:(sortWorldK dOne 2 W b 0 m d' os).heap=(W.heap.modify b (onCells (putCells id 0 (flatK dOne 2 d'))))++os:=rfl
  have hlt:=ho.lt
  have hlen':d'.toList.length=l.length:=by rw[Array.length_toList,hsz]
  have hrow:(putCells id 0 (flatK dOne 2 d') ⟨Qf1 l++ys⟩)=⟨Qf1 d'.toList++ys⟩:=by
   apply Array.ext_getElem?
   intro j
   unfold putCells
   rw[Array.getElem?_mapIdx]
   simp only[List.getElem?_toArray,size_flatK,Nat.zero_add,Nat.zero_le,true_and,Nat.sub_zero,hsz,id]
   by_cases hj:j<l.length*2
   ·rw[List.getElem?_append_left (by rw[Qx5];exact hj),List.getElem?_append_left (by rw[Qx5,hlen'];exact hj),Jdm d' j (by rw[hsz];exact hj),List.getElem?_eq_getElem (by rw[Qx5];exact hj)]
    simp[hj]
   ·rw[List.getElem?_append_right (by rw[Qx5];omega),List.getElem?_append_right (by rw[Qx5,hlen'];omega),Qx5,Qx5,hlen']
    cases ys[j-l.length*2]? with
    | none=>rfl
    | some u=>simp[hj]
  have hown:Own (sortWorldK dOne 2 W b 0 m d' os) T b tDirt 195 (Qf1 d'.toList++ys):=by
   refine⟨?_,ho.tag⟩
   rw[hheap,Array.getElem?_append_left (by simpa using hlt),Array.getElem?_modify,if_pos rfl,ho.row]
   show some (Obj.cells _ _ _)=_
   rw[hrow]
  have hmod:Mod W (sortWorldK dOne 2 W b 0 m d' os) (fun k=>(Value.slice (some ⟨b,0,none⟩) l.length cap).ownBlock=some k):=by
   refine⟨rfl,rfl,rfl,?_,fun k hk hn=>?_⟩
   ·rw[hheap,Array.size_append,Array.size_modify];omega
   ·rw[hheap,Array.getElem?_append_left (by simpa using hk),Array.getElem?_modify,if_neg (fun e=>hn (by rw[e];rfl))]
  refine⟨he,d'.toList,?_,?_,⟨⟨by rw[Qx5,hlen'],.inr ⟨b,cap,ys,by rw[hlen'],hown,?_,by rw[hlen'];exact h4,h5⟩⟩,hnd.low⟩,hmod⟩
  ·have h6:=hp.2.2
   have e1:(d'.extract 0 l.length).toList=d'.toList:=by rw[←hsz];simp
   have e2:(l.toArray.extract 0 l.length).toList=l:=by simp
   rw[e1,e2] at h6
   exact h6
  ·rw[List.pairwise_iff_getElem]
   intro i j hi hj hij
   have h7:=hs i j (Nat.zero_le _) hij (by rw[←hlen'];exact hj)
   rw[Jdt] at h7
   have h8:=of_decide_eq_false h7
   rw[Array.length_toList] at hi hj
   rw[getElem!_pos d' i hi,getElem!_pos d' j hj] at h8
   simp only[Array.getElem_toList]
   omega
  ·rw[Qx5,hlen']
   rw[Qx5] at h3
   exact h3
end Go.Proofs.YtemacanaihaldaaGreat
namespace Go.Proofs.YtemacanaihaldaaGreat
open Go.RowKit
structure SameLog (L M:LogM):Prop where
 base:M.base=L.base
 stream:M.stream=L.stream
 starts:M.starts=L.starts
 strips:M.strips=L.strips
 firstS:M.firstS=L.firstS
 lasts:L.lasts≤M.lasts
theorem SameLog.refl (L:LogM):SameLog L L:=⟨rfl,rfl,rfl,rfl,rfl,Nat.le_refl _⟩
theorem SameLog.flush (L:LogM) (k:Nat):SameLog L (flL L k):=by
 obtain⟨e1,e2,e3,e4,e5⟩:=Qjz L k
 exact⟨e1,e2,e3,e4,e5,(Qlm L k).1⟩
theorem Qtd {P:List Int}(h:Sound P):pageLSN P<18446744073709551616:=by
 have h2:=Qjw h.tidy.isB 0 8
 have h5:(2:Nat) ^ (8*8)=18446744073709551616:=by decide
 rw[h5] at h2;exact h2
end Go.Proofs.YtemacanaihaldaaGreat