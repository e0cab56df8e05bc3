/-
 slices.Chunk over bytes: which parts come,one behind the other;the loop over it.
-/
import Derived.RangeFuncNested
import Derived.RangeFuncBound
import Derived.RangeFuncCalls
import Derived.RangeFuncLeaves
import Derived.Shelf.Abstract
import Derived.Shelf.RegionOpen
import Derived.OwnWalkIn
import Derived.TacticsInMore
import Derived.LoopNIn
import Derived.LoopIn
import Derived.RangeFuncBox
import Derived.Test.YtociicnopccppaaGreatMem
set_option maxRecDepth 100000
set_option maxHeartbeats 2000000
set_option linter.all false
namespace Go.Proofs.YtociicnopccppaaGreat
open Go.RowKit Go.Shelf
attribute [local go_sem] Oper.semAt_some
def qcy (b Bs Bn:Nat) (W W':World):Prop:=∀k,(k=b\/k=Bs\/k=Bn)->W'.heap[k]?=W.heap[k]?
theorem qcy.refl (b a c:Nat) (W:World):qcy b a c W W:=fun _ _=>rfl
theorem qcy.trans {b a c:Nat}{X Y Z:World}(h:qcy b a c X Y) (k:qcy b a c Y Z):qcy b a c X Z:=fun i hi=>(k i hi).trans (h i hi)
theorem qcy.cell {b a c:Nat}{W d:World}(h:qcy b a c W d) {k o:Nat}(e:k=b\/k=a\/k=c):d.cell? ⟨k,o,none⟩=W.cell? ⟨k,o,none⟩:=by
 simp only[World.cell?,h k e]
theorem qcy.drew {b a c:Nat}{W d:World}(h:qcy b a c W d):qcy b a c W d.drew:=h
def parts (len k:Nat):Nat:=(len+k-1)/k
theorem Qms {len k j:Nat}(hk:1<=k) (h:j*k<len):j<parts len k:=by
 unfold parts
 have h1:(j+1)*k<=len+k-1:=by rw[Nat.add_mul];omega
 exact(Nat.le_div_iff_mul_le oM).2 h1
theorem Qtb {len k j:Nat}(b:1<=k) (h:len<=j*k) (h2:∀i,i<j->i*k<len):j=parts len k:=by
 have h1:parts len k<j+1:=by
  unfold parts
  rw[Nat.div_lt_iff_lt_mul oM,Nat.add_mul]
  omega
 rcases Nat.lt_or_ge (parts len k) j with a|a
 ·have h4:=Qms b (h2 _ a)
  omega
 ·omega
def qf8 (b off len k j:Nat):Value:=.slice (some ⟨b,off+j*k,none⟩) (min k (len-j*k)) (min k (len-j*k))
theorem Qv8 (F:Fence) (n:Nat) (hf:F.fn 163) (E:F.round=none) (hn:1<=n) (l C x b off len cap k:Nat) (U:1<=k) (hk2:k<=1000) (hlen:len<=100000000) (hcap:len<=cap) (hcm:cap<=maxLen) (J X:List Nat->World->Prop)
 (hJ:∀pre W,J pre W->J pre W.drew)
 (Y:∀pre W,J pre W->pre.length<parts len k->YieldAt F (n-1) Tryz.prog l #[qf8 b off len k pre.length] W fun e y =>
   (e = .returned (.bool true)/\J (pre++[pre.length]) y/\qcy b C x W y)\/(e = .returned (.bool false)/\X (pre++[pre.length]) y))
 (W:World) (G:W.cell? ⟨C,0,none⟩=some (.slice (some ⟨b,off,none⟩) len cap)) (I:W.cell? ⟨x,0,none⟩=some (.int .i64 k)) (h0:J [] W) :
 CallsIn F n Tryz.prog 163 #[.func (.yield l) #[] #[],.pointer (some ⟨C,0,none⟩),.pointer (some ⟨x,0,none⟩)] W fun e y=>(∃v,e = .returned v) /\
  ((∃ys,ys=List.range (parts len k)/\J ys y)\/(∃pre,True/\X pre y)):=by
 refine callsIn_of_wp Tryz.func163 rfl hf ?_ E
 simp only[Tryz.ntmps163,List.size_toArray,Y4,List.length_nil,Nat.reduceAdd,Nat.reduceSub,Array.replicate_succ,Array.replicate_zero,List.push_toArray,List.append_toArray,List.nil_append,List.cons_append]
 gi_wp2
 gi_loopw [4] (fun i wr=>∃j:Nat,(∀i,i<j->i*k<len)/\i = .int .i64 ((j*k:Nat):Int)/\J (List.range j) wr/\qcy b C x W wr)
  (fun i _=>len+1-(intOf i).toNat)
 case atStart=>exact⟨0,fun i hi=>oM,sM,h0,qcy.refl _ _ _ _⟩
 case round =>
  obtain⟨j,L,rfl,r,g⟩:=hrel
  have c1:=(g.cell (.inr (.inl rfl)) (o:=0)).trans G
  have c2:=(g.cell (.inr (.inr rfl)) (o:=0)).trans I
  generalize hi:j*k=i at *
  by_cases hlt:i<len
  ·have Z:min (k:Int) ((len:Int)-i)=((min k (len-i):Nat):Int):=oM
   generalize z:min k (len-i)=m at *
   have M:J (List.range j) wr.drew:=hJ _ _ r
   obtain⟨fn,tmps,assign,body,D,O⟩:=Y _ _ M (by rw[List.length_range];exact Qms U oM)
   rw[List.length_range] at D O
   unfold qf8 at D
   rw[hi,z] at D
   have e1:i<=cap:=oM
   have e4:¬cap=i:=oM
   have p:1<=m:=oM
   have a:∀q,q<j+1->q*k<len:=by
    intro q hq
    by_cases h:q=j
    ·subst h;omega
    ·exact L q oM
   have B:(j+1)*k=i+k:=by rw[Nat.add_mul];omega
   obtain⟨HI,HN⟩:=qaj B a
   clear B a hi L r z Y
   by_cases hkl:k<=len-i
   ·have s:m=((i:Int)+k).toNat-i:=oM
    clear Z p
    subst s
    have e5:((i:Int)+k).toNat=i+k:=oM
    rw[e5,Nat.add_sub_cancel_left] at D
    have e6:i+k<=cap:=oM
    clear e5
    gi_wp2
    gi_region
    all_goals gi_wp2
    all_goals refine O.mono ?_
    all_goals rintro e W3 (⟨rfl,w,c⟩|⟨rfl,d⟩)
    all_goals first
     | (gi_wp2
        refine bodyPost_ret (results_none rfl _ _ _) rfl ?_
        exact⟨⟨_,rfl⟩,.inr ⟨_,trivial,d⟩⟩)
     | (have c3:=(c.cell (.inr (.inr rfl)) (o:=0)).trans (show wr.drew.cell? ⟨x,0,none⟩=_ from c2)
        gi_wp2
        go_roundw
        case rel=>exact⟨j+1,HN,by rw[HI.out];simp,by rw[List.range_succ];exact w,g.drew.trans c⟩
        case measure=>simp[intOf];omega)
   ·have s:m=len-i:=oM
    clear Z p
    subst s
    have e6:((i:Int)+((len-i:Nat):Int)).toNat<=cap:=oM
    gi_wp2
    gi_region
    all_goals gi_wp2
    all_goals refine O.mono ?_
    all_goals rintro e W3 (⟨rfl,w,c⟩|⟨rfl,d⟩)
    all_goals first
     | (gi_wp2
        refine bodyPost_ret (results_none rfl _ _ _) rfl ?_
        exact⟨⟨_,rfl⟩,.inr ⟨_,trivial,d⟩⟩)
     | (have c3:=(c.cell (.inr (.inr rfl)) (o:=0)).trans (show wr.drew.cell? ⟨x,0,none⟩=_ from c2)
        gi_wp2
        go_roundw
        case rel=>exact⟨j+1,HN,by rw[HI.out];simp,by rw[List.range_succ];exact w,g.drew.trans c⟩
        case measure=>simp[intOf];omega)
  ·gi_wp2
   go_end0
   have R:=Qtb (j:=j) U oM L
   exact⟨⟨_,rfl⟩,.inl ⟨_,by rw[<-R],r⟩⟩
