/-
 slices.Chunk over bytes: which parts come,one behind the other;the loop over it.
-/
import Derived.RangeFuncNested
import Derived.RangeFuncBound
import Derived.RangeFuncCalls
import Derived.RangeFuncLeaves
import Derived.Shelf.Abstract
import Derived.Shelf.RegionOpen
import Derived.OwnWalkIn
import Derived.TacticsInMore
import Derived.LoopNIn
import Derived.LoopIn
import Derived.RangeFuncBox
import Derived.Test.YtemacanaihaldaaGreatMem
set_option maxRecDepth 100000
set_option maxHeartbeats 2000000
set_option linter.all false
namespace Go.Proofs.YtemacanaihaldaaGreat
open Go.RowKit Go.Shelf
attribute [local go_sem] Oper.semAt_some
def Keep3 (b Bs Bn:Nat) (W W':World):Prop:=∀k,(k=b∨k=Bs∨k=Bn)→W'.heap[k]?=W.heap[k]?
theorem Keep3.refl (b Bs Bn:Nat) (W:World):Keep3 b Bs Bn W W:=fun _ _=>rfl
theorem Keep3.trans {b Bs Bn:Nat}{X Y Z:World}(h:Keep3 b Bs Bn X Y) (k:Keep3 b Bs Bn Y Z):Keep3 b Bs Bn X Z:=fun i hi=>(k i hi).trans (h i hi)
theorem Keep3.cell {b Bs Bn:Nat}{W W':World}(h:Keep3 b Bs Bn W W') {k o:Nat}(hk:k=b∨k=Bs∨k=Bn):W'.cell? ⟨k,o,none⟩=W.cell? ⟨k,o,none⟩:=by
 simp only[World.cell?,h k hk]
theorem Keep3.drew {b Bs Bn:Nat}{W W':World}(h:Keep3 b Bs Bn W W'):Keep3 b Bs Bn W W'.drew:=h
def parts (len k:Nat):Nat:=(len+k-1)/k
theorem Qms {len k j:Nat}(hk:1≤k) (h:j*k<len):j<parts len k:=by
 unfold parts
 have h1:(j+1)*k≤len+k-1:=by rw[Nat.add_mul];omega
 exact(Nat.le_div_iff_mul_le (by omega)).2 h1
theorem Qtb {len k j:Nat}(hk:1≤k) (h:len≤j*k) (h2:∀i,i<j→i*k<len):j=parts len k:=by
 have h1:parts len k<j+1:=by
  unfold parts
  rw[Nat.div_lt_iff_lt_mul (by omega),Nat.add_mul]
  omega
 rcases Nat.lt_or_ge (parts len k) j with h3|h3
 ·have h4:=Qms hk (h2 _ h3)
  omega
 ·omega
def partV (b off len k j:Nat):Value:=.slice (some ⟨b,off+j*k,none⟩) (min k (len-j*k)) (min k (len-j*k))
theorem Qv8 (F:Fence) (n:Nat) (hf:F.fn 207) (hro:F.round=none) (hn:1≤n) (l Bs Bn b off len cap k:Nat) (hk:1≤k) (hk2:k≤1000) (hlen:len≤100000000) (hcap:len≤cap) (hcm:cap≤maxLen) (J Jx:List Nat→World→Prop)
 (hJ:∀pre W,J pre W→J pre W.drew)
 (hY:∀pre W,J pre W→pre.length<parts len k→YieldAt F (n-1) Tryz.prog l #[partV b off len k pre.length] W fun e W' =>
   (e = .returned (.bool true)∧J (pre++[pre.length]) W'∧Keep3 b Bs Bn W W')∨(e = .returned (.bool false)∧Jx (pre++[pre.length]) W'))
 (W:World) (hBs:W.cell? ⟨Bs,0,none⟩=some (.slice (some ⟨b,off,none⟩) len cap)) (hBn:W.cell? ⟨Bn,0,none⟩=some (.int .i64 (k:Int))) (h0:J [] W) :
 CallsIn F n Tryz.prog 207 #[.func (.yield l) #[] #[],.pointer (some ⟨Bs,0,none⟩),.pointer (some ⟨Bn,0,none⟩)] W fun e W'=>(∃v,e = .returned v) ∧
  ((∃ys,ys=List.range (parts len k)∧J ys W')∨(∃pre,True∧Jx pre W')):=by
 refine callsIn_of_wp Tryz.func207 rfl hf ?_ hro
 simp only[Tryz.ntmps207,List.size_toArray,List.length_cons,List.length_nil,Nat.reduceAdd,Nat.reduceSub,Array.replicate_succ,Array.replicate_zero,List.push_toArray,List.append_toArray,List.nil_append,List.cons_append]
 gi_wp2
 gi_loopw [4] (fun i wr=>∃j:Nat,(∀i,i<j→i*k<len)∧i = .int .i64 ((j*k:Nat):Int)∧J (List.range j) wr∧Keep3 b Bs Bn W wr)
  (fun i _=>len+1-(intOf i).toNat)
 case atStart=>exact⟨0,fun i hi=>by omega,by simp,h0,Keep3.refl _ _ _ _⟩
 case round =>
  obtain⟨j,hj,rfl,hJs,hkp⟩:=hrel
  have c1:=(hkp.cell (.inr (.inl rfl)) (o:=0)).trans hBs
  have c2:=(hkp.cell (.inr (.inr rfl)) (o:=0)).trans hBn
  generalize hi:j*k=i at *
  by_cases hlt:i<len
  ·have hm:min (k:Int) ((len:Int)-(i:Int))=((min k (len-i):Nat):Int):=by omega
   generalize hmm:min k (len-i)=m at *
   have hj':J (List.range j) wr.drew:=hJ _ _ hJs
   obtain⟨fn,tmps,assign,body,hy,hR⟩:=hY _ _ hj' (by rw[List.length_range];exact Qms hk (by omega))
   rw[List.length_range] at hy hR
   unfold partV at hy
   rw[hi,hmm] at hy
   have e1:i≤cap:=by omega
   have e2:i+m≤cap:=by omega
   have e3:(i:Int)+(m:Int)≤(cap:Int):=by omega
   have e4:¬cap=i:=by omega
   have hpos:1≤m:=by omega
   have hnext:∀q,q<j+1→q*k<len:=by
    intro q hq
    by_cases h:q=j
    ·subst h;omega
    ·exact hj q (by omega)
   have hi2:(j+1)*k=i+k:=by rw[Nat.add_mul];omega
   obtain⟨HI,HN⟩:=hid2 hi2 hnext
   clear hi2 hnext hi hj hJs hmm hY
   by_cases hkl:k≤len-i
   ·have hmk:m=((i:Int)+(k:Int)).toNat-i:=by omega
    clear hm e2 e3 hpos
    subst hmk
    have e5:((i:Int)+(k:Int)).toNat=i+k:=by omega
    rw[e5,Nat.add_sub_cancel_left] at hy
    have e6:i+k≤cap:=by omega
    clear e5
    gi_wp2
    gi_region
    all_goals gi_wp2
    all_goals refine hR.mono ?_
    all_goals rintro e W3 (⟨rfl,hJ3,hk3⟩|⟨rfl,hJx3⟩)
    all_goals first
     | (gi_wp2
        refine bodyPost_ret (results_none rfl _ _ _) rfl ?_
        exact⟨⟨_,rfl⟩,.inr ⟨_,trivial,hJx3⟩⟩)
     | (have c3:=(hk3.cell (.inr (.inr rfl)) (o:=0)).trans (show wr.drew.cell? ⟨Bn,0,none⟩=_ from c2)
        gi_wp2
        go_roundw
        case rel=>exact⟨j+1,HN.out,by rw[HI.out];simp,by rw[List.range_succ];exact hJ3,hkp.drew.trans hk3⟩
        case measure=>simp[intOf];omega)
   ·have hmk:m=len-i:=by omega
    have hle:len-i≤k:=by omega
    clear hm e2 e3 hpos
    subst hmk
    have e6:((i:Int)+((len-i:Nat):Int)).toNat≤cap:=by omega
    gi_wp2
    gi_region
    all_goals gi_wp2
    all_goals refine hR.mono ?_
    all_goals rintro e W3 (⟨rfl,hJ3,hk3⟩|⟨rfl,hJx3⟩)
    all_goals first
     | (gi_wp2
        refine bodyPost_ret (results_none rfl _ _ _) rfl ?_
        exact⟨⟨_,rfl⟩,.inr ⟨_,trivial,hJx3⟩⟩)
     | (have c3:=(hk3.cell (.inr (.inr rfl)) (o:=0)).trans (show wr.drew.cell? ⟨Bn,0,none⟩=_ from c2)
        gi_wp2
        go_roundw
        case rel=>exact⟨j+1,HN.out,by rw[HI.out];simp,by rw[List.range_succ];exact hJ3,hkp.drew.trans hk3⟩
        case measure=>simp[intOf];omega)
  ·gi_wp2
   go_end0
   have hjp:=Qtb (j:=j) hk (by omega) hj
   exact⟨⟨_,rfl⟩,.inl ⟨_,by rw[←hjp],hJs⟩⟩
end Go.Proofs.YtemacanaihaldaaGreat