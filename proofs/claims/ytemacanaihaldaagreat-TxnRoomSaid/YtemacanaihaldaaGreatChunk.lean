/-
 slices.Chunk over bytes: which parts come,one behind the other;the loop over it.
-/
import Derived.RangeFuncNested
import Derived.RangeFuncBound
import Derived.RangeFuncCalls
import Derived.RangeFuncLeaves
import Derived.Shelf.Abstract
import Derived.Shelf.RegionOpen
import Derived.OwnWalkIn
import Derived.TacticsInMore
import Derived.LoopNIn
import Derived.LoopIn
import Derived.RangeFuncBox
import Derived.Test.YtemacanaihaldaaGreatMem
set_option maxRecDepth 100000
set_option maxHeartbeats 2000000
set_option linter.all false
namespace Go.Proofs.YtemacanaihaldaaGreat
open Go.RowKit Go.Shelf
attribute [local go_sem] Oper.semAt_some
def Keep3 (b Bs Bn:Nat) (W W':World):Prop:=∀k,(k=b\/k=Bs\/k=Bn)->W'.heap[k]?=W.heap[k]?
theorem Keep3.refl (b d e:Nat) (W:World):Keep3 b d e W W:=fun _ _=>rfl
theorem Keep3.trans {b d e:Nat}{X Y Z:World}(h:Keep3 b d e X Y) (k:Keep3 b d e Y Z):Keep3 b d e X Z:=fun i hi=>(k i hi).trans (h i hi)
theorem Keep3.cell {b d e:Nat}{W i:World}(h:Keep3 b d e W i) {k o:Nat}(hk:k=b\/k=d\/k=e):i.cell? ⟨k,o,none⟩=W.cell? ⟨k,o,none⟩:=by
 simp only[World.cell?,h k hk]
theorem Keep3.drew {b d e:Nat}{W i:World}(h:Keep3 b d e W i):Keep3 b d e W i.drew:=h
def parts (len k:Nat):Nat:=(len+k-1)/k
theorem Qms {len k j:Nat}(hk:1<=k) (h:j*k<len):j<parts len k:=by
 unfold parts
 have h1:(j+1)*k<=len+k-1:=by rw[Nat.add_mul];omega
 exact(Nat.le_div_iff_mul_le (by omega)).2 h1
theorem Qtb {len k j:Nat}(hk:1<=k) (h:len<=j*k) (h2:∀i,i<j->i*k<len):j=parts len k:=by
 have h1:parts len k<j+1:=by
  unfold parts
  rw[Nat.div_lt_iff_lt_mul (by omega),Nat.add_mul]
  omega
 rcases Nat.lt_or_ge (parts len k) j with b|b
 ·have h4:=Qms hk (h2 _ b)
  omega
 ·omega
def partV (b off len k j:Nat):Value:=.slice (some ⟨b,off+j*k,none⟩) (min k (len-j*k)) (min k (len-j*k))
theorem Qv8 (F:Fence) (n:Nat) (hf:F.fn 207) (L:F.round=none) (hn:1<=n) (l G B b off len cap k:Nat) (hk:1<=k) (hk2:k<=1000) (hlen:len<=100000000) (hcap:len<=cap) (hcm:cap<=maxLen) (J Y:List Nat->World->Prop)
 (hJ:∀pre W,J pre W->J pre W.drew)
 (Z:∀pre W,J pre W->pre.length<parts len k->YieldAt F (n-1) Tryz.prog l #[partV b off len k pre.length] W fun e C =>
   (e = .returned (.bool true)/\J (pre++[pre.length]) C/\Keep3 b G B W C)\/(e = .returned (.bool false)/\Y (pre++[pre.length]) C))
 (W:World) (M:W.cell? ⟨G,0,none⟩=some (.slice (some ⟨b,off,none⟩) len cap)) (N:W.cell? ⟨B,0,none⟩=some (.int .i64 (k:Int))) (h0:J [] W) :
 CallsIn F n Tryz.prog 207 #[.func (.yield l) #[] #[],.pointer (some ⟨G,0,none⟩),.pointer (some ⟨B,0,none⟩)] W fun e C=>(∃v,e = .returned v) /\
  ((∃ys,ys=List.range (parts len k)/\J ys C)\/(∃pre,True/\Y pre C)):=by
 refine callsIn_of_wp Tryz.func207 rfl hf ?_ L
 simp only[Tryz.ntmps207,List.size_toArray,Y4,List.length_nil,Nat.reduceAdd,Nat.reduceSub,Array.replicate_succ,Array.replicate_zero,List.push_toArray,List.append_toArray,List.nil_append,List.cons_append]
 gi_wp2
 gi_loopw [4] (fun i wr=>∃j:Nat,(∀i,i<j->i*k<len)/\i = .int .i64 ((j*k:Nat):Int)/\J (List.range j) wr/\Keep3 b G B W wr)
  (fun i _=>len+1-(intOf i).toNat)
 case atStart=>exact⟨0,fun i hi=>by omega,by simp,h0,Keep3.refl _ _ _ _⟩
 case round =>
  obtain⟨j,O,rfl,x,s⟩:=hrel
  have c1:=(s.cell (.inr (.inl rfl)) (o:=0)).trans M
  have c2:=(s.cell (.inr (.inr rfl)) (o:=0)).trans N
  generalize hi:j*k=i at *
  by_cases hlt:i<len
  ·have hm:min (k:Int) ((len:Int)-(i:Int))=((min k (len-i):Nat):Int):=by omega
   generalize D:min k (len-i)=m at *
   have R:J (List.range j) wr.drew:=hJ _ _ x
   obtain⟨fn,tmps,assign,body,I,U⟩:=Z _ _ R (by rw[List.length_range];exact Qms hk (by omega))
   rw[List.length_range] at I U
   unfold partV at I
   rw[hi,D] at I
   have e1:i<=cap:=by omega
   have e2:i+m<=cap:=by omega
   have e3:(i:Int)+(m:Int)<=(cap:Int):=by omega
   have e4:¬cap=i:=by omega
   have w:1<=m:=by omega
   have d:∀q,q<j+1->q*k<len:=by
    intro q hq
    by_cases h:q=j
    ·subst h;omega
    ·exact O q (by omega)
   have E:(j+1)*k=i+k:=by rw[Nat.add_mul];omega
   obtain⟨HI,HN⟩:=hid2 E d
   clear E d hi O x D Z
   by_cases hkl:k<=len-i
   ·have y:m=((i:Int)+(k:Int)).toNat-i:=by omega
    clear hm e2 e3 w
    subst y
    have e5:((i:Int)+(k:Int)).toNat=i+k:=by omega
    rw[e5,Nat.add_sub_cancel_left] at I
    have e6:i+k<=cap:=by omega
    clear e5
    gi_wp2
    gi_region
    all_goals gi_wp2
    all_goals refine U.mono ?_
    all_goals rintro e W3 (⟨rfl,z,p⟩|⟨rfl,r⟩)
    all_goals first
     | (gi_wp2
        refine bodyPost_ret (results_none rfl _ _ _) rfl ?_
        exact⟨⟨_,rfl⟩,.inr ⟨_,trivial,r⟩⟩)
     | (have c3:=(p.cell (.inr (.inr rfl)) (o:=0)).trans (show wr.drew.cell? ⟨B,0,none⟩=_ from c2)
        gi_wp2
        go_roundw
        case rel=>exact⟨j+1,HN.out,by rw[HI.out];simp,by rw[List.range_succ];exact z,s.drew.trans p⟩
        case measure=>simp[intOf];omega)
   ·have y:m=len-i:=by omega
    have hle:len-i<=k:=by omega
    clear hm e2 e3 w
    subst y
    have e6:((i:Int)+((len-i:Nat):Int)).toNat<=cap:=by omega
    gi_wp2
    gi_region
    all_goals gi_wp2
    all_goals refine U.mono ?_
    all_goals rintro e W3 (⟨rfl,z,p⟩|⟨rfl,r⟩)
    all_goals first
     | (gi_wp2
        refine bodyPost_ret (results_none rfl _ _ _) rfl ?_
        exact⟨⟨_,rfl⟩,.inr ⟨_,trivial,r⟩⟩)
     | (have c3:=(p.cell (.inr (.inr rfl)) (o:=0)).trans (show wr.drew.cell? ⟨B,0,none⟩=_ from c2)
        gi_wp2
        go_roundw
        case rel=>exact⟨j+1,HN.out,by rw[HI.out];simp,by rw[List.range_succ];exact z,s.drew.trans p⟩
        case measure=>simp[intOf];omega)
  ·gi_wp2
   go_end0
   have X:=Qtb (j:=j) hk (by omega) O
   exact⟨⟨_,rfl⟩,.inl ⟨_,by rw[<-X],x⟩⟩
