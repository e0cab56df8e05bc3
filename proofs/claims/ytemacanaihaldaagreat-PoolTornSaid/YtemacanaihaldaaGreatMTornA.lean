/-
 Torn pages,plain: a sealed page's sectors,each partly as it was,are whole just if all are old,or all new.
-/
import Derived.Test.YtemacanaihaldaaGreatMSealD
import Derived.Test.YtemacanaihaldaaGreatMDevE
import Derived.Test.YtemacanaihaldaaGreatMPoolD
set_option linter.all false
namespace Go.Proofs.YtemacanaihaldaaGreat
variable {t:Nat}{x y:List Int}
open Go.RowKit
theorem Jfl {l m:List Int}(hl:IsB l) (hm:IsB m):∀k,k≤l.length→k≤m.length→leN l k=leN m k→l.take k=m.take k:=by
 intro k
 induction k with
 | zero=>intro _ _ _;simp
 | succ k ih =>
   intro h1 h2 h
   have b1:=Qle hl k
   have b2:=Qle hm k
   have x1:=hl.at k
   have x2:=hm.at k
   have e1:leN l (k+1)=leN l k+(l.getD k 0).toNat*2 ^ (8*k):=rfl
   have e2:leN m (k+1)=leN m k+(m.getD k 0).toNat*2 ^ (8*k):=rfl
   rw[e1,e2] at h
   have hk:leN l k=leN m k∧(l.getD k 0).toNat=(m.getD k 0).toNat:=by
    have m1:=congrArg (·%2 ^ (8*k)) h
    have d1:=congrArg (·/2 ^ (8*k)) h
    simp only[Nat.add_mul_mod_self_right,Nat.mod_eq_of_lt b1,Nat.mod_eq_of_lt b2] at m1
    simp only[Nat.add_mul_div_right _ _ (Nat.two_pow_pos (8*k)),Nat.div_eq_of_lt b1,Nat.div_eq_of_lt b2,Nat.zero_add] at d1
    exact⟨m1,d1⟩
   have hx:l.getD k 0=m.getD k 0:=by omega
   rw[List.take_add_one,List.take_add_one,ih (by omega) (by omega) hk.1]
   rw[List.getD_eq_getElem?_getD,List.getElem?_eq_getElem (by omega),List.getD_eq_getElem?_getD,List.getElem?_eq_getElem (by omega)] at hx
   rw[List.getElem?_eq_getElem (by omega),List.getElem?_eq_getElem (by omega)]
   simp only[Option.getD_some] at hx
   rw[hx]
theorem Jfg {k:Nat}(h:t≤k) (hx:t≤x.length):(mixB t x y).take k=x.take t++(y.take k).drop t:=by
 unfold mixB
 rw[List.take_append,List.length_take,Nat.min_eq_left hx,List.take_of_length_le (by rw[List.length_take];omega),List.drop_take]
theorem Je3(hx:IsB x) (hy:IsB y):IsB (mixB t x y):=fun z hz=>by
 rcases List.mem_append.1 hz with h|h
 ·exact hx z (List.mem_of_mem_take h)
 ·exact hy z (List.mem_of_mem_drop h)
theorem Jf6(ht:t≤128) (hx:x.length=128) (hy:y.length=128):(mixB t x y).length=128:=by
 unfold mixB
 rw[List.length_append,List.length_take,List.length_drop,hx,hy];omega
theorem Jfz(hx:x.length=128) (hy:y.length=128) (bx:IsB x) (by_:IsB y) {s s' t σ:Nat}(ht:t≤128) (hne:s≠s') (x1:lowMark x=s') (x2:highMark x=s') (y1:lowMark y=s) (y2:highMark y=s) (m1:lowMark (mixB t x y)=σ) (m2:highMark (mixB t x y)=σ) :
 (mixB t x y=x∧σ=s')∨(mixB t x y=y∧σ=s):=by
 unfold lowMark highMark at *
 simp only[List.drop_zero,Nat.sub_zero] at x1 y1 m1
 have hml:=Jf6 ht hx hy
 have hmb:=Je3 (t:=t) bx by_
 rcases Nat.lt_or_ge t 8 with h|h
 ·right
  have e:(mixB t x y).drop 120=y.drop 120:=by
   unfold mixB
   rw[List.drop_append,List.length_take,hx,Nat.min_eq_left ht,List.drop_eq_nil_of_le (by rw[List.length_take];omega),List.nil_append,List.drop_drop]
   congr 1;omega
  rw[e,y2] at m2
  subst m2
  refine⟨?_,rfl⟩
  have k:=Jfl (fun z hz=>hmb z (List.mem_of_mem_take hz)) (fun z hz=>by_ z (List.mem_of_mem_take hz)) 8 (by rw[List.length_take,hml];omega) (by rw[List.length_take,hy];omega) (m1.trans y1.symm)
  rw[List.take_take,List.take_take,Nat.min_self,Jfg (by omega) (by omega)] at k
  have k2:x.take t=y.take t:=by
   have:=congrArg (List.take t) k
   rw[List.take_append_of_le_length (by rw[List.length_take];omega),List.take_take,List.take_take,Nat.min_self,Nat.min_eq_left (by omega)] at this
   exact this
  unfold mixB
  rw[k2,List.take_append_drop]
 ·have e1:(mixB t x y).take 8=x.take 8:=by
   unfold mixB
   rw[List.take_append_of_le_length (by rw[List.length_take];omega),List.take_take,Nat.min_eq_left h]
  rw[e1,x1] at m1
  subst m1
  rcases Nat.lt_or_ge 120 t with h2|h2
  ·left
   refine⟨?_,rfl⟩
   have e:(mixB t x y).drop 120=(x.drop 120).take (t-120)++y.drop t:=by
    unfold mixB
    rw[List.drop_append_of_le_length (by rw[List.length_take];omega),List.drop_take]
   have k:=Jfl (fun z hz=>hmb z (List.mem_of_mem_drop (List.mem_of_mem_take hz))) (fun z hz=>bx z (List.mem_of_mem_drop (List.mem_of_mem_take hz))) 8 (by rw[List.length_take,List.length_drop,hml];omega) (by rw[List.length_take,List.length_drop,hx];omega) (m2.trans x2.symm)
   rw[List.take_take,List.take_take,Nat.min_self,List.take_of_length_le (by rw[List.length_drop,hml];omega),List.take_of_length_le (by rw[List.length_drop,hx];omega)] at k
   calc mixB t x y=(mixB t x y).take 120++(mixB t x y).drop 120:=(List.take_append_drop _ _).symm
    _=x.take 120++x.drop 120:=by
      rw[k]
      congr 1
      unfold mixB
      rw[List.take_append_of_le_length (by rw[List.length_take];omega),List.take_take,Nat.min_eq_left (by omega)]
    _=x:=List.take_append_drop _ _
  ·exfalso
   have e:(mixB t x y).drop 120=y.drop 120:=by
    unfold mixB
    rw[List.drop_append,List.length_take,hx,Nat.min_eq_left ht,List.drop_eq_nil_of_le (by rw[List.length_take];omega),List.nil_append,List.drop_drop]
    congr 1;omega
   rw[e,y2] at m2
   exact hne m2
def Torn4 (N O:List (List Int)) (ls:List (List Int)):Prop:=ls.length=4∧∀i,i<4→∃t,t≤128∧ls.getD i []=mixB t (N.getD i []) (O.getD i [])
structure Sealed (s:Nat) (ls:List (List Int)):Prop where
 len:ls.length=4
 sec:∀i,i<4→(ls.getD i []).length=128∧IsB (ls.getD i [])∧lowMark (ls.getD i [])=s∧highMark (ls.getD i [])=s
theorem Jgk {ls:List (List Int)} {s:Nat}:∀{n:Nat},okTo ls s n=true→∀i,i<n→lowMark (ls.getD i [])=s∧highMark (ls.getD i [])=s:=by
 intro n
 induction n with
 | zero=>intro _ i hi;omega
 | succ n ih =>
   intro h i hi
   rw[Qh0,Bool.and_eq_true,Bool.and_eq_true,beq_iff_eq,beq_iff_eq] at h
   by_cases e:i=n
   ·subst e;exact h.2
   ·exact ih h.1 i (by omega)
theorem ext4 {a b:List (List Int)}(ha:a.length=4) (hb:b.length=4) (h:∀i,i<4→a.getD i []=b.getD i []):a=b:=by
 refine List.ext_getElem (by rw[ha,hb]) fun i h1 h2=>?_
 have:=h i (by omega)
 rwa [List.getD_eq_getElem?_getD,List.getD_eq_getElem?_getD,List.getElem?_eq_getElem h1,List.getElem?_eq_getElem h2] at this
theorem torn_all {N O ls:List (List Int)} {s s':Nat}(hN:Sealed s' N) (hO:Sealed s O) (hne:s≠s') (h:Torn4 N O ls) (hok:Qb3 ls=true):ls=N∨ls=O:=by
 have hm:=Jgk hok
 have key:∀i,i<4→(ls.getD i []=N.getD i []∧sealStamp ls=s')∨(ls.getD i []=O.getD i []∧sealStamp ls=s):=fun i hi=>by
  obtain⟨t,ht,e⟩:=h.2 i hi
  obtain⟨a1,a2,a3,a4⟩:=hN.sec i hi
  obtain⟨b1,b2,b3,b4⟩:=hO.sec i hi
  obtain⟨c1,c2⟩:=hm i hi
  rw[e] at c1 c2 ⊢
  exact Jfz a1 b1 a2 b2 ht hne a3 a4 b3 b4 c1 c2
 rcases key 0 (by omega) with ⟨_,e⟩|⟨_,e⟩
 ·left
  refine ext4 h.1 hN.len fun i hi=>?_
  rcases key i hi with k|k
  ·exact k.1
  ·exact absurd (k.2.symm.trans e) hne
 ·right
  refine ext4 h.1 hO.len fun i hi=>?_
  rcases key i hi with k|k
  ·exact absurd (e.symm.trans k.2) hne
  ·exact k.1
theorem Je2 {b:List Int}(hb:b.length=448) (hB:IsB b) {s:Nat}(hs:s<2 ^ 64):Sealed s (sealAll b s):=by
 refine⟨Qet b s,fun i hi=>?_⟩
 rw[Qqk b s i hi]
 refine⟨?_,fun z hz=>?_,Qii b s i hs,Qkm hb s i hi hs⟩
 ·unfold sealOf
  rw[List.length_append,List.length_append,Qaa,Qdy,hb];omega
 ·unfold sealOf Qcl at hz
  rcases List.mem_append.1 hz with hz|hz
  ·rcases List.mem_append.1 hz with hz|hz
   ·exact Qan s 8 z hz
   ·exact hB z (List.mem_of_mem_drop (List.mem_of_mem_take hz))
  ·exact Qan s 8 z hz
theorem Jd0:Sealed 0 blank:=by
 refine⟨rfl,fun i hi=>?_⟩
 have e:blank.getD i []=zeros128:=by
  unfold blank
  rw[List.getD_eq_getElem?_getD,List.getElem?_replicate,if_pos hi];rfl
 rw[e]
 refine⟨by unfold zeros128;simp,fun z hz=>?_,by decide +kernel,by decide +kernel⟩
 unfold zeros128 at hz
 rw[List.eq_of_mem_replicate hz];omega
theorem Jf5 {u:Nat}(ht:t≤128) (hu:u≤128) {x y:List Int}(hx:x.length=128) (hy:y.length=128):mixB t x (mixB u x y)=mixB (max t u) x y:=by
 rcases Nat.le_total u t with h|h
 ·rw[Nat.max_eq_left h]
  unfold mixB
  congr 1
  rw[List.drop_append,List.length_take,hx,Nat.min_eq_left hu,List.drop_eq_nil_of_le (by rw[List.length_take];omega),List.nil_append,List.drop_drop]
  congr 1;omega
 ·rw[Nat.max_eq_right h]
  unfold mixB
  rw[List.drop_append_of_le_length (by rw[List.length_take];omega),←List.append_assoc]
  congr 1
  rw[List.drop_take]
  calc x.take t++(x.drop t).take (u-t)=x.take (t+(u-t)):=List.take_add.symm
   _=x.take u:=by rw[Nat.add_sub_cancel' h]
end Go.Proofs.YtemacanaihaldaaGreat