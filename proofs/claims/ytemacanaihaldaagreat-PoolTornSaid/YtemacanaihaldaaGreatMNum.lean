/-
 Numbers as bytes: Put,Get.
-/
import Derived.Test.YtemacanaihaldaaGreatMDiskE
import Derived.Laws.BitsAllLaws
import Derived.Laws.Cover1
import Derived.Maps.Keyed
import Derived.Maps.Own
import Derived.Maps.OwnOps
import Derived.Maps.OwnSet
set_option linter.all false
namespace Go.Proofs.YtemacanaihaldaaGreat
open Go.RowKit
theorem Qko (k:Nat) (hk:k≤100000000) (W:World):(Instr.makeSlice 37 (.int .i64 (k:Int)) (.int .i64 (k:Int))).run Tryz.prog W =
 .ok (.slice (some ⟨W.heap.size,0,none⟩) k k) (W.alloc (.cells (madeCells #[.int .u8 0] k) 5)):=by
 obtain⟨i,hi,hz0,hz1,hz2⟩:=info_parts Tryz.infoU8
 have:=run_make (P:=Tryz.prog) W 37 5 i (.int .u8 0) Tryz.underlying37 hi hz0 .i64 .i64 k k (by omega) (Int.le_refl _) (by rw[hz2];omega) (by omega)
 simp only[Int.toNat_natCast,hz1,Nat.mul_one] at this
 exact this
def Qep (n j:Nat):Int:=(n:Int)/2 ^ (8*j)%256
def leB (n k:Nat):List Int:=(List.range k).map (Qep n)
theorem Qaa (n k:Nat):(leB n k).length=k:=by simp[leB]
theorem Qt6 (n j:Nat):0≤Qep n j∧Qep n j≤255:=by unfold Qep;omega
theorem Qan (n k:Nat):IsB (leB n k):=by
 intro x hx
 obtain⟨j,_,rfl⟩:=List.mem_map.1 hx
 exact Qt6 n j
def Qew (n k i:Nat):List Value:=(List.range k).map (fun j=>.int .u8 (if j<i then Qep n j else 0))
theorem Qc2 (n k i j:Nat) (h:j<k):(Qew n k i)[j]?=some (.int .u8 (if j<i then Qep n j else 0)):=by
 simp[Qew,List.getElem?_map,List.getElem?_range h]
theorem Qb4 (n k i:Nat):(Qew n k i).length=k:=by simp[Qew]
theorem Qro (n k i:Nat) (h:i<k):(Qew n k i).set i (.int .u8 (Qep n i))=Qew n k (i+1):=by
 apply List.ext_getElem?
 intro j
 by_cases hj:j<k
 ·by_cases hji:j=i
  ·subst hji
   rw[List.getElem?_set_self (by rw[Qb4];exact h),Qc2 _ _ _ _ hj,if_pos (by omega)]
  ·rw[List.getElem?_set_ne (fun e=>hji e.symm),Qc2 _ _ _ _ hj,Qc2 _ _ _ _ hj]
   by_cases hlt:j<i
   ·rw[if_pos hlt,if_pos (by omega)]
   ·rw[if_neg hlt,if_neg (by omega)]
 ·rw[List.getElem?_eq_none (by rw[List.length_set,Qb4];omega),List.getElem?_eq_none (by rw[Qb4];omega)]
theorem Qgp (n k:Nat):(madeCells #[.int .u8 0] k).toList=Qew n k 0:=by
 apply List.ext_getElem?
 intro j
 by_cases hj:j<k
 ·rw[Array.getElem?_toList,made_get _ _ _ hj,Qc2 _ _ _ _ hj,if_neg (by omega)]
  simp[Nat.mod_one]
 ·rw[List.getElem?_eq_none (by rw[Array.length_toList,Qvi];omega),List.getElem?_eq_none (by rw[Qb4];omega)]
theorem Qrp (n k:Nat):Qew n k k=u8s (leB n k):=by
 simp only[Qew,u8s,leB,List.map_map]
 apply List.map_congr_left
 intro j hj
 simp[List.mem_range.1 hj]
theorem Own.bytes {w:World}{τ:Tags}{g:Tag}{b:Nat}{l:List Int}(h:Own w τ b g 5 (u8s l)) (hb:IsB l) (hl:l.length≤maxLen):Bytes w τ g (.slice (some ⟨b,0,none⟩) l.length l.length) l :=
 ⟨hb,some ⟨b,0,none⟩,l.length,rfl,Nat.le_refl _,hl,fun _=>⟨b,0,rfl,h.tag,fun i hi=>by rw[Nat.zero_add];exact h.at i (Qfw l i hi)⟩⟩
theorem Qeu (w:World) (τ:Tags) (g:Tag) (n k:Nat) (hn:n<2 ^ 64) (h1:1≤k) (h8:k≤8) :
 Calls Tryz.prog 154 #[.int .u64 (n:Int),.int .i64 (k:Int)] w (NewB w τ g (leB n k)):=by
 have hmk:=Qko k (by omega)
 have a0:decide ((k:Int)<1)=false:=by simp;omega
 have a1:decide ((8:Int)<(k:Int))=false:=by simp;omega
 have HN:=Lib.hid hn
 have o0:=Own.new w τ g 5 (madeCells #[.int .u8 0] k).toList
 rw[Qgp n] at o0
 have O0:=Lib.hid o0
 clear hn o0
 go_enter Tryz.func154,Tryz.ntmps154
 go_wp2_with fail
 go_loopw [17] (fun v wr=>∃i:Nat,i≤k∧v = .int .i64 (i:Int)∧Own wr (τ.put w.heap.size g) w.heap.size g 5 (Qew n k i)∧Mod w wr no) (fun v _=>k-(intOf v).toNat)
 case atStart =>
  refine⟨0,Nat.zero_le _,rfl,?_,(Mod.refl _ _).alloc _⟩
  have:=O0.out
  rwa [←Qgp n k] at this ⊢
 case round =>
  obtain⟨i,hi,rfl,ho,hm⟩:=hrel
  by_cases hlt:i<k
  ·have c0:=ho.at i (Qc2 n k i i hlt)
   have z0:=ho.fz i
   have nx:=ho.set i (.int .u8 (Qep n i))
   rw[Qro n k i hlt] at nx
   obtain⟨NX,MM⟩:=hid2 nx hm
   clear ho nx hm
   go_wp2_with fail
   go_round
   case rel=>exact⟨i+1,by omega,by simp,NX.out,MM.out.setCell (p:=⟨w.heap.size,i,none⟩) (fun h=>absurd h (Nat.lt_irrefl _)) _⟩
   case measure=>simp[intOf];omega
  ·have hik:i=k:=by omega
   subst hik
   obtain⟨OO,MM⟩:=hid2 ho hm
   clear ho hm
   go_wp2_with fail
   go_returns
   have ho:=OO.out
   rw[Qrp] at ho
   have hb:=ho.bytes (Qan n i) (by rw[Qaa];unfold maxLen;omega)
   rw[Qaa] at hb
   exact⟨_,_,rfl,hb,(Ext.refl w τ).put _ g (Nat.le_refl _),MM.out⟩
def leN (l:List Int):Nat→Nat
 | 0=>0
 | i+1=>leN l i+(l.getD i 0).toNat*2 ^ (8*i)
theorem Qdl (n k i:Nat) (h:i≤k):leN (leB n k) i=n%2 ^ (8*i):=by
 induction i with
 | zero=>simp[leN,Nat.mod_one]
 | succ i ih =>
   have hg:((leB n k).getD i 0).toNat=n/2 ^ (8*i)%256:=by
    have:(leB n k).getD i 0=Qep n i:=by
     have hi:i<k:=by omega
     rw[List.getD_eq_getElem?_getD,leB,List.getElem?_map,List.getElem?_range hi];rfl
    rw[this]
    unfold Qep
    have:((n:Int)/2 ^ (8*i)%256)=((n/2 ^ (8*i)%256:Nat):Int):=by rw[Int.natCast_emod,Int.natCast_ediv,Int.natCast_pow];rfl
    rw[this];rfl
   show leN (leB n k) i+_*2 ^ (8*i)=_
   rw[ih (by omega),hg,show 8*(i+1)=8*i+8 by omega,Nat.pow_add,Nat.mod_mul,Nat.mul_comm (n/2 ^ (8*i)%256)]
theorem Qr9 (i:Nat):2 ^ (8*(i+1))=256*2 ^ (8*i):=by
 rw[show 8*(i+1)=8+8*i by omega,Nat.pow_add]
theorem Qle {l:List Int}(h:IsB l) (i:Nat):leN l i<2 ^ (8*i):=by
 induction i with
 | zero=>simp[leN]
 | succ i ih =>
   have hx:(l.getD i 0).toNat≤255:=by have:=h.at i;omega
   have:=Nat.mul_le_mul_right (2 ^ (8*i)) hx
   rw[Qr9]
   unfold leN
   omega
theorem Qyq {l:List Int}(h:IsB l) (i:Nat) (hi:i≤8):leN l i<18446744073709551616:=by
 have h1:=Qle h i
 have h2:2 ^ (8*i)≤2 ^ 64:=Nat.pow_le_pow_right (by omega) (by omega)
 have h3:(2:Nat) ^ 64=18446744073709551616:=by decide
 omega
theorem Qam (n:Nat) (h:n<18446744073709551616):IntKind.u64.wrap (n:Int)=(n:Int):=by
 have:IntKind.u64.wrap (n:Int)=(n:Int)%18446744073709551616:=by simp[IntKind.wrap,IntKind.bits,IntKind.signed]
 rw[this];omega
theorem Qzn {l:List Int}(h:IsB l) (i:Nat) (hi:i<8) :
 bits BinOp.or IntKind.u64 (leN l i:Int) (IntKind.u64.wrap (IntKind.u64.wrap (l[i]?.getD 0)*2 ^ (8*i)))=(leN l (i+1):Int):=by
 have hx:=h.at i
 have e0:l[i]?.getD 0=l.getD i 0:=by simp[List.getD]
 rw[e0]
 obtain⟨x,hx'⟩:=Int.eq_ofNat_of_zero_le hx.1
 have hs:leN l (i+1)=leN l i+x*2 ^ (8*i):=by
  show leN l i+(l.getD i 0).toNat*2 ^ (8*i)=_
  rw[hx'];rfl
 have hlt:=Qyq h (i+1) (by omega)
 have hl:=Qle h i
 rw[hs] at hlt ⊢
 rw[hx'] at hx ⊢
 generalize leN l i=n at *
 have e1:((x:Int)*2 ^ (8*i))=((x*2 ^ (8*i):Nat):Int):=by push_cast;rfl
 rw[Qam x (by omega),e1,Qam _ (by omega),u64_or_nat _ _ (by omega) (by omega)]
 congr 1
 rw[Nat.or_comm,←Nat.shiftLeft_eq,←Nat.shiftLeft_add_eq_or_of_lt hl,Nat.shiftLeft_eq]
 omega
theorem Qip {w:World}{τ:Tags}{g:Tag}{p:Option Addr}{c:Nat}{l:List Int}(h:Bytes w τ g (.slice p l.length c) l) (h8:l.length≤8) (h0:0<l.length) :
 Calls Tryz.prog 122 #[.slice p l.length c] w fun e w'=>e = .returned (.int .u64 (leN l l.length:Int))∧w=w':=by
 obtain⟨p',c',hv,h1,h2,hc⟩:=h.is
 obtain⟨b,o,hp,ht,hcell⟩:=hc h0
 simp only[Value.slice.injEq,true_and] at hv
 obtain⟨rfl,rfl⟩:=hv
 subst hp
 have hB:=h.isB
 generalize hk:l.length=k at *
 have hmin:(min (k:Int) 8)=k:=by omega
 obtain⟨HC,HB,HK⟩:=hid3 hcell hB hk
 clear h hc hcell hB hk
 go_enter Tryz.func122,Tryz.ntmps122
 go_wp2_with fail
 go_loopw [3,12] (fun m v wr=>∃(i:Nat),i≤k∧v = .int .i64 (i:Int)∧m = .int .u64 (leN l i:Int)∧wr=w) (fun _ v _=>k-(intOf v).toNat)
 case atStart=>exact⟨0,Nat.zero_le _,rfl,rfl,rfl⟩
 case round =>
  obtain⟨i,hi,rfl,rfl,rfl⟩:=hrel
  by_cases hlt:i<k
  ·have c0:=HC.out i hlt
   have ST:=Lib.hid (Qzn HB.out i (by omega))
   go_wp2_with fail
   go_round
   case rel=>exact⟨i+1,by omega,by simp,by rw[ST.out],trivial⟩
   case measure=>simp[intOf];omega
  ·have hik:i=k:=by omega
   subst hik
   go_wp2_with fail
   go_returns
   exact⟨rfl,rfl⟩
theorem Bytes.sub {w:World}{τ:Tags}{g:Tag}{b o n c:Nat}{l:List Int}(h:Bytes w τ g (.slice (some ⟨b,o,none⟩) n c) l) (i j c':Nat) (hij:i<j) (hj:j≤n) (hc1:j-i≤c') (hc2:c'≤maxLen) :
 Bytes w τ g (.slice (some ⟨b,o+i,none⟩) (j-i) c') ((l.drop i).take (j-i)):=by
 obtain⟨p',c2,hv,h1,h2,hc⟩:=h.is
 simp only[Value.slice.injEq] at hv
 obtain⟨rfl,rfl,rfl⟩:=hv
 obtain⟨b',o',hp,ht,hcell⟩:=hc (by omega)
 simp only[Option.some.injEq,Addr.mk.injEq] at hp
 obtain⟨rfl,rfl,_⟩:=hp
 have hlen:((l.drop i).take (j-i)).length=j-i:=by rw[List.length_take,List.length_drop];omega
 refine⟨fun x hx=>h.isB x (List.mem_of_mem_drop (List.mem_of_mem_take hx)),some ⟨b,o+i,none⟩,c',by rw[hlen],by omega,hc2,fun _=>⟨b,o+i,rfl,ht,fun k hk=>?_⟩⟩
 rw[hlen] at hk
 have:=hcell (i+k) (by omega)
 rw[Nat.add_assoc,this]
 congr 2
 simp only[List.getD_eq_getElem?_getD,List.getElem?_take,List.getElem?_drop,if_pos hk]
def lowMark (l:List Int):Nat:=leN ((l.drop 0).take (8-0)) 8
def highMark (l:List Int):Nat:=leN ((l.drop 120).take (128-120)) 8
theorem Qlc {w:World}{τ:Tags}{g:Tag}{p:Option Addr}{c:Nat}{l:List Int}(h:Bytes w τ g (.slice p 128 c) l) :
 Calls Tryz.prog 130 #[.slice p 128 c] w fun e w'=>e = .returned (.tuple #[.int .u64 (lowMark l:Int),.int .u64 (highMark l:Int),.bool true])∧w.drew=w':=by
 obtain⟨p',c',hv,h1,h2,hc⟩:=h.is
 simp only[Value.slice.injEq] at hv
 obtain⟨rfl,hl,rfl⟩:=hv
 obtain⟨b,o,rfl,ht,_⟩:=hc (by omega)
 have s0:=h.drew.sub 0 8 c (by omega) (by omega) (by omega) h2
 have s1:=h.drew.sub 120 128 (c-120) (by omega) (by omega) (by omega) (by omega)
 have l0:((l.drop 0).take (8-0)).length=8:=by rw[List.length_take,List.length_drop];omega
 have l1:((l.drop 120).take (128-120)).length=8:=by rw[List.length_take,List.length_drop];omega
 have g0:=Qip (p:=some ⟨b,o+0,none⟩) (c:=c) (l:=(l.drop 0).take (8-0)) (by rw[l0];exact s0) (by omega) (by omega)
 have g1:=Qip (p:=some ⟨b,o+120,none⟩) (c:=c-120) (l:=(l.drop 120).take (128-120)) (by rw[l1];exact s1) (by omega) (by omega)
 rw[l0] at g0
 rw[l1] at g1
 rw[Nat.add_zero] at g0
 change Calls _ _ _ _ (fun e w'=>e = .returned (.int .u64 (lowMark l:Int))∧_=w') at g0
 change Calls _ _ _ _ (fun e w'=>e = .returned (.int .u64 (highMark l:Int))∧_=w') at g1
 obtain⟨G0,G1⟩:=hid2 g0 g1
 have hc128:128≤c:=by omega
 have hc8:8≤c:=by omega
 have hc8':(8:Int)≤(c:Int):=by omega
 have hne:¬c=120:=by omega
 have hne':¬c=0:=by omega
 clear h h1 hc s0 s1 l0 l1 g0 g1 ht hl
 go_enter Tryz.func130,Tryz.ntmps130
 go_wp2_with fail
 go_region_law (first
  | (go_simp;go_at_call 122;with_reducible refine G0.out.mono ?_;rintro e w' ⟨rfl,rfl⟩)
  | (go_simp;go_at_call 122;with_reducible refine G1.out.mono ?_;rintro e w' ⟨rfl,rfl⟩))
 all_goals go_wp2_with fail
 all_goals go_returns
 all_goals exact⟨rfl,rfl⟩
def greatTo (ls:List (List Int)):Nat→Nat
 | 0=>0
 | i+1=>max (max (greatTo ls i) (lowMark (ls.getD i []))) (highMark (ls.getD i []))
theorem Waits.read {w:World}{τ:Tags}{g:Tag}{v:Value}{ls:List (List Int)}(h:Waits w τ g v ls) :
 ∃p c,v = .slice p ls.length c∧ls.length≤maxLen∧∀(k:Nat) (x:List Int),ls[k]?=some x→x.length=128∧∃b u,p=some ⟨b,0,none⟩∧w.cell? ⟨b,k,none⟩=some u∧Bytes w τ tData u x:=by
 rcases h with ⟨rfl,rfl⟩|⟨b,cap,xs,ys,rfl,ho,h1,h2,h3,hk⟩
 ·exact⟨none,0,rfl,Nat.zero_le _,fun k x hx=>by simp at hx⟩
 ·refine⟨_,cap,rfl,by omega,fun k x hx=>?_⟩
  obtain⟨a,u,hu,hb⟩:=hk k x hx
  refine⟨a,b,u,rfl,ho.at k ?_,hb⟩
  rw[List.getElem?_append_left (List.getElem?_eq_some_iff.1 hu).1];exact hu
theorem Qr3 {P:Program}(W:World) (ts:Array TypeId) (t:TypeId) (x y z m:Nat) (hm:m=max (max x y) z):(Builtin.max_ ts t #[.int .u64 (x:Int),.int .u64 (y:Int),.int .u64 (z:Int)]).run P W = .ok (.int .u64 (m:Int)) W:=by
 rw[run_max_int3]
 congr 2
 subst hm
 split <;> split <;> omega
theorem Qpn {w:World}{τ:Tags}{g:Tag}{v:Value}{ls:List (List Int)}(h:Waits w τ g v ls) :
 Calls Tryz.prog 64 #[v] w fun e w'=>e = .returned (.int .u64 (greatTo ls ls.length:Int))∧Mod w w' no:=by
 obtain⟨p,c,rfl,hm,hr⟩:=h.read
 have hbig:ls.length≤9223372036854775807:=by unfold maxLen at hm;omega
 have HR:=Lib.hid hr
 clear hr hm h
 generalize hn:ls.length=n at *
 have HN:=Lib.hid hn
 clear hn
 go_enter Tryz.func64,Tryz.ntmps64
 go_wp2_with fail
 go_loopw [3,11] (fun m v wr=>∃i:Nat,i≤n∧v = .int .i64 (i:Int)∧m = .int .u64 (greatTo ls i:Int)∧Mod w wr no) (fun _ v _=>n-(intOf v).toNat)
 case atStart=>exact⟨0,Nat.zero_le _,rfl,rfl,Mod.refl _ _⟩
 case round =>
  obtain⟨i,hi,rfl,rfl,hm⟩:=hrel
  by_cases hlt:i<n
  ·obtain⟨x,hx⟩:∃x,ls[i]?=some x:=⟨_,List.getElem?_eq_getElem (by rw[HN.out];exact hlt)⟩
   obtain⟨h128,b,u,rfl,hc,hb⟩:=HR.out i x hx
   have c1:=(hm.cell b i (cell_lt hc) (fun h=>h)).trans hc
   have hb1:=hb.mod hm (Ext.refl _ τ) (fun _ _ _ h=>h)
   obtain⟨pu,cu,rfl,-,-,-⟩:=id hb1.is
   rw[h128] at hb1 c1
   have hmk:=Qlc hb1
   have hs:greatTo ls (i+1)=max (max (greatTo ls i) (lowMark x)) (highMark x):=by
    show max (max (greatTo ls i) (lowMark (ls.getD i []))) (highMark (ls.getD i []))=_
    rw[List.getD_eq_getElem?_getD,hx];rfl
   have HM:=Lib.hid hmk
   have hmx:=fun (W:World) (ts:Array TypeId) (t:TypeId)=>Qr3 (P:=Tryz.prog) W ts t _ _ _ _ hs
   have MM:=Lib.hid (hm.drew)
   have hn1:i+1≤9223372036854775807:=by omega
   generalize greatTo ls i=a0 at *
   generalize hgr:greatTo ls (i+1)=a3 at *
   have GR:=Lib.hid hgr
   clear hgr
   generalize lowMark x=a1 at *
   generalize highMark x=a2 at *
   clear hmk hs hm hb hb1 hc hx h128
   go_wp2_with fail
   refine HM.out.mono ?_
   rintro e w' ⟨rfl,rfl⟩
   go_wp2_with fail
   go_round
   case rel=>exact⟨i+1,by omega,by simp,by rw[GR.out],MM.out⟩
   case measure=>simp[intOf];omega
  ·have hik:i=n:=by omega
   subst hik
   have MM:=Lib.hid hm
   clear hm
   go_wp2_with fail
   go_returns
   exact⟨rfl,MM.out⟩
structure Step (w:World) (τ:Tags) (w':World) (τ':Tags) (S:Tag→Prop):Prop where
 mod:Mod w w' (fun k=>S (τ k))
 ext:Ext w τ τ'
def nil:Tag→Prop:=fun _=>False
theorem Step.refl (w:World) (τ:Tags) (S:Tag→Prop):Step w τ w τ S:=⟨Mod.refl _ _,Ext.refl _ _⟩
theorem Step.of {w w':World}{τ τ':Tags}(S:Tag→Prop) (m:Mod w w' no) (e:Ext w τ τ'):Step w τ w' τ' S:=⟨m.mono (fun _ _ h=>h.elim),e⟩
theorem Step.mk' {w w':World}{τ τ':Tags}{P:Nat→Prop}{S:Tag→Prop}(m:Mod w w' P) (e:Ext w τ τ') (h:∀k,k<w.heap.size→P k→S (τ k)):Step w τ w' τ' S:=⟨m.mono h,e⟩
theorem Step.mono {w w':World}{τ τ':Tags}{S T:Tag→Prop}(h:Step w τ w' τ' S) (hs:∀g,S g→T g):Step w τ w' τ' T:=⟨h.mod.mono (fun _ _=>hs _),h.ext⟩
theorem Step.trans {w a b:World}{τ τ1 τ2:Tags}{S:Tag→Prop}(h:Step w τ a τ1 S) (k:Step a τ1 b τ2 S):Step w τ b τ2 S :=
 ⟨h.mod.seq k.mod (fun j hj hS=>by rw[h.ext j hj] at hS;exact hS),h.ext.trans k.ext h.mod.size⟩
theorem Step.drew {w a:World}{τ τ1:Tags}{S:Tag→Prop}(h:Step w τ a τ1 S):Step w τ a.drew τ1 S:=⟨h.mod.drew,h.ext⟩
theorem Step.drews {w a:World}{τ τ1:Tags}{S:Tag→Prop}(h:Step w τ a τ1 S) (n:Nat):Step w τ (a.drewN n) τ1 S:=⟨⟨h.mod.os,h.mod.tape,h.mod.output,h.mod.size,h.mod.block⟩,h.ext⟩
theorem Step.size {w a:World}{τ τ1:Tags}{S:Tag→Prop}(h:Step w τ a τ1 S):w.heap.size≤a.heap.size:=h.mod.size
theorem Step.alloc {w a:World}{τ τ1:Tags}{S:Tag→Prop}(h:Step w τ a τ1 S) (o:Obj) (g:Tag):Step w τ (a.alloc o) (τ1.put a.heap.size g) S :=
 ⟨h.mod.alloc o,h.ext.put _ _ h.mod.size⟩
theorem Step.alloc' {w a:World}{τ τ1:Tags}{S:Tag→Prop}(h:Step w τ a τ1 S) (o:Obj):Step w τ (a.alloc o) τ1 S:=⟨h.mod.alloc o,h.ext⟩
theorem Step.set {w a:World}{τ τ1:Tags}{S:Tag→Prop}(h:Step w τ a τ1 S) {b o:Nat}{g:Tag}(hb:τ1 b=g) (hs:S g) (v:Value):Step w τ (a.setCell ⟨b,o,none⟩ v) τ1 S :=
 ⟨h.mod.setCell (p:=⟨b,o,none⟩) (fun hl=>by have:=h.ext b hl;rw[hb] at this;show S (τ b);rw[←this];exact hs) v,h.ext⟩
theorem Step.setNew {w a:World}{τ τ1:Tags}{S:Tag→Prop}(h:Step w τ a τ1 S) {b o:Nat}(hb:w.heap.size≤b) (v:Value):Step w τ (a.setCell ⟨b,o,none⟩ v) τ1 S :=
 ⟨h.mod.setCell (p:=⟨b,o,none⟩) (fun hl=>absurd hl (by show ¬b<_;omega)) v,h.ext⟩
theorem Step.below {w w':World}{τ τ':Tags}(h:Step w τ w' τ' nil):Below w.heap.size w w':=Mod.below ⟨h.mod.os,h.mod.tape,h.mod.output,h.mod.size,fun k hk _=>h.mod.block k hk (fun h=>h)⟩
theorem Step.no {w w':World}{τ τ':Tags}(h:Step w τ w' τ' nil):Mod w w' no:=⟨h.mod.os,h.mod.tape,h.mod.output,h.mod.size,fun k hk _=>h.mod.block k hk (fun h=>h)⟩
theorem Own.step {w w':World}{τ τ':Tags}{S:Tag→Prop}{b:Nat}{g:Tag}{t:TypeId}{xs:List Value}(h:Own w τ b g t xs) (m:Step w τ w' τ' S) (hs:¬S g):Own w' τ' b g t xs :=
 h.mod m.mod m.ext (by rw[h.tag];exact hs)
theorem Bytes.step {w w':World}{τ τ':Tags}{S:Tag→Prop}{g:Tag}{v:Value}{l:List Int}(h:Bytes w τ g v l) (m:Step w τ w' τ' S) (hs:¬S g):Bytes w' τ' g v l :=
 h.mod m.mod m.ext (fun k _ ht=>by rw[ht];exact hs)
theorem Buf.step {w w':World}{τ τ':Tags}{S:Tag→Prop}{g:Tag}{e:TypeId}{size:Nat}{v:Value}{n:Nat}{xs:List Value}(h:Buf w τ g e size v n xs) (m:Step w τ w' τ' S) (hs:¬S g):Buf w' τ' g e size v n xs :=
 h.mod m.mod m.ext (fun k _ ht=>by rw[ht];exact hs)
theorem Waits.step {w w':World}{τ τ':Tags}{S:Tag→Prop}{g:Tag}{v:Value}{l:List (List Int)}(h:Waits w τ g v l) (m:Step w τ w' τ' S) (hs:¬S g) (hd:¬S tData):Waits w' τ' g v l :=
 h.mod m.mod m.ext (fun k _ ht=>by rw[ht];exact hs) (fun k _ ht=>by rw[ht];exact hd)
theorem DevAt.step {w w':World}{τ τ':Tags}{S:Tag→Prop}{b:Nat}{D:Dev}(h:DevAt w τ b D) (m:Step w τ w' τ' S) (hs:∀g,S g→¬DevTag g∧g≠tData):DevAt w' τ' b D :=
 h.mod m.mod m.ext (fun k _ hS=>hs _ hS)
theorem DevTag.dev:DevTag tDev:=.inl rfl
theorem DevTag.left:DevTag tLeft:=.inr (.inr (.inl rfl))
theorem DevTag.file {f:Nat}{g:Tag}(h:Ql2 f g):DevTag g:=by
 rcases h with rfl|⟨i,rfl⟩
 ·exact .inr (.inl rfl)
 ·exact .inr (.inr (.inr rfl))
theorem Own.born (w:World) (τ:Tags) (g:Tag) (t:TypeId) (cs:Array Value):Own (w.alloc (.cells cs t)) (τ.put w.heap.size g) w.heap.size g t cs.toList:=Own.new w τ g t cs.toList
theorem Own.step_new {w:World}{τ:Tags}{b:Nat}{g:Tag}{t:TypeId}{xs:List Value}(h:Own w τ b g t xs) (o:Obj) (g':Tag):Own (w.alloc o) (τ.put w.heap.size g') b g t xs :=
 (h.alloc o).put (Nat.ne_of_lt h.lt) g'
end Go.Proofs.YtemacanaihaldaaGreat
namespace Go.Proofs.YtemacanaihaldaaGreat
open Go.RowKit Go.Maps
theorem Qeo:Keyed Tryz.prog 36 := int_keyed Tryz.underlying36
abbrev litK (k:Nat):Lit:=.int .u32 (k:Int)
theorem Jad (k:Nat) (h:k<4294967296):(litK k).wf=true:=by
 have e1:IntKind.u32.min=0:=by decide
 have e2:IntKind.u32.max=4294967295:=by decide
 simp only[Lit.wf,e1,e2,Bool.and_eq_true,decide_eq_true_eq];omega
theorem Qd4 (k:Nat) (h:k<4294967296):keyOf Tryz.prog 36 (.int .u32 (k:Int))=some (litK k) :=
 keyOf_int_mk Tryz.underlying36 (Jad k h)
theorem Qev {j k:Nat}(h:j≠k):litK j≠litK k:=fun e=>by injection e with _ e;omega
theorem Qfb (k:Nat) (h:k<4294967296):WideAt.IsKeyLit (litK k):=Qeo.key (Qd4 k h)
noncomputable abbrev rdInt:Value→Option (DataW Unit×List MemPlace):=plainElem Tryz.prog 3
def updO (f:Nat→Option Nat) (k:Nat) (v:Option Nat):Nat→Option Nat:=fun j=>if j=k then v else f j
structure MapIs (w:World) (τ:Tags) (b:Nat) (g:Tag) (N:Nat) (f:Nat→Option Nat):Prop where
 tag:τ b=g
 is:∃n D,w.ownsMap Tryz.prog 36 rdInt b n D∧(∀kl,has D kl=true→∃k,k<N∧kl=litK k)∧(∀k,has D (litK k)=(f k).isSome)∧(∀k v,f k=some v→∀z,D.atKey (litK k) z = .lit (.int .i64 (v:Int)))
theorem MapIs.step {w w':World}{τ τ':Tags}{S:Tag→Prop}{b:Nat}{g:Tag}{n:Nat}{f:Nat→Option Nat}(h:MapIs w τ b g n f) (m:Step w τ w' τ' S) (hs:¬S g):MapIs w' τ' b g n f:=by
 obtain⟨n,D,⟨es,c,hb,r1⟩,r⟩:=h.is
 have hl:b<w.heap.size:=(Array.getElem?_eq_some_iff.1 hb).1
 exact⟨(m.ext b hl).trans h.tag,n,D,⟨es,c,by rw[m.mod.block b hl (by rw[h.tag];exact hs)];exact hb,r1⟩,r⟩
theorem MapIs.made (w:World) (τ:Tags) (g:Tag) (N:Nat):MapIs (w.alloc (.map #[] 0)) (τ.put w.heap.size g) w.heap.size g N (fun _=>none) :=
 ⟨Tags.put_same _ _ _,0,_,World.ownsMap_made w _ _ _,fun kl h=>by simp[has] at h,fun k=>by simp[has],fun k v h=>by simp at h⟩
theorem Qk7:∀(n:Nat) (l:List Nat),l.Nodup→(∀x∈l,x<n)→l.length≤n:=by
 intro n
 induction n with
 | zero =>
   intro l _ h
   cases l with
   | nil=>exact Nat.le_refl _
   | cons x l=>exact absurd (h x (by simp)) (by omega)
 | succ n ih =>
   intro l hn h
   have h1:=ih (l.erase n) (hn.erase n) (fun x hx=>by
    have h2:=h x (List.mem_of_mem_erase hx)
    have h3:x≠n:=fun e=>by subst e;exact(List.Nodup.not_mem_erase hn) hx
    omega)
   have h2:l.length-1≤(l.erase n).length:=List.le_length_erase
   omega
def Qfa:Lit→Nat
 | .int _ k=>k.toNat
 | _=>0
theorem Qu9 {w:World}{b n:Nat}{es:List (Lit×DataW Unit)}(ho:w.ownsMap Tryz.prog 36 rdInt b n (.map es)):∀p∈es,WideAt.IsKeyLit p.1:=by
 obtain⟨ms,c,a1,F,a3,a4⟩:=ho
 injection a4 with a4
 subst a4
 intro p hp
 have hp2:=(WideShapes.sorted_perm _).mem_iff.1 hp
 obtain⟨v,hv⟩:=fit_keys F p hp2
 exact Qeo.key hv
theorem Qur {D:DataW Unit}{N:Nat}(h:Tidy D) {w:World}{b n:Nat}(ho:w.ownsMap Tryz.prog 36 rdInt b n D) (hk:∀kl,has D kl=true→∃k,k<N∧kl=litK k):Maps.size D≤N:=by
 obtain⟨es,rfl,hp⟩:=h
 have hin:∀p∈es,∃k,k<N∧p.1=litK k:=fun p hm=>hk p.1 (by rw[has_eq,List.any_eq_true];exact⟨p,hm,WideAt.sameKey_self (Qu9 ho p hm)⟩)
 have hn:(es.map (fun p=>Qfa p.1)).Nodup:=by
  rw[List.nodup_iff_pairwise_ne,List.pairwise_map]
  have:es.Pairwise (fun x y=>x∈es∧y∈es∧x.1≠y.1):=List.Pairwise.imp_of_mem (fun ha hb h=>⟨ha,hb,h⟩) hp
  refine this.imp ?_
  rintro x y ⟨hx,hy,hne⟩ e
  obtain⟨k1,-,a1⟩:=hin x hx
  obtain⟨k2,-,a2⟩:=hin y hy
  rw[a1,a2] at e
  simp only[Qfa,Int.toNat_natCast] at e
  exact hne (by rw[a1,a2,e])
 have:=Qk7 N _ hn (fun k hk=>by
  obtain⟨x,hx,rfl⟩:=List.mem_map.1 hk
  obtain⟨k1,a3,a1⟩:=hin x hx
  rw[a1]
  simpa [Qfa,litK] using a3)
 simpa [Maps.size] using this
theorem Step.turned {w w':World}{τ:Tags}{b:Nat}{g:Tag}(hb:τ b=g) (h:w.mapTurned w' b):Step w τ w' τ (fun t=>t=g):=by
 obtain⟨es,c,es',c',h1,rfl⟩:=h
 exact⟨⟨rfl,rfl,rfl,by simp[ChangeMaps.setBlock],fun k hk hn=>by
  have:b≠k:=fun e=>hn (by rw[←e];exact hb)
  simp[ChangeMaps.setBlock,this]⟩,Ext.refl _ _⟩
theorem MapIs.look {w:World}{τ:Tags}{b:Nat}{g:Tag}{N:Nat}{f:Nat→Option Nat}(h:MapIs w τ b g N f) (k:Nat) (hk:k<4294967296) :
 (Instr.lookup 136 (.map (some b)) (.int .u32 (k:Int)) true).run Tryz.prog w = .ok (.tuple #[.int .i64 (((f k).getD 0:Nat):Int),.bool (f k).isSome]) w:=by
 obtain⟨n,D,ho,h1,h2,h3⟩:=h.is
 obtain⟨v,ps,hr,hv⟩:=ho.look_ok Qeo Tryz.underlying136 (Tryz.zeroValue3 w) (plainElem_int Tryz.underlying3 (a:=0) (by decide)) (Qd4 k hk)
 rw[hr,h2 k]
 obtain⟨a,rfl,e,-⟩:=plainElem_int_inv Tryz.underlying3 hv
 have e1:=congrArg Prod.fst e
 simp only at e1
 cases hf:f k with
 | none =>
   rw[atKey_of_not_has (by rw[h2 k,hf];rfl)] at e1
   simp only[DataW.lit.injEq,Lit.int.injEq,true_and] at e1
   rw[←e1];simp
 | some v =>
   rw[h3 k v hf] at e1
   simp only[DataW.lit.injEq,Lit.int.injEq,true_and] at e1
   rw[←e1];simp
theorem Qyz (v:Nat) (h:v<1000000000):(Lit.int .i64 (v:Int)).wf=true:=by
 have e1:IntKind.i64.min = -9223372036854775808:=by decide
 have e2:IntKind.i64.max=9223372036854775807:=by decide
 simp only[Lit.wf,e1,e2,Bool.and_eq_true,decide_eq_true_eq];omega
theorem MapIs.store {w:World}{τ:Tags}{b:Nat}{g:Tag}{N:Nat}{f:Nat→Option Nat}(h:MapIs w τ b g N f) (k v:Nat) (hn:N≤100000) (hk:k<N) (hv:v<1000000000) :
 ∃w',(Instr.mapUpdate 136 (.map (some b)) (.int .u32 (k:Int)) (.int .i64 (v:Int))).run Tryz.prog w = .ok () w'∧MapIs w' τ b g N (updO f k (some v))∧Step w τ w' τ (fun t=>t=g):=by
 obtain⟨n,D,ho,h1,h2,h3⟩:=h.is
 have hsz:=Qur (ho.tidy Qeo) ho h1
 have ho':w.ownsMap Tryz.prog 36 rdInt b (Maps.size D) D:=by
  obtain⟨es,c,a1,a2,a3,rfl⟩:=ho
  exact⟨es,c,a1,a2,by simp[Maps.size,length_sorted],rfl⟩
 obtain⟨w',hr,hown,ht⟩:=ho'.store Qeo Tryz.underlying136 (by unfold maxLen;omega) (Qd4 k (by omega)) (plainElem_int Tryz.underlying3 (Qyz v hv))
 refine⟨w',hr,⟨h.tag,_,_,hown,?_,?_,?_⟩,Step.turned h.tag ht⟩
 ·intro kl hh
  by_cases e:kl=litK k
  ·exact⟨k,hk,e⟩
  ·rw[has_put_other e] at hh;exact h1 kl hh
 ·intro j
  by_cases e:j=k
  ·subst e;rw[has_put_same ho.isMap (Qfb j (by omega))];simp[updO]
  ·rw[has_put_other (Qev e),h2 j];simp[updO,e]
 ·intro j u hj z
  by_cases e:j=k
  ·subst e
   simp[updO] at hj;subst hj
   exact atKey_put_same ho.isMap (Qfb j (by omega)) _ _
  ·rw[atKey_put_other (Qev e)]
   simp[updO,e] at hj
   exact h3 j u hj z
theorem MapIs.drop {w:World}{τ:Tags}{b:Nat}{g:Tag}{n:Nat}{f:Nat→Option Nat}(h:MapIs w τ b g n f) (k:Nat) (hk:k<4294967296) (ty:TypeId) :
 ∃w',(Builtin.delete_ #[136,36] ty #[.map (some b),.int .u32 (k:Int)]).run Tryz.prog w = .ok (.tuple #[]) w'∧MapIs w' τ b g n (updO f k none)∧Step w τ w' τ (fun t=>t=g):=by
 obtain⟨n,D,ho,h1,h2,h3⟩:=h.is
 obtain⟨w',hr,hown,ht⟩:=ho.drop Qeo Tryz.underlying136 (Qd4 k hk) ty
 refine⟨w',hr,⟨h.tag,_,_,hown,?_,?_,?_⟩,Step.turned h.tag ht⟩
 ·intro kl hh
  by_cases e:kl=litK k
  ·subst e;rw[has_del_same] at hh;cases hh
  ·rw[has_del_other e] at hh;exact h1 kl hh
 ·intro j
  by_cases e:j=k
  ·subst e;rw[has_del_same];simp[updO]
  ·rw[has_del_other (Qev e),h2 j];simp[updO,e]
 ·intro j u hj z
  by_cases e:j=k
  ·subst e;simp[updO] at hj
  ·rw[atKey_del_other (Qev e)]
   simp[updO,e] at hj
   exact h3 j u hj z
end Go.Proofs.YtemacanaihaldaaGreat