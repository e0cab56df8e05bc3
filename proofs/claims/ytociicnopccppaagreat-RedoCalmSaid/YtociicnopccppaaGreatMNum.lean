/-
 Numbers as bytes: Put,Get.
-/
import Derived.Test.YtociicnopccppaaGreatMDev
import Derived.Laws.BitsAllLaws
import Derived.Laws.Cover1
import Derived.Maps.Keyed
import Derived.Maps.Own
import Derived.Maps.OwnOps
import Derived.Maps.OwnSet
import Derived.Maps.RangeWalk
set_option linter.all false
namespace Go.Proofs.YtociicnopccppaaGreat
open Go.RowKit
theorem Qko (k:Nat) (hk:k<=100000000) (W:World):(Instr.makeSlice 58 (.int .i64 k) (.int .i64 k)).run Tryz.prog W =
 .ok (.slice (some ⟨W.heap.size,0,none⟩) k k) (W.alloc (.cells (madeCells #[.int .u8 0] k) 5)):=by
 obtain⟨i,hi,a,b,c⟩:=info_parts Tryz.infoU8
 have:=run_make (P:=Tryz.prog) W 58 5 i (.int .u8 0) Tryz.underlying58 hi a .i64 .i64 k k oM (Int.le_refl _) (by rw[c];omega) oM
 simp only[Int.toNat_natCast,b,Nat.mul_one] at this
 exact this
def Qep (n j:Nat):Int:=(n:Int)/2 ^ (8*j)%256
def leB (n k:Nat):List Int:=(List.range k).map (Qep n)
theorem Qaa (n k:Nat):(leB n k).length=k:=by simp[leB]
theorem Qt6 (n j:Nat):0<=Qep n j/\Qep n j<=255:=by unfold Qep;omega
theorem Qan (n k:Nat):IsB (leB n k):=by
 intro x a
 obtain⟨j,_,rfl⟩:=List.mem_map.1 a
 exact Qt6 n j
def Qew (n k i:Nat):List Value:=(List.range k).map (fun j=>.int .u8 (if j<i then Qep n j else 0))
theorem Qc2 (n k i j:Nat) (h:j<k):(Qew n k i)[j]?=some (.int .u8 (if j<i then Qep n j else 0)):=by
 simp[Qew,List.getElem?_map,List.getElem?_range h]
theorem Qb4 (n k i:Nat):(Qew n k i).length=k:=by simp[Qew]
theorem Qro (n k i:Nat) (h:i<k):(Qew n k i).set i (.int .u8 (Qep n i))=Qew n k (i+1):=by
 apply List.ext_getElem?
 intro j
 by_cases c:j<k
 ·by_cases a:j=i
  ·subst a
   rw[List.getElem?_set_self (by rw[Qb4];exact h),Qc2 _ _ _ _ c,if_pos oM]
  ·rw[List.getElem?_set_ne (fun e=>a e.symm),Qc2 _ _ _ _ c,Qc2 _ _ _ _ c]
   by_cases b:j<i
   ·rw[if_pos b,if_pos oM]
   ·rw[if_neg b,if_neg oM]
 ·rw[List.getElem?_eq_none (by rw[Y1,Qb4];omega),List.getElem?_eq_none (by rw[Qb4];omega)]
theorem Qgp (n k:Nat):(madeCells #[.int .u8 0] k).toList=Qew n k 0:=by
 apply List.ext_getElem?
 intro j
 by_cases a:j<k
 ·rw[Array.getElem?_toList,qda _ _ _ a,Qc2 _ _ _ _ a,if_neg oM]
  simp[Nat.mod_one]
 ·rw[List.getElem?_eq_none (by rw[Array.length_toList,Qvi];omega),List.getElem?_eq_none (by rw[Qb4];omega)]
theorem Qrp (n k:Nat):Qew n k k=u8s (leB n k):=by
 simp only[Qew,u8s,leB,List.map_map]
 apply List.map_congr_left
 intro j a
 simp[List.mem_range.1 a]
theorem Own.bytes {w:World}{τ:qa1}{g:Tag}{b:Nat}{l:List Int}(h:Own w τ b g 5 (u8s l)) (a:IsB l) (hl:l.length<=maxLen):Bytes w τ g (.slice (some ⟨b,0,none⟩) l.length l.length) l :=
 ⟨a,some ⟨b,0,none⟩,l.length,rfl,Z0 _,hl,fun _=>⟨b,0,rfl,h.tag,fun i hi=>by rw[Nat.zero_add];exact h.at i (Qfw l i hi)⟩⟩
theorem Qeu (w:World) (τ:qa1) (g:Tag) (n k:Nat) (hn:n<2 ^ 64) (h1:1<=k) (h8:k<=8) :
 Calls Tryz.prog 147 #[.int .u64 n,.int .i64 k] w (NewB w τ g (leB n k)):=by
 have hmk:=Qko k oM
 have a0:decide ((k:Int)<1)=false:=by simp;omega
 have a1:decide ((8:Int)<k)=false:=by simp;omega
 have d:=Own.new w τ g 5 (madeCells #[.int .u8 0] k).toList
 rw[Qgp n] at d
 have o:=Z2 d
 clear hn d
 go_enter Tryz.func147,Tryz.ntmps147
 go_wp2_with fail
 go_loopw [17] (fun v wr=>∃i:Nat,i<=k/\v = .int .i64 i/\Own wr (τ.put w.heap.size g) w.heap.size g 5 (Qew n k i)/\Mod w wr no) (fun v _=>k-(intOf v).toNat)
 case atStart =>
  refine⟨0,Z9 _,rfl,?_,(Mod.refl _ _).alloc _⟩
  have:=o.out
  rwa [<-Qgp n k] at this ⊢
 case round =>
  obtain⟨i,hi,rfl,a,c⟩:=hrel
  by_cases b:i<k
  ·have c0:=a.at i (Qc2 n k i i b)
   have z0:=a.fz i
   have nx:=a.set i (.int .u8 (Qep n i))
   rw[Qro n k i b] at nx
   obtain⟨q,e⟩:=qaj nx c
   clear a nx c
   go_wp2_with fail
   go_round
   case rel=>exact⟨i+1,oM,sM,q.out,e.out.setCell (p:=⟨w.heap.size,i,none⟩) (fun h=>absurd h (Nat.lt_irrefl _)) _⟩
   case measure=>simp[intOf];omega
  ·have j:i=k:=oM
   subst j
   obtain⟨r,e⟩:=qaj a c
   clear a c
   go_wp2_with fail
   go_returns
   have a:=r.out
   rw[Qrp] at a
   have l:=a.bytes (Qan n i) (by rw[Qaa];unfold maxLen;omega)
   rw[Qaa] at l
   exact⟨_,_,rfl,l,(Ext.refl w τ).put _ g (Z0 _),e.out⟩
def leN (l:List Int):Nat->Nat
 | 0=>0
 | i+1=>leN l i+(l.getD i 0).toNat*2 ^ (8*i)
theorem Qdl (n k i:Nat) (h:i<=k):leN (leB n k) i=n%2 ^ (8*i):=by
 induction i with
 | zero=>simp[leN,Nat.mod_one]
 | succ i ih =>
   have a:((leB n k).getD i 0).toNat=n/2 ^ (8*i)%256:=by
    have:(leB n k).getD i 0=Qep n i:=by
     have hi:i<k:=oM
     rw[Z5,leB,List.getElem?_map,List.getElem?_range hi];rfl
    rw[this]
    unfold Qep
    have:((n:Int)/2 ^ (8*i)%256)=((n/2 ^ (8*i)%256:Nat):Int):=by rw[Int.natCast_emod,Int.natCast_ediv,Int.natCast_pow];rfl
    rw[this];rfl
   show leN (leB n k) i+_*2 ^ (8*i)=_
   rw[ih oM,a,show 8*(i+1)=8*i+8 by omega,Nat.pow_add,Nat.mod_mul,Nat.mul_comm (n/2 ^ (8*i)%256)]
theorem Qr9 (i:Nat):2 ^ (8*(i+1))=256*2 ^ (8*i):=by
 rw[show 8*(i+1)=8+8*i by omega,Nat.pow_add]
theorem Qle {l:List Int}(h:IsB l) (i:Nat):leN l i<2 ^ (8*i):=by
 induction i with
 | zero=>simp[leN]
 | succ i ih =>
   have a:(l.getD i 0).toNat<=255:=by have:=h.at i;omega
   have:=Y7 (2 ^ (8*i)) a
   rw[Qr9]
   unfold leN
   omega
theorem Qyq {l:List Int}(h:IsB l) (i:Nat) (hi:i<=8):leN l i<18446744073709551616:=by
 have h1:=Qle h i
 have h2:2 ^ (8*i)<=2 ^ 64:=Nat.pow_le_pow_right oM oM
 omega
theorem Qam (n:Nat) (h:n<18446744073709551616):IntKind.u64.wrap (n:Int)=n:=by
 have:IntKind.u64.wrap (n:Int)=n%18446744073709551616:=by simp[IntKind.wrap,IntKind.bits,IntKind.signed]
 rw[this];omega
theorem Qzn {l:List Int}(h:IsB l) (i:Nat) (hi:i<8) :
 bits BinOp.or IntKind.u64 (leN l i:Int) (IntKind.u64.wrap (IntKind.u64.wrap (l[i]?.getD 0)*2 ^ (8*i)))=(leN l (i+1):Int):=by
 have c:=h.at i
 have d:l[i]?.getD 0=l.getD i 0:=by simp[List.getD]
 rw[d]
 obtain⟨x,a⟩:=Int.eq_ofNat_of_zero_le c.1
 have e:leN l (i+1)=leN l i+x*2 ^ (8*i):=by
  show leN l i+(l.getD i 0).toNat*2 ^ (8*i)=_
  rw[a];rfl
 have b:=Qyq h (i+1) oM
 have hl:=Qle h i
 rw[e] at b ⊢
 rw[a] at c ⊢
 generalize leN l i=n at *
 have g:((x:Int)*2 ^ (8*i))=((x*2 ^ (8*i):Nat):Int):=by push_cast;rfl
 rw[Qam x oM,g,Qam _ oM,u64_or_nat _ _ oM oM]
 congr 1
 rw[Nat.or_comm,<-Nat.shiftLeft_eq,<-Nat.shiftLeft_add_eq_or_of_lt hl,Nat.shiftLeft_eq]
 omega
theorem Qip {w:World}{τ:qa1}{g:Tag}{p:Option Addr}{c:Nat}{l:List Int}(h:Bytes w τ g (.slice p l.length c) l) (h8:l.length<=8) (h0:0<l.length) :
 Calls Tryz.prog 122 #[.slice p l.length c] w fun e r=>e = .returned (.int .u64 (leN l l.length:Int))/\w=r:=by
 obtain⟨p',c',hv,h1,h2,n⟩:=h.is
 obtain⟨b,o,s,ht,a⟩:=n h0
 simp only[Value.slice.injEq,true_and] at hv
 obtain⟨rfl,rfl⟩:=hv
 subst s
 have hB:=h.isB
 generalize q:l.length=k at *
 have hmin:(min (k:Int) 8)=k:=oM
 obtain⟨x,y,HK⟩:=qan a hB q
 clear h n a hB q
 go_enter Tryz.func122,Tryz.ntmps122
 go_wp2_with fail
 go_loopw [3,12] (fun m v wr=>∃(i:Nat),i<=k/\v = .int .i64 i/\m = .int .u64 (leN l i:Int)/\wr=w) (fun _ v _=>k-(intOf v).toNat)
 case atStart=>exact⟨0,Z9 _,rfl,rfl,rfl⟩
 case round =>
  obtain⟨i,hi,rfl,rfl,rfl⟩:=hrel
  by_cases d:i<k
  ·have c0:=x i d
   have ST:=Z2 (Qzn y i oM)
   go_wp2_with fail
   go_round
   case rel=>exact⟨i+1,oM,sM,by rw[ST.out],trivial⟩
   case measure=>simp[intOf];omega
  ·have j:i=k:=oM
   subst j
   go_wp2_with fail
   go_returns
   exact⟨rfl,rfl⟩
theorem Bytes.sub {w:World}{τ:qa1}{g:Tag}{b o n c:Nat}{l:List Int}(h:Bytes w τ g (.slice (some ⟨b,o,none⟩) n c) l) (i j e:Nat) (hij:i<j) (hj:j<=n) (hc1:j-i<=e) (p:e<=maxLen) :
 Bytes w τ g (.slice (some ⟨b,o+i,none⟩) (j-i) e) ((l.drop i).take (j-i)):=by
 obtain⟨p',c2,hv,h1,h2,s⟩:=h.is
 simp only[Value.slice.injEq] at hv
 obtain⟨rfl,rfl,rfl⟩:=hv
 obtain⟨b',o',q,y,d⟩:=s oM
 simp only[Option.some.injEq,Addr.mk.injEq] at q
 obtain⟨rfl,rfl,_⟩:=q
 have a:((l.drop i).take (j-i)).length=j-i:=by rw[List.length_take,List.length_drop];omega
 refine⟨fun x z=>h.isB x (List.mem_of_mem_drop (List.mem_of_mem_take z)),some ⟨b,o+i,none⟩,e,by rw[a],oM,p,fun _=>⟨b,o+i,rfl,y,fun k r=>?_⟩⟩
 rw[a] at r
 have:=d (i+k) oM
 rw[Nat.add_assoc,this]
 congr 2
 simp only[Z5,List.getElem?_take,List.getElem?_drop,if_pos r]
def qcf (l:List Int):Nat:=leN ((l.drop 0).take (8-0)) 8
def qbx (l:List Int):Nat:=leN ((l.drop 120).take (128-120)) 8
theorem Qlc {w:World}{τ:qa1}{g:Tag}{p:Option Addr}{c:Nat}{l:List Int}(h:Bytes w τ g (.slice p 128 c) l) :
 Calls Tryz.prog 138 #[.slice p 128 c] w fun e a=>e = .returned (.tuple #[.int .u64 (qcf l:Int),.int .u64 (qbx l:Int),.bool true])/\w.drew=a:=by
 obtain⟨p',c',hv,h1,h2,j⟩:=h.is
 simp only[Value.slice.injEq] at hv
 obtain⟨rfl,hl,rfl⟩:=hv
 obtain⟨b,o,rfl,q,_⟩:=j oM
 have k:=h.drew.sub 0 8 c oM oM oM h2
 have n:=h.drew.sub 120 128 (c-120) oM oM oM oM
 have l0:((l.drop 0).take (8-0)).length=8:=by rw[List.length_take,List.length_drop];omega
 have l1:((l.drop 120).take (128-120)).length=8:=by rw[List.length_take,List.length_drop];omega
 have d:=Qip (p:=some ⟨b,o+0,none⟩) (c:=c) (l:=(l.drop 0).take (8-0)) (by rw[l0];exact k) oM oM
 have i:=Qip (p:=some ⟨b,o+120,none⟩) (c:=c-120) (l:=(l.drop 120).take (128-120)) (by rw[l1];exact n) oM oM
 rw[l0] at d
 rw[l1] at i
 rw[Nat.add_zero] at d
 change Calls _ _ _ _ (fun e a=>e = .returned (.int .u64 (qcf l:Int))/\_=a) at d
 change Calls _ _ _ _ (fun e a=>e = .returned (.int .u64 (qbx l:Int))/\_=a) at i
 obtain⟨r,s⟩:=qaj d i
 have hc8':(8:Int)<=c:=oM
 have hne:¬c=120:=oM
 have hne':¬c=0:=oM
 clear h h1 j k n l0 l1 d i q hl
 go_enter Tryz.func138,Tryz.ntmps138
 go_wp2_with fail
 go_region_law (first
  | (go_simp;go_at_call 122;with_reducible refine r.out.mono ?_;rintro e a ⟨rfl,rfl⟩)
  | (go_simp;go_at_call 122;with_reducible refine s.out.mono ?_;rintro e a ⟨rfl,rfl⟩))
 all_goals go_wp2_with fail
 all_goals go_returns
 all_goals exact⟨rfl,rfl⟩
def qbu (ls:List (List Int)):Nat->Nat
 | 0=>0
 | i+1=>max (max (qbu ls i) (qcf (ls.getD i []))) (qbx (ls.getD i []))
theorem qcv.read {w:World}{τ:qa1}{g:Tag}{v:Value}{ls:List (List Int)}(h:qcv w τ g v ls) :
 ∃p c,v = .slice p ls.length c/\ls.length<=maxLen/\∀(k:Nat) (x:List Int),ls[k]?=some x->x.length=128/\∃b u,p=some ⟨b,0,none⟩/\w.cell? ⟨b,k,none⟩=some u/\Bytes w τ qa2 u x:=by
 rcases h with ⟨rfl,rfl⟩|⟨b,cap,xs,ys,rfl,i,h1,h2,h3,j⟩
 ·exact⟨none,0,rfl,Z9 _,fun k x d=>by simp at d⟩
 ·refine⟨_,cap,rfl,oM,fun k x d=>?_⟩
  obtain⟨a,u,e,l⟩:=j k x d
  refine⟨a,b,u,rfl,i.at k ?_,l⟩
  rw[Y5 (Z4 e).1];exact e
theorem Qr3 {P:Program}(W:World) (ts:Array TypeId) (t:TypeId) (x y z m:Nat) (a:m=max (max x y) z):(Builtin.max_ ts t #[.int .u64 x,.int .u64 y,.int .u64 z]).run P W = .ok (.int .u64 m) W:=by
 rw[run_max_int3]
 congr 2
 subst a
 split <;> split <;> omega
theorem Qpn {w:World}{τ:qa1}{g:Tag}{v:Value}{ls:List (List Int)}(h:qcv w τ g v ls) :
 Calls Tryz.prog 83 #[v] w fun e D=>e = .returned (.int .u64 (qbu ls ls.length:Int))/\Mod w D no:=by
 obtain⟨p,c,rfl,a,z⟩:=h.read
 have hbig:ls.length<=9223372036854775807:=by unfold maxLen at a;omega
 have E:=Z2 z
 clear z a h
 generalize hn:ls.length=n at *
 have F:=Z2 hn
 clear hn
 go_enter Tryz.func83,Tryz.ntmps83
 go_wp2_with fail
 go_loopw [3,11] (fun m v wr=>∃i:Nat,i<=n/\v = .int .i64 i/\m = .int .u64 (qbu ls i:Int)/\Mod w wr no) (fun _ v _=>n-(intOf v).toNat)
 case atStart=>exact⟨0,Z9 _,rfl,rfl,Mod.refl _ _⟩
 case round =>
  obtain⟨i,hi,rfl,rfl,a⟩:=hrel
  by_cases o:i<n
  ·obtain⟨x,q⟩:∃x,ls[i]?=some x:=⟨_,Z3 (by rw[F.out];exact o)⟩
   obtain⟨j,b,u,rfl,r,B⟩:=E i x q
   have c1:=(a.cell b i (qb0 r) (fun h=>h)).trans r
   have d:=B.mod a (Ext.refl _ τ) (fun _ _ _ h=>h)
   obtain⟨pu,cu,rfl,-,-,-⟩:=id d.is
   rw[j] at d c1
   have k:=Qlc d
   have C:qbu ls (i+1)=max (max (qbu ls i) (qcf x)) (qbx x):=by
    show max (max (qbu ls i) (qcf (ls.getD i []))) (qbx (ls.getD i []))=_
    rw[Z5,q];rfl
   have G:=Z2 k
   have hmx:=fun (W:World) (ts:Array TypeId) (t:TypeId)=>Qr3 (P:=Tryz.prog) W ts t _ _ _ _ C
   have s:=Z2 (a.drew)
   have hn1:i+1<=9223372036854775807:=oM
   generalize qbu ls i=a0 at *
   generalize l:qbu ls (i+1)=a3 at *
   have I:=Z2 l
   clear l
   generalize qcf x=a1 at *
   generalize qbx x=a2 at *
   clear k C a B d r q j
   go_wp2_with fail
   refine zC G ?_
   go_wp2_with fail
   go_round
   case rel=>exact⟨i+1,oM,sM,by rw[I.out],s.out⟩
   case measure=>simp[intOf];omega
  ·have y:i=n:=oM
   subst y
   have s:=Z2 a
   clear a
   go_wp2_with fail
   go_returns
   exact⟨rfl,s.out⟩
structure Step (w:World) (τ:qa1) (w':World) (τ':qa1) (S:Tag->Prop):Prop where
 mod:Mod w w' (fun k=>S (τ k))
 ext:Ext w τ τ'
def nil:Tag->Prop:=fun _=>False
theorem Step.refl (w:World) (τ:qa1) (S:Tag->Prop):Step w τ w τ S:=⟨Mod.refl _ _,Ext.refl _ _⟩
theorem Step.of {w b:World}{τ a:qa1}(S:Tag->Prop) (m:Mod w b no) (e:Ext w τ a):Step w τ b a S:=⟨m.mono (fun _ _ h=>h.elim),e⟩
theorem Step.mk' {w b:World}{τ a:qa1}{P:Nat->Prop}{S:Tag->Prop}(m:Mod w b P) (e:Ext w τ a) (h:∀k,k<w.heap.size->P k->S (τ k)):Step w τ b a S:=⟨m.mono h,e⟩
theorem Step.mono {w b:World}{τ a:qa1}{S T:Tag->Prop}(h:Step w τ b a S) (c:∀g,S g->T g):Step w τ b a T:=⟨h.mod.mono (fun _ _=>c _),h.ext⟩
theorem Step.trans {w a b:World}{τ τ1 c:qa1}{S:Tag->Prop}(h:Step w τ a τ1 S) (k:Step a τ1 b c S):Step w τ b c S :=
 ⟨h.mod.seq k.mod (fun j e d=>by rw[h.ext j e] at d;exact d),h.ext.trans k.ext h.mod.size⟩
theorem Step.drew {w a:World}{τ τ1:qa1}{S:Tag->Prop}(h:Step w τ a τ1 S):Step w τ a.drew τ1 S:=⟨h.mod.drew,h.ext⟩
theorem Step.qcp {w a:World}{τ τ1:qa1}{S:Tag->Prop}(h:Step w τ a τ1 S) (n:Nat):Step w τ (a.drewN n) τ1 S:=⟨⟨h.mod.os,h.mod.tape,h.mod.output,h.mod.size,h.mod.block⟩,h.ext⟩
theorem Step.size {w a:World}{τ τ1:qa1}{S:Tag->Prop}(h:Step w τ a τ1 S):w.heap.size<=a.heap.size:=h.mod.size
theorem Step.alloc {w a:World}{τ τ1:qa1}{S:Tag->Prop}(h:Step w τ a τ1 S) (o:Obj) (g:Tag):Step w τ (a.alloc o) (τ1.put a.heap.size g) S :=
 ⟨h.mod.alloc o,h.ext.put _ _ h.mod.size⟩
theorem Step.alloc' {w a:World}{τ τ1:qa1}{S:Tag->Prop}(h:Step w τ a τ1 S) (o:Obj):Step w τ (a.alloc o) τ1 S:=⟨h.mod.alloc o,h.ext⟩
theorem Step.set {w a:World}{τ τ1:qa1}{S:Tag->Prop}(h:Step w τ a τ1 S) {b o:Nat}{g:Tag}(c:τ1 b=g) (d:S g) (v:Value):Step w τ (a.setCell ⟨b,o,none⟩ v) τ1 S :=
 ⟨h.mod.setCell (p:=⟨b,o,none⟩) (fun hl=>by have:=h.ext b hl;rw[c] at this;show S (τ b);rw[<-this];exact d) v,h.ext⟩
theorem Step.qa3 {w a:World}{τ τ1:qa1}{S:Tag->Prop}(h:Step w τ a τ1 S) {b o:Nat}(hb:w.heap.size<=b) (v:Value):Step w τ (a.setCell ⟨b,o,none⟩ v) τ1 S :=
 ⟨h.mod.setCell (p:=⟨b,o,none⟩) (fun hl=>absurd hl (by show ¬b<_;omega)) v,h.ext⟩
theorem Step.no {w b:World}{τ a:qa1}(h:Step w τ b a nil):Mod w b no:=⟨h.mod.os,h.mod.tape,h.mod.output,h.mod.size,fun k c _=>h.mod.block k c (fun h=>h)⟩
theorem Own.step {w c:World}{τ a:qa1}{S:Tag->Prop}{b:Nat}{g:Tag}{t:TypeId}{d:List Value}(h:Own w τ b g t d) (m:Step w τ c a S) (e:¬S g):Own c a b g t d :=
 h.mod m.mod m.ext (by rw[h.tag];exact e)
theorem Bytes.step {w b:World}{τ a:qa1}{S:Tag->Prop}{g:Tag}{v:Value}{l:List Int}(h:Bytes w τ g v l) (m:Step w τ b a S) (c:¬S g):Bytes b a g v l :=
 h.mod m.mod m.ext (fun k _ d=>by rw[d];exact c)
theorem Buf.step {w b:World}{τ a:qa1}{S:Tag->Prop}{g:Tag}{e:TypeId}{size:Nat}{v:Value}{n:Nat}{c:List Value}(h:Buf w τ g e size v n c) (m:Step w τ b a S) (d:¬S g):Buf b a g e size v n c :=
 h.mod m.mod m.ext (fun k _ i=>by rw[i];exact d)
theorem qcv.step {w c:World}{τ a:qa1}{S:Tag->Prop}{g:Tag}{v:Value}{l:List (List Int)}(h:qcv w τ g v l) (m:Step w τ c a S) (d:¬S g) (hd:¬S qa2):qcv c a g v l :=
 h.mod m.mod m.ext (fun k _ b=>by rw[b];exact d) (fun k _ b=>by rw[b];exact hd)
theorem qax.step {w c:World}{τ a:qa1}{S:Tag->Prop}{b:Nat}{D:Dev}(h:qax w τ b D) (m:Step w τ c a S) (d:∀g,S g->¬qah g/\g≠qa2):qax c a b D :=
 h.mod m.mod m.ext (fun k _ e=>d _ e)
theorem qah.dev:qah qd0:=.inl rfl
theorem qah.left:qah qcj:=.inr (.inr (.inl rfl))
theorem qah.file {f:Nat}{g:Tag}(h:Ql2 f g):qah g:=by
 rcases h with rfl|⟨i,rfl⟩
 ·exact .inr (.inl rfl)
 ·exact .inr (.inr (.inr rfl))
theorem Own.born (w:World) (τ:qa1) (g:Tag) (t:TypeId) (cs:Array Value):Own (w.alloc (.cells cs t)) (τ.put w.heap.size g) w.heap.size g t cs.toList:=Own.new w τ g t cs.toList
theorem Own.qbn {w:World}{τ:qa1}{b:Nat}{g:Tag}{t:TypeId}{a:List Value}(h:Own w τ b g t a) (o:Obj) (c:Tag):Own (w.alloc o) (τ.put w.heap.size c) b g t a :=
 (h.alloc o).put (Nat.ne_of_lt h.lt) c
theorem zS (w:World) (τ:qa1):Step w τ w τ nil:=Step.refl w τ nil
theorem Step.nz {w b:World}{τ a:qa1}{T:Tag->Prop}(h:Step w τ b a nil):Step w τ b a T:=h.mono (fun _ k=>k.elim)
theorem zE {P:Tag->Prop}(g:Tag) (h:nil g):P g:=h.elim
theorem zN {P:Tag->Prop}(g:Tag) (_:P g):¬nil g:=fun h=>h
end Go.Proofs.YtociicnopccppaaGreat
namespace Go.Proofs.YtociicnopccppaaGreat
open Go.RowKit Go.Maps
theorem Qeo:Keyed Tryz.prog 39 := int_keyed Tryz.underlying39
abbrev qcw (k:Nat):Lit:=.int .u32 k
theorem Jad (k:Nat) (h:k<4294967296):(qcw k).wf=true:=by
 have a:IntKind.u32.min=0:=dC
 have b:IntKind.u32.max=4294967295:=dC
 simp only[Lit.wf,a,b,Bool.and_eq_true,decide_eq_true_eq];omega
theorem Qd4 (k:Nat) (h:k<4294967296):keyOf Tryz.prog 39 (.int .u32 k)=some (qcw k) :=
 keyOf_int_mk Tryz.underlying39 (Jad k h)
theorem Qev {j k:Nat}(h:j≠k):qcw j≠qcw k:=fun e=>by injection e with _ e;omega
theorem Qfb (k:Nat) (h:k<4294967296):WideAt.IsKeyLit (qcw k):=Qeo.key (Qd4 k h)
noncomputable abbrev qit:Value->Option (DataW Unit×List MemPlace):=plainElem Tryz.prog 3
def qeu (f:Nat->Option Nat) (k:Nat) (v:Option Nat):Nat->Option Nat:=fun j=>if j=k then v else f j
structure qei (w:World) (τ:qa1) (b:Nat) (g:Tag) (N:Nat) (f:Nat->Option Nat):Prop where
 tag:τ b=g
 is:∃n D,w.ownsMap Tryz.prog 39 qit b n D/\(∀kl,has D kl=true->∃k,k<N/\kl=qcw k)/\(∀k,has D (qcw k)=(f k).isSome)/\(∀k v,f k=some v->∀z,D.atKey (qcw k) z = .lit (.int .i64 v))
theorem qei.step {w d:World}{τ a:qa1}{S:Tag->Prop}{b:Nat}{g:Tag}{n:Nat}{f:Nat->Option Nat}(h:qei w τ b g n f) (m:Step w τ d a S) (i:¬S g):qei d a b g n f:=by
 obtain⟨n,D,⟨es,c,e,j⟩,r⟩:=h.is
 have hl:b<w.heap.size:=(Array.getElem?_eq_some_iff.1 e).1
 exact⟨(m.ext b hl).trans h.tag,n,D,⟨es,c,by rw[m.mod.block b hl (by rw[h.tag];exact i)];exact e,j⟩,r⟩
theorem qei.made (w:World) (τ:qa1) (g:Tag) (N:Nat):qei (w.alloc (.map #[] 0)) (τ.put w.heap.size g) w.heap.size g N (fun _=>none) :=
 ⟨qa1.qd9 _ _ _,0,_,World.ownsMap_made w _ _ _,fun kl h=>by simp[has] at h,fun k=>by simp[has],fun k v h=>by simp at h⟩
theorem Qk7:∀(n:Nat) (l:List Nat),l.Nodup->(∀x∈l,x<n)->l.length<=n:=by
 intro n
 induction n with
 | zero =>
   intro l _ h
   cases l with
   | nil=>exact Z0 _
   | cons x l=>exact absurd (h x sM) oM
 | succ n ih =>
   intro l hn h
   have h1:=ih (l.erase n) (hn.erase n) (fun x a=>by
    have h2:=h x (List.mem_of_mem_erase a)
    have h3:x≠n:=fun e=>by subst e;exact(List.Nodup.not_mem_erase hn) a
    omega)
   have h2:l.length-1<=(l.erase n).length:=List.le_length_erase
   omega
def Qfa:Lit->Nat
 | .int _ k=>k.toNat
 | _=>0
theorem Qu9 {w:World}{b n:Nat}{es:List (Lit×DataW Unit)}(d:w.ownsMap Tryz.prog 39 qit b n (.map es)):∀p∈es,WideAt.IsKeyLit p.1:=by
 obtain⟨ms,c,a1,F,a3,a4⟩:=d
 injection a4 with a4
 subst a4
 intro p e
 have a:=(WideShapes.sorted_perm _).mem_iff.1 e
 obtain⟨v,hv⟩:=fit_keys F p a
 exact Qeo.key hv
theorem Qur {D:DataW Unit}{N:Nat}(h:Tidy D) {w:World}{b n:Nat}(q:w.ownsMap Tryz.prog 39 qit b n D) (d:∀j,has D j=true->∃k,k<N/\j=qcw k):Maps.size D<=N:=by
 obtain⟨es,rfl,r⟩:=h
 have a:∀p∈es,∃k,k<N/\p.1=qcw k:=fun p l=>d p.1 (by rw[has_eq,List.any_eq_true];exact⟨p,l,WideAt.sameKey_self (Qu9 q p l)⟩)
 have hn:(es.map (fun p=>Qfa p.1)).Nodup:=by
  rw[List.nodup_iff_pairwise_ne,List.pairwise_map]
  have:es.Pairwise (fun x y=>x∈es/\y∈es/\x.1≠y.1):=List.Pairwise.imp_of_mem (fun s z h=>⟨s,z,h⟩) r
  refine this.imp ?_
  rintro x y ⟨g,B,i⟩ e
  obtain⟨k1,-,c⟩:=a x g
  obtain⟨k2,-,o⟩:=a y B
  rw[c,o] at e
  simp only[Qfa,Int.toNat_natCast] at e
  exact i (by rw[c,o,e])
 have:=Qk7 N _ hn (fun k d=>by
  obtain⟨x,g,rfl⟩:=List.mem_map.1 d
  obtain⟨k1,a3,c⟩:=a x g
  rw[c]
  simpa [Qfa,qcw] using a3)
 simpa [Maps.size] using this
theorem Step.turned {w a:World}{τ:qa1}{b:Nat}{g:Tag}(d:τ b=g) (h:w.mapTurned a b):Step w τ a τ (fun t=>t=g):=by
 obtain⟨es,c,es',c',h1,rfl⟩:=h
 exact⟨⟨rfl,rfl,rfl,by simp[ChangeMaps.setBlock],fun k hk hn=>by
  have:b≠k:=fun e=>hn (by rw[<-e];exact d)
  simp[ChangeMaps.setBlock,this]⟩,Ext.refl _ _⟩
theorem qei.look {w:World}{τ:qa1}{b:Nat}{g:Tag}{N:Nat}{f:Nat->Option Nat}(h:qei w τ b g N f) (k:Nat) (i:k<4294967296) :
 (Instr.lookup 154 (.map (some b)) (.int .u32 k) true).run Tryz.prog w = .ok (.tuple #[.int .i64 (((f k).getD 0:Nat):Int),.bool (f k).isSome]) w:=by
 obtain⟨n,D,j,h1,h2,l⟩:=h.is
 obtain⟨v,ps,o,hv⟩:=j.look_ok Qeo Tryz.underlying154 (Tryz.zeroValue3 w) (plainElem_int Tryz.underlying3 (a:=0) dC) (Qd4 k i)
 rw[o,h2 k]
 obtain⟨a,rfl,e,-⟩:=plainElem_int_inv Tryz.underlying3 hv
 have c:=congrArg Prod.fst e
 simp only at c
 cases d:f k with
 | none =>
   rw[atKey_of_not_has (by rw[h2 k,d];rfl)] at c
   simp only[DataW.lit.injEq,Lit.int.injEq,true_and] at c
   rw[<-c];simp
 | some v =>
   rw[l k v d] at c
   simp only[DataW.lit.injEq,Lit.int.injEq,true_and] at c
   rw[<-c];simp
theorem Qyz (v:Nat) (h:v<1000000000):(Lit.int .i64 v).wf=true:=by
 have a:IntKind.i64.min = -9223372036854775808:=dC
 have b:IntKind.i64.max=9223372036854775807:=dC
 simp only[Lit.wf,a,b,Bool.and_eq_true,decide_eq_true_eq];omega
theorem qei.store {w:World}{τ:qa1}{b:Nat}{g:Tag}{N:Nat}{f:Nat->Option Nat}(h:qei w τ b g N f) (k v:Nat) (hn:N<=100000) (q:k<N) (hv:v<1000000000) :
 ∃a,(Instr.mapUpdate 154 (.map (some b)) (.int .u32 k) (.int .i64 v)).run Tryz.prog w = .ok () a/\qei a τ b g N (qeu f k (some v))/\Step w τ a τ (fun t=>t=g):=by
 obtain⟨n,D,d,h1,h2,r⟩:=h.is
 have hsz:=Qur (d.tidy Qeo) d h1
 have o:w.ownsMap Tryz.prog 39 qit b (Maps.size D) D:=by
  obtain⟨es,c,s,x,a3,rfl⟩:=d
  exact⟨es,c,s,x,by simp[Maps.size,length_sorted],rfl⟩
 obtain⟨a,y,i,B⟩:=o.store Qeo Tryz.underlying154 (by unfold maxLen;omega) (Qd4 k oM) (plainElem_int Tryz.underlying3 (Qyz v hv))
 refine⟨a,y,⟨h.tag,_,_,i,?_,?_,?_⟩,Step.turned h.tag B⟩
 ·intro p hh
  by_cases e:p=qcw k
  ·exact⟨k,q,e⟩
  ·rw[has_put_other e] at hh;exact h1 p hh
 ·intro j
  by_cases e:j=k
  ·subst e;rw[has_put_same d.isMap (Qfb j oM)];simp[qeu]
  ·rw[has_put_other (Qev e),h2 j];simp[qeu,e]
 ·intro j u l z
  by_cases e:j=k
  ·subst e
   simp[qeu] at l;subst l
   exact atKey_put_same d.isMap (Qfb j oM) _ _
  ·rw[atKey_put_other (Qev e)]
   simp[qeu,e] at l
   exact r j u l z
theorem qei.drop {w:World}{τ:qa1}{b:Nat}{g:Tag}{n:Nat}{f:Nat->Option Nat}(h:qei w τ b g n f) (k:Nat) (o:k<4294967296) (i:TypeId) :
 ∃a,(Builtin.delete_ #[154,39] i #[.map (some b),.int .u32 k]).run Tryz.prog w = .ok (.tuple #[]) a/\qei a τ b g n (qeu f k none)/\Step w τ a τ (fun t=>t=g):=by
 obtain⟨n,D,p,h1,h2,q⟩:=h.is
 obtain⟨a,r,c,s⟩:=p.drop Qeo Tryz.underlying154 (Qd4 k o) i
 refine⟨a,r,⟨h.tag,_,_,c,?_,?_,?_⟩,Step.turned h.tag s⟩
 ·intro l hh
  by_cases e:l=qcw k
  ·subst e;rw[has_del_same] at hh;cases hh
  ·rw[has_del_other e] at hh;exact h1 l hh
 ·intro j
  by_cases e:j=k
  ·subst e;rw[has_del_same];simp[qeu]
  ·rw[has_del_other (Qev e),h2 j];simp[qeu,e]
 ·intro j u d z
  by_cases e:j=k
  ·subst e;simp[qeu] at d
  ·rw[atKey_del_other (Qev e)]
   simp[qeu,e] at d
   exact q j u d z
def qfj:Value->Option (DataW Unit×List MemPlace)
 | .pointer none=>some (.lit (.int .i64 0),[])
 | .pointer (some ⟨b,0,none⟩)=>some (.lit (.int .i64 ((b:Int)+1)),[])
 | _=>none
def ptrV:Option Nat->Value
 | none=>.pointer none
 | some b=>.pointer (some ⟨b,0,none⟩)
def qjr:Option Nat->DataW Unit
 | none=>.lit (.int .i64 0)
 | some b=>.lit (.int .i64 ((b:Int)+1))
theorem Qr5 (p:Option Nat):qfj (ptrV p)=some (qjr p,[]):=by cases p <;> rfl
theorem Qno {p q:Option Nat}(h:qjr p=qjr q):p=q:=by
 cases p <;> cases q <;> simp[qjr] at h ⊢ <;> omega
theorem Qo8 {v:Value}{z:DataW Unit×List MemPlace}(h:qfj v=some z):∃p,v=ptrV p/\z=(qjr p,[]):=by
 unfold qfj at h
 split at h
 ·cases h;exact⟨none,rfl,rfl⟩
 ·cases h;exact⟨some _,rfl,rfl⟩
 ·cases h
structure qg9 (w:World) (τ:qa1) (b:Nat) (g:Tag) (N:Nat) (f:Nat->Option Nat):Prop where
 tag:τ b=g
 is:∃n D,w.ownsMap Tryz.prog 39 qfj b n D/\(∀kl,has D kl=true->∃k,k<N/\kl=qcw k)/\(∀k,has D (qcw k)=(f k).isSome)/\(∀k v,f k=some v->∀z,D.atKey (qcw k) z=qjr (some v))
theorem qg9.step {w d:World}{τ a:qa1}{S:Tag->Prop}{b:Nat}{g:Tag}{n:Nat}{f:Nat->Option Nat}(h:qg9 w τ b g n f) (m:Step w τ d a S) (i:¬S g):qg9 d a b g n f:=by
 obtain⟨n,D,⟨es,c,e,j⟩,r⟩:=h.is
 have hl:b<w.heap.size:=(Array.getElem?_eq_some_iff.1 e).1
 exact⟨(m.ext b hl).trans h.tag,n,D,⟨es,c,by rw[m.mod.block b hl (by rw[h.tag];exact i)];exact e,j⟩,r⟩
theorem qg9.made (w:World) (τ:qa1) (g:Tag) (N:Nat):qg9 (w.alloc (.map #[] 0)) (τ.put w.heap.size g) w.heap.size g N (fun _=>none) :=
 ⟨qa1.qd9 _ _ _,0,_,World.ownsMap_made w _ _ _,fun kl h=>by simp[has] at h,fun k=>by simp[has],fun k v h=>by simp at h⟩
theorem Qpb {w:World}{b n:Nat}{es:List (Lit×DataW Unit)}(d:w.ownsMap Tryz.prog 39 qfj b n (.map es)):∀p∈es,WideAt.IsKeyLit p.1:=by
 obtain⟨ms,c,a1,F,a3,a4⟩:=d
 injection a4 with a4
 subst a4
 intro p e
 have a:=(WideShapes.sorted_perm _).mem_iff.1 e
 obtain⟨v,hv⟩:=fit_keys F p a
 exact Qeo.key hv
def Qpl (D:DataW Unit):List Nat:=match D with
 | .map es=>es.map (fun p=>Qfa p.1)
 | _=>[]
theorem Qpa {w:World}{b n N:Nat}{D:DataW Unit}{f:Nat->Option Nat}(i:w.ownsMap Tryz.prog 39 qfj b n D) (r:∀l,has D l=true->∃k,k<N/\l=qcw k) (o:∀k,has D (qcw k)=(f k).isSome) (hN:N<=4294967296) :
 (Qpl D).Nodup/\(∀k,k∈Qpl D↔(f k).isSome=true)/\(Qpl D).length=Maps.size D/\(∀k∈Qpl D,k<N):=by
 obtain⟨es,rfl,s⟩:=i.tidy Qeo
 have a:∀p∈es,∃k,k<N/\p.1=qcw k:=fun p c=>r p.1 (by rw[has_eq,List.any_eq_true];exact⟨p,c,WideAt.sameKey_self (Qpb i p c)⟩)
 refine⟨?_,fun k=>⟨fun c=>?_,fun c=>?_⟩,by simp[Qpl,Maps.size],fun k c=>?_⟩
 ·show (es.map (fun p=>Qfa p.1)).Nodup
  rw[List.nodup_iff_pairwise_ne,List.pairwise_map]
  have:es.Pairwise (fun x y=>x∈es/\y∈es/\x.1≠y.1):=List.Pairwise.imp_of_mem (fun z B h=>⟨z,B,h⟩) s
  refine this.imp ?_
  rintro x y ⟨d,C,j⟩ e
  obtain⟨k1,-,g⟩:=a x d
  obtain⟨k2,-,q⟩:=a y C
  rw[g,q] at e
  simp only[Qfa,Int.toNat_natCast] at e
  exact j (by rw[g,q,e])
 ·obtain⟨x,d,rfl⟩:=List.mem_map.1 (show k∈es.map (fun p=>Qfa p.1) from c)
  obtain⟨k1,_,g⟩:=a x d
  have e:Qfa x.1=k1:=by rw[g];simp[Qfa]
  rw[e,<-o k1,has_eq,List.any_eq_true]
  exact⟨x,d,by rw[<-g];exact WideAt.sameKey_self (Qpb i x d)⟩
 ·rw[<-o k,has_eq,List.any_eq_true] at c
  obtain⟨x,d,E⟩:=c
  have e:x.1=qcw k:=WideAt.sameKey_eq E
  show k∈es.map (fun p=>Qfa p.1)
  exact List.mem_map.2 ⟨x,d,by rw[e];simp[Qfa]⟩
 ·obtain⟨x,d,rfl⟩:=List.mem_map.1 (show k∈es.map (fun p=>Qfa p.1) from c)
  obtain⟨k1,h1,g⟩:=a x d
  rw[g]
  simpa [Qfa,qcw] using h1
theorem qg9.look {w:World}{τ:qa1}{b:Nat}{g:Tag}{N:Nat}{f:Nat->Option Nat}(h:qg9 w τ b g N f) (k:Nat) (d:k<4294967296) :
 (Instr.lookup 102 (.map (some b)) (.int .u32 k) false).run Tryz.prog w = .ok (ptrV (f k)) w:=by
 obtain⟨n,D,i,h1,h2,j⟩:=h.is
 obtain⟨v,ps,l,hv⟩:=i.lookup Qeo Tryz.underlying102 (Tryz.zeroValue103 w) (Qr5 none) (Qd4 k d)
 rw[l]
 obtain⟨p,rfl,e⟩:=Qo8 hv
 have a:=congrArg Prod.fst e
 simp only at a
 have:f k=p:=by
  cases c:f k with
  | none =>
    rw[atKey_of_not_has (by rw[h2 k,c];rfl)] at a
    exact Qno a
  | some v =>
    rw[j k v c] at a
    exact Qno a
 rw[this]
theorem Qph:∀(l m:List Nat),l.Nodup->(∀x∈l,x∈m)->l.length<=m.length:=by
 intro l
 induction l with
 | nil=>intro m _ _;exact Z9 _
 | cons a l ih =>
   intro m hn h
   have h1:=ih (m.erase a) (List.nodup_cons.1 hn).2 (fun x b=>(List.mem_erase_of_ne (fun e=>(List.nodup_cons.1 hn).1 (by rw[<-e];exact b))).2 (h x (Y2 _ b)))
   have h2:=List.length_erase_of_mem (h a sM)
   have h3:=List.length_pos_of_mem (h a sM)
   rw[Y4];omega
theorem qg9.len {w:World}{τ:qa1}{b:Nat}{g:Tag}{N:Nat}{f:Nat->Option Nat}(h:qg9 w τ b g N f) (j:N<=4294967296) {l:List Nat}(hl:l.Nodup) (c:∀k,k∈l↔(f k).isSome=true) (d:TypeId) :
 (Builtin.len_ #[102] d #[.map (some b)]).run Tryz.prog w = .ok (.int .i64 l.length) w:=by
 obtain⟨n,D,e,h1,h2,h3⟩:=h.is
 obtain⟨o,i,a3,a4⟩:=Qpa e h1 h2 j
 have:Maps.size D=l.length:=by
  rw[<-a3]
  exact Nat.le_antisymm (Qph _ _ o (fun k a=>(c k).2 ((i k).1 a))) (Qph _ _ hl (fun k a=>(i k).2 ((c k).1 a)))
 rw[e.len Tryz.underlying102 d,this]
theorem qg9.store {w:World}{τ:qa1}{b:Nat}{g:Tag}{N:Nat}{f:Nat->Option Nat}(h:qg9 w τ b g N f) (k v:Nat) (hn:N<=100000) (q:k<N) :
 ∃a,(Instr.mapUpdate 102 (.map (some b)) (.int .u32 k) (.pointer (some ⟨v,0,none⟩))).run Tryz.prog w = .ok () a/\qg9 a τ b g N (qeu f k (some v))/\Step w τ a τ (fun t=>t=g):=by
 obtain⟨n,D,i,h1,h2,r⟩:=h.is
 obtain⟨s,a2,a3,a4⟩:=Qpa i h1 h2 oM
 have hsz:Maps.size D<=N:=by rw[<-a3];exact Qk7 N _ s a4
 have o:w.ownsMap Tryz.prog 39 qfj b (Maps.size D) D:=by
  obtain⟨es,c,x,y,b3,rfl⟩:=i
  exact⟨es,c,x,y,by simp[Maps.size,length_sorted],rfl⟩
 obtain⟨a,B,d,C⟩:=o.store Qeo Tryz.underlying102 (by unfold maxLen;omega) (Qd4 k oM) (Qr5 (some v))
 refine⟨a,B,⟨h.tag,_,_,d,?_,?_,?_⟩,Step.turned h.tag C⟩
 ·intro p hh
  by_cases e:p=qcw k
  ·exact⟨k,q,e⟩
  ·rw[has_put_other e] at hh;exact h1 p hh
 ·intro j
  by_cases e:j=k
  ·subst e;rw[has_put_same i.isMap (Qfb j oM)];simp[qeu]
  ·rw[has_put_other (Qev e),h2 j];simp[qeu,e]
 ·intro j u l z
  by_cases e:j=k
  ·subst e
   simp[qeu] at l;subst l
   exact atKey_put_same i.isMap (Qfb j oM) _ _
  ·rw[atKey_put_other (Qev e)]
   simp[qeu,e] at l
   exact r j u l z
theorem qg9.drop {w:World}{τ:qa1}{b:Nat}{g:Tag}{n:Nat}{f:Nat->Option Nat}(h:qg9 w τ b g n f) (k:Nat) (o:k<4294967296) (i:TypeId) :
 ∃a,(Builtin.delete_ #[102,39] i #[.map (some b),.int .u32 k]).run Tryz.prog w = .ok (.tuple #[]) a/\qg9 a τ b g n (qeu f k none)/\Step w τ a τ (fun t=>t=g):=by
 obtain⟨n,D,p,h1,h2,q⟩:=h.is
 obtain⟨a,r,c,s⟩:=p.drop Qeo Tryz.underlying102 (Qd4 k o) i
 refine⟨a,r,⟨h.tag,_,_,c,?_,?_,?_⟩,Step.turned h.tag s⟩
 ·intro l hh
  by_cases e:l=qcw k
  ·subst e;rw[has_del_same] at hh;cases hh
  ·rw[has_del_other e] at hh;exact h1 l hh
 ·intro j
  by_cases e:j=k
  ·subst e;rw[has_del_same];simp[qeu]
  ·rw[has_del_other (Qev e),h2 j];simp[qeu,e]
 ·intro j u d z
  by_cases e:j=k
  ·subst e;simp[qeu] at d
  ·rw[atKey_del_other (Qev e)]
   simp[qeu,e] at d
   exact q j u d z
def PRange (w:World) (τ:qa1) (b r:Nat) (g:Tag) (N:Nat) (f:Nat->Option Nat) (l:List Nat) (cnt:Nat):Prop :=
 τ b=g/\∃n D left,w.ranges Tryz.prog 39 qfj b r n D left cnt/\(∀kl,has D kl=true->∃k,k<N/\kl=qcw k)/\(∀k,has D (qcw k)=(f k).isSome)/\(∀k v,f k=some v->∀z,D.atKey (qcw k) z=qjr (some v))/\l.Nodup/\(∀k,k<N->(left (qcw k)=true↔k∈l))/\(∀k∈l,k<N/\(f k).isSome=true)
def tIt:Tag:=(304,0)
theorem qg9.range {w:World}{τ:qa1}{b:Nat}{g:Tag}{N:Nat}{f:Nat->Option Nat}(h:qg9 w τ b g N f) (hN:N<=4294967296) {l:List Nat}(hl:l.Nodup) (i:∀k,k∈l↔(f k).isSome=true) :
 ∃c cnt,(Instr.range 102 (.map (some b))).run Tryz.prog w = .ok (.pointer (some ⟨w.heap.size,0,none⟩)) c/\PRange c (τ.put w.heap.size tIt) b w.heap.size g N f l cnt/\Step w τ c (τ.put w.heap.size tIt) nil:=by
 obtain⟨n,D,p,h1,h2,r⟩:=h.is
 have hb:=p.lt
 obtain⟨c,s,o,d,hs⟩:=p.range Qeo Tryz.underlying102
 refine⟨c,_,s,⟨by rw[qa1.qgm _ _ _ _ oM];exact h.tag,n,D,has D,o,h1,h2,r,hl,fun k a=>by rw[h2 k];exact(i k).symm,fun k a=>⟨?_,(i k).1 a⟩⟩,⟨⟨d.os,d.tape,d.output,oM,fun k a _=>d.block k a sM⟩,fun k a=>qa1.qgm _ _ _ _ oM⟩⟩
 obtain⟨j,hj,e⟩:=h1 (qcw k) (by rw[h2 k];exact(i k).1 a)
 have:k=j:=by
  by_cases q:k=j
  ·exact q
  ·exact absurd e (Qev q)
 omega
theorem PRange.next {w:World}{τ:qa1}{b r:Nat}{g:Tag}{N:Nat}{f:Nat->Option Nat}{l:List Nat}{cnt:Nat}(h:PRange w τ b r g N f l cnt) (hN:N<=4294967296) (hr:τ r=tIt) (M:TypeId) :
 (l=[]/\(Instr.next (.pointer (some ⟨r,0,none⟩)) false M).run Tryz.prog w = .ok (.tuple #[.bool false]) w) \/
 ∃k v B c,k∈l/\f k=some v/\(Instr.next (.pointer (some ⟨r,0,none⟩)) false M).run Tryz.prog w = .ok (.tuple #[.bool true,.int .u32 k,.pointer (some ⟨v,0,none⟩)]) B /\
   PRange B τ b r g N f (l.erase k) c/\c<cnt/\Mod w B (fun j=>j=r)/\(Instr.entry (.pointer (some ⟨r,0,none⟩))).run Tryz.prog B = .ok (.tuple #[.int .u32 k,.pointer (some ⟨v,0,none⟩)]) B:=by
 obtain⟨ht,n,D,left,E,h1,h2,h3,hl,O,hb⟩:=h
 rcases E.next Qeo M with ⟨h0,R,d⟩|⟨key,v,kl,y,B,c,F,G,hv,U,d,I,X,q,hsz,Y⟩
 ·refine .inl ⟨?_,d⟩
  cases l with
  | nil=>rfl
  | cons a l =>
    have:=(O a (hb a sM).1).2 sM
    rw[R] at this;cases this
 ·have s:has D kl=true:=by
   obtain⟨es,clock,since,seen,c0,q1,q2,q3,q4,q5,q6,q7,q8,q9,q10⟩:=E
   obtain⟨x,o,rfl⟩:=q9 kl G
   rw[q4]
   obtain⟨z,hz⟩:=q2.reads x o
   exact List.any_eq_true.2 ⟨_,mem_sorted.2 (List.mem_map.2 ⟨x,o,rfl⟩),WideAt.sameKey_self (by rw[WideElems.rg_of hz];exact Qeo.key (WideElems.rd_key hz))⟩
  obtain⟨k,Z,rfl⟩:=h1 kl s
  have C:key = .int .u32 k:=by
   obtain⟨x,rfl,e,_⟩:=Maps.keyOf_int_inv Tryz.underlying39 F
   simp only[Lit.int.injEq,true_and] at e
   rw[e]
  subst C
  obtain⟨p,rfl,rfl⟩:=Qo8 hv
  have J:=h2 k
  rw[s] at J
  obtain⟨v,L⟩:=Option.isSome_iff_exists.1 J.symm
  have a0:p=some v:=by
   have e1:=U (.lit (.int .i64 0))
   rw[h3 k v L] at e1
   exact(Qno e1).symm
  subst a0
  refine .inr ⟨k,v,B,c,(O k Z).1 G,L,d,⟨ht,n,D,_,I,h1,h2,h3,hl.erase k,fun j hj=>?_,fun j hj=>hb j (List.mem_of_mem_erase hj)⟩,X,⟨q.os,q.tape,q.output,oM,fun i hi hn=>q.block i hi (fun e=>hn (by cases e;rfl))⟩,Y⟩
  by_cases e:j=k
  ·subst e
   have a2:=hl.not_mem_erase (a:=j)
   constructor
   ·intro o
    simp only[Bool.and_eq_true,Bool.not_eq_true'] at o
    rw[WideAt.sameKey_self (Qfb j oM)] at o
    cases o.2
   ·intro o;exact absurd o a2
  ·have a3:(qcw j).sameKey (qcw k)=false:=by
    cases o:(qcw j).sameKey (qcw k) with
    | false=>rfl
    | true=>exact absurd (WideAt.sameKey_eq o) (Qev e)
   rw[a3,Bool.not_false,Bool.and_true,List.mem_erase_of_ne e]
   exact O j hj
theorem PRange.step {w e:World}{τ a:qa1}{b r:Nat}{g:Tag}{N:Nat}{f:Nat->Option Nat}{l:List Nat}{cnt:Nat}(h:PRange w τ b r g N f l cnt) (i:τ r=tIt) {S:Tag->Prop}(m:Step w τ e a S) (h1:¬S g) (h2:¬S tIt):PRange e a b r g N f l cnt/\a r=tIt:=by
 obtain⟨j,n,D,left,⟨es,clock,c,seen,c0,k,s,x,y,o,z⟩,q⟩:=h
 have p:b<w.heap.size:=(Array.getElem?_eq_some_iff.1 k).1
 have d:r<w.heap.size:=(Array.getElem?_eq_some_iff.1 o).1
 exact⟨⟨(m.ext b p).trans j,n,D,left,⟨es,clock,c,seen,c0,by rw[m.mod.block b p (by rw[j];exact h1)];exact k,s,x,y,by rw[m.mod.block r d (by rw[i];exact h2)];exact o,z⟩,q⟩,(m.ext r d).trans i⟩
theorem PRange.left {w:World}{τ:qa1}{b r:Nat}{g:Tag}{N:Nat}{f:Nat->Option Nat}{l:List Nat}{cnt:Nat}(h:PRange w τ b r g N f l cnt):w.rangeLeft b r=cnt:=by
 obtain⟨_,n,D,left,a,_⟩:=h
 exact a.left_eq
end Go.Proofs.YtociicnopccppaaGreat
namespace Go.Proofs.YtociicnopccppaaGreat
open Go.RowKit
theorem Bytes.any {w:World}{τ:qa1}{g:Tag}{v:Value}{l:List Int}(h:Bytes w τ g v l):∃p c,v = .slice p l.length c/\l.length<=c/\c<=maxLen:=by
 obtain⟨p,c,hv,h1,h2,_⟩:=h.is
 exact⟨p,c,hv,h1,h2⟩
theorem Bytes.pos {w:World}{τ:qa1}{g:Tag}{v:Value}{l:List Int}(h:Bytes w τ g v l) (h0:0<l.length):∃b o c,v = .slice (some ⟨b,o,none⟩) l.length c/\l.length<=c/\c<=maxLen/\τ b=g/\b<w.heap.size/\∀i,i<l.length->w.cell? ⟨b,o+i,none⟩=some (.int .u8 (l.getD i 0)):=by
 obtain⟨p,c,hv,h1,h2,d⟩:=h.is
 obtain⟨b,o,rfl,e,a⟩:=d h0
 exact⟨b,o,c,hv,h1,h2,e,qb0 (a 0 h0),a⟩
theorem Bytes.empty (w:World) (τ:qa1) (g:Tag):Bytes w τ g (.slice none 0 0) []:=⟨fun x a=>by simp at a,none,0,rfl,Z0 _,Z9 _,fun a=>by simp at a⟩
structure NB (n0:Nat) (w:World) (τ:qa1) (g:Tag) (v:Value) (l:List Int):Prop where
 buf:Buf w τ g 5 1 v l.length (u8s l)
 isB:IsB l
 low:∀k,v.ownBlock=some k->n0<=k
theorem NB.nil (n0:Nat) (w:World) (τ:qa1) (g:Tag):NB n0 w τ g (.slice none 0 0) []:=⟨Buf.nil _ _ _ _ _,fun x a=>by simp at a,fun k b=>by simp[Value.ownBlock] at b⟩
theorem NB.bytes {n0:Nat}{w:World}{τ:qa1}{g:Tag}{v:Value}{l:List Int}(h:NB n0 w τ g v l):Bytes w τ g v l:=h.buf.bytes h.isB
theorem NB.step {n0:Nat}{w b:World}{τ a:qa1}{S:Tag->Prop}{g:Tag}{v:Value}{l:List Int}(h:NB n0 w τ g v l) (m:Step w τ b a S) (c:¬S g):NB n0 b a g v l:=⟨h.buf.step m c,h.isB,h.low⟩
theorem NB.drew {n0:Nat}{w:World}{τ:qa1}{g:Tag}{v:Value}{l:List Int}(h:NB n0 w τ g v l):NB n0 w.drew τ g v l:=h.step (Step.refl w τ Go.Proofs.YtociicnopccppaaGreat.nil).drew id
theorem NB.val {n0:Nat}{w:World}{τ:qa1}{g:Tag}{v:Value}{l:List Int}(h:NB n0 w τ g v l):∃p c,v = .slice p l.length c:=by
 obtain⟨p,c,hv,_⟩:=h.bytes.any
 exact⟨p,c,hv⟩
theorem IsB.append {l m:List Int}(h:IsB l) (k:IsB m):IsB (l++m):=fun x a=>(List.mem_append.1 a).elim (h x) (k x)
theorem Qig (l m:List Int):u8s (l++m)=u8s l++u8s m:=by simp[u8s]
theorem Qhu {s w:World}{q τ:qa1}{S:Tag->Prop}(e:Step s q w τ S) {g X:Tag}{v L:Value}{l m:List Int}(d:NB s.heap.size w τ g v l) (y:Bytes w τ X L m) (hsz:l.length+m.length<=100000000000) (M:TypeId) :
 ∃z n i,(Builtin.append_ #[58,58] M #[v,L]).run Tryz.prog w = .ok z n/\NB s.heap.size n i g z (l++m)/\Step s q n i S/\Step w τ n i (fun t=>t=g):=by
 obtain⟨Y,hi,B,C,D⟩:=info_parts Tryz.infoU8
 obtain⟨p,c,rfl,h1,h2⟩:=y.any
 have j:=y.news.2
 by_cases O:p=none
 ·subst O
  obtain⟨p',c',hv,h3,h4,Z⟩:=y.is
  simp only[Value.slice.injEq] at hv
  obtain⟨rfl,_,rfl⟩:=hv
  cases m with
  | nil =>
    refine⟨v,w,τ,?_,by simpa using d,e,Step.refl _ _ _⟩
    rcases d.buf.2 with ⟨rfl,_⟩|⟨b,cap,ys,rfl,ho,_,E,_⟩
    ·simp[Builtin.append_,run_underlying Tryz.underlying58,sizeOf,typeInfo,hi,Builtin.lenOf,Builtin.firstCells]
    ·simp[Builtin.append_,run_underlying Tryz.underlying58,sizeOf,typeInfo,hi,Builtin.lenOf,Builtin.firstCells,E,storeCells]
  | cons x r=>obtain⟨b,o,hq,_⟩:=Z sM;cases hq
 obtain⟨z,n,i,hr,F,R,U,G⟩:=Qap (P:=Tryz.prog) w τ g 58 M 5 Y (.int .u8 0) 1 1 Tryz.underlying58 hi B C D rfl dC v l.length (u8s l) d.buf
  p m.length c (u8s m) (by rw[Qac,Nat.mul_one]) (fun h=>absurd h O) (fun a ha=>j a ha) (Qkd m) (by unfold maxLen;omega) oM
 refine⟨z,n,i,hr,⟨by rw[Z6,Qig];exact F,d.isB.append y.isB,fun k I=>?_⟩,⟨e.mod.seq U (fun k I J=>absurd (d.low k J) oM),e.ext.trans R e.size⟩,⟨U.mono (fun k I J=>(d.buf.own k J).1),R⟩⟩
 rcases G k I with h|h
 ·exact d.low k h
 ·have:=e.size;omega
theorem Qal {i w:World}{d τ:qa1}{S:Tag->Prop}(k:Step i d w τ S) {g r:Tag}{v q:Value}{l m:List Int}(e:NB i.heap.size w τ g v l) (y:Bytes w τ r q m) (n:l.length+m.length<=100000000000)
 {ops:Array Oper} {rest:List Oper} {o:Oper} {a:Act} {Q:Exit->Act->World->Prop} (p:o.guard=none) (s x:Operand)
 (z:o.op = .call {callee:=.builtin .append,args:=#[s,x],argTypes:=#[58,58]}) (B:a.eval s=v) (C:a.eval x=q)
 (h:∀j c b,NB i.heap.size c b g j (l++m)->Step i d c b S->Step w τ c b (fun t=>t=g)->wpList Tryz.prog ops Q rest (a.put o.dst j) c):wpList Tryz.prog ops Q (o::rest) a w:=by
 refine wpList_plain p fun K D=>?_
 obtain⟨j,c,b,E,h2,F,G⟩:=Qhu k e y n o.type
 unfold Oper.wp execOp
 simp only[z,resolve,invoke,builtin,Sem.run_bind,Sem.run_pure,Result.andThen_ok,List.map_toArray,X0,List.map_nil,B,C,E]
 exact D _ _ (h j c b h2 F G)
theorem Ql7 {i w:World}{d τ:qa1}{S:Tag->Prop}(k:Step i d w τ S) {g r:Tag}{v q:Value}{l m:List Int}(e:NB i.heap.size w τ g v l) (y:Bytes w τ r q m) (n:l.length+m.length<=100000000000)
 {ops:Array Oper} {o:Oper} {a:Act} {K:Act->World->Prop} {Q:Exit->Act->World->Prop} {E:Prop} (p:o.guard=none) (s x:Operand)
 (z:o.op = .call {callee:=.builtin .append,args:=#[s,x],argTypes:=#[58,58]}) (B:a.eval s=v) (C:a.eval x=q)
 (h:∀j c b,NB i.heap.size c b g j (l++m)->Step i d c b S->Step w τ c b (fun t=>t=g)->K (a.put o.dst j) c):if Region.wanted o (yielded ops a.tmps)=true then Oper.wp Tryz.prog o a w K Q else E:=by
 have D:Region.wanted o (yielded ops a.tmps)=true:=by simp[Region.wanted,p]
 rw[if_pos D]
 obtain⟨j,c,b,F,h2,G,I⟩:=Qhu k e y n o.type
 unfold Oper.wp execOp
 simp only[z,resolve,invoke,builtin,Sem.run_bind,Sem.run_pure,Result.andThen_ok,List.map_toArray,X0,List.map_nil,B,C,F]
 exact h j c b h2 G I
structure NR (n0:Nat) (w:World) (τ:qa1) (g:Tag) (v:Value) (ls:List (List Int)):Prop where
 row:qcv w τ g v ls
 low:∀k,v.ownBlock=some k->n0<=k
theorem NR.nil (n0:Nat) (w:World) (τ:qa1) (g:Tag):NR n0 w τ g (.slice none 0 0) []:=⟨.inl ⟨rfl,rfl⟩,fun k a=>by simp[Value.ownBlock] at a⟩
theorem NR.step {n0:Nat}{w b:World}{τ a:qa1}{S:Tag->Prop}{g:Tag}{v:Value}{ls:List (List Int)}(h:NR n0 w τ g v ls) (m:Step w τ b a S) (c:¬S g) (hd:¬S qa2):NR n0 b a g v ls:=⟨h.row.step m c hd,h.low⟩
theorem NR.val {n0:Nat}{w:World}{τ:qa1}{g:Tag}{v:Value}{ls:List (List Int)}(h:NR n0 w τ g v ls):∃p c,v = .slice p ls.length c:=h.row.len
theorem Qdn {C w:World}{r τ:qa1}{S:Tag->Prop}(l:Step C r w τ S) {g:Tag}(hg:g≠qa2) {v u:Value}{ls:List (List Int)}{x:List Int}(d:NR C.heap.size w τ g v ls) (hb:Bytes w τ qa2 u x) (s:x.length=128) (hsz:ls.length<=1000000000) {k:Nat}
 (z:w.heap[k]?=some (.cells #[u] 58 (0,0))) (ty:TypeId) :
 ∃B n b,(Builtin.append_ #[31,31] ty #[v,.slice (some ⟨k,0,none⟩) 1 1]).run Tryz.prog w = .ok B n/\NR C.heap.size n b g B (ls++[x])/\Step C r n b S/\Step w τ n b (fun t=>t=g)/\Mod w n (fun k=>v.ownBlock=some k):=by
 obtain⟨i0,hi,E,F,G⟩:=info_parts Tryz.infoU8s
 obtain⟨D,i,I⟩:=d.row.buf
 obtain⟨p,c,rfl,_⟩:=hb.any
 obtain⟨B,n,b,hr,J,he,L,M⟩:=Qap (P:=Tryz.prog) w τ g 31 ty 58 i0 (.slice none 0 0) 1 24 Tryz.underlying31 hi E F G rfl dC v ls.length D i
  (some ⟨k,0,none⟩) 1 1 [.slice p x.length c] rfl (fun h=>by cases h) (by
    intro ad had;cases had;exact World.news_of_block (cs:=#[.slice p x.length c]) (t := 58) (fr:=(0,0)) z) (by simp[Value.oneCell']) (by unfold maxLen;omega) oM
 have o:Step w τ n b (fun t=>t=g):=⟨L.mono (fun k z O=>(i.own k O).1),he⟩
 have hxl:D.length=ls.length:=by have:=i.1;omega
 refine⟨B,n,b,hr,⟨?_,fun k z=>?_⟩,⟨l.mod.seq L (fun k z O=>absurd (d.low k O) oM),l.ext.trans he l.size⟩,o,L⟩
 ·have R:Buf n b g 58 1 B (ls++[x]).length (D++[.slice p x.length c]):=by rw[Z6];exact J
  refine R.waits (fun j y q=>?_)
  by_cases U:j<ls.length
  ·rw[Y5 U] at q
   obtain⟨a,u,hu,X⟩:=I j y q
   exact⟨a,u,by rw[Y5 oM];exact hu,X.step o (fun e=>hg e.symm)⟩
  ·rw[Y6 oM] at q
   have Y:j-ls.length=0:=by
    have:=(Z4 q).1
    simp at this;omega
   rw[Y] at q
   have Z:x=y:=by simpa using q
   subst Z
   refine⟨s,_,by rw[Y6 oM,show j-D.length=0 by omega];rfl,hb.step o (fun e=>hg e.symm)⟩
 ·rcases M k z with h|h
  ·exact d.low k h
  ·have:=l.size;omega
theorem Qjk {j w:World}{d τ:qa1}{S:Tag->Prop}(n:Step j d w τ S) {g:Tag}(r:g≠qa2) {v u:Value}{ls:List (List Int)}{x:List Int}(e:NR j.heap.size w τ g v ls) (z:Bytes w τ qa2 u x) (i:x.length=128) (p:ls.length<=1000000000) {k:Nat}
 (B:w.heap[k]?=some (.cells #[u] 58 (0,0)))
 {ops:Array Oper} {rest:List Oper} {o:Oper} {a:Act} {Q:Exit->Act->World->Prop} (q:o.guard=none) (s y:Operand)
 (C:o.op = .call {callee:=.builtin .append,args:=#[s,y],argTypes:=#[31,31]}) (D:a.eval s=v) (E:a.eval y = .slice (some ⟨k,0,none⟩) 1 1)
 (h:∀l c b,NR j.heap.size c b g l (ls++[x])->Step j d c b S->Step w τ c b (fun t=>t=g)->wpList Tryz.prog ops Q rest (a.put o.dst l) c):wpList Tryz.prog ops Q (o::rest) a w:=by
 refine wpList_plain q fun K F=>?_
 obtain⟨l,c,b,G,h2,I,J,-⟩:=Qdn n r e z i p B o.type
 unfold Oper.wp execOp
 simp only[C,resolve,invoke,builtin,Sem.run_bind,Sem.run_pure,Result.andThen_ok,List.map_toArray,X0,List.map_nil,D,E,G]
 exact F _ _ (h l c b h2 I J)
theorem NR.alloc {n0:Nat}{w:World}{τ:qa1}{g:Tag}{v:Value}{ls:List (List Int)}(h:NR n0 w τ g v ls) (o:Obj):NR n0 (w.alloc o) τ g v ls:=h.step ((Step.refl w τ Go.Proofs.YtociicnopccppaaGreat.nil).alloc' o) id id
theorem Bytes.alloc {w:World}{τ:qa1}{g:Tag}{v:Value}{l:List Int}(h:Bytes w τ g v l) (o:Obj):Bytes (w.alloc o) τ g v l:=h.step ((Step.refl w τ Go.Proofs.YtociicnopccppaaGreat.nil).alloc' o) id
theorem NB.alloc {n0:Nat}{w:World}{τ:qa1}{g:Tag}{v:Value}{l:List Int}(h:NB n0 w τ g v l) (o:Obj):NB n0 (w.alloc o) τ g v l:=h.step ((Step.refl w τ Go.Proofs.YtociicnopccppaaGreat.nil).alloc' o) id
theorem Qbz {j w:World}{d τ:qa1}{S:Tag->Prop}(l:Step j d w τ S) {g:Tag}(r:g≠qa2) {v u:Value}{ls:List (List Int)}{x:List Int}(e:NR j.heap.size w τ g v ls) (z:Bytes w τ qa2 u x) (i:x.length=128) (n:ls.length<=1000000000) {kb:Nat}(p:kb=w.heap.size)
 {ops:Array Oper} {rest:List Oper} {o:Oper} {a:Act} {Q:Exit->Act->World->Prop} (q:o.guard=none) (s y:Operand)
 (B:o.op = .call {callee:=.builtin .append,args:=#[s,y],argTypes:=#[31,31]}) (C:a.eval s=v) (D:a.eval y = .slice (some ⟨kb,0,none⟩) 1 1)
 (h:∀k c b,NR j.heap.size c b g k (ls++[x])->Step j d c b S->Step w τ c b (fun t=>t=g)->wpList Tryz.prog ops Q rest (a.put o.dst k) c):wpList Tryz.prog ops Q (o::rest) a (w.alloc (.cells #[u] 58)):=by
 subst p
 refine Qjk (l.alloc' (.cells #[u] 58)) r (e.alloc _) (z.alloc _) i n (heap_alloc_new w _) q s y B C D (fun k c b h1 h2 E=>h k c b h1 h2 ?_)
 exact((Step.refl w τ _).alloc' _).trans E
def Qcu (ls:List (List Int)):Nat->List Int
 | 0=>[]
 | i+1=>Qcu ls i++(((ls.getD i []).drop 8).take (120-8))
def qiv (ls:List (List Int)) (s:Nat):Nat->Bool
 | 0=>true
 | i+1=>qiv ls s i && (qcf (ls.getD i [])==s && qbx (ls.getD i [])==s)
def qdd (ls:List (List Int)):Nat:=qcf (ls.getD 0 [])
def Qb3 (ls:List (List Int)):Bool:=qiv ls (qdd ls) 4
def Qjt (ls:List (List Int)):List Int:=Qcu ls 4
def OpenD (w:World) (τ:qa1) (g:Tag) (ls:List (List Int)) (e:Ending) (w':World):Prop :=
 ∃τ',Step w τ w' τ' nil/\((Qb3 ls=true/\∃u,e = .returned (.tuple #[u,.int .u64 (qdd ls:Int),.bool true])/\Bytes w' τ' g u (Qjt ls)) \/
   (Qb3 ls=false/\e = .returned (.tuple #[.slice none 0 0,.int .u64 0,.bool false])))
theorem Qh0 (ls:List (List Int)) (s i:Nat):qiv ls s (i+1)=(qiv ls s i && (qcf (ls.getD i [])==s && qbx (ls.getD i [])==s)):=rfl
theorem Qq1 {ls:List (List Int)}{s i:Nat}(h:qiv ls s i=false):∀n,i<=n->qiv ls s n=false:=by
 intro n hn
 induction n with
 | zero =>
    obtain rfl:i=0:=oM
    exact h
 | succ n ih =>
   by_cases e:i=n+1
   ·subst e;exact h
   ·rw[Qh0,ih oM,Bool.false_and]
theorem Qib {ls:List (List Int)}(h:∀(k:Nat) (x:List Int),ls[k]?=some x->x.length=128) (i:Nat) (hi:i<=ls.length):(Qcu ls i).length=112*i:=by
 induction i with
 | zero=>rfl
 | succ i ih =>
   have a:ls[i]?=some (ls.getD i []):=by rw[Z5,Z3 oM];rfl
   have:=h i _ a
   show (Qcu ls i++_).length=_
   rw[Z6,ih oM,List.length_take,List.length_drop,this]
   omega
theorem Qnz {w:World}{τ:qa1}{g:Tag}{v:Value}{ls:List (List Int)}(h:qcv w τ g v ls) (g':Tag) (h4:ls.length=4) :
 Calls Tryz.prog 134 #[v] w (OpenD w τ g' ls):=by
 obtain⟨p,c,rfl,hm,hr⟩:=h.read
 have Hr:=Z2 hr
 rw[h4]
 obtain⟨x0,O⟩:∃x,ls[0]?=some x:=⟨_,Z3 oM⟩
 obtain⟨a,b,u0,rfl,a1,C⟩:=hr 0 x0 O
 have lb:=qb0 a1
 obtain⟨pu,cu,rfl,-,-⟩:=C.any
 rw[a] at C a1
 have D:=Qlc C
 have e:qcf x0=qdd ls:=by unfold qdd;rw[Z5,O];rfl
 have J:∀(k:Nat) (x:List Int),ls[k]?=some x->x.length=128:=fun k x Z=>(hr k x Z).1
 rw[e] at D
 generalize qbx x0=hm2 at D
 generalize hs:qdd ls=s at *
 obtain⟨ac,H4,a2,Hs⟩:=qb9 D h4 J hs
 clear D h4 J hs hr C O hm h a e
 go_enter Tryz.func134,Tryz.ntmps134
 go_wp2_with fail
 refine zC ac ?_
 go_wp2_with fail
 go_loopw [8,27] (fun m v wr=>∃(i:Nat) (y:qa1),i<=4/\v = .int .i64 i/\NB w.heap.size wr y g' m (Qcu ls i)/\Step w τ wr y nil/\Hid (qiv ls s i=true)) (fun _ v _=>4-(intOf v).toNat)
 case atStart=>exact⟨0,τ,Z9 _,rfl,NB.nil _ _ _ _,(Step.refl _ _ _).drew,Z2 rfl⟩
 case round =>
  obtain⟨i,y,hi,rfl,d,e,HO⟩:=hrel
  by_cases ae:i<4
  ·obtain⟨x,Z⟩:∃x,ls[i]?=some x:=⟨_,Z3 (by rw[H4.out];exact ae)⟩
   obtain⟨a,b',u,af,hc,hb⟩:=Hr i x Z
   cases af
   have c1:=(e.no.cell b i lb id).trans hc
   have z:=hb.step e id
   obtain⟨bb,oo,cu,rfl,ah,h2c,-⟩:=z.pos oM
   rw[a] at z c1
   have E:=Qlc z
   have F:ls.getD i []=x:=by rw[Z5,Z];rfl
   have o:qiv ls s (i+1)=(qcf x==s && qbx x==s):=by
    rw[Qh0,HO.out,F,Bool.true_and]
   have R:Qcu ls (i+1)=Qcu ls i++((x.drop 8).take (120-8)):=by
    show Qcu ls i++(((ls.getD i []).drop 8).take (120-8))=_
    rw[F]
   have U:=z.drew.sub 8 120 (cu-8) oM oM oM oM
   have B:((x.drop 8).take (120-8)).length=112:=by rw[List.length_take,List.length_drop];omega
   have G:=Qib a2 i (by rw[H4.out];omega)
   have e3:(120:Int)<=cu:=oM
   have e4:¬cu=8:=oM
   generalize hp:(x.drop 8).take (120-8)=part at *
   generalize qcf x=m1 at *
   generalize qbx x=m2 at *
   have X:(Qcu ls i).length+part.length<=100000000000:=oM
   have j:=d.drew
   have q:=e.drew
   obtain⟨pm,cm,rfl⟩:=d.val
   rw[a] at ah
   by_cases l:m1=s/\m2=s
   ·obtain⟨rfl,ai⟩:=l
    subst ai
    have n:qiv ls m2 (i+1)=true:=by rw[o];simp
    rw[G] at d j
    have I:=Z2 E
    have Y:=Z2 j
    have r:=Z2 q
    obtain⟨aj,a5,ak,al,am⟩:=qbq U n R X G
    clear E j q U n R X G B hp d e z hb hc Z a o F
    rw[am.out]
    go_wp2_with fail
    refine zC I ?_
    go_wp2_with (at_builtin;refine Qal r Y aj al rfl _ _ rfl rfl rfl ?_;intro v' w' an hb he a6;obtain⟨Hb,He,Hmo⟩:=qan hb he a6;clear hb he a6)
    go_round
    case rel=>exact⟨i+1,an,oM,sM,by rw[ak.out];exact Hb,He,Z2 a5⟩
    case measure=>simp[intOf];omega
   ·have n:qiv ls s (i+1)=false:=by
     rw[o]
     by_cases h1:m1=s
     ·have h2:¬m2=s:=fun h=>l ⟨h1,h⟩
      simp[h2]
     ·simp[h1]
    have a7:=Qq1 n 4 oM
    have L:Qb3 ls=false:=by unfold Qb3;rw[Hs.out];exact a7
    have I:=Z2 E
    have r:=Z2 q
    have M:=Z2 L
    clear E q L d j e z hb hc Z a o F n R X G B U a7 hp
    by_cases h1:m1=s
    ·have h2:¬m2=s:=fun h=>l ⟨h1,h⟩
     subst h1
     have b1:((m2:Int) != (m1:Int))=true:=by rw[bne_iff_ne];omega
     clear l h2
     go_wp2_with fail
     refine zC I ?_
     go_wp2_with fail
     go_returns
     exact⟨y,r,.inr ⟨M,rfl⟩⟩
    ·have b1:((m1:Int) != (s:Int))=true:=by rw[bne_iff_ne];omega
     clear l h1
     go_wp2_with fail
     refine zC I ?_
     go_wp2_with fail
     go_returns
     exact⟨y,r,.inr ⟨M,rfl⟩⟩
  ·have ao:i=4:=oM
   subst ao
   have o:Qb3 ls=true:=by unfold Qb3;rw[Hs.out];exact HO
   obtain⟨a8,ap,aq⟩:=qan d e o
   clear d e o
   go_wp2_with fail
   go_returns
   exact⟨y,ap,.inl ⟨aq,_,by rw[Hs.out];rfl,a8.bytes⟩⟩
end Go.Proofs.YtociicnopccppaaGreat
namespace Go.Proofs.YtociicnopccppaaGreat
open Go.RowKit Go.Maps
def rdV (v:Value):Option (DataW Value×List MemPlace):=some (.held v,[])
def qgj (f:Nat->Option Value) (k:Nat) (v:Option Value):Nat->Option Value:=fun j=>if j=k then v else f j
structure qf6 (w:World) (τ:qa1) (b:Nat) (g:Tag) (c:Nat) (f:Nat->Option Value):Prop where
 tag:τ b=g
 is:∃D,w.ownsMap Tryz.prog 39 rdV b c D/\(∀kl,has D kl=true->∃k,k<4294967296/\kl=qcw k)/\(∀k,has D (qcw k)=(f k).isSome)/\(∀k v,f k=some v->∀z,D.atKey (qcw k) z = .held v)
theorem qf6.step {w d:World}{τ a:qa1}{S:Tag->Prop}{b c:Nat}{g:Tag}{f:Nat->Option Value}(h:qf6 w τ b g c f) (m:Step w τ d a S) (i:¬S g):qf6 d a b g c f:=by
 obtain⟨D,⟨es,c,e,j⟩,r⟩:=h.is
 have hl:b<w.heap.size:=(Array.getElem?_eq_some_iff.1 e).1
 exact⟨(m.ext b hl).trans h.tag,D,⟨es,c,by rw[m.mod.block b hl (by rw[h.tag];exact i)];exact e,j⟩,r⟩
theorem qf6.made (w:World) (τ:qa1) (g:Tag):qf6 (w.alloc (.map #[] 0)) (τ.put w.heap.size g) w.heap.size g 0 (fun _=>none) :=
 ⟨qa1.qd9 _ _ _,_,World.ownsMap_made w _ _ _,fun kl h=>by simp[has] at h,fun k=>by simp[has],fun k v h=>by simp at h⟩
theorem qf6.look {w:World}{τ:qa1}{b c:Nat}{g:Tag}{f:Nat->Option Value}(h:qf6 w τ b g c f) {e tv:TypeId}(i:Tryz.prog.underlying e=some (.map 39 tv)) {z:Value} (j:(zeroValue tv).run Tryz.prog w = .ok z w) (k:Nat) (l:k<4294967296) (ok:Bool) :
 (Instr.lookup e (.map (some b)) (.int .u32 k) ok).run Tryz.prog w = .ok (if ok then .tuple #[(f k).getD z,.bool (f k).isSome] else (f k).getD z) w:=by
 obtain⟨D,n,h1,h2,p⟩:=h.is
 have key:∀v ps,rdV v=some (D.atKey (qcw k) (.held z),ps)->v=(f k).getD z:=fun v ps hv=>by
  have a:DataW.held v=D.atKey (qcw k) (.held z):=congrArg Prod.fst (Option.some.inj hv)
  cases o:f k with
  | none =>
    rw[atKey_of_not_has (by rw[h2 k,o];rfl)] at a
    injection a
  | some u =>
    rw[p k u o] at a
    injection a
 cases ok with
 | true =>
   obtain⟨v,ps,d,hv⟩:=n.look_ok Qeo i j (zd:=.held z) (zp:=[]) rfl (Qd4 k l)
   rw[d,h2 k,key v ps hv]
   rfl
 | false =>
   obtain⟨v,ps,d,hv⟩:=n.lookup Qeo i j (zd:=.held z) (zp:=[]) rfl (Qd4 k l)
   rw[d,key v ps hv]
   rfl
theorem qf6.store {w:World}{τ:qa1}{b c:Nat}{g:Tag}{f:Nat->Option Value}(h:qf6 w τ b g c f) {p tv:TypeId}(r:Tryz.prog.underlying p=some (.map 39 tv)) (k:Nat) (v:Value) (s:c<maxLen) (l:k<4294967296) :
 ∃a,(Instr.mapUpdate p (.map (some b)) (.int .u32 k) v).run Tryz.prog w = .ok () a/\qf6 a τ b g (c+1) (qgj f k (some v))/\Step w τ a τ (fun t=>t=g):=by
 obtain⟨D,o,h1,h2,x⟩:=h.is
 obtain⟨a,y,i,B⟩:=o.store Qeo r s (Qd4 k l) (d:=.held v) (ps:=[]) rfl
 refine⟨a,y,⟨h.tag,_,i,?_,?_,?_⟩,Step.turned h.tag B⟩
 ·intro q hh
  by_cases e:q=qcw k
  ·exact⟨k,l,e⟩
  ·rw[has_put_other e] at hh;exact h1 q hh
 ·intro j
  by_cases e:j=k
  ·subst e;rw[has_put_same o.isMap (Qfb j l)];simp[qgj]
  ·rw[has_put_other (Qev e),h2 j];simp[qgj,e]
 ·intro j u n z
  by_cases e:j=k
  ·subst e
   simp[qgj] at n;subst n
   exact atKey_put_same o.isMap (Qfb j l) _ _
  ·rw[atKey_put_other (Qev e)]
   simp[qgj,e] at n
   exact x j u n z
theorem qf6.drop {w:World}{τ:qa1}{b c:Nat}{g:Tag}{f:Nat->Option Value}(h:qf6 w τ b g c f) {l tv:TypeId}(p:Tryz.prog.underlying l=some (.map 39 tv)) (k:Nat) (q:k<4294967296) (n:TypeId) :
 ∃a,(Builtin.delete_ #[l,39] n #[.map (some b),.int .u32 k]).run Tryz.prog w = .ok (.tuple #[]) a/\qf6 a τ b g c (qgj f k none)/\Step w τ a τ (fun t=>t=g):=by
 obtain⟨D,r,h1,h2,s⟩:=h.is
 obtain⟨a,x,d,y⟩:=r.drop Qeo p (Qd4 k q) n
 refine⟨a,x,⟨h.tag,_,d,?_,?_,?_⟩,Step.turned h.tag y⟩
 ·intro o hh
  by_cases e:o=qcw k
  ·subst e;rw[has_del_same] at hh;cases hh
  ·rw[has_del_other e] at hh;exact h1 o hh
 ·intro j
  by_cases e:j=k
  ·subst e;rw[has_del_same];simp[qgj]
  ·rw[has_del_other (Qev e),h2 j];simp[qgj,e]
 ·intro j u i z
  by_cases e:j=k
  ·subst e;simp[qgj] at i
  ·rw[atKey_del_other (Qev e)]
   simp[qgj,e] at i
   exact s j u i z
