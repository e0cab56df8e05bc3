/-
 Check sums: half,Next,Sum.
-/
import Derived.Test.YtociicnopccppaaGreatMConcat
import Derived.Laws.IdiomStrings
import Derived.Lib.BufferRead
set_option maxRecDepth 100000
set_option linter.all false
namespace Go.Proofs.YtociicnopccppaaGreat
variable {D:Dev}{P:List Int}{bd bl:Nat}{w:World}{τ:qa1}
open Go.RowKit
def Qjd (c:Nat):Nat:=if c%2=1 then c/2 ^^^ 2197175160 else c/2
def qcg:Nat->Nat->Nat
 | 0,c=>c
 | n+1,c=>Qjd (qcg n c)
def qf1 (s b:Nat):Nat:=4294967295-qcg 8 ((4294967295-s) ^^^ b)
def qeg (l:List Int):Nat->Nat
 | 0=>0
 | i+1=>qf1 (qeg l i) (l.getD i 0).toNat
theorem Qv6 {c:Nat}(h:c<4294967296):Qjd c<4294967296:=by
 unfold Qjd
 split
 ·have h1:c/2<2 ^ 32:=oM
  have h2:2197175160<2 ^ 32:=oM
  exact Nat.xor_lt_two_pow h1 h2
 ·omega
theorem Qir (n:Nat) {c:Nat}(h:c<4294967296):qcg n c<4294967296:=by
 induction n with
 | zero=>exact h
 | succ n ih=>exact Qv6 ih
theorem Qt1 (s b:Nat):qf1 s b<4294967296:=by unfold qf1;omega
theorem Qh8 (l:List Int) (i:Nat):qeg l i<4294967296:=by
 cases i with
 | zero=>exact(by omega:(0:Nat)<4294967296)
 | succ i=>exact Qt1 _ _
theorem Qrm (m n c:Nat):qcg m (qcg n c)=qcg (m+n) c:=by
 induction m with
 | zero=>simp[qcg]
 | succ m ih =>
   rw[show m+1+n=(m+n)+1 by omega]
   show Qjd _=Qjd _
   rw[ih]
theorem Qsh (c:Nat) (l:c<4294967296) (w:World) :
 Calls Tryz.prog 227 #[.int .u32 c] w fun e o=>e = .returned (.int .u32 (qcg 4 c:Int))/\w=o:=by
 have p:=Z2 l
 clear l
 go_enter Tryz.func227,Tryz.ntmps227
 go_wp2_with fail
 go_loopw [0,3] (fun m v wr=>∃i:Nat,i<=4/\v = .int .i64 i/\m = .int .u32 (qcg i c:Int)/\wr=w) (fun _ v _=>4-(intOf v).toNat)
 case atStart=>exact⟨0,oM,rfl,rfl,rfl⟩
 case round =>
  obtain⟨i,hi,rfl,rfl,rfl⟩:=hrel
  by_cases hlt:i<4
  ·have hl:=Qir i p
   have h:qcg (i+1) c=Qjd (qcg i c):=rfl
   generalize qcg i c=q at *
   generalize a:qcg (i+1) c=j at *
   by_cases d:q%2=1
   ·have g:j=q/2 ^^^ 2197175160:=by rw[h,Qjd,if_pos d]
    have r:bits BinOp.and IntKind.u32 (q:Int) 1=1:=by
     have:=u32_and_nat q 1 hl oM
     rw[nat_mask1,d] at this;exact this
    have s:bits BinOp.and IntKind.u32 2197175160 4294967295=2197175160:=kR
    have x:bits BinOp.xor IntKind.u32 ((q:Int)/2) 2197175160=(j:Int):=by
     have:=u32_xor_nat (q/2) 2197175160 oM oM
     rw[g,show ((q:Int)/2)=((q/2:Nat):Int) by omega];exact this
    have b:=Z2 a
    clear a g h d
    go_wp2_with fail
    go_round
    case rel=>exact⟨i+1,oM,sM,by rw[b.out],trivial⟩
    case measure=>simp[intOf];omega
   ·have g:j=q/2:=by rw[h,Qjd,if_neg d]
    have n:q%2=0:=oM
    have r:bits BinOp.and IntKind.u32 (q:Int) 1=0:=by
     have:=u32_and_nat q 1 hl oM
     rw[nat_mask1,n] at this;exact this
    have s:bits BinOp.and IntKind.u32 2197175160 0=0:=kR
    have x:bits BinOp.xor IntKind.u32 ((q:Int)/2) 0=(j:Int):=by
     have:=u32_xor_nat (q/2) 0 oM oM
     rw[g,show ((q:Int)/2)=((q/2:Nat):Int) by omega];rw[Nat.xor_zero] at this;exact this
    have b:=Z2 a
    clear a g h d n
    go_wp2_with fail
    go_round
    case rel=>exact⟨i+1,oM,sM,by rw[b.out],trivial⟩
    case measure=>simp[intOf];omega
  ·have k:i=4:=oM
   subst k
   go_wp2_with fail
   go_returns
   exact⟨rfl,rfl⟩
theorem Qvh (s:Nat) (h:s<4294967296):4294967295 ^^^ s=4294967295-s:=by
 have h1:(BitVec.allOnes 32 ^^^ BitVec.ofNat 32 s).toNat=4294967295 ^^^ s:=by
  rw[BitVec.toNat_xor,BitVec.toNat_ofNat,BitVec.toNat_allOnes]
  congr 1
  omega
 have h2:BitVec.allOnes 32 ^^^ BitVec.ofNat 32 s = ~~~ (BitVec.ofNat 32 s):=BitVec.allOnes_xor
 rw[<-h1,h2,BitVec.toNat_not,BitVec.toNat_ofNat]
 omega
theorem Qum (s:Nat) (h:s<4294967296):bits BinOp.xor IntKind.u32 IntKind.u32.max (s:Int)=((4294967295-s:Nat):Int):=by
 have:=u32_xor_nat 4294967295 s oM h
 rw[Qvh s h] at this
 exact this
theorem Qrl (s b:Nat) (d:s<4294967296) (hb:b<256) (w:World) :
 Calls Tryz.prog 187 #[.int .u32 s,.int .u8 b] w fun e g=>e = .returned (.int .u32 (qf1 s b:Int))/\w=g:=by
 have c:(4294967295-s) ^^^ b<4294967296:=by
  have h1:4294967295-s<2 ^ 32:=oM
  have h2:b<2 ^ 32:=oM
  exact Nat.xor_lt_two_pow h1 h2
 have b1:bits BinOp.xor IntKind.u32 (bits BinOp.xor IntKind.u32 IntKind.u32.max (s:Int)) (b:Int)=(((4294967295-s) ^^^ b:Nat):Int):=by
  rw[Qum s d]
  exact u32_xor_nat (4294967295-s) b oM oM
 have a:=Qir 8 c
 have b2:bits BinOp.xor IntKind.u32 IntKind.u32.max (qcg 8 ((4294967295-s) ^^^ b):Int)=(qf1 s b:Int):=Qum _ a
 have h1:=Qsh _ c w
 have h2:=Qsh _ (Qir 4 c) w
 rw[Qrm] at h2
 generalize qf1 s b=r at *
 generalize h:(4294967295-s) ^^^ b=q at *
 generalize qcg 4 q=q4 at *
 generalize qcg (4+4) q=q8 at *
 have hsg:IntKind.u32.signed=false:=rfl
 obtain⟨H1,i⟩:=qaj h1 h2
 clear h1 h2 h a
 go_enter Tryz.func187,Tryz.ntmps187
 go_wp2_with fail
 refine zC H1 ?_
 go_wp2_with fail
 refine zC i ?_
 go_wp2_with fail
 go_ret
 exact⟨rfl,rfl⟩
theorem Qqe {g:Tag} {br:Nat} {v:Value} {l:List Int}(hr:w.cell? ⟨br,0,none⟩=some v) (k:Bytes w τ g v l) (hbig:l.length<=1000000000) :
 Calls Tryz.prog 148 #[.slice (some ⟨br,0,none⟩) 1 1] w fun e E=>e = .returned (.int .u32 (qeg l l.length:Int))/\w=E:=by
 obtain⟨p,c,rfl,h1,h2⟩:=k.any
 have hB:=k.isB
 have B:∀i,i<l.length->∃b o,p=some ⟨b,o,none⟩/\w.cell? ⟨b,o+i,none⟩=some (.int .u8 (l.getD i 0)):=by
  intro i hi
  obtain⟨b,o,c',hv,_,_,_,_,r⟩:=k.pos oM
  cases hv
  exact⟨b,o,rfl,r i hi⟩
 generalize hn:l.length=n at *
 obtain⟨F,G,Hn⟩:=qan B hB hn
 clear B hB hn k h1 h2
 go_enter Tryz.func148,Tryz.ntmps148
 go_wp2_with fail
 go_loopw [3,10] (fun m v wr=>((v = .int .i64 0/\m = .int .u32 0)\/(v = .int .i64 1/\m = .int .u32 (qeg l n:Int)))/\wr=w) (fun _ v _=>1-(intOf v).toNat)
 case atStart=>exact⟨.inl ⟨rfl,rfl⟩,rfl⟩
 case round =>
  obtain⟨⟨rfl,rfl⟩|⟨rfl,rfl⟩,rfl⟩:=hrel
  ·go_wp2_with fail
   go_loopw [3,16] (fun m v I=>∃i:Nat,i<=n/\v = .int .i64 i/\m = .int .u32 (qeg l i:Int)/\I=wr) (fun _ v _=>n-(intOf v).toNat)
   case atStart=>exact⟨0,Z9 _,rfl,rfl,rfl⟩
   case round =>
    obtain⟨i,hi,rfl,rfl,rfl⟩:=hrel
    by_cases x:i<n
    ·obtain⟨b,o,rfl,d⟩:=F i x
     have r:=G.at i
     have s:qeg l (i+1)=qf1 (qeg l i) (l.getD i 0).toNat:=rfl
     have a:=Qh8 l i
     obtain⟨q,C⟩:=Int.eq_ofNat_of_zero_le r.1
     rw[C] at d s r
     have h:=Qrl (qeg l i) q a oM wr
     have j:((q:Nat):Int).toNat=q:=oM
     rw[j] at s
     rw[<-s] at h
     have y:=Z2 h
     clear h s C j a
     go_wp2_with fail
     refine zC y ?_
     go_wp2_with fail
     go_round
     case rel=>exact⟨i+1,oM,sM,rfl,trivial⟩
     case measure=>simp[intOf];omega
    ·have z:i=n:=oM
     subst z
     go_wp2_with fail
     go_round
     case rel=>exact⟨.inr ⟨sM,rfl⟩,trivial⟩
     case measure=>simp[intOf]
  ·go_wp2_with fail
   go_returns
   exact⟨rfl,rfl⟩
theorem Qsc (a b:List Int) (off:Nat):over (u8s a) off (u8s b)=u8s (a.take off++b++a.drop (off+b.length)):=by
 simp[over,u8s,List.map_take,List.map_drop]
def qdg (s ba ck ar:Nat):List Int:=leB s 8++[(ar:Int)]++leB ba 8++leB ck 8++List.replicate 95 0++leB s 8
theorem Qgm (s a ck b:Nat):(qdg s a ck b).length=128:=by simp[qdg,Qaa]
theorem Qvv (s b ck c:Nat) (h:c<256):IsB (qdg s b ck c):=by
 unfold qdg
 refine((((((Qan s 8).append ?_).append (Qan b 8)).append (Qan ck 8)).append ?_).append (Qan s 8))
 ·intro x a
  rw[Y8 a];omega
 ·intro x a
  rw[(List.mem_replicate.1 a).2];omega
theorem Qy0 (l:List Int) (i:Nat) (x:Int):(u8s l).set i (.int .u8 x)=u8s (l.set i x):=by simp[u8s,List.map_set]
theorem Qxq (n k:Nat):(leB n k).take k=leB n k:=by rw[List.take_of_length_le (by rw[Qaa];exact Z0 _)]
def qhu (l:List Int) (off n:Nat):List Int:=l.take off++leB n 8++l.drop (off+8)
theorem Qhh (l:List Int) (off n:Nat) (h:off+8<=l.length):(qhu l off n).length=l.length:=by
 unfold qhu;simp only[Z6,List.length_take,List.length_drop,Qaa];omega
theorem Qhz (l:List Int) (off n:Nat):over (u8s l) off (u8s ((leB n 8).take 8))=u8s (qhu l off n):=by
 rw[Qsc,Qxq,Qaa];rfl
theorem Qn5 (a b c:List Int) (off n:Nat) (d:a.length=off) (e:b.length=8):qhu (a++b++c) off n=a++leB n 8++c:=by
 subst d
 unfold qhu
 rw[Y9 a b c,List.take_left,<-List.drop_drop,List.drop_left,<-e,List.drop_left]
theorem Qvu (s b ck a:Nat):qhu (qhu (qhu ((qhu (List.replicate 128 0) 0 s).set 8 (a:Int)) 9 b) 17 ck) 120 s=qdg s b ck a:=by
 have h1:qhu (List.replicate 128 0) 0 s=leB s 8++List.replicate 120 0:=by simp[qhu]
 have hl:∀n,(leB n 8).length=8:=fun n=>Qaa n 8
 have h2:(leB s 8++List.replicate 120 0).set 8 (a:Int)=(leB s 8++[(a:Int)])++List.replicate 8 0++(List.replicate 8 0++(List.replicate 95 0++List.replicate 8 0)):=by
  rw[List.set_append_right _ _ (by rw[hl];omega),hl,Y9,Y9];rfl
 rw[h1,h2,Qn5 _ _ _ _ _ (by simp[hl]) sM,<-Y9 _ (List.replicate 8 0) (List.replicate 95 0++_),Qn5 _ _ _ _ _ (by simp[hl]) sM,<-Y9,
  show ∀l:List Int,l++List.replicate 8 (0:Int)=l++List.replicate 8 0++[] from fun l=>sM,Qn5 _ _ _ _ _ (by simp[hl]) sM,List.append_nil]
 rfl
theorem Qs5 (w:World) (τ:qa1) (g:Tag) (s j ck c:Nat) (hs:s<2 ^ 64) (bi:j<2 ^ 64) (bj:ck<2 ^ 64) (bk:c<256) :
 Calls Tryz.prog 133 #[.agg #[.int .u64 s,.int .u64 j,.int .u64 ck,.int .i64 c]] w fun e w'=>∃u bm,e = .returned u/\Bytes w' bm g u (qdg s j ck c)/\Step w τ w' bm nil:=by
 have bn:=fun W τ=>Qeu W τ qa2 s 8 hs oM oM
 have bo:=fun W τ=>Qeu W τ qa2 j 8 bi oM oM
 have bp:=fun W τ=>Qeu W τ qa2 ck 8 bj oM oM
 have ac:=Qvv s j ck c bk
 have hwr:IntKind.u8.wrap (c:Int)=c:=by
  have:IntKind.u8.wrap (c:Int)=c%256:=by simp[IntKind.wrap,IntKind.bits,IntKind.signed]
  rw[this];omega
 have rn:=Qcz
 have ad:=Own.new w τ qay 120 [.int .u64 s,.int .u64 j,.int .u64 ck,.int .i64 c]
 have ae:=(zS w τ).alloc (.cells #[.int .u64 s,.int .u64 j,.int .u64 ck,.int .i64 c] 120) qay
 have d:=ad.qbn (.cells (madeCells #[.int .u8 0] 128) 5) qcs
 have k:=ae.alloc (.cells (madeCells #[.int .u8 0] 128) 5) qcs
 have a1:=Own.born (w.alloc (.cells #[.int .u64 s,.int .u64 j,.int .u64 ck,.int .i64 c] 120)) (τ.put w.heap.size qay) qcs 5 (madeCells #[.int .u8 0] 128)
 rw[Qhm] at a1
 simp only[World.size_alloc] at d k a1
 generalize (τ.put w.heap.size qay).put (w.heap.size+1) qcs=cx at *
 obtain⟨bq,cy,cz,br,af,bs,l⟩:=qdr bn bo bp ac k a1 d
 clear bn bo bp ac k a1 d hs bi bj bk ad ae
 go_enter Tryz.func133,Tryz.ntmps133
 have b:¬(fun t=>t=qcs) qay:=by simp[qcs,qay]
 have bv:∀n,8=Nat.min (leB n 8).length 128:=fun n=>by rw[Qaa];rfl
 have p:∀n,8=Nat.min (leB n 8).length 119:=fun n=>by rw[Qaa];rfl
 have q:∀n,8=Nat.min (leB n 8).length 111:=fun n=>by rw[Qaa];rfl
 have ag:∀n,8=Nat.min (leB n 8).length 8:=fun n=>by rw[Qaa];rfl
 obtain⟨d0,b4,b5,bw⟩:=qb9 bv p q ag
 clear bv p q ag
 go_wp2_with fail
 refine(bq _ cx).mono ?_
 rintro e w3 ⟨u3,bz,rfl,b6,a2,a3⟩
 have ah:=af.trans (Step.of nil a3 a2)
 have ai:=bs.step (Step.of nil a3 a2) id
 have aj:=l.step (Step.of nil a3 a2) id
 obtain⟨L3,b7⟩:∃L,L=qhu (List.replicate 128 0) 0 s:=⟨_,rfl⟩
 have ak:L3.length=128:=by rw[b7,Qhh _ _ _ (by rw[Z7];omega),Z7]
 have r:0+8<=(u8s (List.replicate 128 0)).length:=by rw[Qac,Z7];omega
 obtain⟨p3,k3,rfl,-,-⟩:=b6.any
 have d2:=Qaa s 8
 obtain⟨al,am,an,c3,ao,x,c4⟩:=qdr ah ai aj b7 ak r b6
 clear ah ai aj b7 ak r b6 a2 a3 af bs l
 have a:w.heap.size<=w.heap.size+1:=oM
 go_wp2_with (refine Ql4 al am (.inr a) c4 8 (d0 s) x rfl _ _ rfl rfl rfl ?_
              intro w4 y c5 c6
              rw[Qhz,<-c3.out] at y
              have z:=an.step c6 b
              have d3:=z.at 3 rfl
              have c8:=y.at 8 (Qfw L3 8 (by rw[ao.out];omega))
              have z8:=y.fz 8
              obtain⟨c7,c9,ap⟩:=qan y c5 z
              clear y c5 c6 z)
 have a4:=c7.set 8 (.int .u8 c)
 rw[Qy0] at a4
 have ca:=c9.qa3 (o:=8) a (.int .u8 c)
 have B:=ap.step ((Step.refl w4 bz (fun t=>t=qcs)).set (o:=8) c7.tag rfl (.int .u8 c)) b
 obtain⟨L5,a5⟩:∃L,L=L3.set 8 (c:Int):=⟨_,rfl⟩
 have C:L5.length=128:=by rw[a5,Y1];exact ao
 rw[<-a5] at a4
 generalize w4.setCell ⟨w.heap.size+1,8,none⟩ (.int .u8 c)=w5 at *
 clear d3 c8 z8 al am an c4 c9 ap x d2
 have c51:=B.at 1 rfl
 have E:9+8<=(u8s L5).length:=by rw[Qac,C];omega
 obtain⟨d5,d6,cb,d7,aq,b8⟩:=qcq a4 ca B a5 C E
 clear a4 ca B a5 C E
 go_region_law (first
  | (go_simp
     go_at_call 147
     refine(cy _ bz).mono ?_
     rintro e w6 ⟨u6,d8,rfl,b9,a6,a7⟩
     have cc:=d6.drew.trans (Step.of nil a7 a6)
     have av:=d5.drew.step (Step.of nil a7 a6) id
     have aw:=cb.drew.step (Step.of nil a7 a6) id
     obtain⟨p6,k6,rfl,-,-⟩:=b9.any
     have d9:=Qaa j 8
     obtain⟨da,cd,ce,db⟩:=qb9 cc av aw b9
     clear cc av aw b9
     clear a6 a7)
  | (refine Qbb da cd (.inr a) db 8 (b4 j) b8 rfl _ _ rfl rfl rfl ?_
     intro w7 bb cf cg
     rw[Qhz] at bb
     have F:=ce.step cg b
     have c72:=F.at 2 rfl
     obtain⟨dc,dd,ch⟩:=qan bb cf F
     clear bb cf cg F))
 obtain⟨L8,a8⟩:∃L,L=qhu L5 9 j:=⟨_,rfl⟩
 have G:L8.length=128:=by rw[a8,Qhh _ _ _ (by rw[aq.out];omega)];exact aq
 have bc:=dc.out
 rw[<-a8] at bc
 have I:17+8<=(u8s L8).length:=by rw[Qac,G];omega
 obtain⟨df,dh,ax,be⟩:=qb9 bc a8 G I
 clear bc a8 G I d9
 go_wp2_with fail
 go_region_law (first
  | (go_simp
     go_at_call 147
     refine(cz _ d8).mono ?_
     rintro e w9 ⟨u9,di,rfl,bf,a9,aa⟩
     have ci:=dd.drew.trans (Step.of nil aa a9)
     have ay:=df.drew.step (Step.of nil aa a9) id
     have az:=ch.drew.step (Step.of nil aa a9) id
     obtain⟨p9,k9,rfl,-,-⟩:=bf.any
     have dj:=Qaa ck 8
     obtain⟨dk,cj,cm,dl⟩:=qb9 ci ay az bf
     clear ci ay az bf
     clear a9 aa)
  | (refine Qbb dk cj (.inr a) dl 8 (b5 ck) be rfl _ _ rfl rfl rfl ?_
     intro w10 J b0 b1
     rw[Qhz] at J
     have M:=cm.step b1 b
     have c10x:=M.at 0 rfl
     obtain⟨cn,co⟩:=qaj J b0
     clear J b0 b1 M))
 obtain⟨bg,h⟩:∃L,L=qhu L8 17 ck:=⟨_,rfl⟩
 have O:bg.length=128:=by rw[h,Qhh _ _ _ (by rw[ax.out];omega)];exact ax
 have R:=cn.out
 rw[<-h] at R
 have i:120+8<=(u8s bg).length:=by rw[Qac,O];omega
 obtain⟨cp,cq,ab⟩:=qan R h i
 clear R h O i dj
 go_wp2_with fail
 go_region_law (first
  | (go_simp
     go_at_call 147
     refine(bq _ di).mono ?_
     rintro e w12 ⟨u12,τ12,rfl,U,X,Y⟩
     have b2:=co.drew.trans (Step.of nil Y X)
     have Z:=cp.drew.step (Step.of nil Y X) id
     obtain⟨p12,k12,rfl,-,-⟩:=U.any
     have hl12:=Qaa s 8
     obtain⟨cr,bh,cs⟩:=qan b2 Z U
     clear b2 Z U
     clear X Y)
  | (refine Qbb cr bh (.inr a) cs 8 (bw s) ab rfl _ _ rfl rfl rfl ?_
     intro w13 a0 b3 ct
     rw[Qhz] at a0
     obtain⟨cv,cw⟩:=qaj a0 b3
     clear a0 b3 ct))
 go_wp2_with fail
 go_ret
 have dm:qhu bg 120 s=qdg s j ck c:=by rw[cq.out,dh.out,d7.out,c3.out];exact Qvu s j ck c
 have ho:=cv.out
 rw[dm] at ho
 have hb:=(ho.retag g).bytes br (by rw[Qgm];unfold maxLen;omega)
 rw[Qgm] at hb
 exact⟨_,_,rfl,hb,cw.retag a g⟩
def qh8 (l:List Int):List UInt8:=l.map (fun x=>UInt8.ofNat x.toNat)
theorem Qw0 {l m:List Int}(hl:IsB l) (b:IsB m) (h:qh8 l=qh8 m):l=m:=by
 induction l generalizing m with
 | nil=>cases m with
   | nil=>rfl
   | cons y r=>simp[qh8] at h
 | cons x l ih=>cases m with
   | nil=>simp[qh8] at h
   | cons y r =>
     simp only[qh8,X0,List.cons.injEq] at h
     have hx:=hl x sM
     have hy:=b y sM
     have h1:x=y:=by
      have:=congrArg UInt8.toNat h.1
      simp only[UInt8.toNat_ofNat'] at this
      omega
     rw[h1,ih (fun z a=>hl z (by simp[a])) (fun z a=>b z (by simp[a])) h.2]
theorem Qqc {l m:List Int}(hl:IsB l) (a:IsB m):(qh8 l==qh8 m)=decide (l=m):=by
 by_cases h:l=m
 ·subst h;simp
 ·have:qh8 l≠qh8 m:=fun e=>h (Qw0 hl a e)
  simp[h,this]
theorem Bytes.conv {g:Tag} {v:Value} {l:List Int}(h:Bytes w τ g v l):(convert 58 9 v).run Tryz.prog w = .ok (.string ⟨(qh8 l).toArray⟩) w:=by
 have hB:=h.isB
 obtain⟨p,c,rfl,h1,h2,q⟩:=h.is
 by_cases h0:0<l.length
 ·obtain⟨b,o,rfl,_,d⟩:=q h0
  have hl:(qh8 l).length=l.length:=by simp[qh8]
  have:=run_convert_bytes_back (P:=Tryz.prog) w 58 9 5 ⟨b,o,none⟩ c (qh8 l) Tryz.underlying58 Tryz.underlying5 Tryz.underlying9 (fun j k=>by
   have i:j<l.length:=by rw[hl] at k;exact k
   have:=d j i
   have e:(⟨b,o,none⟩:Addr).add j=⟨b,o+j,none⟩:=by unfold Addr.add;split <;> simp_all
   rw[e,this]
   congr 2
   have n:=hB.at j
   simp only[qh8,List.getElem_map,UInt8.toNat_ofNat']
   rw[Z5,Z3 i] at n ⊢
   simp only[Option.getD_some] at n ⊢
   omega)
  rw[hl] at this
  exact this
 ·have hn:l=[]:=List.eq_nil_of_length_eq_zero oM
  subst hn
  cases p with
  | none=>exact Lib.run_convert_nil_bytes (P:=Tryz.prog) w 58 9 5 c Tryz.underlying58 Tryz.underlying5 Tryz.underlying9
  | some a=>exact run_convert_bytes_back (P:=Tryz.prog) w 58 9 5 a c [] Tryz.underlying58 Tryz.underlying5 Tryz.underlying9 (fun j k=>by simp at k)
theorem Qh7 {g c:Tag} {v u:Value} {l m:List Int}(h:Bytes w τ g v l) (k:Bytes w τ c u m) :
 Calls Tryz.prog 124 #[v,u] w fun e d=>e = .returned (.bool (decide (l=m)))/\w=d:=by
 have c1:=h.conv
 have c2:=k.conv
 have he:=Qqc h.isB k.isB
 generalize decide (l=m)=r at *
 clear h k
 generalize qh8 l=a at *
 generalize qh8 m=b at *
 go_enter Tryz.func124,Tryz.ntmps124
 go_wp2_with fail
 go_ret
 exact⟨rfl,rfl⟩
def Dev.write (D:Dev) (f k:Nat) (l:List Int):Dev :=
 if D.go.1=true then (match (D.file f)[k]? with|some s=>D.go.2.put f ((D.file f).set k (s.add l))|none=>D) else D.go.2
def Dev.sync (D:Dev) (f:Nat):Dev:=if D.go.1=true then D.go.2.put f ((D.file f).map Sec.sync) else D.go.2
def Dev.lim (D:Dev) (b:Nat):Prop:=∀(f k:Nat) (s:Sec),(D.file f)[k]?=some s->s.waits.length<=b
theorem Dev.qdv (D:Dev) (f:Nat) (hf:f<2) (l:List Sec) (g:Nat):(D.put f l).file g=if g=f then l else D.file g:=by
 unfold Dev.put Dev.file
 rcases (by omega:f=0\/f=1) with rfl|rfl
 ·by_cases h:g=0
  ·subst h;simp
  ·simp[h]
 ·by_cases h:g=1
  ·subst h;simp
  ·by_cases h0:g=0
   ·subst h0;simp
   ·simp[h,h0]
theorem Dev.qfi (D:Dev) (f k:Nat) (a:f<2) (l:List Int) (g:Nat):((D.write f k l).file g).length=(D.file g).length:=by
 unfold Dev.write
 split
 ·cases h:(D.file f)[k]? with
  | none=>rfl
  | some s =>
    simp only
    rw[Dev.qdv _ _ a]
    split
    ·rename_i e;rw[e,Y1]
    ·rw[Dev.qd6]
 ·rw[Dev.qd6]
theorem Dev.qfy (D:Dev) (f:Nat) (a:f<2) (g:Nat):((D.sync f).file g).length=(D.file g).length:=by
 unfold Dev.sync
 split
 ·rw[Dev.qdv _ _ a]
  split
  ·rename_i e;rw[e,Y0]
  ·rw[Dev.qd6]
 ·rw[Dev.qd6]
theorem Dev.qbb {a b:Nat}(h:D.lim a) (c:a<=b):D.lim b:=fun f k s d=>Y3 (h f k s d) c
theorem Dev.qjl {b:Nat}(h:D.lim b):D.go.2.lim b:=fun f k s a=>h f k s (by rw[Dev.qd6] at a;exact a)
theorem Dev.qhb {b:Nat}(h:D.lim b) (f k:Nat) (d:f<2) (l:List Int):(D.write f k l).lim (b+1):=by
 unfold Dev.write
 split
 ·cases c:(D.file f)[k]? with
  | none=>exact Dev.qbb h oM
  | some s =>
    intro g j t a
    simp only at a
    rw[Dev.qdv _ _ d] at a
    split at a
    ·by_cases e:j=k
     ·subst e
      rw[List.getElem?_set_self (Z4 c).1] at a
      cases a
      have:=h f j s c
      simp only[Sec.add,Z6,Y4,List.length_nil];omega
     ·rw[List.getElem?_set_ne (fun q=>e q.symm)] at a
      have:=h f j t a;omega
    ·rw[Dev.qd6] at a
     have:=h g j t a;omega
 ·exact Dev.qbb (Dev.qjl h) oM
theorem Dev.qic {b:Nat}(h:D.lim b) (f:Nat) (c:f<2):(D.sync f).lim b:=by
 unfold Dev.sync
 split
 ·intro g j t a
  rw[Dev.qdv _ _ c] at a
  split at a
  ·rw[List.getElem?_map] at a
   obtain⟨s,hs,rfl⟩:=Option.map_eq_some_iff.1 a
   simp[Sec.sync]
  ·rw[Dev.qd6] at a
   exact h g j t a
 ·exact Dev.qjl h
def DevR (w:World) (τ:qa1) (b:Nat) (D:Dev) (r:Value) (e:Ending) (w':World):Prop:=e = .returned r/\∃τ',qax w' τ' b D/\Step w τ w' τ' qah
theorem Qey {b:Nat}(h:qax w τ b D) (f:Nat) (y:f<2) (k:Nat) (z:k<(D.file f).length) {v:Value}{l:List Int}{g:Tag}(i:Bytes w τ g v l) (hl:l.length=128) (B:¬qah g) (d:D.lim 900000) :
 Calls Tryz.prog 51 #[.pointer (some ⟨b,0,none⟩),.int .u8 f,.int .i64 k,v] w (DevR w τ b (D.write f k l) (.int .u16 0)):=by
 obtain⟨s,n⟩:∃s,(D.file f)[k]?=some s:=⟨_,Z3 z⟩
 obtain⟨p,c,rfl,-,-⟩:=i.any
 rw[hl] at i ⊢
 cases a:D.go.1 with
 | true =>
   have:=Qug h f y k s n hl i ⟨fun e=>B (by rw[e];exact qah.dev),fun e=>B (by rw[e];exact qah.left)⟩ (by have:=d f k s n;omega) a
   refine this.mono ?_
   rintro e C ⟨o,q,hd,E,r⟩
   refine⟨o,q,?_,Step.mk' r E (fun j _ x=>?_)⟩
   ·unfold Dev.write;rw[if_pos a,n];exact hd
   ·rcases x with h|h|h
    ·rw[h];exact qah.dev
    ·rw[h];exact qah.left
    ·exact qah.file h
 | false =>
   have:=Qsr h f y k z p c a
   refine this.mono ?_
   rintro e C ⟨o,hd,r,hz⟩
   refine⟨o,τ,?_,Step.mk' r (Ext.refl _ _) (fun j _ x=>?_)⟩
   ·unfold Dev.write;rw[if_neg (by rw[a];simp)];exact hd
   ·rcases x with h|h
    ·rw[h];exact qah.dev
    ·rw[h];exact qah.left
theorem Qhr {b:Nat}(h:qax w τ b D) (f:Nat) (i:f<2) :
 Calls Tryz.prog 53 #[.pointer (some ⟨b,0,none⟩),.int .u8 f] w (DevR w τ b (D.sync f) (.tuple #[])):=by
 cases a:D.go.1 with
 | true =>
   refine(Qw2 h f i a).mono ?_
   rintro e k ⟨c,hd,d,l⟩
   refine⟨c,τ,?_,Step.mk' d (Ext.refl _ _) (fun j _ g=>?_)⟩
   ·unfold Dev.sync;rw[if_pos a];exact hd
   ·rcases g with h|h|h
    ·rw[h];exact qah.dev
    ·rw[h];exact qah.left
    ·rw[h];exact qah.file (f:=f) (.inl rfl)
 | false =>
   refine(Qut h f i a).mono ?_
   rintro e k ⟨c,hd,d,l⟩
   refine⟨c,τ,?_,Step.mk' d (Ext.refl _ _) (fun j _ g=>?_)⟩
   ·unfold Dev.sync;rw[if_neg (by rw[a];simp)];exact hd
   ·rcases g with h|h
    ·rw[h];exact qah.dev
    ·rw[h];exact qah.left
def Dev.last (D:Dev) (f k:Nat):List Int:=((D.file f)[k]?.map Sec.newest).getD []
theorem qax.length {b:Nat}(h:qax w τ b D) (f:Nat):(D.file f).length<=4096:=by
 obtain⟨v0,v1,a⟩:=h.as
 obtain⟨p,cap,_,_,h2,_⟩:=a.file f
 exact h2
theorem qax.qg5 {b:Nat}(h:qax w τ b D) (f k:Nat) (c:k<(D.file f).length):(D.last f k).length=128/\IsB (D.last f k):=by
 obtain⟨v0,v1,d⟩:=h.as
 obtain⟨p,cap,_,_,_,e⟩:=d.file f
 obtain⟨bf,xs,_,g,i⟩:=e oM
 have a:(D.file f)[k]?=some (D.file f)[k]:=Z3 c
 obtain⟨v,_,j,hl⟩:=Qin g (i k _ a)
 unfold Dev.last
 rw[a]
 exact⟨hl,j.isB⟩
theorem Qnm {b:Nat}(h:qax w τ b D) (f:Nat) (j:f<256) (k:Nat) (l:k<(D.file f).length) (g:Tag) :
 Calls Tryz.prog 68 #[.pointer (some ⟨b,0,none⟩),.int .u8 f,.int .i64 k] w fun e d=>∃u a,e = .returned (.tuple #[u,.int .u16 0])/\Bytes d a g u (D.last f k)/\Step w τ d a nil:=by
 have i:(D.file f)[k]?=some (D.file f)[k]:=Z3 l
 refine(Qw9 h f j k _ i g).mono ?_
 rintro e d ⟨u,a,n,o,c,p⟩
 refine⟨u,a,n,?_,Step.of _ p c⟩
 unfold Dev.last
 rw[i];exact o
structure qac where
 stamp:Nat
 base:Nat
 check:Nat
 qc0:Nat
 strips:Nat
 slot:Nat
 stream:List Int
 starts:List Nat
 lasts:Nat
def qb1:Tag:=(10,0)
def qa5:Tag:=(11,0)
def qa6:Tag:=(12,0)
def qai (g:Tag):Prop:=g=qb1\/g=qa5\/g=qa6
def qhm (l:List Nat):List Value:=l.map (fun (n:Nat)=>Value.int .i64 n)
def Qa8 (L:qac) (bd:Nat) (vs vt:Value):List Value :=
 [.int .u64 L.stamp,.int .u64 L.base,.int .u64 L.check,.int .i64 L.qc0,.pointer (some ⟨bd,0,none⟩),.int .i64 L.strips,.int .i64 L.slot,vs,vt,.int .i64 L.lasts]
structure qac.ok (L:qac):Prop where
 stamp:L.stamp<2 ^ 64
 base:L.base<=13835058055282163712
 check:L.check<2 ^ 64
 qc0:L.qc0<2
 strips:L.strips<=2047
 slot:L.slot<2
 stream:L.stream.length<=1000000
 starts:L.starts.length<=1000000
 lasts:L.lasts<=L.stream.length
structure qaw (w:World) (τ:qa1) (bl bd:Nat) (L:qac):Prop where
 is:∃vs vt,Own w τ bl qb1 123 (Qa8 L bd vs vt)/\Buf w τ qa5 5 1 vs L.stream.length (u8s L.stream)/\Buf w τ qa6 3 1 vt L.starts.length (qhm L.starts)
 isB:IsB L.stream
 ok:L.ok
theorem qaw.step {c:World} {a:qa1} {S:Tag->Prop} {L:qac}(h:qaw w τ bl bd L) (m:Step w τ c a S) (b:∀g,qai g->¬S g):qaw c a bl bd L:=by
 obtain⟨d,e,h1,h2,i⟩:=h.is
 exact⟨⟨d,e,h1.step m (b _ (.inl rfl)),h2.step m (b _ (.inr (.inl rfl))),i.step m (b _ (.inr (.inr rfl)))⟩,h.isB,h.ok⟩
theorem Qau (g:Tag) (h:qai g):¬qah g:=by
 rcases h with rfl|rfl|rfl <;> simp[qah,qb1,qa5,qa6]
def qby (n:Nat):qac:=⟨0,0,0,0,(n-2)/2,0,[],[],0⟩
theorem Jar(h:qax w τ bd D) (h18:18<=D.f0.length) :
 Calls Tryz.prog 66 #[.pointer (some ⟨bd,0,none⟩)] w fun e p=>∃bl i,e = .returned (.tuple #[.pointer (some ⟨bl,0,none⟩),.int .u16 0])/\w.heap.size<=bl/\qaw p i bl bd (qby D.f0.length)/\Step w τ p i nil:=by
 have g:=Qjs h 0 oM
 have j:=h.length 0
 have q:D.file 0=D.f0:=rfl
 rw[q] at g j
 have d:=Own.new w τ qb1 123 (Qa8 (qby D.f0.length) bd (.slice none 0 0) (.slice none 0 0))
 have b:=(zS w τ).alloc (.cells ⟨Qa8 (qby D.f0.length) bd (.slice none 0 0) (.slice none 0 0)⟩ 123) qb1
 have a:qaw (w.alloc (.cells ⟨Qa8 (qby D.f0.length) bd (.slice none 0 0) (.slice none 0 0)⟩ 123)) (τ.put w.heap.size qb1) w.heap.size bd (qby D.f0.length) :=
  ⟨⟨_,_,d,Buf.nil _ _ _ _ _,Buf.nil _ _ _ _ _⟩,fun x r=>by simp[qby] at r,by constructor <;> simp only[qby] <;> first|omega|simp⟩
 have c:((qby D.f0.length).strips:Int)=((D.f0.length:Int)-2)/2:=by simp only[qby];omega
 unfold Qa8 at a b
 rw[c] at a b
 generalize D.f0.length=n at *
 simp only[qby] at a b
 obtain⟨l,o,k⟩:=qan g b a
 clear g b a d h c
 have a1:decide (((n:Int)-2)/2<8)=false:=by simp;omega
 go_enter Tryz.func66,Tryz.ntmps66
 go_wp2_with fail
 refine zC l ?_
 go_wp2_with fail
 go_ret2
 exact⟨_,_,rfl,Z0 _,k,o⟩
theorem Qwb {L:qac}(h:qaw w τ bl bd L) :
 Calls Tryz.prog 113 #[.pointer (some ⟨bl,0,none⟩)] w fun e b=>e = .returned (.int .u64 L.check)/\w=b:=by
 obtain⟨vs,vt,a,_,_⟩:=h.is
 have c1:=a.at 2 rfl
 clear h a
 go_enter Tryz.func113,Tryz.ntmps113
 go_wp2_with fail
 go_ret
 exact⟨rfl,rfl⟩
theorem Qv5 {L:qac}(h:qaw w τ bl bd L) :
 Calls Tryz.prog 80 #[.pointer (some ⟨bl,0,none⟩)] w fun e b=>e = .returned (.pointer (some ⟨bd,0,none⟩))/\w=b:=by
 obtain⟨vs,vt,a,_,_⟩:=h.is
 have c1:=a.at 4 rfl
 clear h a
 go_enter Tryz.func80,Tryz.ntmps80
 go_wp2_with fail
 go_ret
 exact⟨rfl,rfl⟩
theorem Qnj {L:qac}(h:qaw w τ bl bd L) :
 Calls Tryz.prog 140 #[.pointer (some ⟨bl,0,none⟩)] w fun e b=>e = .returned (.int .i64 (L.strips*127:Nat))/\w=b:=by
 obtain⟨vs,vt,a,_,_⟩:=h.is
 have c1:=a.at 5 rfl
 have hb:=h.ok.strips
 clear h a
 go_enter Tryz.func140,Tryz.ntmps140
 go_wp2_with fail
 go_ret
 exact⟨sM,rfl⟩
theorem Qer {a b:Nat}(h:a+b<18446744073709551616):IntKind.u64.wrap ((a:Int)+b)=((a+b:Nat):Int):=by
 have:=Qam (a+b) h
 rw[<-this];congr 1
theorem Ql3 {L:qac}(h:qaw w τ bl bd L) :
 Calls Tryz.prog 99 #[.pointer (some ⟨bl,0,none⟩)] w fun e i=>e = .returned (.int .u64 ((L.base+L.stream.length:Nat):Int))/\Step w τ i τ nil:=by
 obtain⟨vs,vt,d,g,_⟩:=h.is
 obtain⟨p,c,rfl⟩:=g.len
 have c1:=d.at 1 rfl
 have c7:=d.at 7 rfl
 have j:=h.ok.base
 have hl:=h.ok.stream
 have hw:=Qam L.stream.length oM
 have hw2:=Qer (a:=L.base) (b:=L.stream.length) oM
 generalize L.stream.length=n at *
 generalize L.base=bs at *
 clear h d g j hl
 go_enter Tryz.func99,Tryz.ntmps99
 go_wp2_with fail
 go_quiet (fail)
 go_wp2_with fail
 go_ret
 exact⟨rfl,(zS w τ).qcp nq⟩
def Qff:List Int:=List.replicate 128 0
def Qck (want:List (List Int)) (i:Nat):List Int:=if i<want.length then want.getD i [] else Qff
def Qa7 (D:Dev) (from_:Nat) (want:List (List Int)):Nat->Dev×Bool
 | 0=>(D,false)
 | i+1=>if (Qa7 D from_ want i).1.last 0 (from_+i)=Qck want i then Qa7 D from_ want i else ((Qa7 D from_ want i).1.write 0 (from_+i) (Qck want i),true)
def Dev.make (D:Dev) (from_ n:Nat) (want:List (List Int)):Dev:=if (Qa7 D from_ want n).2=true then (Qa7 D from_ want n).1.sync 0 else (Qa7 D from_ want n).1
theorem Qdo (D:Dev) (from_:Nat) (want:List (List Int)) (i f:Nat):((Qa7 D from_ want i).1.file f).length=(D.file f).length:=by
 induction i with
 | zero=>rfl
 | succ i ih =>
   unfold Qa7
   split
   ·exact ih
   ·rw[Dev.qfi _ _ _ oM];exact ih
theorem Qgw {b:Nat}(h:D.lim b) (from_:Nat) (want:List (List Int)) (i:Nat):(Qa7 D from_ want i).1.lim (b+i):=by
 induction i with
 | zero=>exact h
 | succ i ih =>
   unfold Qa7
   split
   ·exact Dev.qbb ih oM
   ·exact Dev.qbb (Dev.qhb ih 0 _ oM _) oM
theorem Dev.qg4 (D:Dev) (from_ n:Nat) (want:List (List Int)) (f:Nat):((D.make from_ n want).file f).length=(D.file f).length:=by
 unfold Dev.make
 split
 ·rw[Dev.qfy _ _ oM,Qdo]
 ·rw[Qdo]
theorem Dev.qib {b:Nat}(h:D.lim b) (from_ n:Nat) (want:List (List Int)):(D.make from_ n want).lim (b+n):=by
 unfold Dev.make
 split
 ·exact Dev.qic (Qgw h _ _ _) 0 oM
 ·exact Qgw h _ _ _
theorem Qay:¬qah qa2:=by simp[qah,qa2]
theorem Qxm {L:qac}(hl:qaw w τ bl bd L) (hd:qax w τ bd D) {g:Tag}{v:Value}{want:List (List Int)}(hw:qcv w τ g v want) (hg:¬qah g) (from_ n:Nat) (hfit:from_+n<=D.f0.length) (ar:D.lim 800000) :
 Calls Tryz.prog 71 #[.pointer (some ⟨bl,0,none⟩),.int .i64 from_,.int .i64 n,v] w (DevR w τ bd (D.make from_ n want) (.tuple #[])):=by
 have rn:=Qcz
 have b1:=hd.length 0
 have b2:D.file 0=D.f0:=rfl
 rw[b2] at b1
 obtain⟨pw,cw,rfl,hwm,-⟩:=hw.read
 have hz:=Bytes.noughts w τ qa2 128 (by unfold maxLen;omega)
 have av:=(Step.refl w τ qah).alloc (.cells (madeCells #[.int .u8 0] 128) 5) qa2
 have b3:=hd.step ((zS w τ).alloc (.cells (madeCells #[.int .u8 0] 128) 5) qa2) (fun _ h=>h.elim)
 generalize b4:want.length=nw at *
 obtain⟨Hl,Hw,b5,bg,Hz,b6,aw⟩:=qdr hl hw av b3 hz ar b4
 clear hl hw av b3 hz ar b4 hd
 go_enter Tryz.func71,Tryz.ntmps71
 go_wp2_with fail
 generalize w.alloc (.cells (madeCells #[.int .u8 0] 128) 5)=W0 at *
 generalize bh:w.heap.size=zb at *
 clear bh
 go_loopw [8,16] (fun c v wr=>∃(i:Nat) (ab:qa1),i<=n/\v = .int .i64 i/\c = .bool (Qa7 D from_ want i).2/\qax wr ab bd (Qa7 D from_ want i).1/\Bytes wr ab qa2 (.slice (some ⟨zb,0,none⟩) 128 128) Qff/\Step w τ wr ab qah) (fun _ v _=>n-(intOf v).toNat)
 case atStart=>exact⟨0,_,Z9 _,rfl,rfl,bg,Hz,b5⟩
 case round =>
  obtain⟨i,ab,hi,rfl,rfl,hd,hz,z⟩:=hrel
  have Y:=Hl.step z Qau
  obtain⟨vs,vt,ho,-,-⟩:=Y.is
  have c4:=ho.at 4 rfl
  have Z:=Qdo D from_ want i 0
  have p:=Qgw b6 from_ want i
  have a:Qa7 D from_ want (i+1)=if (Qa7 D from_ want i).1.last 0 (from_+i)=Qck want i then Qa7 D from_ want i else ((Qa7 D from_ want i).1.write 0 (from_+i) (Qck want i),true):=rfl
  rw[b2] at Z
  generalize hE:(Qa7 D from_ want i).1=E at *
  generalize hC:(Qa7 D from_ want i).2=C at *
  by_cases hlt:i<n
  ·
   obtain⟨vb,gb,R,a3,b7⟩:∃vb gb,Bytes wr ab gb vb (Qck want i)/\¬qah gb/\((i<nw/\∃b,pw=some ⟨b,0,none⟩/\wr.cell? ⟨b,i,none⟩=some vb)\/(¬i<nw/\vb = .slice (some ⟨zb,0,none⟩) 128 128)):=by
    by_cases U:i<nw
    ·obtain⟨p',c',bk,_,hr⟩:=(Hw.step z hg Qay).read
     cases bk
     obtain⟨x,hx⟩:∃x,want[i]?=some x:=⟨_,Z3 (by rw[aw.out];exact U)⟩
     obtain⟨_,b,u,bn,hc,hb⟩:=hr i x hx
     refine⟨u,qa2,?_,Qay,.inl ⟨U,b,bn,hc⟩⟩
     unfold Qck
     rw[if_pos (by rw[aw.out];exact U),Z5,hx];exact hb
    ·refine⟨_,qa2,?_,Qay,.inr ⟨U,rfl⟩⟩
     unfold Qck
     rw[if_neg (by rw[aw.out];exact U)];exact hz
   have l:(Qck want i).length=128:=by
    unfold Qck
    split
    ·rename_i U
     obtain⟨p',c',_,_,hr⟩:=Hw.read
     have hx:want[i]?=some (want.getD i []):=by rw[Z5,Z3 U];rfl
     exact(hr i _ hx).1
    ·simp[Qff]
   have hq:E.file 0=E.f0:=rfl
   have a0:=Qnm hd 0 oM (from_+i) oM qa2
   have q:=(hd.qg5 0 (from_+i) oM).1
   rw[X1] at a0
   obtain⟨pb,kb,rfl,-,-⟩:=R.any
   rw[l] at R b7
   have a1:(from_:Int)+i<=4096:=oM
   generalize bo:Qck want i=x at *
   generalize aq:E.last 0 (from_+i)=y at *
   clear ho hq bo
   rcases b7 with ⟨U,b,rfl,cb⟩|⟨hnin,b9⟩
   ·by_cases heq:y=x
    ·rw[if_pos heq] at a
     obtain⟨Hd,Hz,B,ae,af,F,j,HE,HC,a2,ag,G⟩:=qds hd hz z Y Z p a hE hC R a3 l
     obtain⟨a7,s,a8⟩:=qan a0 q heq
     clear hd hz z Y Z p a hE hC R a3 l a0 q heq aq
     go_wp2_with fail
     refine a7.mono ?_
     rintro e w1 ⟨u1,τ1,rfl,o,d⟩
     obtain⟨p1,k1,rfl,-,-⟩:=o.any
     rw[s.out] at o ⊢
     have k:=Qh7 o (a2.step d id)
     rw[decide_eq_true a8.out] at k
     have I:=Hd.step d zE
     have J:=Hz.step d id
     have r:=B.trans (d.nz)
     obtain⟨M,ax,a9,O⟩:=qb9 k I J r
     clear k I J r o d
     go_wp2_with fail
     refine zC M ?_
     go_wp2_with fail
     go_round
     case rel=>exact⟨i+1,τ1,oM,sM,by rw[j.out,HC.out],by rw[j.out,HE.out];exact ax,a9,O⟩
     case measure=>simp[intOf];omega
    ·rw[if_neg heq] at a
     obtain⟨Hd,Hz,B,ae,af,F,j,HE,HC,a2,ag,G⟩:=qds hd hz z Y Z p a hE hC R a3 l
     obtain⟨a7,s,a8⟩:=qan a0 q heq
     clear hd hz z Y Z p a hE hC R a3 l a0 q heq aq
     go_wp2_with fail
     refine a7.mono ?_
     rintro e w1 ⟨u1,τ1,rfl,o,d⟩
     obtain⟨p1,k1,rfl,-,-⟩:=o.any
     rw[s.out] at o ⊢
     have k:=Qh7 o (a2.step d id)
     rw[decide_eq_false a8.out] at k
     have a4:=ae.step d zN
     obtain⟨bs,bv,ah,-,-⟩:=a4.is
     have bw:=ah.at 4 rfl
     have I:=Hd.step d zE
     have aa:=Qey I 0 oM (from_+i) (by have:=af.out;have hq:E.file 0=E.f0:=rfl;rw[hq] at this ⊢;omega) (a2.step d id) G ag (Dev.qbb F oM)
     rw[X1] at aa
     have J:=Hz.step d id
     have r:=B.trans (d.nz)
     obtain⟨M,ay,a9,O⟩:=qb9 k aa J r
     clear k aa J r o d a4 ah I
     go_wp2_with fail
     refine zC M ?_
     go_wp2_with fail
     refine ay.mono ?_
     rintro e w2 ⟨rfl,ai,a5,X⟩
     have aj:=a9.step X Qay
     have a6:=O.trans X
     obtain⟨ak,az,al⟩:=qan a5 aj a6
     clear a5 aj a6 X
     go_wp2_with fail
     go_round
     case rel=>exact⟨i+1,ai,oM,sM,by rw[j.out],by rw[j.out];exact ak,az,al⟩
     case measure=>simp[intOf];omega
   ·by_cases heq:y=x
    ·rw[if_pos heq] at a
     cases b9
     obtain⟨Hd,Hz,B,ae,af,F,j,HE,HC,a2,ag,G⟩:=qds hd hz z Y Z p a hE hC R a3 l
     obtain⟨a7,s,a8⟩:=qan a0 q heq
     clear hd hz z Y Z p a hE hC R a3 l a0 q heq aq
     go_wp2_with fail
     refine a7.mono ?_
     rintro e w1 ⟨u1,τ1,rfl,o,d⟩
     obtain⟨p1,k1,rfl,-,-⟩:=o.any
     rw[s.out] at o ⊢
     have k:=Qh7 o (a2.step d id)
     rw[decide_eq_true a8.out] at k
     have I:=Hd.step d zE
     have J:=Hz.step d id
     have r:=B.trans (d.nz)
     obtain⟨M,ax,a9,O⟩:=qb9 k I J r
     clear k I J r o d
     go_wp2_with fail
     refine zC M ?_
     go_wp2_with fail
     go_round
     case rel=>exact⟨i+1,τ1,oM,sM,by rw[j.out,HC.out],by rw[j.out,HE.out];exact ax,a9,O⟩
     case measure=>simp[intOf];omega
    ·rw[if_neg heq] at a
     cases b9
     obtain⟨Hd,Hz,B,ae,af,F,j,HE,HC,a2,ag,G⟩:=qds hd hz z Y Z p a hE hC R a3 l
     obtain⟨a7,s,a8⟩:=qan a0 q heq
     clear hd hz z Y Z p a hE hC R a3 l a0 q heq aq
     go_wp2_with fail
     refine a7.mono ?_
     rintro e w1 ⟨u1,τ1,rfl,o,d⟩
     obtain⟨p1,k1,rfl,-,-⟩:=o.any
     rw[s.out] at o ⊢
     have k:=Qh7 o (a2.step d id)
     rw[decide_eq_false a8.out] at k
     have a4:=ae.step d zN
     obtain⟨bs,bv,ah,-,-⟩:=a4.is
     have bw:=ah.at 4 rfl
     have I:=Hd.step d zE
     have aa:=Qey I 0 oM (from_+i) (by have:=af.out;have hq:E.file 0=E.f0:=rfl;rw[hq] at this ⊢;omega) (a2.step d id) G ag (Dev.qbb F oM)
     rw[X1] at aa
     have J:=Hz.step d id
     have r:=B.trans (d.nz)
     obtain⟨M,ay,a9,O⟩:=qb9 k aa J r
     clear k aa J r o d a4 ah I
     go_wp2_with fail
     refine zC M ?_
     go_wp2_with fail
     refine ay.mono ?_
     rintro e w2 ⟨rfl,ai,a5,X⟩
     have aj:=a9.step X Qay
     have a6:=O.trans X
     obtain⟨ak,az,al⟩:=qan a5 aj a6
     clear a5 aj a6 X
     go_wp2_with fail
     go_round
     case rel=>exact⟨i+1,ai,oM,sM,by rw[j.out],by rw[j.out];exact ak,az,al⟩
     case measure=>simp[intOf];omega
  ·have U:i=n:=oM
   subst U
   have ac:D.make from_ i want=if C=true then E.sync 0 else E:=by unfold Dev.make;rw[hC,hE]
   clear ho a
   cases C with
   | false =>
     rw[if_neg sM] at ac
     obtain⟨Hd,B,b0⟩:=qan hd z ac
     clear hd z ac
     go_wp2_with fail
     go_returns
     exact⟨rfl,ab,by rw[b0.out];exact Hd,B⟩
   | true =>
     rw[if_pos rfl] at ac
     have bc:=Qhr hd 0 oM
     obtain⟨Hd,B,b0,bz⟩:=qb9 hd z ac bc
     clear hd z ac bc
     go_wp2_with fail
     refine bz.mono ?_
     rintro e w2 ⟨rfl,ai,a5,X⟩
     obtain⟨ak,c3⟩:=qaj a5 X
     clear a5 X
     go_wp2_with fail
     go_returns
     exact⟨rfl,ai,by rw[b0.out];exact ak,B.trans c3⟩
def qac.said (L:qac):qac:={L with stamp:=(L.stamp+1)%18446744073709551616,slot:=1-L.slot}
def qac.head (L:qac):List Int:=qdg L.stamp L.base L.check L.qc0
def Qf9 (L:qac) (D:Dev):Dev:=(D.write 0 L.said.slot L.said.head).sync 0
def qbc (g:Tag):Prop:=qai g\/qah g
theorem Qj6:¬qbc qa2:=by simp[qbc,qai,qah,qa2,qb1,qa5,qa6]
def WalR (w:World) (τ:qa1) (bl bd:Nat) (L:qac) (D:Dev) (r:Value) (e:Ending) (w':World):Prop:=e = .returned r/\∃τ',qaw w' τ' bl bd L/\qax w' τ' bd D/\Step w τ w' τ' qbc
theorem Qrw (n:Nat):IntKind.u64.wrap ((n:Int)+1)=(((n+1)%18446744073709551616:Nat):Int):=by
 have:IntKind.u64.wrap ((n:Int)+1)=((n:Int)+1)%18446744073709551616:=by simp[IntKind.wrap,IntKind.bits,IntKind.signed]
 rw[this];omega
theorem qac.ok.said {L:qac}(h:L.ok):L.said.ok:=by
 refine⟨?_,h.base,h.check,h.qc0,h.strips,?_,h.stream,h.starts,h.lasts⟩
 ·show (L.stamp+1)%18446744073709551616<2 ^ 64
  have:=Nat.mod_lt (L.stamp+1) (by omega:18446744073709551616>0)
  omega
 ·show 1-L.slot<2
  omega
theorem Qq6 {g:Tag}(h:qai g):qbc g:=.inl h
theorem Qy5 {L:qac}(hl:qaw w τ bl bd L) (hd:qax w τ bd D) (h2:2<=D.f0.length) (r:D.lim 800000) :
 Calls Tryz.prog 78 #[.pointer (some ⟨bl,0,none⟩)] w (WalR w τ bl bd L.said (Qf9 L D) (.tuple #[])):=by
 have z:=hl.ok
 have hB:=hl.isB
 obtain⟨vs,vt,s,hs,ht⟩:=hl.is
 have hsl:=z.slot
 have c0:=s.at 0 rfl
 have z0:=s.fz 0
 have c6:=s.at 6 rfl
 have z6:=s.fz 6
 have a:=(s.set 0 (.int .u64 (((L.stamp+1)%18446744073709551616:Nat):Int))).set 6 (.int .i64 ((1-L.slot:Nat):Int))
 have b:Step w τ ((w.setCell ⟨bl,0,none⟩ (.int .u64 (((L.stamp+1)%18446744073709551616:Nat):Int))).setCell ⟨bl,6,none⟩ (.int .i64 ((1-L.slot:Nat):Int))) τ (fun g=>g=qb1):=((Step.refl w τ (fun g=>g=qb1)).set (o:=0) s.tag rfl _).set (o:=6) (s.set 0 (.int .u64 (((L.stamp+1)%18446744073709551616:Nat):Int))).tag rfl _
 have l:qaw ((w.setCell ⟨bl,0,none⟩ (.int .u64 (((L.stamp+1)%18446744073709551616:Nat):Int))).setCell ⟨bl,6,none⟩ (.int .i64 ((1-L.slot:Nat):Int))) τ bl bd L.said :=
  ⟨⟨vs,vt,a,hs.step b (by simp[qa5,qb1]),ht.step b (by simp[qa6,qb1])⟩,hB,z.said⟩
 have p:=hd.step b (fun g hg=>by subst hg;exact⟨Qau _ (.inl rfl),by simp[qb1,qa2]⟩)
 have hw:=Qrw L.stamp
 have a7:(1:Int)-L.slot=((1-L.slot:Nat):Int):=oM
 have d:L.said={L with stamp:=(L.stamp+1)%18446744073709551616,slot:=1-L.slot}:=rfl
 have k:=b.mono (T:=qai) (fun g hg=>.inl hg)
 generalize a8:L.said=Ls at *
 have e0:Ls.stamp=(L.stamp+1)%18446744073709551616:=by rw[d]
 have e6:Ls.slot=1-L.slot:=by rw[d]
 rw[<-e0] at hw k l p
 rw[<-e6] at a7 k l p
 have J:Qf9 L D=(D.write 0 Ls.slot Ls.head).sync 0:=by unfold Qf9;rw[a8]
 have x:=l.ok
 obtain⟨M,O,ab,R,ac,c⟩:=qcq k l p r J x
 clear k l p r J x s hs ht a b hl hd z d e0 e6 hB
 go_enter Tryz.func78,Tryz.ntmps78
 go_wp2_with fail
 generalize (w.setCell ⟨bl,0,none⟩ (.int .u64 Ls.stamp)).setCell ⟨bl,6,none⟩ (.int .i64 Ls.slot)=W1 at *
 obtain⟨vs1,vt1,a,-,-⟩:=O.is
 clear c0 z0 c6 z6
 have c0:=a.at 0 rfl
 have c1:=a.at 1 rfl
 have c2:=a.at 2 rfl
 have c3:=a.at 3 rfl
 have c4:=a.at 4 rfl
 have c6:=a.at 6 rfl
 clear a
 have U:=c.slot
 have n:=Qs5 W1.drew τ qa2 Ls.stamp Ls.base Ls.check Ls.qc0 c.stamp (by have:=c.base;omega) c.check (by have:=c.qc0;omega)
 have B:qdg Ls.stamp Ls.base Ls.check Ls.qc0=Ls.head:=rfl
 rw[B] at n
 obtain⟨X,ad,ae⟩:=qan n B U
 clear n B U
 go_region_held3 (fun I=>I.cell? ⟨bl,0,none⟩=some (.int .u64 Ls.stamp)/\I.cell? ⟨bl,1,none⟩=some (.int .u64 Ls.base)/\I.cell? ⟨bl,2,none⟩=some (.int .u64 Ls.check)/\I.cell? ⟨bl,3,none⟩=some (.int .i64 Ls.qc0)/\I.cell? ⟨bl,4,none⟩=some (.pointer (some ⟨bd,0,none⟩))/\I.cell? ⟨bl,6,none⟩=some (.int .i64 Ls.slot)) (go_keep) (first
  | (go_at_call 133
     refine X.mono ?_
     rintro e w2 ⟨u2,τ2,rfl,Y,q⟩
     have C:=(O.step (zS W1 τ).drew (fun _ _ h=>h)).step q zN
     have Z:=(ab.step (zS W1 τ).drew (fun _ h=>h.elim)).step q zE
     obtain⟨vs2,vt2,i,-,-⟩:=C.is
     have d0:=i.at 0 rfl
     have d1:=i.at 1 rfl
     have d2:=i.at 2 rfl
     have d3:=i.at 3 rfl
     have d4:=i.at 4 rfl
     have d6:=i.at 6 rfl
     have a0:=Qey Z 0 oM Ls.slot (by have hq:D.file 0=D.f0:=rfl;rw[hq];have:=ae.out;omega) Y (by rw[<-ad.out];exact Qgm _ _ _ _) Qay (Dev.qbb R oM)
     obtain⟨af,ag,ah⟩:=qan C q a0
     clear C Z q a0
     clear i Y)
  | (go_at_call 51
     refine ah.mono ?_
     rintro e w3 ⟨rfl,τ3,a1,E⟩
     have F:=af.step E Qau
     obtain⟨vs3,vt3,j,-,-⟩:=F.is
     have e0:=j.at 0 rfl
     have e1:=j.at 1 rfl
     have e2:=j.at 2 rfl
     have e3:=j.at 3 rfl
     have e4:=j.at 4 rfl
     have e6:=j.at 6 rfl
     have a2:=Qhr a1 0 oM
     obtain⟨ai,aj,ak⟩:=qan F E a2
     clear F a1 E a2
     clear j))
 go_wp2_with fail
 refine ak.mono ?_
 rintro e w4 ⟨rfl,al,a3,G⟩
 have a4:=ai.step G Qau
 have y:=((((M.mono (fun _ h=>Qq6 h)).drew).trans (ag.nz)).trans (aj.mono (T:=qbc) (fun _ h=>.inr h))).trans (G.mono (T:=qbc) (fun _ h=>.inr h))
 obtain⟨am,an,a5⟩:=qan a4 a3 y
 clear a4 a3 y G
 go_wp2_with fail
 go_returns
 exact⟨rfl,al,am,by rw[ac.out];exact an,a5⟩
def Qb8 (n:Nat):qac:={qby n with base:=1,slot:=1}
def qbh (n:Nat):qac:=(Qb8 n).said
def Qbl (D:Dev):Dev:=Qf9 (Qb8 D.f0.length) (D.make 0 D.f0.length [])
theorem Qmj(h:qax w τ bd D) (a1:18<=D.f0.length) (k:D.lim 700000) :
 Calls Tryz.prog 29 #[.pointer (some ⟨bd,0,none⟩)] w fun e w'=>∃bl q,e = .returned (.tuple #[.pointer (some ⟨bl,0,none⟩),.int .u16 0])/\w.heap.size<=bl/\qaw w' q bl bd (qbh D.f0.length)/\qax w' q bd (Qbl D)/\Step w τ w' q qbc:=by
 have h1:=Jar h a1
 have B:=h.length 0
 have d:D.file 0=D.f0:=rfl
 rw[d] at B
 generalize hn:D.f0.length=n at *
 have C:Qbl D=Qf9 (Qb8 n) (D.make 0 n []):=by unfold Qbl;rw[hn]
 obtain⟨H1,a3,l,a4,Hn⟩:=qbq h1 h k C hn
 clear h1 h k C hn d
 go_enter Tryz.func29,Tryz.ntmps29
 go_wp2_with fail
 refine H1.mono ?_
 rintro e w1 ⟨bl,τ1,rfl,F,r,s⟩
 have x:=a3.step s zE
 have y:=Qjs x 0 oM
 have d:D.file 0=D.f0:=rfl
 rw[d,Hn.out] at y
 have G:=Qxm r x (g:=qa2) (v:=.slice none 0 0) (want:=[]) (.inl ⟨rfl,rfl⟩) Qay 0 n (by rw[Hn.out];omega) (Dev.qbb l oM)
 obtain⟨a6,a7,a8,a9⟩:=qb9 r s y G
 clear r s x y G H1 d
 go_wp2_with fail
 refine zC a8 ?_
 go_wp2_with fail
 refine a9.mono ?_
 rintro e w2 ⟨rfl,i,I,z⟩
 have j:=a6.step z Qau
 have a:=j.ok
 obtain⟨vs,vt,b,J,L⟩:=j.is
 have c1:=b.at 1 rfl
 have z1:=b.fz 1
 have c6:=b.at 6 rfl
 have z6:=b.fz 6
 have c:Step w2 i ((w2.setCell ⟨bl,1,none⟩ (.int .u64 1)).setCell ⟨bl,6,none⟩ (.int .i64 1)) i (fun g=>g=qb1):=((Step.refl w2 i (fun g=>g=qb1)).set (o:=1) b.tag rfl _).set (o:=6) (b.set 1 (.int .u64 1)).tag rfl _
 have M:qaw ((w2.setCell ⟨bl,1,none⟩ (.int .u64 1)).setCell ⟨bl,6,none⟩ (.int .i64 1)) i bl bd (Qb8 n) :=
  ⟨⟨vs,vt,(b.set 1 (.int .u64 1)).set 6 (.int .i64 1),J.step c (by simp[qa5,qb1]),L.step c (by simp[qa6,qb1])⟩,j.isB,⟨a.stamp,by simp[Qb8],a.check,a.qc0,a.strips,by simp[Qb8],a.stream,a.starts,a.lasts⟩⟩
 have O:=I.step c (fun g hg=>by subst hg;exact⟨Qau _ (.inl rfl),by simp[qb1,qa2]⟩)
 have p:=Qy5 M O (by have:=Dev.qg4 D 0 n [] 0;have hq:∀E:Dev,E.file 0=E.f0:=fun _=>rfl;rw[hq,hq,Hn.out] at this;omega) (Dev.qbb (Dev.qib l 0 n []) oM)
 obtain⟨aa,R,U⟩:=qan z c p
 clear z c M O p b J L j a I
 go_wp2_with fail
 refine U.mono ?_
 rintro e w4 ⟨rfl,ab,X,Y,Z⟩
 obtain⟨ac,ad,ae⟩:=qan X Y Z
 clear X Y Z
 go_wp2_with fail
 go_ret2
 refine⟨bl,ab,rfl,F,ac,by rw[a4.out];exact ad,?_⟩
 exact(((a7.nz).trans (aa.mono (T:=qbc) (fun _ h=>.inr h))).trans (R.mono (T:=qbc) (fun _ h=>.inl (.inl h)))).trans ae
structure qag (w:World) (τ:qa1) (g:Tag) (b:Nat) (P:List Int):Prop where
 own:Own w τ b g 268 (u8s P)
 isB:IsB P
 len:P.length=448
theorem qag.step {c:World} {a:qa1} {S:Tag->Prop} {g:Tag} {b:Nat}(h:qag w τ g b P) (m:Step w τ c a S) (d:¬S g):qag c a g b P:=⟨h.own.step m d,h.isB,h.len⟩
def qaz:List Int:=List.replicate 448 0
def qbf (l:List Int) (off:Nat) (m:List Int):List Int:=l.take off++m++l.drop (off+m.length)
theorem Qae (l:List Int) (off:Nat) (m:List Int) (h:off+m.length<=l.length):(qbf l off m).length=l.length:=by
 unfold qbf;simp only[Z6,List.length_take,List.length_drop];omega
theorem Qaw {l m:List Int}(hl:IsB l) (b:IsB m) (off:Nat):IsB (qbf l off m):=by
 intro x a
 unfold qbf at a
 rcases List.mem_append.1 a with a|a
 ·rcases List.mem_append.1 a with a|a
  ·exact hl x (List.mem_of_mem_take a)
  ·exact b x a
 ·exact hl x (List.mem_of_mem_drop a)
theorem Qby (l m:List Int) (off k:Nat) (a:k=m.length):over (u8s l) off (u8s (m.take k))=u8s (qbf l off m):=by
 subst a
 rw[Qsc,List.take_length];rfl
theorem Qbp {J:World} {s:qa1} {S:Tag->Prop}(x:Step J s w τ S) {g:Tag}{b:Nat}{P:List Int}(hS:S g\/J.heap.size<=b) (h:qag w τ g b P) (at_ k n:Nat) (h1:1<=k) (h8:k<=8) (i:at_+k<=448) (hn:n<2 ^ 64) :
 Calls Tryz.prog 171 #[.pointer (some ⟨b,0,none⟩),.int .i64 at_,.int .i64 k,.int .u64 n] w fun e L=>e = .returned (.tuple #[])/\∃p,qag L p g b (qbf P at_ (leB n k))/\Step J s L p S/\Step w τ L p (fun t=>t=g):=by
 have hp:=Qeu w.drew τ qa2 n k hn h1 h8
 have a:=h.len
 have j:qag w τ g b P:=h
 have hle:at_<=448:=oM
 have hlei:(at_:Int)<=448:=oM
 have hne':¬448=at_:=oM
 have ho:=h.own.drew
 have l:k=Nat.min (leB n k).length (448-at_):=by rw[Qaa];exact(Nat.min_eq_left oM).symm
 have y:at_+k<=(u8s P).length:=by rw[Qac,a];exact i
 obtain⟨Hp,o,z,Ho,B,M,O,HS⟩:=qen hp a j ho l y x hS
 clear hp a j ho l y x hS h hn
 go_enter Tryz.func171,Tryz.ntmps171
 go_region_law (first
  | (go_simp
     go_at_call 147
     refine Hp.mono ?_
     rintro e w2 ⟨u2,R,rfl,q,c,d⟩
     have C:=O.drew.trans (Step.of _ d c)
     have E:=(Step.refl w τ (fun t=>t=g)).drew.trans (Step.of _ d c)
     have F:=Ho.step (Step.of nil d c) id
     obtain⟨p2,c2,rfl,-,-⟩:=q.any
     obtain⟨U,X,Y,Z⟩:=qb9 C F q E
     clear C F q E
     clear c d)
  | (refine Qbb U X HS Y k B M rfl _ _ rfl rfl rfl ?_
     intro w3 r G I
     rw[Qby _ _ _ _ (Qaa n k).symm] at r
     obtain⟨a0,a1,a2⟩:=qan r G I
     clear r G I))
 all_goals go_returns
 all_goals exact⟨rfl,R,⟨a0,Qaw z.isB (Qan n k) at_,by rw[Qae _ _ _ (by rw[Qaa,o.out];exact i)];exact o⟩,a1,Z.trans a2⟩
def qaf (n:Nat):List Int:=qbf (qbf qaz 8 (leB n 4)) 14 (leB 448 2)
theorem Qgz:Tryz.zeroCells268 = (u8s qaz).toArray:=kR
theorem Qda:IsB qaz:=fun x a=>by rw[(List.mem_replicate.1 a).2];omega
theorem Qk3 (w:World) (τ:qa1) (g:Tag) (n:Nat) (hn:n<4294967296) :
 Calls Tryz.prog 179 #[.int .u32 n] w fun e q=>∃b a,e = .returned (.pointer (some ⟨b,0,none⟩))/\w.heap.size<=b/\qag q a g b (qaf n)/\Step w τ q a nil:=by
 have k:=Own.born w τ g 268 Tryz.zeroCells268
 have r:=(zS w τ).alloc (.cells Tryz.zeroCells268 268) g
 rw[Qgz] at k
 have c:qag (w.alloc (.cells Tryz.zeroCells268 268)) (τ.put w.heap.size g) g w.heap.size qaz:=⟨by rw[Qgz];exact k,Qda,by simp[qaz]⟩
 have h1:=Qbp r (.inr (Z0 _)) c 8 4 n oM oM oM oM
 have H1:=Z2 h1
 clear r h1 k c
 go_enter Tryz.func179,Tryz.ntmps179
 go_wp2_with fail
 refine H1.mono ?_
 rintro e w1 ⟨rfl,τ1,d,h,-⟩
 have h2:=Qbp h (.inr (Z0 _)) d 14 2 448 oM oM oM oM
 have s:=Z2 h2
 clear h2 h d
 go_wp2_with fail
 refine s.mono ?_
 rintro e w2 ⟨rfl,l,i,j,-⟩
 obtain⟨o,p⟩:=qaj i j
 clear i j
 go_wp2_with fail
 go_ret
 exact⟨_,l,rfl,Z0 _,o,p⟩
def qbp (P:List Int) (at_ k:Nat):Nat:=leN ((P.drop at_).take k) k
theorem qag.bytes {g:Tag} {b:Nat}(h:qag w τ g b P):Bytes w τ g (.slice (some ⟨b,0,none⟩) 448 448) P:=by
 have:=h.own
 refine⟨h.isB,some ⟨b,0,none⟩,448,by rw[h.len],by rw[h.len];exact Z0 _,by unfold maxLen;omega,fun _=>⟨b,0,rfl,this.tag,fun i hi=>?_⟩⟩
 rw[Nat.zero_add]
 exact this.at i (Qfw P i hi)
theorem qag.part {g:Tag} {b:Nat}(h:qag w τ g b P) (at_ k:Nat) (h1:1<=k) (hfit:at_+k<=448):Bytes w τ g (.slice (some ⟨b,at_,none⟩) k (448-at_)) ((P.drop at_).take k)/\((P.drop at_).take k).length=k:=by
 have a:=h.bytes.sub at_ (at_+k) (448-at_) oM oM oM (by unfold maxLen;omega)
 rw[Nat.add_sub_cancel_left,Nat.zero_add] at a
 exact⟨a,by rw[List.length_take,List.length_drop,h.len];omega⟩
theorem Qjw(h:IsB P) (at_ k:Nat):qbp P at_ k<2 ^ (8*k):=Qle (fun x a=>h x (List.mem_of_mem_drop (List.mem_of_mem_take a))) k
theorem Qd0 {g:Tag} {b:Nat}(h:qag w τ g b P) (at_ k:Nat) (h1:1<=k) (h4:k<=4) (a:at_+k<=448) :
 Calls Tryz.prog 181 #[.pointer (some ⟨b,0,none⟩),.int .i64 at_,.int .i64 k] w fun e i=>e = .returned (.int .i64 (qbp P at_ k:Int))/\w=i:=by
 obtain⟨j,hl⟩:=h.part at_ k h1 a
 have d:=Qip (p:=some ⟨b,at_,none⟩) (c:=448-at_) (l:=(P.drop at_).take k) (by rw[hl];exact j) oM oM
 rw[hl] at d
 change Calls _ _ _ _ (fun e i=>e = .returned (.int .u64 (qbp P at_ k:Int))/\_=i) at d
 have hlt:qbp P at_ k<4294967296:=by
  have h2:=Qjw h.isB at_ k
  have h3:2 ^ (8*k)<=2 ^ 32:=Nat.pow_le_pow_right oM oM
  omega
 generalize qbp P at_ k=q at *
 have n:=Z2 d
 clear d h j hl
 have e1:at_<=448:=oM
 have e3:(at_:Int)+k<=448:=oM
 have e5:¬448=at_:=oM
 have e6:(at_:Int)<=at_+(k:Int):=oM
 have e7:(0:Int)<=at_+(k:Int):=oM
 have e8:((at_:Int)+k).toNat=at_+k:=oM
 go_enter Tryz.func181,Tryz.ntmps181
 go_wp2_with fail
 refine zC n ?_
 go_wp2_with fail
 go_ret
 exact⟨rfl,rfl⟩
def qa0 (P:List Int):Nat:=qbp P 12 2
def qar (P:List Int):Nat:=qbp P 14 2
def qa8 (P:List Int):Nat:=qbp P 8 4
def qaa (P:List Int):Nat:=qbp P 0 8
theorem Qax {g:Tag} {b:Nat}(h:qag w τ g b P) :
 Calls Tryz.prog 217 #[.pointer (some ⟨b,0,none⟩)] w fun e a=>e = .returned (.int .i64 (qa0 P:Int))/\w=a:=by
 have h1:=Qd0 h 12 2 oM oM oM
 change Calls _ _ _ _ (fun e a=>e = .returned (.int .i64 (qa0 P:Int))/\_=a) at h1
 have H1:=Z2 h1
 clear h1 h
 go_enter Tryz.func217,Tryz.ntmps217
 go_wp2_with fail
 refine zC H1 ?_
 go_wp2_with fail
 go_ret
 exact⟨rfl,rfl⟩
theorem Qfm {g:Tag} {b:Nat}(h:qag w τ g b P) :
 Calls Tryz.prog 220 #[.pointer (some ⟨b,0,none⟩)] w fun e a=>e = .returned (.int .i64 (qar P:Int))/\w=a:=by
 have h1:=Qd0 h 14 2 oM oM oM
 change Calls _ _ _ _ (fun e a=>e = .returned (.int .i64 (qar P:Int))/\_=a) at h1
 have H1:=Z2 h1
 clear h1 h
 go_enter Tryz.func220,Tryz.ntmps220
 go_wp2_with fail
 refine zC H1 ?_
 go_wp2_with fail
 go_ret
 exact⟨rfl,rfl⟩
theorem Qb1 (n:Nat) (h:n<4294967296):IntKind.u32.wrap (n:Int)=n:=by
 have:IntKind.u32.wrap (n:Int)=n%4294967296:=by simp[IntKind.wrap,IntKind.bits,IntKind.signed]
 rw[this];omega
theorem Qnv(h:IsB P):qa8 P<4294967296:=by
 have h2:=Qjw h 8 4
 have a:(2:Nat) ^ (8*4)=4294967296:=dC
 rw[a] at h2;exact h2
theorem Qg5 {g:Tag} {b:Nat}(h:qag w τ g b P) :
 Calls Tryz.prog 136 #[.pointer (some ⟨b,0,none⟩)] w fun e a=>e = .returned (.int .u32 (qa8 P:Int))/\w=a:=by
 have h1:=Qd0 h 8 4 oM oM oM
 change Calls _ _ _ _ (fun e a=>e = .returned (.int .i64 (qa8 P:Int))/\_=a) at h1
 have hw:=Qb1 _ (Qnv h.isB)
 generalize qa8 P=q at *
 have H1:=Z2 h1
 clear h1 h
 go_enter Tryz.func136,Tryz.ntmps136
 go_wp2_with fail
 refine zC H1 ?_
 go_wp2_with fail
 go_ret
 exact⟨rfl,rfl⟩
theorem Qhe {g:Tag} {b:Nat}(h:qag w τ g b P) :
 Calls Tryz.prog 114 #[.pointer (some ⟨b,0,none⟩)] w fun e d=>e = .returned (.int .u64 (qaa P:Int))/\w=d:=by
 obtain⟨i,hl⟩:=h.part 0 8 oM oM
 have a:=Qip (p:=some ⟨b,0,none⟩) (c:=448) (l:=(P.drop 0).take 8) (by rw[hl];exact i) oM oM
 rw[hl] at a
 change Calls _ _ _ _ (fun e d=>e = .returned (.int .u64 (qaa P:Int))/\_=d) at a
 generalize qaa P=q at *
 have j:=Z2 a
 clear a h i hl
 go_enter Tryz.func114,Tryz.ntmps114
 go_wp2_with fail
 refine zC j ?_
 go_wp2_with fail
 go_ret
 exact⟨rfl,rfl⟩
theorem Que {g:Tag} {a:Addr} {n c:Nat} {l:List Int}(h:Bytes w τ g (.slice (some a) n c) l) (d:Tag) (i:l.length<=100000000) :
 Calls Tryz.prog 189 #[.slice (some a) n c] w fun e s=>∃u b,e = .returned u/\NB w.heap.size s b d u l/\Step w τ s b nil:=by
 have hnil:=fun (W:World) (a:Option Addr) (n c:Nat)=>Lib.run_eql_slice_nil (P:=Tryz.prog) W 58 5 a n c 0 0 Tryz.underlying58
 have j:=(zS w τ).alloc (.cells #[] 5) d
 have o:NB w.heap.size (w.alloc (.cells #[] 5)) (τ.put w.heap.size d) d (.slice (some ⟨w.heap.size,0,none⟩) 0 0) [] :=
  ⟨⟨rfl,.inr ⟨w.heap.size,0,[],rfl,Own.new w τ d _ [],Z0 _,Z0 _,Z9 _⟩⟩,fun x G=>by simp at G,fun k I=>by
    have:w.heap.size=k:=by simpa [Value.ownBlock] using I
    omega⟩
 have p:=h.step ((zS w τ).alloc (.cells #[] 5) d) id
 have q:([]:List Int).length+l.length<=100000000000:=by simp;omega
 obtain⟨y,z,B,C⟩:=qb9 j o p q
 clear j o p q h i
 go_enter Tryz.func189,Tryz.ntmps189
 go_wp2_with (at_builtin;refine Qal y z B C rfl _ _ rfl rfl rfl ?_;intro v' s b E F r;obtain⟨J,L,Hmo⟩:=qan E F r;clear E F r)
 go_ret
 exact⟨_,b,rfl,J,L⟩
theorem Qhy {g:Tag} {b:Nat}(h:qag w τ g b P) (j:Tag) :
 Calls Tryz.prog 150 #[.pointer (some ⟨b,0,none⟩)] w fun e d=>∃u a,e = .returned u/\NB w.heap.size d a j u P/\Step w τ d a nil:=by
 have c:=Que h.bytes j (by rw[h.len];omega)
 have i:=Z2 c
 clear c h
 go_enter Tryz.func150,Tryz.ntmps150
 go_wp2_with fail
 refine i.mono ?_
 rintro e d ⟨u,a,rfl,k,l⟩
 obtain⟨n,o⟩:=qaj k l
 clear k l
 go_wp2_with fail
 go_ret
 exact⟨u,a,rfl,n,o⟩
def qav (P:List Int) (s:Nat):Nat:=if s<qa0 P then qbp P (16+4*s) 2 else 0
def qad (P:List Int) (s:Nat):Nat:=if s<qa0 P then qbp P (18+4*s) 2 else 0
def qb7 (P:List Int) (s:Nat):List Int:=(P.drop (qav P s)).take (qad P s)
theorem Qpe(h:IsB P) (at_:Nat):qbp P at_ 2<65536:=by
 have h2:=Qjw h at_ 2
 have a:(2:Nat) ^ (8*2)=65536:=dC
 rw[a] at h2;exact h2
theorem Qu7(h:IsB P) (s:Nat):qav P s<65536:=by
 unfold qav;split
 ·exact Qpe h _
 ·omega
theorem Qzk(h:IsB P) (s:Nat):qad P s<65536:=by
 unfold qad;split
 ·exact Qpe h _
 ·omega
structure Fit (P:List Int):Prop where
 count:qa0 P<=40
 ends:∀s,qav P s+qad P s<=448
theorem Qgu {g:Tag} {b:Nat}(h:qag w τ g b P) (s:Nat) (hs:s<1000000) (hc:qa0 P<=100) :
 Calls Tryz.prog 169 #[.pointer (some ⟨b,0,none⟩),.int .i64 s] w fun e k=>e = .returned (.tuple #[.int .i64 (qav P s:Int),.int .i64 (qad P s:Int)])/\w=k:=by
 have h1:=Qax h
 by_cases a:s<qa0 P
 ·have h2:=Qd0 h (16+4*s) 2 oM oM oM
  have i:=Qd0 h (18+4*s) 2 oM oM oM
  have c:qav P s=qbp P (16+4*s) 2:=if_pos a
  have d:qad P s=qbp P (18+4*s) 2:=if_pos a
  rw[<-c] at h2
  rw[<-d] at i
  rw[show ((16+4*s:Nat):Int)=16+4*(s:Int) by omega] at h2
  rw[show ((18+4*s:Nat):Int)=16+4*(s:Int)+2 by omega] at i
  generalize qav P s=o at *
  generalize qad P s=n at *
  generalize j:qa0 P=q at *
  have l:decide ((s:Int)<0)=false:=sM
  obtain⟨H1,p,r⟩:=qan h1 h2 i
  clear h1 h2 i h c d j
  go_enter Tryz.func169,Tryz.ntmps169
  go_wp2_with fail
  refine zC H1 ?_
  go_wp2_with fail
  refine zC p ?_
  go_wp2_with fail
  refine zC r ?_
  go_wp2_with fail
  go_ret2
  exact⟨rfl,rfl⟩
 ·have c:qav P s=0:=if_neg a
  have d:qad P s=0:=if_neg a
  rw[c,d]
  generalize j:qa0 P=q at *
  have l:decide ((s:Int)<0)=false:=sM
  have H1:=Z2 h1
  clear h1 h c d j
  go_enter Tryz.func169,Tryz.ntmps169
  go_wp2_with fail
  refine zC H1 ?_
  go_wp2_with fail
  go_ret2
  exact⟨rfl,rfl⟩
theorem Qtc {g:Tag} {b:Nat}(h:qag w τ g b P) (i:Int) (hi:i<0) :
 Calls Tryz.prog 169 #[.pointer (some ⟨b,0,none⟩),.int .i64 i] w fun e a=>e = .returned (.tuple #[.int .i64 0,.int .i64 0])/\w=a:=by
 clear h
 go_enter Tryz.func169,Tryz.ntmps169
 go_wp2_with fail
 go_ret2
 exact⟨rfl,rfl⟩
theorem Qbx {g:Tag} {b:Nat}(h:qag w τ g b P) (a:Fit P) (s:Nat) (d:s<1000000) :
 Calls Tryz.prog 108 #[.pointer (some ⟨b,0,none⟩),.int .i64 s] w fun e i=>∃o,e = .returned (.slice (some ⟨b,o,none⟩) (qad P s) (448-qav P s))/\(0<qad P s->o=qav P s)/\w=i:=by
 have h1:=Qgu h s d (by have:=a.count;omega)
 have he:=a.ends s
 generalize qav P s=o at *
 generalize qad P s=n at *
 have H1:=Z2 h1
 clear h1 h a
 have e3:(o:Int)+n<=448:=oM
 have e6:(o:Int)<=o+(n:Int):=oM
 have e7:(0:Int)<=o+(n:Int):=oM
 have e8:((o:Int)+n).toNat=o+n:=oM
 by_cases c:o=448
 ·subst c
  obtain rfl:n=0:=oM
  go_enter Tryz.func108,Tryz.ntmps108
  go_wp2_with fail
  refine zC H1 ?_
  go_wp2_with fail
  go_ret
  exact⟨0,rfl,fun h=>absurd h oM,rfl⟩
 ·have e4:¬448=o:=fun e=>c e.symm
  go_enter Tryz.func108,Tryz.ntmps108
  go_wp2_with fail
  refine zC H1 ?_
  go_wp2_with fail
  go_ret
  exact⟨o,rfl,fun _=>rfl,rfl⟩
