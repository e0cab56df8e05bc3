/-
 Check sums: half,Next,Sum.
-/
import Derived.Test.YtemacanaihaldaaGreatMConcat
import Derived.Laws.IdiomStrings
import Derived.Lib.BufferRead
set_option maxRecDepth 100000
set_option linter.all false
namespace Go.Proofs.YtemacanaihaldaaGreat
variable {D:Dev}{P:List Int}{bd bl:Nat}{v:Value}{w:World}{τ:Tags}
open Go.RowKit
def Qjd (c:Nat):Nat:=if c%2=1 then c/2 ^^^ 2197175160 else c/2
def crcBits:Nat->Nat->Nat
 | 0,c=>c
 | n+1,c=>Qjd (crcBits n c)
def crcNext (s b:Nat):Nat:=4294967295-crcBits 8 ((4294967295-s) ^^^ b)
def crcTo (l:List Int):Nat->Nat
 | 0=>0
 | i+1=>crcNext (crcTo l i) (l.getD i 0).toNat
theorem Qv6 {c:Nat}(h:c<4294967296):Qjd c<4294967296:=by
 unfold Qjd
 split
 ·have h1:c/2<2 ^ 32:=by omega
  have h2:2197175160<2 ^ 32:=by omega
  exact Nat.xor_lt_two_pow h1 h2
 ·omega
theorem Qir (n:Nat) {c:Nat}(h:c<4294967296):crcBits n c<4294967296:=by
 induction n with
 | zero=>exact h
 | succ n ih=>exact Qv6 ih
theorem Qt1 (s b:Nat):crcNext s b<4294967296:=by unfold crcNext;omega
theorem Qh8 (l:List Int) (i:Nat):crcTo l i<4294967296:=by
 cases i with
 | zero=>exact(by omega:(0:Nat)<4294967296)
 | succ i=>exact Qt1 _ _
theorem Qrm (m n c:Nat):crcBits m (crcBits n c)=crcBits (m+n) c:=by
 induction m with
 | zero=>simp[crcBits]
 | succ m ih =>
   rw[show m+1+n=(m+n)+1 by omega]
   show Qjd _=Qjd _
   rw[ih]
theorem Qsh (c:Nat) (p:c<4294967296) (w:World) :
 Calls Tryz.prog 270 #[.int .u32 (c:Int)] w fun e s=>e = .returned (.int .u32 (crcBits 4 c:Int))/\w=s:=by
 have x:=Z2 p
 clear p
 go_enter Tryz.func270,Tryz.ntmps270
 go_wp2_with fail
 go_loopw [0,3] (fun m v wr=>∃i:Nat,i<=4/\v = .int .i64 (i:Int)/\m = .int .u32 (crcBits i c:Int)/\wr=w) (fun _ v _=>4-(intOf v).toNat)
 case atStart=>exact⟨0,by omega,rfl,rfl,rfl⟩
 case round =>
  obtain⟨i,hi,rfl,rfl,rfl⟩:=hrel
  by_cases hlt:i<4
  ·have hl:=Qir i x.out
   have j:crcBits (i+1) c=Qjd (crcBits i c):=rfl
   generalize crcBits i c=q at *
   generalize b:crcBits (i+1) c=l at *
   by_cases k:q%2=1
   ·have d:l=q/2 ^^^ 2197175160:=by rw[j,Qjd,if_pos k]
    have y:bits BinOp.and IntKind.u32 (q:Int) 1=1:=by
     have:=u32_and_nat q 1 hl (by omega)
     rw[nat_mask1,k] at this;exact this
    have z:bits BinOp.and IntKind.u32 2197175160 4294967295=2197175160:=by kernel_rfl
    have B:bits BinOp.xor IntKind.u32 ((q:Int)/2) 2197175160=(l:Int):=by
     have:=u32_xor_nat (q/2) 2197175160 (by omega) (by omega)
     rw[d,show ((q:Int)/2)=((q/2:Nat):Int) by omega];exact this
    obtain⟨h,C,E⟩:=hid3 b d j
    clear b d j k
    go_wp2_with fail
    go_round
    case rel=>exact⟨i+1,by omega,by simp,by rw[h.out],trivial⟩
    case measure=>simp[intOf];omega
   ·have d:l=q/2:=by rw[j,Qjd,if_neg k]
    have r:q%2=0:=by omega
    have y:bits BinOp.and IntKind.u32 (q:Int) 1=0:=by
     have:=u32_and_nat q 1 hl (by omega)
     rw[nat_mask1,r] at this;exact this
    have z:bits BinOp.and IntKind.u32 2197175160 0=0:=by kernel_rfl
    have B:bits BinOp.xor IntKind.u32 ((q:Int)/2) 0=(l:Int):=by
     have:=u32_xor_nat (q/2) 0 (by omega) (by omega)
     rw[d,show ((q:Int)/2)=((q/2:Nat):Int) by omega];rw[Nat.xor_zero] at this;exact this
    obtain⟨h,C,E⟩:=hid3 b d j
    clear b d j k r
    go_wp2_with fail
    go_round
    case rel=>exact⟨i+1,by omega,by simp,by rw[h.out],trivial⟩
    case measure=>simp[intOf];omega
  ·have o:i=4:=by omega
   subst o
   go_wp2_with fail
   go_returns
   exact⟨rfl,rfl⟩
theorem Qvh (s:Nat) (h:s<4294967296):4294967295 ^^^ s=4294967295-s:=by
 have h1:(BitVec.allOnes 32 ^^^ BitVec.ofNat 32 s).toNat=4294967295 ^^^ s:=by
  rw[BitVec.toNat_xor,BitVec.toNat_ofNat,BitVec.toNat_allOnes]
  congr 1
  omega
 have h2:BitVec.allOnes 32 ^^^ BitVec.ofNat 32 s = ~~~ (BitVec.ofNat 32 s):=BitVec.allOnes_xor
 rw[<-h1,h2,BitVec.toNat_not,BitVec.toNat_ofNat]
 omega
theorem Qum (s:Nat) (h:s<4294967296):bits BinOp.xor IntKind.u32 IntKind.u32.max (s:Int)=((4294967295-s:Nat):Int):=by
 have:=u32_xor_nat 4294967295 s (by omega) h
 rw[Qvh s h] at this
 exact this
theorem Qrl (s b:Nat) (j:s<4294967296) (hb:b<256) (w:World) :
 Calls Tryz.prog 231 #[.int .u32 (s:Int),.int .u8 (b:Int)] w fun e h=>e = .returned (.int .u32 (crcNext s b:Int))/\w=h:=by
 have i:(4294967295-s) ^^^ b<4294967296:=by
  have h1:4294967295-s<2 ^ 32:=by omega
  have h2:b<2 ^ 32:=by omega
  exact Nat.xor_lt_two_pow h1 h2
 have b1:bits BinOp.xor IntKind.u32 (bits BinOp.xor IntKind.u32 IntKind.u32.max (s:Int)) (b:Int)=(((4294967295-s) ^^^ b:Nat):Int):=by
  rw[Qum s j]
  exact u32_xor_nat (4294967295-s) b (by omega) (by omega)
 have d:=Qir 8 i
 have b2:bits BinOp.xor IntKind.u32 IntKind.u32.max (crcBits 8 ((4294967295-s) ^^^ b):Int)=(crcNext s b:Int):=Qum _ d
 have h1:=Qsh _ i w
 have h2:=Qsh _ (Qir 4 i) w
 rw[Qrm] at h2
 generalize crcNext s b=r at *
 generalize k:(4294967295-s) ^^^ b=q at *
 generalize crcBits 4 q=q4 at *
 generalize crcBits (4+4) q=q8 at *
 have hsg:IntKind.u32.signed=false:=rfl
 obtain⟨l,m⟩:=hid2 h1 h2
 clear h1 h2 k d
 go_enter Tryz.func231,Tryz.ntmps231
 go_wp2_with fail
 refine l.out.mono ?_
 rintro e h ⟨rfl,rfl⟩
 go_wp2_with fail
 refine m.out.mono ?_
 rintro e h ⟨rfl,rfl⟩
 go_wp2_with fail
 go_ret
 exact⟨rfl,rfl⟩
theorem Qqe {g:Tag} {br:Nat} {l:List Int}(hr:w.cell? ⟨br,0,none⟩=some v) (r:Bytes w τ g v l) (hbig:l.length<=1000000000) :
 Calls Tryz.prog 155 #[.slice (some ⟨br,0,none⟩) 1 1] w fun e C=>e = .returned (.int .u32 (crcTo l l.length:Int))/\w=C:=by
 obtain⟨p,c,rfl,h1,h2⟩:=r.any
 have E:=r.isB
 have F:∀i,i<l.length->∃b o,p=some ⟨b,o,none⟩/\w.cell? ⟨b,o+i,none⟩=some (.int .u8 (l.getD i 0)):=by
  intro i hi
  obtain⟨b,o,c',I,_,_,_,_,s⟩:=r.pos (by omega)
  cases I
  exact⟨b,o,rfl,s i hi⟩
 generalize hn:l.length=n at *
 obtain⟨J,L,Hn⟩:=hid3 F E hn
 clear F E hn r h1 h2
 go_enter Tryz.func155,Tryz.ntmps155
 go_wp2_with fail
 go_loopw [3,10] (fun m v wr=>((v = .int .i64 0/\m = .int .u32 0)\/(v = .int .i64 1/\m = .int .u32 (crcTo l n:Int)))/\wr=w) (fun _ v _=>1-(intOf v).toNat)
 case atStart=>exact⟨.inl ⟨rfl,rfl⟩,rfl⟩
 case round =>
  obtain⟨⟨rfl,rfl⟩|⟨rfl,rfl⟩,rfl⟩:=hrel
  ·go_wp2_with fail
   go_loopw [3,16] (fun m v M=>∃i:Nat,i<=n/\v = .int .i64 (i:Int)/\m = .int .u32 (crcTo l i:Int)/\M=wr) (fun _ v _=>n-(intOf v).toNat)
   case atStart=>exact⟨0,Z9 _,rfl,rfl,rfl⟩
   case round =>
    obtain⟨i,hi,rfl,rfl,rfl⟩:=hrel
    by_cases y:i<n
    ·obtain⟨b,o,rfl,h⟩:=J.out i y
     have s:=L.out.at i
     have x:crcTo l (i+1)=crcNext (crcTo l i) (l.getD i 0).toNat:=rfl
     have d:=Qh8 l i
     obtain⟨q,G⟩:=Int.eq_ofNat_of_zero_le s.1
     rw[G] at h x s
     have j:=Qrl (crcTo l i) q d (by omega) wr
     have k:((q:Nat):Int).toNat=q:=by omega
     rw[k] at x
     rw[<-x] at j
     have z:=Z2 j
     clear j x G k d
     go_wp2_with fail
     refine z.out.mono ?_
     rintro e C ⟨rfl,rfl⟩
     go_wp2_with fail
     go_round
     case rel=>exact⟨i+1,by omega,by simp,rfl,trivial⟩
     case measure=>simp[intOf];omega
    ·have B:i=n:=by omega
     subst B
     go_wp2_with fail
     go_round
     case rel=>exact⟨.inr ⟨by simp,rfl⟩,trivial⟩
     case measure=>simp[intOf]
  ·go_wp2_with fail
   go_returns
   exact⟨rfl,rfl⟩
theorem Qsc (a b:List Int) (off:Nat):over (u8s a) off (u8s b)=u8s (a.take off++b++a.drop (off+b.length)):=by
 simp[over,u8s,List.map_take,List.map_drop]
def headB (s ba ck ar:Nat):List Int:=leB s 8++[(ar:Int)]++leB ba 8++leB ck 8++List.replicate 95 0++leB s 8
theorem Qgm (s b ck d:Nat):(headB s b ck d).length=128:=by simp[headB,Qaa]
theorem Qvv (s d ck e:Nat) (h:e<256):IsB (headB s d ck e):=by
 unfold headB
 refine((((((Qan s 8).append ?_).append (Qan d 8)).append (Qan ck 8)).append ?_).append (Qan s 8))
 ·intro x b
  rw[Y8 b];omega
 ·intro x b
  rw[(List.mem_replicate.1 b).2];omega
theorem Qy0 (l:List Int) (i:Nat) (x:Int):(u8s l).set i (.int .u8 x)=u8s (l.set i x):=by simp[u8s,List.map_set]
theorem Qxq (n k:Nat):(leB n k).take k=leB n k:=by rw[List.take_of_length_le (by rw[Qaa];exact Z0 _)]
def lay8 (l:List Int) (off n:Nat):List Int:=l.take off++leB n 8++l.drop (off+8)
theorem Qhh (l:List Int) (off n:Nat) (h:off+8<=l.length):(lay8 l off n).length=l.length:=by
 unfold lay8;simp only[Z6,List.length_take,List.length_drop,Qaa];omega
theorem Qhz (l:List Int) (off n:Nat):over (u8s l) off (u8s ((leB n 8).take 8))=u8s (lay8 l off n):=by
 rw[Qsc,Qxq,Qaa];rfl
theorem Qn5 (a b c:List Int) (off n:Nat) (d:a.length=off) (e:b.length=8):lay8 (a++b++c) off n=a++leB n 8++c:=by
 subst d
 unfold lay8
 rw[X0 a b c,List.take_left,<-List.drop_drop,List.drop_left,<-e,List.drop_left]
theorem Qvu (s d ck b:Nat):lay8 (lay8 (lay8 ((lay8 (List.replicate 128 0) 0 s).set 8 (b:Int)) 9 d) 17 ck) 120 s=headB s d ck b:=by
 have h1:lay8 (List.replicate 128 0) 0 s=leB s 8++List.replicate 120 0:=by simp[lay8]
 have hl:∀n,(leB n 8).length=8:=fun n=>Qaa n 8
 have h2:(leB s 8++List.replicate 120 0).set 8 (b:Int)=(leB s 8++[(b:Int)])++List.replicate 8 0++(List.replicate 8 0++(List.replicate 95 0++List.replicate 8 0)):=by
  rw[List.set_append_right _ _ (by rw[hl];omega),hl,X0,X0];rfl
 rw[h1,h2,Qn5 _ _ _ _ _ (by simp[hl]) (by simp),<-X0 _ (List.replicate 8 0) (List.replicate 95 0++_),Qn5 _ _ _ _ _ (by simp[hl]) (by simp),<-X0,
  show ∀l:List Int,l++List.replicate 8 (0:Int)=l++List.replicate 8 0++[] from fun l=>by simp,Qn5 _ _ _ _ _ (by simp[hl]) (by simp),List.append_nil]
 rfl
theorem Qs5 (w:World) (τ:Tags) (g:Tag) (s B ck i:Nat) (hs:s<2 ^ 64) (c4:B<2 ^ 64) (c5:ck<2 ^ 64) (c6:i<256) :
 Calls Tryz.prog 193 #[.agg #[.int .u64 (s:Int),.int .u64 (B:Int),.int .u64 (ck:Int),.int .i64 (i:Int)]] w fun e w'=>∃u c7,e = .returned u/\Bytes w' c7 g u (headB s B ck i)/\Step w τ w' c7 nil:=by
 have c9:=fun W τ=>Qeu W τ tData s 8 hs (by omega) (by omega)
 have ca:=fun W τ=>Qeu W τ tData B 8 c4 (by omega) (by omega)
 have cb:=fun W τ=>Qeu W τ tData ck 8 c5 (by omega) (by omega)
 have aq:=Qvv s B ck i c6
 have hwr:IntKind.u8.wrap (i:Int)=(i:Int):=by
  have:IntKind.u8.wrap (i:Int)=(i:Int)%256:=by simp[IntKind.wrap,IntKind.bits,IntKind.signed]
  rw[this];omega
 have rn:=Qcz
 have av:=Own.new w τ tBox 116 [.int .u64 (s:Int),.int .u64 (B:Int),.int .u64 (ck:Int),.int .i64 (i:Int)]
 have aw:=(Step.refl w τ nil).alloc (.cells #[.int .u64 (s:Int),.int .u64 (B:Int),.int .u64 (ck:Int),.int .i64 (i:Int)] 116) tBox
 have j:=av.step_new (.cells (madeCells #[.int .u8 0] 128) 5) tFill
 have C:=aw.alloc (.cells (madeCells #[.int .u8 0] 128) 5) tFill
 have af:=Own.born (w.alloc (.cells #[.int .u64 (s:Int),.int .u64 (B:Int),.int .u64 (ck:Int),.int .i64 (i:Int)] 116)) (τ.put w.heap.size tBox) tFill 5 (madeCells #[.int .u8 0] 128)
 rw[Qhm] at af
 simp only[World.size_alloc] at j C af
 generalize (τ.put w.heap.size tBox).put (w.heap.size+1) tFill=dj at *
 obtain⟨cc,dk,dl,cd,ax,ce,E⟩:=hid7 c9 ca cb aq C af j
 clear c9 ca cb aq C af j hs c4 c5 c6 av aw
 go_enter Tryz.func193,Tryz.ntmps193
 have b:¬(fun t=>t=tFill) tBox:=by simp[tFill,tBox]
 have cf:∀n,8=Nat.min (leB n 8).length 128:=fun n=>by rw[Qaa];rfl
 have F:∀n,8=Nat.min (leB n 8).length 119:=fun n=>by rw[Qaa];rfl
 have G:∀n,8=Nat.min (leB n 8).length 111:=fun n=>by rw[Qaa];rfl
 have ay:∀n,8=Nat.min (leB n 8).length 8:=fun n=>by rw[Qaa];rfl
 obtain⟨dm,bg,bh,cg⟩:=hid4 cf F G ay
 clear cf F G ay
 go_wp2_with fail
 refine(cc.out _ dj).mono ?_
 rintro e w3 ⟨u3,ch,rfl,bi,ag,ah⟩
 have az:=ax.out.trans (Step.of nil ah ag)
 have b0:=ce.out.step (Step.of nil ah ag) (fun h=>h)
 have I:=E.out.step (Step.of nil ah ag) (fun h=>h)
 obtain⟨L3,bj⟩:∃L,L=lay8 (List.replicate 128 0) 0 s:=⟨_,rfl⟩
 have b1:L3.length=128:=by rw[bj,Qhh _ _ _ (by rw[Z7];omega),Z7]
 have J:0+8<=(u8s (List.replicate 128 0)).length:=by rw[Qac,Z7];omega
 have dp:=I.at 3 rfl
 obtain⟨p3,k3,rfl,-,-⟩:=bi.any
 have dq:=Qaa s 8
 obtain⟨b2,b3,b4,ci,b5,M,cj⟩:=hid7 az b0 I bj b1 J bi
 clear az b0 I bj b1 J bi ag ah ax ce E
 have d:w.heap.size<=w.heap.size+1:=by omega
 go_wp2_with (refine Ql4 b2.out b3.out (.inr d) cj.out 8 (dm.out s) M.out rfl _ _ rfl rfl rfl ?_
              intro w4 N cm bk
              rw[Qhz,<-ci.out] at N
              have q:=b4.out.step bk b
              have dr:=q.at 3 rfl
              have ds:=q.at 1 rfl
              have c8:=N.at 8 (Qfw L3 8 (by rw[b5.out];omega))
              have z8:=N.fz 8
              obtain⟨cn,co,dt,b6⟩:=hid4 N cm bk q
              clear N cm bk q)
 have ai:=cn.out.set 8 (.int .u8 (i:Int))
 rw[Qy0] at ai
 have cp:=co.out.setNew (o:=8) d (.int .u8 (i:Int))
 have O:=b6.out.step ((Step.refl w4 ch (fun t=>t=tFill)).set (o:=8) cn.out.tag rfl (.int .u8 (i:Int))) b
 obtain⟨L5,aj⟩:∃L,L=L3.set 8 (i:Int):=⟨_,rfl⟩
 have R:L5.length=128:=by rw[aj,Y1];exact b5.out
 rw[<-aj] at ai
 generalize w4.setCell ⟨w.heap.size+1,8,none⟩ (.int .u8 (i:Int))=w5 at *
 clear dp ds dr c8 z8 b2 b3 b4 cj co dt b6 M dq
 have c51:=O.at 1 rfl
 have U:9+8<=(u8s L5).length:=by rw[Qac,R];omega
 obtain⟨dw,dx,cq,dy,b7,bm⟩:=hid6 ai cp O aj R U
 clear ai cp O aj R U
 go_region_law (first
  | (go_simp
     go_at_call 154
     refine(dk.out _ ch).mono ?_
     rintro e w6 ⟨u6,dz,rfl,bn,ak,al⟩
     have cr:=dx.out.drew.trans (Step.of nil al ak)
     have b8:=dw.out.drew.step (Step.of nil al ak) (fun h=>h)
     have X:=cq.out.drew.step (Step.of nil al ak) (fun h=>h)
     obtain⟨p6,k6,rfl,-,-⟩:=bn.any
     have e0:=Qaa B 8
     have c61:=X.at 1 rfl
     obtain⟨e1,cs,ct,e2⟩:=hid4 cr b8 X bn
     clear cr b8 X bn
     clear ak al)
  | (refine Qbb e1.out cs.out (.inr d) e2.out 8 (bg.out B) bm.out rfl _ _ rfl rfl rfl ?_
     intro w7 bo cv bp
     rw[Qhz] at bo
     have Y:=ct.out.step bp b
     have c72:=Y.at 2 rfl
     obtain⟨e3,e4,HW7,cw⟩:=hid4 bo cv bp Y
     clear bo cv bp Y))
 obtain⟨L8,am⟩:∃L,L=lay8 L5 9 B:=⟨_,rfl⟩
 have Z:L8.length=128:=by rw[am,Qhh _ _ _ (by rw[b7.out];omega)];exact b7.out
 have bq:=e3.out
 rw[<-am] at bq
 have a1:17+8<=(u8s L8).length:=by rw[Qac,Z];omega
 obtain⟨e6,e7,b9,br⟩:=hid4 bq am Z a1
 clear bq am Z a1 e0
 go_wp2_with fail
 go_region_law (first
  | (go_simp
     go_at_call 154
     refine(dl.out _ dz).mono ?_
     rintro e w9 ⟨u9,e8,rfl,bs,an,ao⟩
     have cx:=e4.out.drew.trans (Step.of nil ao an)
     have bb:=e6.out.drew.step (Step.of nil ao an) (fun h=>h)
     have a6:=cw.out.drew.step (Step.of nil ao an) (fun h=>h)
     obtain⟨p9,k9,rfl,-,-⟩:=bs.any
     have e9:=Qaa ck 8
     have c9x:=a6.at 2 rfl
     obtain⟨ea,cy,cz,eb⟩:=hid4 cx bb a6 bs
     clear cx bb a6 bs
     clear an ao)
  | (refine Qbb ea.out cy.out (.inr d) eb.out 8 (bh.out ck) br.out rfl _ _ rfl rfl rfl ?_
     intro w10 a7 bc a8
     rw[Qhz] at a7
     have k:=cz.out.step a8 b
     have c10x:=k.at 0 rfl
     obtain⟨da,db,HW10,bv⟩:=hid4 a7 bc a8 k
     clear a7 bc a8 k))
 obtain⟨bw,r⟩:∃L,L=lay8 L8 17 ck:=⟨_,rfl⟩
 have l:bw.length=128:=by rw[r,Qhh _ _ _ (by rw[b9.out];omega)];exact b9.out
 have aa:=da.out
 rw[<-r] at aa
 have x:120+8<=(u8s bw).length:=by rw[Qac,l];omega
 obtain⟨dc,dd,Hll11,ap⟩:=hid4 aa r l x
 clear aa r l x e9
 go_wp2_with fail
 go_region_law (first
  | (go_simp
     go_at_call 154
     refine(cc.out _ e8).mono ?_
     rintro e w12 ⟨u12,τ12,rfl,ab,y,z⟩
     have be:=db.out.drew.trans (Step.of nil z y)
     have ac:=dc.out.drew.step (Step.of nil z y) (fun h=>h)
     have m:=bv.out.drew.step (Step.of nil z y) (fun h=>h)
     obtain⟨p12,k12,rfl,-,-⟩:=ab.any
     have hl12:=Qaa s 8
     have c12x:=m.at 0 rfl
     obtain⟨de,bz,c3,df⟩:=hid4 be ac m ab
     clear be ac m ab
     clear y z)
  | (refine Qbb de.out bz.out (.inr d) df.out 8 (cg.out s) ap.out rfl _ _ rfl rfl rfl ?_
     intro w13 ad bf ae
     rw[Qhz] at ad
     have p:=c3.out.step ae b
     have c13x:=p.at 0 rfl
     obtain⟨dh,di,HW13,Hbx13⟩:=hid4 ad bf ae p
     clear ad bf ae p))
 go_wp2_with fail
 go_ret
 have ec:lay8 bw 120 s=headB s B ck i:=by rw[dd.out,e7.out,dy.out,ci.out];exact Qvu s B ck i
 have ho:=dh.out
 rw[ec] at ho
 have hb:=(ho.retag g).bytes cd.out (by rw[Qgm];unfold maxLen;omega)
 rw[Qgm] at hb
 exact⟨_,_,rfl,hb,di.out.retag d g⟩
def toU8 (l:List Int):List UInt8:=l.map (fun x=>UInt8.ofNat x.toNat)
theorem Qw0 {l m:List Int}(hl:IsB l) (d:IsB m) (h:toU8 l=toU8 m):l=m:=by
 induction l generalizing m with
 | nil=>cases m with
   | nil=>rfl
   | cons y r=>simp[toU8] at h
 | cons x l ih=>cases m with
   | nil=>simp[toU8] at h
   | cons y r =>
     simp only[toU8,X1,List.cons.injEq] at h
     have hx:=hl x (by simp)
     have hy:=d y (by simp)
     have h1:x=y:=by
      have:=congrArg UInt8.toNat h.1
      simp only[UInt8.toNat_ofNat'] at this
      omega
     rw[h1,ih (fun z b=>hl z (by simp[b])) (fun z b=>d z (by simp[b])) h.2]
theorem Qqc {l m:List Int}(hl:IsB l) (b:IsB m):(toU8 l==toU8 m)=decide (l=m):=by
 by_cases h:l=m
 ·subst h;simp
 ·have:toU8 l≠toU8 m:=fun e=>h (Qw0 hl b e)
  simp[h,this]
theorem Bytes.conv {g:Tag} {l:List Int}(h:Bytes w τ g v l):(convert 37 9 v).run Tryz.prog w = .ok (.string ⟨(toU8 l).toArray⟩) w:=by
 have q:=h.isB
 obtain⟨p,c,rfl,h1,h2,r⟩:=h.is
 by_cases h0:0<l.length
 ·obtain⟨b,o,rfl,_,d⟩:=r h0
  have hl:(toU8 l).length=l.length:=by simp[toU8]
  have:=run_convert_bytes_back (P:=Tryz.prog) w 37 9 5 ⟨b,o,none⟩ c (toU8 l) Tryz.underlying37 Tryz.underlying5 Tryz.underlying9 (fun j k=>by
   have i:j<l.length:=by rw[hl] at k;exact k
   have:=d j i
   have e:(⟨b,o,none⟩:Addr).add j=⟨b,o+j,none⟩:=by unfold Addr.add;split <;> simp_all
   rw[e,this]
   congr 2
   have m:=q.at j
   simp only[toU8,List.getElem_map,UInt8.toNat_ofNat']
   rw[Z5,Z3 i] at m ⊢
   simp only[Option.getD_some] at m ⊢
   omega)
  rw[hl] at this
  exact this
 ·have hn:l=[]:=List.eq_nil_of_length_eq_zero (by omega)
  subst hn
  cases p with
  | none=>exact Lib.run_convert_nil_bytes (P:=Tryz.prog) w 37 9 5 c Tryz.underlying37 Tryz.underlying5 Tryz.underlying9
  | some a=>exact run_convert_bytes_back (P:=Tryz.prog) w 37 9 5 a c [] Tryz.underlying37 Tryz.underlying5 Tryz.underlying9 (fun j k=>by simp at k)
theorem Qh7 {g g2:Tag} {u:Value} {l m:List Int}(h:Bytes w τ g v l) (k:Bytes w τ g2 u m) :
 Calls Tryz.prog 124 #[v,u] w fun e d=>e = .returned (.bool (decide (l=m)))/\w=d:=by
 have c1:=h.conv
 have c2:=k.conv
 have he:=Qqc h.isB k.isB
 generalize decide (l=m)=r at *
 clear h k
 generalize toU8 l=a at *
 generalize toU8 m=b at *
 go_enter Tryz.func124,Tryz.ntmps124
 go_wp2_with fail
 go_ret
 exact⟨rfl,rfl⟩
theorem Qng {g g2:Tag} {u:Value} {l m:List Int}(h:Bytes w τ g v l) (k:Bytes w τ g2 u m) :
 Calls Tryz.prog 17 #[v,u] w fun e d=>e = .returned (.bool (decide (l=m)))/\w=d:=by
 have c1:=h.conv
 have c2:=k.conv
 have he:=Qqc h.isB k.isB
 generalize decide (l=m)=r at *
 clear h k
 generalize toU8 l=a at *
 generalize toU8 m=b at *
 go_enter Tryz.func17,Tryz.ntmps17
 go_wp2_with fail
 go_ret
 exact⟨rfl,rfl⟩
def Dev.write (D:Dev) (f k:Nat) (l:List Int):Dev :=
 if D.go.1=true then (match (D.file f)[k]? with|some s=>D.go.2.put f ((D.file f).set k (s.add l))|none=>D) else D.go.2
def Dev.sync (D:Dev) (f:Nat):Dev:=if D.go.1=true then D.go.2.put f ((D.file f).map Sec.sync) else D.go.2
def Dev.lim (D:Dev) (b:Nat):Prop:=∀(f k:Nat) (s:Sec),(D.file f)[k]?=some s->s.waits.length<=b
theorem Dev.put_file (D:Dev) (f:Nat) (hf:f<2) (l:List Sec) (g:Nat):(D.put f l).file g=if g=f then l else D.file g:=by
 unfold Dev.put Dev.file
 rcases (by omega:f=0\/f=1) with rfl|rfl
 ·by_cases h:g=0
  ·subst h;simp
  ·simp[h]
 ·by_cases h:g=1
  ·subst h;simp
  ·by_cases h0:g=0
   ·subst h0;simp
   ·simp[h,h0]
theorem Dev.write_file (D:Dev) (f k:Nat) (b:f<2) (l:List Int) (g:Nat):((D.write f k l).file g).length=(D.file g).length:=by
 unfold Dev.write
 split
 ·cases h:(D.file f)[k]? with
  | none=>rfl
  | some s =>
    simp only
    rw[Dev.put_file _ _ b]
    split
    ·rename_i e;rw[e,Y1]
    ·rw[Dev.go_file]
 ·rw[Dev.go_file]
theorem Dev.sync_file (D:Dev) (f:Nat) (b:f<2) (g:Nat):((D.sync f).file g).length=(D.file g).length:=by
 unfold Dev.sync
 split
 ·rw[Dev.put_file _ _ b]
  split
  ·rename_i e;rw[e,Y0]
  ·rw[Dev.go_file]
 ·rw[Dev.go_file]
theorem Dev.lim_mono {a b:Nat}(h:D.lim a) (d:a<=b):D.lim b:=fun f k s hk=>Y3 (h f k s hk) d
theorem Dev.lim_go {b:Nat}(h:D.lim b):D.go.2.lim b:=fun f k s hk=>h f k s (by rw[Dev.go_file] at hk;exact hk)
theorem Dev.lim_write {b:Nat}(h:D.lim b) (f k:Nat) (m:f<2) (l:List Int):(D.write f k l).lim (b+1):=by
 unfold Dev.write
 split
 ·cases i:(D.file f)[k]? with
  | none=>exact Dev.lim_mono h (by omega)
  | some s =>
    intro g j t d
    simp only at d
    rw[Dev.put_file _ _ m] at d
    split at d
    ·by_cases e:j=k
     ·subst e
      rw[List.getElem?_set_self (Z4 i).1] at d
      cases d
      have:=h f j s i
      simp only[Sec.add,Z6,Y4,List.length_nil];omega
     ·rw[List.getElem?_set_ne (fun q=>e q.symm)] at d
      have:=h f j t d;omega
    ·rw[Dev.go_file] at d
     have:=h g j t d;omega
 ·exact Dev.lim_mono (Dev.lim_go h) (by omega)
theorem Dev.lim_sync {b:Nat}(h:D.lim b) (f:Nat) (e:f<2):(D.sync f).lim b:=by
 unfold Dev.sync
 split
 ·intro g j t d
  rw[Dev.put_file _ _ e] at d
  split at d
  ·rw[List.getElem?_map] at d
   obtain⟨s,hs,rfl⟩:=Option.map_eq_some_iff.1 d
   simp[Sec.sync]
  ·rw[Dev.go_file] at d
   exact h g j t d
 ·exact Dev.lim_go h
def DevR (w:World) (τ:Tags) (b:Nat) (D:Dev) (r:Value) (e:Ending) (w':World):Prop:=e = .returned r/\∃τ',DevAt w' τ' b D/\Step w τ w' τ' DevTag
theorem Qey {b:Nat}(h:DevAt w τ b D) (f:Nat) (z:f<2) (k:Nat) (hk:k<(D.file f).length) {v:Value}{l:List Int}{g:Tag}(m:Bytes w τ g v l) (hl:l.length=128) (B:¬DevTag g) (i:D.lim 900000) :
 Calls Tryz.prog 100 #[.pointer (some ⟨b,0,none⟩),.int .u8 (f:Int),.int .i64 (k:Int),v] w (DevR w τ b (D.write f k l) (.int .u16 0)):=by
 obtain⟨s,o⟩:∃s,(D.file f)[k]?=some s:=⟨_,Z3 hk⟩
 obtain⟨p,c,rfl,-,-⟩:=m.any
 rw[hl] at m ⊢
 cases d:D.go.1 with
 | true =>
   have:=Qug h f z k s o hl m ⟨fun e=>B (by rw[e];exact DevTag.dev),fun e=>B (by rw[e];exact DevTag.left)⟩ (by have:=i f k s o;omega) d
   refine this.mono ?_
   rintro e C ⟨q,r,hd,E,x⟩
   refine⟨q,r,?_,Step.mk' x E (fun j _ y=>?_)⟩
   ·unfold Dev.write;rw[if_pos d,o];exact hd
   ·rcases y with h|h|h
    ·rw[h];exact DevTag.dev
    ·rw[h];exact DevTag.left
    ·exact DevTag.file h
 | false =>
   have:=Qsr h f z k hk p c d
   refine this.mono ?_
   rintro e C ⟨q,hd,x,hz⟩
   refine⟨q,τ,?_,Step.mk' x (Ext.refl _ _) (fun j _ y=>?_)⟩
   ·unfold Dev.write;rw[if_neg (by rw[d];simp)];exact hd
   ·rcases y with h|h
    ·rw[h];exact DevTag.dev
    ·rw[h];exact DevTag.left
theorem Qhr {b:Nat}(h:DevAt w τ b D) (f:Nat) (m:f<2) :
 Calls Tryz.prog 101 #[.pointer (some ⟨b,0,none⟩),.int .u8 (f:Int)] w (DevR w τ b (D.sync f) (.tuple #[])):=by
 cases d:D.go.1 with
 | true =>
   refine(Qw2 h f m d).mono ?_
   rintro e o ⟨i,hd,k,p⟩
   refine⟨i,τ,?_,Step.mk' k (Ext.refl _ _) (fun j _ l=>?_)⟩
   ·unfold Dev.sync;rw[if_pos d];exact hd
   ·rcases l with h|h|h
    ·rw[h];exact DevTag.dev
    ·rw[h];exact DevTag.left
    ·rw[h];exact DevTag.file (f:=f) (.inl rfl)
 | false =>
   refine(Qut h f m d).mono ?_
   rintro e o ⟨i,hd,k,p⟩
   refine⟨i,τ,?_,Step.mk' k (Ext.refl _ _) (fun j _ l=>?_)⟩
   ·unfold Dev.sync;rw[if_neg (by rw[d];simp)];exact hd
   ·rcases l with h|h
    ·rw[h];exact DevTag.dev
    ·rw[h];exact DevTag.left
def Dev.last (D:Dev) (f k:Nat):List Int:=((D.file f)[k]?.map Sec.newest).getD []
theorem DevAt.length {b:Nat}(h:DevAt w τ b D) (f:Nat):(D.file f).length<=4096:=by
 obtain⟨v0,v1,d⟩:=h.as
 obtain⟨p,cap,_,_,h2,_⟩:=d.file f
 exact h2
theorem DevAt.last128 {b:Nat}(h:DevAt w τ b D) (f k:Nat) (hk:k<(D.file f).length):(D.last f k).length=128/\IsB (D.last f k):=by
 obtain⟨v0,v1,e⟩:=h.as
 obtain⟨p,cap,_,_,_,i⟩:=e.file f
 obtain⟨bf,xs,_,j,l⟩:=i (by omega)
 have d:(D.file f)[k]?=some (D.file f)[k]:=Z3 hk
 obtain⟨v,_,m,hl⟩:=Qin j (l k _ d)
 unfold Dev.last
 rw[d]
 exact⟨hl,m.isB⟩
theorem Qnm {b:Nat}(h:DevAt w τ b D) (f:Nat) (m:f<256) (k:Nat) (hk:k<(D.file f).length) (g:Tag) :
 Calls Tryz.prog 53 #[.pointer (some ⟨b,0,none⟩),.int .u8 (f:Int),.int .i64 (k:Int)] w fun e j=>∃u d,e = .returned (.tuple #[u,.int .u16 0])/\Bytes j d g u (D.last f k)/\Step w τ j d nil:=by
 have l:(D.file f)[k]?=some (D.file f)[k]:=Z3 hk
 refine(Qw9 h f m k _ l g).mono ?_
 rintro e j ⟨u,d,o,p,i,q⟩
 refine⟨u,d,o,?_,Step.of _ q i⟩
 unfold Dev.last
 rw[l];exact p
structure LogM where
 stamp:Nat
 base:Nat
 check:Nat
 area:Nat
 strips:Nat
 slot:Nat
 stream:List Int
 starts:List Nat
 lasts:Nat
def tLog:Tag:=(10,0)
def Qah:Tag:=(11,0)
def Qag:Tag:=(12,0)
def LogTag (g:Tag):Prop:=g=tLog\/g=Qah\/g=Qag
def i64s (l:List Nat):List Value:=l.map (fun (n:Nat)=>Value.int .i64 (n:Int))
def Qa8 (L:LogM) (bd:Nat) (vs vt:Value):List Value :=
 [.int .u64 (L.stamp:Int),.int .u64 (L.base:Int),.int .u64 (L.check:Int),.int .i64 (L.area:Int),.pointer (some ⟨bd,0,none⟩),.int .i64 (L.strips:Int),.int .i64 (L.slot:Int),vs,vt,.int .i64 (L.lasts:Int)]
structure LogM.ok (L:LogM):Prop where
 stamp:L.stamp<2 ^ 64
 base:L.base<=13835058055282163712
 check:L.check<2 ^ 64
 area:L.area<2
 strips:L.strips<=2047
 slot:L.slot<2
 stream:L.stream.length<=1000000
 starts:L.starts.length<=1000000
 lasts:L.lasts<=L.stream.length
structure LogAt (w:World) (τ:Tags) (bl bd:Nat) (L:LogM):Prop where
 is:∃vs vt,Own w τ bl tLog 118 (Qa8 L bd vs vt)/\Buf w τ Qah 5 1 vs L.stream.length (u8s L.stream)/\Buf w τ Qag 3 1 vt L.starts.length (i64s L.starts)
 isB:IsB L.stream
 ok:L.ok
theorem LogAt.step {e:World} {b:Tags} {S:Tag->Prop} {L:LogM}(h:LogAt w τ bl bd L) (m:Step w τ e b S) (d:∀g,LogTag g->¬S g):LogAt e b bl bd L:=by
 obtain⟨i,j,h1,h2,k⟩:=h.is
 exact⟨⟨i,j,h1.step m (d _ (.inl rfl)),h2.step m (d _ (.inr (.inl rfl))),k.step m (d _ (.inr (.inr rfl)))⟩,h.isB,h.ok⟩
theorem Qau (g:Tag) (h:LogTag g):¬DevTag g:=by
 rcases h with rfl|rfl|rfl <;> simp[DevTag,tLog,Qah,Qag]
def newLog (n:Nat):LogM:=⟨0,0,0,0,(n-2)/2,0,[],[],0⟩
theorem Jar(h:DevAt w τ bd D) (h18:18<=D.f0.length) :
 Calls Tryz.prog 51 #[.pointer (some ⟨bd,0,none⟩)] w fun e p=>∃bl l,e = .returned (.tuple #[.pointer (some ⟨bl,0,none⟩),.int .u16 0])/\w.heap.size<=bl/\LogAt p l bl bd (newLog D.f0.length)/\Step w τ p l nil:=by
 have k:=Qjs h 0 (by omega)
 have m:=h.length 0
 have s:D.file 0=D.f0:=rfl
 rw[s] at k m
 have j:=Own.new w τ tLog 118 (Qa8 (newLog D.f0.length) bd (.slice none 0 0) (.slice none 0 0))
 have d:=(Step.refl w τ nil).alloc (.cells ⟨Qa8 (newLog D.f0.length) bd (.slice none 0 0) (.slice none 0 0)⟩ 118) tLog
 have b:LogAt (w.alloc (.cells ⟨Qa8 (newLog D.f0.length) bd (.slice none 0 0) (.slice none 0 0)⟩ 118)) (τ.put w.heap.size tLog) w.heap.size bd (newLog D.f0.length) :=
  ⟨⟨_,_,j,Buf.nil _ _ _ _ _,Buf.nil _ _ _ _ _⟩,fun x y=>by simp[newLog] at y,by constructor <;> simp only[newLog] <;> first|omega|simp⟩
 have i:((newLog D.f0.length).strips:Int)=((D.f0.length:Int)-2)/2:=by simp only[newLog];omega
 unfold Qa8 at b d
 rw[i] at b d
 generalize D.f0.length=n at *
 simp only[newLog] at b d
 obtain⟨q,r,o⟩:=hid3 k d b
 clear k d b j h i
 have hge:(2:Int)<=(n:Int):=by omega
 have a1:decide (((n:Int)-2)/2<8)=false:=by simp;omega
 go_enter Tryz.func51,Tryz.ntmps51
 go_wp2_with fail
 refine q.out.mono ?_
 rintro e p ⟨rfl,rfl⟩
 go_wp2_with fail
 go_ret2
 exact⟨_,_,rfl,Z0 _,o.out,r.out⟩
theorem Qyg {L:LogM}(h:LogAt w τ bl bd L) :
 Calls Tryz.prog 181 #[.pointer (some ⟨bl,0,none⟩)] w fun e d=>e = .returned (.int .u64 (L.base:Int))/\w=d:=by
 obtain⟨vs,vt,b,_,_⟩:=h.is
 have c1:=b.at 1 (v:=.int .u64 (L.base:Int)) rfl
 clear h b
 go_enter Tryz.func181,Tryz.ntmps181
 go_wp2_with fail
 go_ret
 exact⟨rfl,rfl⟩
theorem Qwb {L:LogM}(h:LogAt w τ bl bd L) :
 Calls Tryz.prog 166 #[.pointer (some ⟨bl,0,none⟩)] w fun e d=>e = .returned (.int .u64 (L.check:Int))/\w=d:=by
 obtain⟨vs,vt,b,_,_⟩:=h.is
 have c1:=b.at 2 (v:=.int .u64 (L.check:Int)) rfl
 clear h b
 go_enter Tryz.func166,Tryz.ntmps166
 go_wp2_with fail
 go_ret
 exact⟨rfl,rfl⟩
theorem Qv5 {L:LogM}(h:LogAt w τ bl bd L) :
 Calls Tryz.prog 60 #[.pointer (some ⟨bl,0,none⟩)] w fun e d=>e = .returned (.pointer (some ⟨bd,0,none⟩))/\w=d:=by
 obtain⟨vs,vt,b,_,_⟩:=h.is
 have c1:=b.at 4 (v:=.pointer (some ⟨bd,0,none⟩)) rfl
 clear h b
 go_enter Tryz.func60,Tryz.ntmps60
 go_wp2_with fail
 go_ret
 exact⟨rfl,rfl⟩
theorem Qnj {L:LogM}(h:LogAt w τ bl bd L) :
 Calls Tryz.prog 89 #[.pointer (some ⟨bl,0,none⟩)] w fun e d=>e = .returned (.int .i64 (L.strips*127:Nat))/\w=d:=by
 obtain⟨vs,vt,b,_,_⟩:=h.is
 have c1:=b.at 5 (v:=.int .i64 (L.strips:Int)) rfl
 have hb:=h.ok.strips
 clear h b
 go_enter Tryz.func89,Tryz.ntmps89
 go_wp2_with fail
 go_ret
 exact⟨by simp,rfl⟩
theorem Qer {a b:Nat}(h:a+b<18446744073709551616):IntKind.u64.wrap ((a:Int)+(b:Int))=((a+b:Nat):Int):=by
 have:=Qam (a+b) h
 rw[<-this];congr 1
theorem Ql3 {L:LogM}(h:LogAt w τ bl bd L) :
 Calls Tryz.prog 142 #[.pointer (some ⟨bl,0,none⟩)] w fun e j=>e = .returned (.int .u64 ((L.base+L.stream.length:Nat):Int))/\Step w τ j τ nil:=by
 obtain⟨vs,vt,d,i,_⟩:=h.is
 obtain⟨p,c,rfl⟩:=i.len
 have c1:=d.at 1 (v:=.int .u64 (L.base:Int)) rfl
 have c7:=d.at 7 (v:=.slice p L.stream.length c) rfl
 have k:=h.ok.base
 have hl:=h.ok.stream
 have hw:=Qam L.stream.length (by omega)
 have hw2:=Qer (a:=L.base) (b:=L.stream.length) (by omega)
 generalize L.stream.length=n at *
 generalize L.base=bs at *
 clear h d i k hl
 go_enter Tryz.func142,Tryz.ntmps142
 go_wp2_with fail
 go_quiet (fail)
 go_wp2_with fail
 go_ret
 exact⟨rfl,(Step.refl w τ nil).drews nq⟩
theorem Qwp {L:LogM}(h:LogAt w τ bl bd L) :
 Calls Tryz.prog 184 #[.pointer (some ⟨bl,0,none⟩)] w fun e j=>e = .returned (.int .u64 ((L.base+L.lasts:Nat):Int))/\Step w τ j τ nil:=by
 obtain⟨vs,vt,d,k,_⟩:=h.is
 have c1:=d.at 1 (v:=.int .u64 (L.base:Int)) rfl
 have c9:=d.at 9 (v:=.int .i64 (L.lasts:Int)) rfl
 have l:=h.ok.base
 have hl:=h.ok.stream
 have i:=h.ok.lasts
 have hw:=Qam L.lasts (by omega)
 have hw2:=Qer (a:=L.base) (b:=L.lasts) (by omega)
 generalize L.lasts=n at *
 generalize L.base=bs at *
 clear h d k l hl i
 go_enter Tryz.func184,Tryz.ntmps184
 go_wp2_with fail
 go_quiet (fail)
 go_wp2_with fail
 go_ret
 exact⟨rfl,(Step.refl w τ nil).drews nq⟩
def Qff:List Int:=List.replicate 128 0
def Qck (want:List (List Int)) (i:Nat):List Int:=if i<want.length then want.getD i [] else Qff
def Qa7 (D:Dev) (from_:Nat) (want:List (List Int)):Nat->Dev×Bool
 | 0=>(D,false)
 | i+1=>if (Qa7 D from_ want i).1.last 0 (from_+i)=Qck want i then Qa7 D from_ want i else ((Qa7 D from_ want i).1.write 0 (from_+i) (Qck want i),true)
def Dev.make (D:Dev) (from_ n:Nat) (want:List (List Int)):Dev:=if (Qa7 D from_ want n).2=true then (Qa7 D from_ want n).1.sync 0 else (Qa7 D from_ want n).1
theorem Qdo (D:Dev) (from_:Nat) (want:List (List Int)) (i f:Nat):((Qa7 D from_ want i).1.file f).length=(D.file f).length:=by
 induction i with
 | zero=>rfl
 | succ i ih =>
   unfold Qa7
   split
   ·exact ih
   ·rw[Dev.write_file _ _ _ (by omega)];exact ih
theorem Qgw {b:Nat}(h:D.lim b) (from_:Nat) (want:List (List Int)) (i:Nat):(Qa7 D from_ want i).1.lim (b+i):=by
 induction i with
 | zero=>exact h
 | succ i ih =>
   unfold Qa7
   split
   ·exact Dev.lim_mono ih (by omega)
   ·exact Dev.lim_mono (Dev.lim_write ih 0 _ (by omega) _) (by omega)
theorem Dev.make_length (D:Dev) (from_ n:Nat) (want:List (List Int)) (f:Nat):((D.make from_ n want).file f).length=(D.file f).length:=by
 unfold Dev.make
 split
 ·rw[Dev.sync_file _ _ (by omega),Qdo]
 ·rw[Qdo]
theorem Dev.make_lim {b:Nat}(h:D.lim b) (from_ n:Nat) (want:List (List Int)):(D.make from_ n want).lim (b+n):=by
 unfold Dev.make
 split
 ·exact Dev.lim_sync (Qgw h _ _ _) 0 (by omega)
 ·exact Qgw h _ _ _
theorem Qay:¬DevTag tData:=by simp[DevTag,tData]
theorem Qxm {L:LogM}(hl:LogAt w τ bl bd L) (hd:DevAt w τ bd D) {g:Tag}{v:Value}{want:List (List Int)}(hw:Waits w τ g v want) (hg:¬DevTag g) (from_ n:Nat) (hfit:from_+n<=D.f0.length) (az:D.lim 800000) :
 Calls Tryz.prog 57 #[.pointer (some ⟨bl,0,none⟩),.int .i64 (from_:Int),.int .i64 (n:Int),v] w (DevR w τ bd (D.make from_ n want) (.tuple #[])):=by
 have rn:=Qcz
 have b7:=hd.length 0
 have b8:D.file 0=D.f0:=rfl
 rw[b8] at b7
 obtain⟨pw,cw,rfl,hwm,-⟩:=hw.read
 have hz:=Bytes.noughts w τ tData 128 (by unfold maxLen;omega)
 have b0:=(Step.refl w τ DevTag).alloc (.cells (madeCells #[.int .u8 0] 128) 5) tData
 have b9:=hd.step ((Step.refl w τ nil).alloc (.cells (madeCells #[.int .u8 0] 128) 5) tData) (fun _ h=>h.elim)
 generalize ba:want.length=nw at *
 obtain⟨Hl,Hw,bb,bp,Hz,bc,b1⟩:=hid7 hl hw b0 b9 hz az ba
 clear hl hw b0 b9 hz az ba hd
 go_enter Tryz.func57,Tryz.ntmps57
 go_wp2_with fail
 generalize w.alloc (.cells (madeCells #[.int .u8 0] 128) 5)=W0 at *
 generalize be:w.heap.size=zb at *
 have HZB:=Z2 be
 clear be
 go_loopw [8,16] (fun c v wr=>∃(i:Nat) (ah:Tags),i<=n/\v = .int .i64 (i:Int)/\c = .bool (Qa7 D from_ want i).2/\DevAt wr ah bd (Qa7 D from_ want i).1/\Bytes wr ah tData (.slice (some ⟨zb,0,none⟩) 128 128) Qff/\Step w τ wr ah DevTag) (fun _ v _=>n-(intOf v).toNat)
 case atStart=>exact⟨0,_,Z9 _,rfl,rfl,bp.out,Hz.out,bb.out⟩
 case round =>
  obtain⟨i,ah,hi,rfl,rfl,hd,hz,z⟩:=hrel
  have X:=Hl.out.step z Qau
  obtain⟨vs,vt,ho,-,-⟩:=X.is
  have c4:=ho.at 4 (v:=.pointer (some ⟨bd,0,none⟩)) rfl
  have Y:=Qdo D from_ want i 0
  have p:=Qgw bc.out from_ want i
  have d:Qa7 D from_ want (i+1)=if (Qa7 D from_ want i).1.last 0 (from_+i)=Qck want i then Qa7 D from_ want i else ((Qa7 D from_ want i).1.write 0 (from_+i) (Qck want i),true):=rfl
  rw[b8] at Y
  generalize hE:(Qa7 D from_ want i).1=E at *
  generalize hC:(Qa7 D from_ want i).2=C at *
  by_cases hlt:i<n
  ·
   obtain⟨vb,gb,O,a7,bf⟩:∃vb gb,Bytes wr ah gb vb (Qck want i)/\¬DevTag gb/\((i<nw/\∃b,pw=some ⟨b,0,none⟩/\wr.cell? ⟨b,i,none⟩=some vb)\/(¬i<nw/\vb = .slice (some ⟨zb,0,none⟩) 128 128)):=by
    by_cases R:i<nw
    ·obtain⟨p',c',bs,_,hr⟩:=(Hw.out.step z hg Qay).read
     cases bs
     obtain⟨x,hx⟩:∃x,want[i]?=some x:=⟨_,Z3 (by rw[b1.out];exact R)⟩
     obtain⟨_,b,u,bw,hc,hb⟩:=hr i x hx
     refine⟨u,tData,?_,Qay,.inl ⟨R,b,bw,hc⟩⟩
     unfold Qck
     rw[if_pos (by rw[b1.out];exact R),Z5,hx];exact hb
    ·refine⟨_,tData,?_,Qay,.inr ⟨R,rfl⟩⟩
     unfold Qck
     rw[if_neg (by rw[b1.out];exact R)];exact hz
   have m:(Qck want i).length=128:=by
    unfold Qck
    split
    ·rename_i R
     obtain⟨p',c',_,_,hr⟩:=Hw.out.read
     have hx:want[i]?=some (want.getD i []):=by rw[Z5,Z3 R];rfl
     exact(hr i _ hx).1
    ·simp[Qff]
   have hq:E.file 0=E.f0:=rfl
   have Z:=Qnm hd 0 (by omega) (from_+i) (by omega) tData
   have q:=(hd.last128 0 (from_+i) (by omega)).1
   rw[X3] at Z
   obtain⟨pb,kb,rfl,-,-⟩:=O.any
   rw[m] at O bf
   have a1:(from_:Int)+(i:Int)<=4096:=by omega
   generalize bz:Qck want i=x at *
   generalize a8:E.last 0 (from_+i)=y at *
   clear ho hq bz
   rcases bf with ⟨R,b,rfl,cb⟩|⟨hnin,bh⟩
   ·by_cases heq:y=x
    ·rw[if_pos heq] at d
     obtain⟨Hd,Hz,B,ak,al,F,k,HE,HC,a6,am,G⟩:=hid12 hd hz z X Y p d hE hC O a7 m
     obtain⟨ad,s,ae,b2⟩:=hid4 Z q heq a8
     clear hd hz z X Y p d hE hC O a7 m Z q heq a8
     go_wp2_with fail
     refine ad.out.mono ?_
     rintro e w1 ⟨u1,τ1,rfl,o,j⟩
     obtain⟨p1,k1,rfl,-,-⟩:=o.any
     rw[s.out] at o ⊢
     have l:=Qh7 o (a6.out.step j (fun h=>h))
     rw[decide_eq_true ae.out] at l
     have I:=Hd.out.step j (fun _ h=>h.elim)
     have J:=Hz.out.step j (fun h=>h)
     have r:=B.out.trans (j.mono (fun _ h=>h.elim))
     obtain⟨M,b3,af,N⟩:=hid4 l I J r
     clear l I J r o j
     go_wp2_with fail
     refine M.out.mono ?_
     rintro e w' ⟨rfl,rfl⟩
     go_wp2_with fail
     go_round
     case rel=>exact⟨i+1,τ1,by omega,by simp,by rw[k.out,HC.out],by rw[k.out,HE.out];exact b3.out,af.out,N.out⟩
     case measure=>simp[intOf];omega
    ·rw[if_neg heq] at d
     obtain⟨Hd,Hz,B,ak,al,F,k,HE,HC,a6,am,G⟩:=hid12 hd hz z X Y p d hE hC O a7 m
     obtain⟨ad,s,ae,b2⟩:=hid4 Z q heq a8
     clear hd hz z X Y p d hE hC O a7 m Z q heq a8
     go_wp2_with fail
     refine ad.out.mono ?_
     rintro e w1 ⟨u1,τ1,rfl,o,j⟩
     obtain⟨p1,k1,rfl,-,-⟩:=o.any
     rw[s.out] at o ⊢
     have l:=Qh7 o (a6.out.step j (fun h=>h))
     rw[decide_eq_false ae.out] at l
     have aa:=ak.out.step j (fun _ _ h=>h)
     obtain⟨c8,c9,an,-,-⟩:=aa.is
     have ca:=an.at 4 (v:=.pointer (some ⟨bd,0,none⟩)) rfl
     have I:=Hd.out.step j (fun _ h=>h.elim)
     have ag:=Qey I 0 (by omega) (from_+i) (by have:=al.out;have hq:E.file 0=E.f0:=rfl;rw[hq] at this ⊢;omega) (a6.out.step j (fun h=>h)) G.out am.out (Dev.lim_mono F.out (by omega))
     rw[X3] at ag
     have J:=Hz.out.step j (fun h=>h)
     have r:=B.out.trans (j.mono (fun _ h=>h.elim))
     obtain⟨M,b4,af,N⟩:=hid4 l ag J r
     clear l ag J r o j aa an I
     go_wp2_with fail
     refine M.out.mono ?_
     rintro e w' ⟨rfl,rfl⟩
     go_wp2_with fail
     refine b4.out.mono ?_
     rintro e w2 ⟨rfl,ao,ab,U⟩
     have ap:=af.out.step U Qay
     have ac:=N.out.trans U
     obtain⟨aq,b5,ar⟩:=hid3 ab ap ac
     clear ab ap ac U
     go_wp2_with fail
     go_round
     case rel=>exact⟨i+1,ao,by omega,by simp,by rw[k.out],by rw[k.out];exact aq.out,b5.out,ar.out⟩
     case measure=>simp[intOf];omega
   ·by_cases heq:y=x
    ·rw[if_pos heq] at d
     cases bh
     obtain⟨Hd,Hz,B,ak,al,F,k,HE,HC,a6,am,G⟩:=hid12 hd hz z X Y p d hE hC O a7 m
     obtain⟨ad,s,ae,b2⟩:=hid4 Z q heq a8
     clear hd hz z X Y p d hE hC O a7 m Z q heq a8
     go_wp2_with fail
     refine ad.out.mono ?_
     rintro e w1 ⟨u1,τ1,rfl,o,j⟩
     obtain⟨p1,k1,rfl,-,-⟩:=o.any
     rw[s.out] at o ⊢
     have l:=Qh7 o (a6.out.step j (fun h=>h))
     rw[decide_eq_true ae.out] at l
     have I:=Hd.out.step j (fun _ h=>h.elim)
     have J:=Hz.out.step j (fun h=>h)
     have r:=B.out.trans (j.mono (fun _ h=>h.elim))
     obtain⟨M,b3,af,N⟩:=hid4 l I J r
     clear l I J r o j
     go_wp2_with fail
     refine M.out.mono ?_
     rintro e w' ⟨rfl,rfl⟩
     go_wp2_with fail
     go_round
     case rel=>exact⟨i+1,τ1,by omega,by simp,by rw[k.out,HC.out],by rw[k.out,HE.out];exact b3.out,af.out,N.out⟩
     case measure=>simp[intOf];omega
    ·rw[if_neg heq] at d
     cases bh
     obtain⟨Hd,Hz,B,ak,al,F,k,HE,HC,a6,am,G⟩:=hid12 hd hz z X Y p d hE hC O a7 m
     obtain⟨ad,s,ae,b2⟩:=hid4 Z q heq a8
     clear hd hz z X Y p d hE hC O a7 m Z q heq a8
     go_wp2_with fail
     refine ad.out.mono ?_
     rintro e w1 ⟨u1,τ1,rfl,o,j⟩
     obtain⟨p1,k1,rfl,-,-⟩:=o.any
     rw[s.out] at o ⊢
     have l:=Qh7 o (a6.out.step j (fun h=>h))
     rw[decide_eq_false ae.out] at l
     have aa:=ak.out.step j (fun _ _ h=>h)
     obtain⟨c8,c9,an,-,-⟩:=aa.is
     have ca:=an.at 4 (v:=.pointer (some ⟨bd,0,none⟩)) rfl
     have I:=Hd.out.step j (fun _ h=>h.elim)
     have ag:=Qey I 0 (by omega) (from_+i) (by have:=al.out;have hq:E.file 0=E.f0:=rfl;rw[hq] at this ⊢;omega) (a6.out.step j (fun h=>h)) G.out am.out (Dev.lim_mono F.out (by omega))
     rw[X3] at ag
     have J:=Hz.out.step j (fun h=>h)
     have r:=B.out.trans (j.mono (fun _ h=>h.elim))
     obtain⟨M,b4,af,N⟩:=hid4 l ag J r
     clear l ag J r o j aa an I
     go_wp2_with fail
     refine M.out.mono ?_
     rintro e w' ⟨rfl,rfl⟩
     go_wp2_with fail
     refine b4.out.mono ?_
     rintro e w2 ⟨rfl,ao,ab,U⟩
     have ap:=af.out.step U Qay
     have ac:=N.out.trans U
     obtain⟨aq,b5,ar⟩:=hid3 ab ap ac
     clear ab ap ac U
     go_wp2_with fail
     go_round
     case rel=>exact⟨i+1,ao,by omega,by simp,by rw[k.out],by rw[k.out];exact aq.out,b5.out,ar.out⟩
     case measure=>simp[intOf];omega
  ·have R:i=n:=by omega
   subst R
   have ai:D.make from_ i want=if C=true then E.sync 0 else E:=by unfold Dev.make;rw[hC,hE]
   clear ho d
   cases C with
   | false =>
     rw[if_neg (by simp)] at ai
     obtain⟨Hd,B,b6⟩:=hid3 hd z ai
     clear hd z ai
     go_wp2_with fail
     go_returns
     exact⟨rfl,ah,by rw[b6.out];exact Hd.out,B.out⟩
   | true =>
     rw[if_pos rfl] at ai
     have bk:=Qhr hd 0 (by omega)
     obtain⟨Hd,B,b6,cc⟩:=hid4 hd z ai bk
     clear hd z ai bk
     go_wp2_with fail
     refine cc.out.mono ?_
     rintro e w2 ⟨rfl,ao,ab,U⟩
     obtain⟨aq,cd⟩:=hid2 ab U
     clear ab U
     go_wp2_with fail
     go_returns
     exact⟨rfl,ao,by rw[b6.out];exact aq.out,B.out.trans cd.out⟩
def LogM.said (L:LogM):LogM:={L with stamp:=(L.stamp+1)%18446744073709551616,slot:=1-L.slot}
def LogM.head (L:LogM):List Int:=headB L.stamp L.base L.check L.area
def Qf9 (L:LogM) (D:Dev):Dev:=(D.write 0 L.said.slot L.said.head).sync 0
def WalTag (g:Tag):Prop:=LogTag g\/DevTag g
theorem Qj6:¬WalTag tData:=by simp[WalTag,LogTag,DevTag,tData,tLog,Qah,Qag]
def WalR (w:World) (τ:Tags) (bl bd:Nat) (L:LogM) (D:Dev) (r:Value) (e:Ending) (w':World):Prop:=e = .returned r/\∃τ',LogAt w' τ' bl bd L/\DevAt w' τ' bd D/\Step w τ w' τ' WalTag
theorem Qrw (n:Nat):IntKind.u64.wrap ((n:Int)+1)=(((n+1)%18446744073709551616:Nat):Int):=by
 have:IntKind.u64.wrap ((n:Int)+1)=((n:Int)+1)%18446744073709551616:=by simp[IntKind.wrap,IntKind.bits,IntKind.signed]
 rw[this];omega
theorem LogM.ok.said {L:LogM}(h:L.ok):L.said.ok:=by
 refine⟨?_,h.base,h.check,h.area,h.strips,?_,h.stream,h.starts,h.lasts⟩
 ·show (L.stamp+1)%18446744073709551616<2 ^ 64
  have:=Y9 (L.stamp+1) (by omega:18446744073709551616>0)
  omega
 ·show 1-L.slot<2
  omega
theorem Qq6 {g:Tag}(h:LogTag g):WalTag g:=.inl h
theorem Qy5 {L:LogM}(hl:LogAt w τ bl bd L) (hd:DevAt w τ bd D) (h2:2<=D.f0.length) (x:D.lim 800000) :
 Calls Tryz.prog 113 #[.pointer (some ⟨bl,0,none⟩)] w (WalR w τ bl bd L.said (Qf9 L D) (.tuple #[])):=by
 have C:=hl.ok
 have hB:=hl.isB
 obtain⟨vs,vt,y,hs,ht⟩:=hl.is
 have hsl:=C.slot
 have c0:=y.at 0 (v:=.int .u64 (L.stamp:Int)) rfl
 have z0:=y.fz 0
 have c6:=y.at 6 (v:=.int .i64 (L.slot:Int)) rfl
 have z6:=y.fz 6
 have b:=(y.set 0 (.int .u64 (((L.stamp+1)%18446744073709551616:Nat):Int))).set 6 (.int .i64 ((1-L.slot:Nat):Int))
 have d:Step w τ ((w.setCell ⟨bl,0,none⟩ (.int .u64 (((L.stamp+1)%18446744073709551616:Nat):Int))).setCell ⟨bl,6,none⟩ (.int .i64 ((1-L.slot:Nat):Int))) τ (fun g=>g=tLog):=((Step.refl w τ (fun g=>g=tLog)).set (o:=0) y.tag rfl _).set (o:=6) (y.set 0 (.int .u64 (((L.stamp+1)%18446744073709551616:Nat):Int))).tag rfl _
 have p:LogAt ((w.setCell ⟨bl,0,none⟩ (.int .u64 (((L.stamp+1)%18446744073709551616:Nat):Int))).setCell ⟨bl,6,none⟩ (.int .i64 ((1-L.slot:Nat):Int))) τ bl bd L.said :=
  ⟨⟨vs,vt,b,hs.step d (by simp[Qah,tLog]),ht.step d (by simp[Qag,tLog])⟩,hB,C.said⟩
 have r:=hd.step d (fun g hg=>by subst hg;exact⟨Qau _ (.inl rfl),by simp[tLog,tData]⟩)
 have hw:=Qrw L.stamp
 have ae:(1:Int)-(L.slot:Int)=((1-L.slot:Nat):Int):=by omega
 have j:L.said={L with stamp:=(L.stamp+1)%18446744073709551616,slot:=1-L.slot}:=rfl
 have m:=d.mono (T:=LogTag) (fun g hg=>.inl hg)
 generalize af:L.said=Ls at *
 have e0:Ls.stamp=(L.stamp+1)%18446744073709551616:=by rw[j]
 have e6:Ls.slot=1-L.slot:=by rw[j]
 rw[<-e0] at hw m p r
 rw[<-e6] at ae m p r
 have R:Qf9 L D=(D.write 0 Ls.slot Ls.head).sync 0:=by unfold Qf9;rw[af]
 have z:=p.ok
 obtain⟨U,X,ai,Y,aj,i⟩:=hid6 m p r x R z
 clear m p r x R z y hs ht b d hl hd C j e0 e6 hB
 go_enter Tryz.func113,Tryz.ntmps113
 go_wp2_with fail
 generalize (w.setCell ⟨bl,0,none⟩ (.int .u64 (Ls.stamp:Int))).setCell ⟨bl,6,none⟩ (.int .i64 (Ls.slot:Int))=W1 at *
 obtain⟨vs1,vt1,b,-,-⟩:=X.out.is
 clear c0 z0 c6 z6
 have c0:=b.at 0 (v:=.int .u64 (Ls.stamp:Int)) rfl
 have c1:=b.at 1 (v:=.int .u64 (Ls.base:Int)) rfl
 have c2:=b.at 2 (v:=.int .u64 (Ls.check:Int)) rfl
 have c3:=b.at 3 (v:=.int .i64 (Ls.area:Int)) rfl
 have c4:=b.at 4 (v:=.pointer (some ⟨bd,0,none⟩)) rfl
 have c6:=b.at 6 (v:=.int .i64 (Ls.slot:Int)) rfl
 clear b
 have Z:=i.out.slot
 have q:=Qs5 W1.drew τ tData Ls.stamp Ls.base Ls.check Ls.area i.out.stamp (by have:=i.out.base;omega) i.out.check (by have:=i.out.area;omega)
 have E:headB Ls.stamp Ls.base Ls.check Ls.area=Ls.head:=rfl
 rw[E] at q
 obtain⟨a1,ak,al⟩:=hid3 q E Z
 clear q E Z
 go_region_held3 (fun O=>O.cell? ⟨bl,0,none⟩=some (.int .u64 (Ls.stamp:Int))/\O.cell? ⟨bl,1,none⟩=some (.int .u64 (Ls.base:Int))/\O.cell? ⟨bl,2,none⟩=some (.int .u64 (Ls.check:Int))/\O.cell? ⟨bl,3,none⟩=some (.int .i64 (Ls.area:Int))/\O.cell? ⟨bl,4,none⟩=some (.pointer (some ⟨bd,0,none⟩))/\O.cell? ⟨bl,6,none⟩=some (.int .i64 (Ls.slot:Int))) (go_keep) (first
  | (go_at_call 193
     refine a1.out.mono ?_
     rintro e w2 ⟨u2,τ2,rfl,a6,s⟩
     have F:=(X.out.step (Step.refl W1 τ nil).drew (fun _ _ h=>h)).step s (fun _ _ h=>h)
     have G:=(ai.out.step (Step.refl W1 τ nil).drew (fun _ h=>h.elim)).step s (fun _ h=>h.elim)
     obtain⟨vs2,vt2,k,-,-⟩:=F.is
     have d0:=k.at 0 (v:=.int .u64 (Ls.stamp:Int)) rfl
     have d1:=k.at 1 (v:=.int .u64 (Ls.base:Int)) rfl
     have d2:=k.at 2 (v:=.int .u64 (Ls.check:Int)) rfl
     have d3:=k.at 3 (v:=.int .i64 (Ls.area:Int)) rfl
     have d4:=k.at 4 (v:=.pointer (some ⟨bd,0,none⟩)) rfl
     have d6:=k.at 6 (v:=.int .i64 (Ls.slot:Int)) rfl
     have a7:=Qey G 0 (by omega) Ls.slot (by have hq:D.file 0=D.f0:=rfl;rw[hq];have:=al.out;omega) a6 (by rw[<-ak.out];exact Qgm _ _ _ _) Qay (Dev.lim_mono Y.out (by omega))
     obtain⟨am,Hd2,an,ao⟩:=hid4 F G s a7
     clear F G s a7
     clear k a6)
  | (go_at_call 100
     refine ao.out.mono ?_
     rintro e w3 ⟨rfl,τ3,I,J⟩
     have M:=am.out.step J Qau
     obtain⟨vs3,vt3,l,-,-⟩:=M.is
     have e0:=l.at 0 (v:=.int .u64 (Ls.stamp:Int)) rfl
     have e1:=l.at 1 (v:=.int .u64 (Ls.base:Int)) rfl
     have e2:=l.at 2 (v:=.int .u64 (Ls.check:Int)) rfl
     have e3:=l.at 3 (v:=.int .i64 (Ls.area:Int)) rfl
     have e4:=l.at 4 (v:=.pointer (some ⟨bd,0,none⟩)) rfl
     have e6:=l.at 6 (v:=.int .i64 (Ls.slot:Int)) rfl
     have a8:=Qhr I 0 (by omega)
     obtain⟨ap,Hd3,aq,ar⟩:=hid4 M I J a8
     clear M I J a8
     clear l))
 go_wp2_with fail
 refine ar.out.mono ?_
 rintro e w4 ⟨rfl,av,aa,N⟩
 have ab:=ap.out.step N Qau
 have B:=((((U.out.mono (fun _ h=>Qq6 h)).drew).trans (an.out.mono (fun _ h=>h.elim))).trans (aq.out.mono (T:=WalTag) (fun _ h=>.inr h))).trans (N.mono (T:=WalTag) (fun _ h=>.inr h))
 obtain⟨aw,ax,ac⟩:=hid3 ab aa B
 clear ab aa B N
 go_wp2_with fail
 go_returns
 exact⟨rfl,av,aw.out,by rw[aj.out];exact ax.out,ac.out⟩
def Qb8 (n:Nat):LogM:={newLog n with base:=1,slot:=1}
def walNewLog (n:Nat):LogM:=(Qb8 n).said
def Qbl (D:Dev):Dev:=Qf9 (Qb8 D.f0.length) (D.make 0 D.f0.length [])
theorem Qmj(h:DevAt w τ bd D) (a7:18<=D.f0.length) (p:D.lim 700000) :
 Calls Tryz.prog 45 #[.pointer (some ⟨bd,0,none⟩)] w fun e w'=>∃bl s,e = .returned (.tuple #[.pointer (some ⟨bl,0,none⟩),.int .u16 0])/\w.heap.size<=bl/\LogAt w' s bl bd (walNewLog D.f0.length)/\DevAt w' s bd (Qbl D)/\Step w τ w' s WalTag:=by
 have h1:=Jar h a7
 have G:=h.length 0
 have j:D.file 0=D.f0:=rfl
 rw[j] at G
 generalize hn:D.f0.length=n at *
 have I:Qbl D=Qf9 (Qb8 n) (D.make 0 n []):=by unfold Qbl;rw[hn]
 obtain⟨H1,a8,q,aa,Hn⟩:=hid5 h1 h p I hn
 clear h1 h p I hn j
 go_enter Tryz.func45,Tryz.ntmps45
 go_wp2_with fail
 refine H1.out.mono ?_
 rintro e w1 ⟨bl,τ1,rfl,J,x,y⟩
 have k:=a8.out.step y (fun _ h=>h.elim)
 have z:=Qjs k 0 (by omega)
 have j:D.file 0=D.f0:=rfl
 rw[j,Hn.out] at z
 have L:=Qxm x k (g:=tData) (v:=.slice none 0 0) (want:=[]) (.inl ⟨rfl,rfl⟩) Qay 0 n (by rw[Hn.out];omega) (Dev.lim_mono q.out (by omega))
 obtain⟨ac,ad,Hd1,ae,af⟩:=hid5 x y k z L
 clear x y k z L H1 j
 go_wp2_with fail
 refine ae.out.mono ?_
 rintro e w' ⟨rfl,rfl⟩
 go_wp2_with fail
 refine af.out.mono ?_
 rintro e w2 ⟨rfl,l,M,B⟩
 have m:=ac.out.step B Qau
 have b:=m.ok
 obtain⟨vs,vt,d,N,O⟩:=m.is
 have c1:=d.at 1 (v:=.int .u64 0) rfl
 have z1:=d.fz 1
 have c6:=d.at 6 (v:=.int .i64 0) rfl
 have z6:=d.fz 6
 have c3:=d.at 3 (v:=.int .i64 0) rfl
 have i:Step w2 l ((w2.setCell ⟨bl,1,none⟩ (.int .u64 1)).setCell ⟨bl,6,none⟩ (.int .i64 1)) l (fun g=>g=tLog):=((Step.refl w2 l (fun g=>g=tLog)).set (o:=1) d.tag rfl _).set (o:=6) (d.set 1 (.int .u64 1)).tag rfl _
 have C:LogAt ((w2.setCell ⟨bl,1,none⟩ (.int .u64 1)).setCell ⟨bl,6,none⟩ (.int .i64 1)) l bl bd (Qb8 n) :=
  ⟨⟨vs,vt,(d.set 1 (.int .u64 1)).set 6 (.int .i64 1),N.step i (by simp[Qah,tLog]),O.step i (by simp[Qag,tLog])⟩,m.isB,⟨b.stamp,by simp[Qb8],b.check,b.area,b.strips,by simp[Qb8],b.stream,b.starts,b.lasts⟩⟩
 have F:=M.step i (fun g hg=>by subst hg;exact⟨Qau _ (.inl rfl),by simp[tLog,tData]⟩)
 have r:=Qy5 C F (by have:=Dev.make_length D 0 n [] 0;have hq:∀E:Dev,E.file 0=E.f0:=fun _=>rfl;rw[hq,hq,Hn.out] at this;omega) (Dev.lim_mono (Dev.make_lim q.out 0 n []) (by omega))
 obtain⟨ag,R,Hl3,Hd3,U⟩:=hid5 B i C F r
 clear B i C F r d N O m b M
 go_wp2_with fail
 refine U.out.mono ?_
 rintro e w4 ⟨rfl,ah,X,Y,Z⟩
 obtain⟨ai,aj,ak⟩:=hid3 X Y Z
 clear X Y Z
 go_wp2_with fail
 go_ret2
 refine⟨bl,ah,rfl,J,ai.out,by rw[aa.out];exact aj.out,?_⟩
 exact(((ad.out.mono (fun _ h=>h.elim)).trans (ag.out.mono (T:=WalTag) (fun _ h=>.inr h))).trans (R.out.mono (T:=WalTag) (fun _ h=>.inl (.inl h)))).trans ak.out
structure PageAt (w:World) (τ:Tags) (g:Tag) (b:Nat) (P:List Int):Prop where
 own:Own w τ b g 154 (u8s P)
 isB:IsB P
 len:P.length=448
theorem PageAt.step {e:World} {d:Tags} {S:Tag->Prop} {g:Tag} {b:Nat}(h:PageAt w τ g b P) (m:Step w τ e d S) (i:¬S g):PageAt e d g b P:=⟨h.own.step m i,h.isB,h.len⟩
def zeros448:List Int:=List.replicate 448 0
def layN (l:List Int) (off:Nat) (m:List Int):List Int:=l.take off++m++l.drop (off+m.length)
theorem Qae (l:List Int) (off:Nat) (m:List Int) (h:off+m.length<=l.length):(layN l off m).length=l.length:=by
 unfold layN;simp only[Z6,List.length_take,List.length_drop];omega
theorem Qaw {l m:List Int}(hl:IsB l) (d:IsB m) (off:Nat):IsB (layN l off m):=by
 intro x b
 unfold layN at b
 rcases List.mem_append.1 b with b|b
 ·rcases List.mem_append.1 b with b|b
  ·exact hl x (List.mem_of_mem_take b)
  ·exact d x b
 ·exact hl x (List.mem_of_mem_drop b)
theorem Qby (l m:List Int) (off k:Nat) (hk:k=m.length):over (u8s l) off (u8s (m.take k))=u8s (layN l off m):=by
 subst hk
 rw[Qsc,List.take_length];rfl
theorem Qbp {L:World} {x:Tags} {S:Tag->Prop}(y:Step L x w τ S) {g:Tag}{b:Nat}{P:List Int}(hS:S g\/L.heap.size<=b) (h:PageAt w τ g b P) (at_ k n:Nat) (h1:1<=k) (h8:k<=8) (l:at_+k<=448) (hn:n<2 ^ 64) :
 Calls Tryz.prog 114 #[.pointer (some ⟨b,0,none⟩),.int .i64 (at_:Int),.int .i64 (k:Int),.int .u64 (n:Int)] w fun e M=>e = .returned (.tuple #[])/\∃q,PageAt M q g b (layN P at_ (leB n k))/\Step L x M q S/\Step w τ M q (fun t=>t=g):=by
 have hp:=Qeu w.drew τ tData n k hn h1 h8
 have d:=h.len
 have m:PageAt w τ g b P:=h
 have hle:at_<=448:=by omega
 have hlei:(at_:Int)<=448:=by omega
 have hne:¬at_=448:=by omega
 have hne':¬448=at_:=by omega
 have ho:=h.own.drew
 have o:k=Nat.min (leB n k).length (448-at_):=by rw[Qaa];exact(Nat.min_eq_left (by omega)).symm
 have z:at_+k<=(u8s P).length:=by rw[Qac,d];exact l
 obtain⟨Hp,p,B,Ho,C,N,O,HS⟩:=hid8 hp d m ho o z y hS
 clear hp d m ho o z y hS h hn
 go_enter Tryz.func114,Tryz.ntmps114
 go_region_law (first
  | (go_simp
     go_at_call 154
     refine Hp.out.mono ?_
     rintro e w2 ⟨u2,R,rfl,r,i,j⟩
     have E:=O.out.drew.trans (Step.of _ j i)
     have F:=(Step.refl w τ (fun t=>t=g)).drew.trans (Step.of _ j i)
     have G:=Ho.out.step (Step.of nil j i) (fun h=>h)
     obtain⟨p2,c2,rfl,-,-⟩:=r.any
     obtain⟨U,X,Y,Z⟩:=hid4 E G r F
     clear E G r F
     clear i j)
  | (refine Qbb U.out X.out HS.out Y.out k C.out N.out rfl _ _ rfl rfl rfl ?_
     intro w3 s I J
     rw[Qby _ _ _ _ (Qaa n k).symm] at s
     obtain⟨a1,a6,a7⟩:=hid3 s I J
     clear s I J))
 all_goals go_returns
 all_goals exact⟨rfl,R,⟨a1.out,Qaw B.out.isB (Qan n k) at_,by rw[Qae _ _ _ (by rw[Qaa,p.out];exact l)];exact p.out⟩,a6.out,Z.out.trans a7.out⟩
def emptyPage (n:Nat):List Int:=layN (layN zeros448 8 (leB n 4)) 14 (leB 448 2)
theorem Qgz:Tryz.zeroCells154 = (u8s zeros448).toArray:=by kernel_rfl
theorem Qda:IsB zeros448:=fun x b=>by rw[(List.mem_replicate.1 b).2];omega
theorem Qk3 (w:World) (τ:Tags) (g:Tag) (n:Nat) (hn:n<4294967296) :
 Calls Tryz.prog 46 #[.int .u32 (n:Int)] w fun e s=>∃b h,e = .returned (.pointer (some ⟨b,0,none⟩))/\w.heap.size<=b/\PageAt s h g b (emptyPage n)/\Step w τ s h nil:=by
 have m:=Own.born w τ g 154 Tryz.zeroCells154
 have o:=(Step.refl w τ nil).alloc (.cells Tryz.zeroCells154 154) g
 rw[Qgz] at m
 have i:PageAt (w.alloc (.cells Tryz.zeroCells154 154)) (τ.put w.heap.size g) g w.heap.size zeros448:=⟨by rw[Qgz];exact m,Qda,by simp[zeros448]⟩
 have h1:=Qbp o (.inr (Z0 _)) i 8 4 n (by omega) (by omega) (by omega) (by omega)
 obtain⟨Hs,x⟩:=hid2 o h1
 clear o h1 m i
 go_enter Tryz.func46,Tryz.ntmps46
 go_wp2_with fail
 refine x.out.mono ?_
 rintro e w1 ⟨rfl,τ1,j,d,-⟩
 have h2:=Qbp d (.inr (Z0 _)) j 14 2 448 (by omega) (by omega) (by omega) (by omega)
 obtain⟨y,Hs1⟩:=hid2 h2 d
 clear h2 d j
 go_wp2_with fail
 refine y.out.mono ?_
 rintro e w2 ⟨rfl,p,k,l,-⟩
 obtain⟨q,r⟩:=hid2 k l
 clear k l
 go_wp2_with fail
 go_ret
 exact⟨_,p,rfl,Z0 _,q.out,r.out⟩
def pageN (P:List Int) (at_ k:Nat):Nat:=leN ((P.drop at_).take k) k
theorem PageAt.bytes {g:Tag} {b:Nat}(h:PageAt w τ g b P):Bytes w τ g (.slice (some ⟨b,0,none⟩) 448 448) P:=by
 have:=h.own
 refine⟨h.isB,some ⟨b,0,none⟩,448,by rw[h.len],by rw[h.len];exact Z0 _,by unfold maxLen;omega,fun _=>⟨b,0,rfl,this.tag,fun i hi=>?_⟩⟩
 rw[Nat.zero_add]
 exact this.at i (Qfw P i hi)
theorem PageAt.part {g:Tag} {b:Nat}(h:PageAt w τ g b P) (at_ k:Nat) (h1:1<=k) (hfit:at_+k<=448):Bytes w τ g (.slice (some ⟨b,at_,none⟩) k (448-at_)) ((P.drop at_).take k)/\((P.drop at_).take k).length=k:=by
 have d:=h.bytes.sub at_ (at_+k) (448-at_) (by omega) (by omega) (by omega) (by unfold maxLen;omega)
 rw[Nat.add_sub_cancel_left,Nat.zero_add] at d
 exact⟨d,by rw[List.length_take,List.length_drop,h.len];omega⟩
theorem Qjw(h:IsB P) (at_ k:Nat):pageN P at_ k<2 ^ (8*k):=Qle (fun x b=>h x (List.mem_of_mem_drop (List.mem_of_mem_take b))) k
theorem Qd0 {g:Tag} {b:Nat}(h:PageAt w τ g b P) (at_ k:Nat) (h1:1<=k) (h4:k<=4) (d:at_+k<=448) :
 Calls Tryz.prog 208 #[.pointer (some ⟨b,0,none⟩),.int .i64 (at_:Int),.int .i64 (k:Int)] w fun e i=>e = .returned (.int .i64 (pageN P at_ k:Int))/\w=i:=by
 obtain⟨m,hl⟩:=h.part at_ k h1 d
 have j:=Qip (p:=some ⟨b,at_,none⟩) (c:=448-at_) (l:=(P.drop at_).take k) (by rw[hl];exact m) (by omega) (by omega)
 rw[hl] at j
 change Calls _ _ _ _ (fun e i=>e = .returned (.int .u64 (pageN P at_ k:Int))/\_=i) at j
 have hlt:pageN P at_ k<4294967296:=by
  have h2:=Qjw h.isB at_ k
  have h3:2 ^ (8*k)<=2 ^ 32:=Nat.pow_le_pow_right (by omega) (by omega)
  have h5:(2:Nat) ^ 32=4294967296:=by decide
  omega
 generalize pageN P at_ k=q at *
 have c0:=h.own.at 0 (Qfw P 0 (by rw[h.len];omega))
 have o:=Z2 j
 clear j h m hl
 have e1:at_<=448:=by omega
 have e3:(at_:Int)+(k:Int)<=448:=by omega
 have e4:¬at_=448:=by omega
 have e5:¬448=at_:=by omega
 have e6:(at_:Int)<=(at_:Int)+(k:Int):=by omega
 have e7:(0:Int)<=(at_:Int)+(k:Int):=by omega
 have e8:((at_:Int)+(k:Int)).toNat=at_+k:=by omega
 go_enter Tryz.func208,Tryz.ntmps208
 go_wp2_with fail
 refine o.out.mono ?_
 rintro e i ⟨rfl,rfl⟩
 go_wp2_with fail
 go_ret
 exact⟨rfl,rfl⟩
def pageCount (P:List Int):Nat:=pageN P 12 2
def pageLow (P:List Int):Nat:=pageN P 14 2
def pageNumber (P:List Int):Nat:=pageN P 8 4
def pageLSN (P:List Int):Nat:=pageN P 0 8
theorem Qax {g:Tag} {b:Nat}(h:PageAt w τ g b P) :
 Calls Tryz.prog 194 #[.pointer (some ⟨b,0,none⟩)] w fun e d=>e = .returned (.int .i64 (pageCount P:Int))/\w=d:=by
 have h1:=Qd0 h 12 2 (by omega) (by omega) (by omega)
 change Calls _ _ _ _ (fun e d=>e = .returned (.int .i64 (pageCount P:Int))/\_=d) at h1
 have i:=Z2 h1
 clear h1 h
 go_enter Tryz.func194,Tryz.ntmps194
 go_wp2_with fail
 refine i.out.mono ?_
 rintro e d ⟨rfl,rfl⟩
 go_wp2_with fail
 go_ret
 exact⟨rfl,rfl⟩
theorem Qfm {g:Tag} {b:Nat}(h:PageAt w τ g b P) :
 Calls Tryz.prog 197 #[.pointer (some ⟨b,0,none⟩)] w fun e d=>e = .returned (.int .i64 (pageLow P:Int))/\w=d:=by
 have h1:=Qd0 h 14 2 (by omega) (by omega) (by omega)
 change Calls _ _ _ _ (fun e d=>e = .returned (.int .i64 (pageLow P:Int))/\_=d) at h1
 have i:=Z2 h1
 clear h1 h
 go_enter Tryz.func197,Tryz.ntmps197
 go_wp2_with fail
 refine i.out.mono ?_
 rintro e d ⟨rfl,rfl⟩
 go_wp2_with fail
 go_ret
 exact⟨rfl,rfl⟩
theorem Qb1 (n:Nat) (h:n<4294967296):IntKind.u32.wrap (n:Int)=(n:Int):=by
 have:IntKind.u32.wrap (n:Int)=(n:Int)%4294967296:=by simp[IntKind.wrap,IntKind.bits,IntKind.signed]
 rw[this];omega
theorem Qnv(h:IsB P):pageNumber P<4294967296:=by
 have h2:=Qjw h 8 4
 have b:(2:Nat) ^ (8*4)=4294967296:=by decide
 rw[b] at h2;exact h2
theorem Qg5 {g:Tag} {b:Nat}(h:PageAt w τ g b P) :
 Calls Tryz.prog 128 #[.pointer (some ⟨b,0,none⟩)] w fun e d=>e = .returned (.int .u32 (pageNumber P:Int))/\w=d:=by
 have h1:=Qd0 h 8 4 (by omega) (by omega) (by omega)
 change Calls _ _ _ _ (fun e d=>e = .returned (.int .i64 (pageNumber P:Int))/\_=d) at h1
 have hw:=Qb1 _ (Qnv h.isB)
 generalize pageNumber P=q at *
 have i:=Z2 h1
 clear h1 h
 go_enter Tryz.func128,Tryz.ntmps128
 go_wp2_with fail
 refine i.out.mono ?_
 rintro e d ⟨rfl,rfl⟩
 go_wp2_with fail
 go_ret
 exact⟨rfl,rfl⟩
theorem Qhe {g:Tag} {b:Nat}(h:PageAt w τ g b P) :
 Calls Tryz.prog 156 #[.pointer (some ⟨b,0,none⟩)] w fun e d=>e = .returned (.int .u64 (pageLSN P:Int))/\w=d:=by
 obtain⟨j,hl⟩:=h.part 0 8 (by omega) (by omega)
 have i:=Qip (p:=some ⟨b,0,none⟩) (c:=448) (l:=(P.drop 0).take 8) (by rw[hl];exact j) (by omega) (by omega)
 rw[hl] at i
 change Calls _ _ _ _ (fun e d=>e = .returned (.int .u64 (pageLSN P:Int))/\_=d) at i
 generalize pageLSN P=q at *
 have c0:=h.own.at 0 (Qfw P 0 (by rw[h.len];omega))
 have k:=Z2 i
 clear i h j hl
 go_enter Tryz.func156,Tryz.ntmps156
 go_wp2_with fail
 refine k.out.mono ?_
 rintro e d ⟨rfl,rfl⟩
 go_wp2_with fail
 go_ret
 exact⟨rfl,rfl⟩
theorem Que {g:Tag} {a:Addr} {n c:Nat} {l:List Int}(h:Bytes w τ g (.slice (some a) n c) l) (d:Tag) (i:l.length<=100000000) :
 Calls Tryz.prog 73 #[.slice (some a) n c] w fun e r=>∃u b,e = .returned u/\NB w.heap.size r b d u l/\Step w τ r b nil:=by
 have hnil:=fun (W:World) (a:Option Addr) (n c:Nat)=>Lib.run_eql_slice_nil (P:=Tryz.prog) W 37 5 a n c 0 0 Tryz.underlying37
 have j:=(Step.refl w τ nil).alloc (.cells #[] 5) d
 have m:NB w.heap.size (w.alloc (.cells #[] 5)) (τ.put w.heap.size d) d (.slice (some ⟨w.heap.size,0,none⟩) 0 0) [] :=
  ⟨⟨rfl,.inr ⟨w.heap.size,0,[],rfl,Own.new w τ d _ [],Z0 _,Z0 _,Z9 _⟩⟩,fun x F=>by simp at F,fun k hk=>by
    have:w.heap.size=k:=by simpa [Value.ownBlock] using hk
    omega⟩
 have o:=h.step ((Step.refl w τ nil).alloc (.cells #[] 5) d) (fun h=>h)
 have p:([]:List Int).length+l.length<=100000000000:=by simp;omega
 obtain⟨s,y,z,B⟩:=hid4 j m o p
 clear j m o p h i
 go_enter Tryz.func73,Tryz.ntmps73
 go_wp2_with (at_builtin;refine Qal s.out y.out z.out B.out rfl _ _ rfl rfl rfl ?_;intro v' r b C E q;obtain⟨G,I,Hmo⟩:=hid3 C E q;clear C E q)
 go_ret
 exact⟨_,b,rfl,G.out,I.out⟩
theorem Qhy {g:Tag} {b:Nat}(h:PageAt w τ g b P) (l:Tag) :
 Calls Tryz.prog 18 #[.pointer (some ⟨b,0,none⟩)] w fun e j=>∃u d,e = .returned u/\NB w.heap.size j d l u P/\Step w τ j d nil:=by
 have i:=Que h.bytes l (by rw[h.len];omega)
 have c0:=h.own.at 0 (Qfw P 0 (by rw[h.len];omega))
 have k:=Z2 i
 clear i h
 go_enter Tryz.func18,Tryz.ntmps18
 go_wp2_with fail
 refine k.out.mono ?_
 rintro e j ⟨u,d,rfl,m,o⟩
 obtain⟨p,q⟩:=hid2 m o
 clear m o
 go_wp2_with fail
 go_ret
 exact⟨u,d,rfl,p.out,q.out⟩
def pOff (P:List Int) (s:Nat):Nat:=if s<pageCount P then pageN P (16+4*s) 2 else 0
def pLen (P:List Int) (s:Nat):Nat:=if s<pageCount P then pageN P (18+4*s) 2 else 0
def pData (P:List Int) (s:Nat):List Int:=(P.drop (pOff P s)).take (pLen P s)
theorem Qpe(h:IsB P) (at_:Nat):pageN P at_ 2<65536:=by
 have h2:=Qjw h at_ 2
 have b:(2:Nat) ^ (8*2)=65536:=by decide
 rw[b] at h2;exact h2
theorem Qu7(h:IsB P) (s:Nat):pOff P s<65536:=by
 unfold pOff;split
 ·exact Qpe h _
 ·omega
theorem Qzk(h:IsB P) (s:Nat):pLen P s<65536:=by
 unfold pLen;split
 ·exact Qpe h _
 ·omega
structure Fit (P:List Int):Prop where
 count:pageCount P<=40
 ends:∀s,pOff P s+pLen P s<=448
theorem Qgu {g:Tag} {b:Nat}(h:PageAt w τ g b P) (s:Nat) (hs:s<1000000) (hc:pageCount P<=100) :
 Calls Tryz.prog 219 #[.pointer (some ⟨b,0,none⟩),.int .i64 (s:Int)] w fun e i=>e = .returned (.tuple #[.int .i64 (pOff P s:Int),.int .i64 (pLen P s:Int)])/\w=i:=by
 have h1:=Qax h
 by_cases d:s<pageCount P
 ·have h2:=Qd0 h (16+4*s) 2 (by omega) (by omega) (by omega)
  have l:=Qd0 h (18+4*s) 2 (by omega) (by omega) (by omega)
  have j:pOff P s=pageN P (16+4*s) 2:=if_pos d
  have k:pLen P s=pageN P (18+4*s) 2:=if_pos d
  rw[<-j] at h2
  rw[<-k] at l
  rw[show ((16+4*s:Nat):Int)=16+4*(s:Int) by omega] at h2
  rw[show ((18+4*s:Nat):Int)=16+4*(s:Int)+2 by omega] at l
  generalize pOff P s=o at *
  generalize pLen P s=n at *
  generalize m:pageCount P=q at *
  have r:decide ((s:Int)<0)=false:=by simp
  have a2:decide ((q:Int)<=(s:Int))=false:=by simp;omega
  obtain⟨p,x,y⟩:=hid3 h1 h2 l
  clear h1 h2 l h j k m
  go_enter Tryz.func219,Tryz.ntmps219
  go_wp2_with fail
  refine p.out.mono ?_
  rintro e i ⟨rfl,rfl⟩
  go_wp2_with fail
  refine x.out.mono ?_
  rintro e i ⟨rfl,rfl⟩
  go_wp2_with fail
  refine y.out.mono ?_
  rintro e i ⟨rfl,rfl⟩
  go_wp2_with fail
  go_ret2
  exact⟨rfl,rfl⟩
 ·have j:pOff P s=0:=if_neg d
  have k:pLen P s=0:=if_neg d
  rw[j,k]
  generalize m:pageCount P=q at *
  have r:decide ((s:Int)<0)=false:=by simp
  have a2:decide ((q:Int)<=(s:Int))=true:=by simp;omega
  have p:=Z2 h1
  clear h1 h j k m
  go_enter Tryz.func219,Tryz.ntmps219
  go_wp2_with fail
  refine p.out.mono ?_
  rintro e i ⟨rfl,rfl⟩
  go_wp2_with fail
  go_ret2
  exact⟨rfl,rfl⟩
theorem Qtc {g:Tag} {b:Nat}(h:PageAt w τ g b P) (i:Int) (hi:i<0) :
 Calls Tryz.prog 219 #[.pointer (some ⟨b,0,none⟩),.int .i64 i] w fun e d=>e = .returned (.tuple #[.int .i64 0,.int .i64 0])/\w=d:=by
 have a1:decide (i<0)=true:=by simp;omega
 clear h
 go_enter Tryz.func219,Tryz.ntmps219
 go_wp2_with fail
 go_ret2
 exact⟨rfl,rfl⟩
theorem Qbx {g:Tag} {b:Nat}(h:PageAt w τ g b P) (d:Fit P) (s:Nat) (l:s<1000000) :
 Calls Tryz.prog 141 #[.pointer (some ⟨b,0,none⟩),.int .i64 (s:Int)] w fun e i=>∃o,e = .returned (.slice (some ⟨b,o,none⟩) (pLen P s) (448-pOff P s))/\(0<pLen P s->o=pOff P s)/\w=i:=by
 have h1:=Qgu h s l (by have:=d.count;omega)
 have he:=d.ends s
 generalize pOff P s=o at *
 generalize pLen P s=n at *
 have c0:=h.own.at 0 (Qfw P 0 (by rw[h.len];omega))
 have j:=Z2 h1
 clear h1 h d
 have e3:(o:Int)+(n:Int)<=448:=by omega
 have e6:(o:Int)<=(o:Int)+(n:Int):=by omega
 have e7:(0:Int)<=(o:Int)+(n:Int):=by omega
 have e8:((o:Int)+(n:Int)).toNat=o+n:=by omega
 by_cases k:o=448
 ·subst k
  obtain rfl:n=0:=by omega
  go_enter Tryz.func141,Tryz.ntmps141
  go_wp2_with fail
  refine j.out.mono ?_
  rintro e i ⟨rfl,rfl⟩
  go_wp2_with fail
  go_ret
  exact⟨0,rfl,fun h=>absurd h (by omega),rfl⟩
 ·have e4:¬448=o:=fun e=>k e.symm
  go_enter Tryz.func141,Tryz.ntmps141
  go_wp2_with fail
  refine j.out.mono ?_
  rintro e i ⟨rfl,rfl⟩
  go_wp2_with fail
  go_ret
  exact⟨o,rfl,fun _=>rfl,rfl⟩
theorem Qkr {b:Nat}(h:RDevAt w τ b D) (f:Nat) (d:f<2) :
 Calls Tryz.prog 175 #[.pointer (some ⟨b,0,none⟩),.int .u8 (f:Int)] w fun e i=>e = .returned (.int .i64 ((D.file f).length:Int))/\w=i:=by
 obtain⟨v0,v1,h⟩:=h
 exact Jam h f d
theorem Qgt {b:Nat}(h:RDevAt w τ b D) (f:Nat) (d:f<2):(D.file f).length<=4096:=by
 obtain⟨v0,v1,h⟩:=h
 exact(h.file f d).2.1
theorem Qkt {b:Nat}(h:RDevAt w τ b D) (f k:Nat) (p:f<2) (hk:k<(D.file f).length):(D.last f k).length=128/\IsB (D.last f k):=by
 obtain⟨v0,v1,h⟩:=h
 obtain⟨bf,c,xs,ys,q,hcap,ho,hxl,e⟩:=(h.file f p).2.lenp (by omega)
 have l:(D.file f)[k]?=some (D.file f)[k]:=Z3 hk
 obtain⟨⟨hl,v,q,j⟩,⟨u,hu,r⟩⟩:=e k _ l
 unfold Dev.last
 rw[l]
 show (Sec.newest _).length=128/\IsB (Sec.newest _)
 generalize (D.file f)[k]=s at *
 by_cases o:s.waits=[]
 ·have i:s.newest=s.last:=by simp[Sec.newest,o]
  rw[i]
  exact⟨hl,j.isB⟩
 ·obtain⟨p',c',hv',_,x⟩:=r.read
  obtain⟨m,y⟩:∃m,s.waits.length=m+1:=⟨s.waits.length-1,by have:=List.length_pos_iff.2 o;omega⟩
  have d:s.waits[m]?=some s.newest:=by
   unfold Sec.newest
   rw[List.getLastD_eq_getLast?,List.getLast?_eq_getElem?,y]
   simp only[Nat.add_sub_cancel]
   rw[Z3 (by omega)];rfl
  obtain⟨a,b,u,_,_,j⟩:=x m _ d
  exact⟨a,j.isB⟩
theorem Qr6 {b:Nat}(h:RDevAt w τ b D) (f:Nat) (Z:f<2) (k:Nat) (hk:k<(D.file f).length) (g:Tag) :
 Calls Tryz.prog 245 #[.pointer (some ⟨b,0,none⟩),.int .u8 (f:Int),.int .i64 (k:Int)] w fun e J=>∃u F,e = .returned (.tuple #[u,.int .i64 0])/\Bytes J F g u (D.last f k)/\Step w τ J F nil:=by
 obtain⟨v0,v1,h⟩:=h
 have h1:=Qks h f Z k hk
 obtain⟨cf,d⟩:=h.file f Z
 obtain⟨bf,c,xs,ys,O,hcap,L,hxl,i⟩:=d.lenp (by omega)
 rw[O] at cf
 have M:(D.file f)[k]?=some (D.file f)[k]:=Z3 hk
 obtain⟨⟨hl,v,r,E⟩,⟨u,hu,N⟩⟩:=i k _ M
 have c0:=L.at (k*2) (v:=v) (by rw[Y5 (by omega)];exact r)
 have c1:=L.at (k*2+1) (v:=u) (by rw[Y5 (by omega)];exact hu)
 have x:D.last f k=(D.file f)[k].newest:=by unfold Dev.last;rw[M];rfl
 rw[x]
 have hn4096:=d.1
 generalize (D.file f)[k]=s at *
 generalize (D.file f).length=n at *
 by_cases G:s.waits=[]
 ·have q:s.newest=s.last:=by simp[Sec.newest,G]
  rw[q]
  obtain⟨pu,cu,rfl⟩:=N.len
  rw[G] at c1
  simp only[List.length_nil] at c1
  obtain⟨pv,cv,rfl,-,-⟩:=E.any
  rw[hl] at E c0
  have j:=fun W (m:Step w τ W τ nil)=>Qr7 (E.step m (fun h=>h)) g (by omega)
  obtain⟨R,y⟩:=hid2 h1 j
  clear h1 j h d O i N hu G M E x L r q
  go_enter Tryz.func245,Tryz.ntmps245
  go_wp2_with fail
  refine R.out.mono ?_
  rintro e J ⟨rfl,rfl⟩
  go_wp2_with fail
  refine(y.out _ ((Step.refl w τ nil).alloc' _)).mono ?_
  rintro e w2 ⟨U,z,rfl,l,o⟩
  obtain⟨B,C⟩:=hid2 l o
  clear l o
  go_wp2_with fail
  go_ret2
  exact⟨U,z,rfl,B.out,((Step.refl w τ nil).alloc' _).trans C.out⟩
 ·obtain⟨pu,cu,rfl,I,hr⟩:=N.read
  obtain⟨m,X⟩:∃m,s.waits.length=m+1:=⟨s.waits.length-1,by have:=List.length_pos_iff.2 G;omega⟩
  have p:s.waits[m]?=some s.newest:=by
   unfold Sec.newest
   rw[List.getLastD_eq_getLast?,List.getLast?_eq_getElem?,X]
   simp only[Nat.add_sub_cancel]
   rw[Z3 (by omega)];rfl
  obtain⟨Y,bw,ul,rfl,cm,hbl⟩:=hr m _ p
  obtain⟨pv,cv,rfl,-,-⟩:=E.any
  obtain⟨pl,cl,rfl,-,-⟩:=hbl.any
  rw[Y] at hbl cm
  rw[hl] at c0
  have j:=fun W (mm:Step w τ W τ nil)=>Qr7 (hbl.step mm (fun h=>h)) g (by omega)
  have hmx:m+1<=9223372036854775807:=by unfold maxLen at I;omega
  rw[X] at c1
  have hbw:=cell_lt cm
  obtain⟨R,y⟩:=hid2 h1 j
  clear h1 j h d O i N hu G M E x L r hr p hbl X I
  go_enter Tryz.func245,Tryz.ntmps245
  go_wp2_with fail
  refine R.out.mono ?_
  rintro e J ⟨rfl,rfl⟩
  go_wp2_with fail
  refine(y.out _ ((Step.refl w τ nil).alloc' _)).mono ?_
  rintro e w2 ⟨U,z,rfl,l,o⟩
  obtain⟨B,C⟩:=hid2 l o
  clear l o
  go_wp2_with fail
  go_ret2
  exact⟨U,z,rfl,B.out,((Step.refl w τ nil).alloc' _).trans C.out⟩
theorem Qzb {b:Nat}(h:RDevAt w τ b D) (f:Nat) (o:f<2) (k:Nat) {s:Sec}(j:(D.file f)[k]?=some s) :
 Calls Tryz.prog 288 #[.pointer (some ⟨b,0,none⟩),.int .u8 (f:Int),.int .i64 (k:Int)] w fun e p=>e = .returned (.int .i64 (s.waits.length:Int))/\w=p:=by
 obtain⟨v0,v1,h⟩:=h
 have hk:=(Z4 j).1
 have h1:=Qks h f o k hk
 obtain⟨y,d⟩:=h.file f o
 obtain⟨bf,c,xs,ys,q,hcap,r,hxl,i⟩:=d.lenp (by omega)
 rw[q] at y
 obtain⟨⟨hl,v,l,z⟩,⟨u,hu,x⟩⟩:=i k _ j
 obtain⟨pu,cu,rfl⟩:=x.len
 have c1:=r.at (k*2+1) (by rw[Y5 (by omega)];exact hu)
 have hn4096:=d.1
 generalize (D.file f).length=n at *
 generalize s.waits.length=m at *
 have B:=Z2 h1
 clear h1 h d q i x hu j z r l
 go_enter Tryz.func288,Tryz.ntmps288
 go_wp2_with fail
 refine B.out.mono ?_
 rintro e p ⟨rfl,rfl⟩
 go_wp2_with fail
 go_ret
 exact⟨rfl,rfl⟩
