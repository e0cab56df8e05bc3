/-
 Check sums: half,Next,Sum.
-/
import Derived.Test.YtemacanaihaldaaGreatMStrip
import Derived.Laws.BitsAllLaws
import Derived.Laws.IdiomStrings
import Derived.Lib.BufferRead
import Derived.Test.YtemacanaihaldaaGreatMGrow
set_option maxRecDepth 100000
set_option linter.all false
namespace Go.Proofs.YtemacanaihaldaaGreat
variable {D:Dev}{v:Value}{w:World}{τ:Tags}
open Go.RowKit
def Qjd (c:Nat):Nat:=if c%2=1 then c/2 ^^^ 2197175160 else c/2
def crcBits:Nat→Nat→Nat
 | 0,c=>c
 | n+1,c=>Qjd (crcBits n c)
def crcNext (s b:Nat):Nat:=4294967295-crcBits 8 ((4294967295-s) ^^^ b)
def crcTo (l:List Int):Nat→Nat
 | 0=>0
 | i+1=>crcNext (crcTo l i) (l.getD i 0).toNat
theorem Qv6 {c:Nat}(h:c<4294967296):Qjd c<4294967296:=by
 unfold Qjd
 split
 ·have h1:c/2<2 ^ 32:=by omega
  have h2:2197175160<2 ^ 32:=by omega
  exact Nat.xor_lt_two_pow h1 h2
 ·omega
theorem Qir (n:Nat) {c:Nat}(h:c<4294967296):crcBits n c<4294967296:=by
 induction n with
 | zero=>exact h
 | succ n ih=>exact Qv6 ih
theorem Qt1 (s b:Nat):crcNext s b<4294967296:=by unfold crcNext;omega
theorem Qh8 (l:List Int) (i:Nat):crcTo l i<4294967296:=by
 cases i with
 | zero=>exact(by omega:(0:Nat)<4294967296)
 | succ i=>exact Qt1 _ _
theorem Qrm (m n c:Nat):crcBits m (crcBits n c)=crcBits (m+n) c:=by
 induction m with
 | zero=>simp[crcBits]
 | succ m ih =>
   rw[show m+1+n=(m+n)+1 by omega]
   show Qjd _=Qjd _
   rw[ih]
theorem Qsh (c:Nat) (hc:c<4294967296) (w:World) :
 Calls Tryz.prog 270 #[.int .u32 (c:Int)] w fun e w'=>e = .returned (.int .u32 (crcBits 4 c:Int))∧w=w':=by
 have Hc:=Lib.hid hc
 clear hc
 go_enter Tryz.func270,Tryz.ntmps270
 go_wp2_with fail
 go_loopw [0,3] (fun m v wr=>∃i:Nat,i≤4∧v = .int .i64 (i:Int)∧m = .int .u32 (crcBits i c:Int)∧wr=w) (fun _ v _=>4-(intOf v).toNat)
 case atStart=>exact⟨0,by omega,rfl,rfl,rfl⟩
 case round =>
  obtain⟨i,hi,rfl,rfl,rfl⟩:=hrel
  by_cases hlt:i<4
  ·have hl:=Qir i Hc.out
   have hs:crcBits (i+1) c=Qjd (crcBits i c):=rfl
   generalize crcBits i c=q at *
   generalize hq2:crcBits (i+1) c=q2 at *
   by_cases ho:q%2=1
   ·have hq:q2=q/2 ^^^ 2197175160:=by rw[hs,Qjd,if_pos ho]
    have b1:bits BinOp.and IntKind.u32 (q:Int) 1=1:=by
     have:=u32_and_nat q 1 hl (by omega)
     rw[nat_mask1,ho] at this;exact this
    have b2:bits BinOp.and IntKind.u32 2197175160 4294967295=2197175160:=by kernel_rfl
    have b3:bits BinOp.xor IntKind.u32 ((q:Int)/2) 2197175160=(q2:Int):=by
     have:=u32_xor_nat (q/2) 2197175160 (by omega) (by omega)
     rw[hq,show ((q:Int)/2)=((q/2:Nat):Int) by omega];exact this
    obtain⟨Hq2,Hq,Hs⟩:=hid3 hq2 hq hs
    clear hq2 hq hs ho
    go_wp2_with fail
    go_round
    case rel=>exact⟨i+1,by omega,by simp,by rw[Hq2.out],trivial⟩
    case measure=>simp[intOf];omega
   ·have hq:q2=q/2:=by rw[hs,Qjd,if_neg ho]
    have hz:q%2=0:=by omega
    have b1:bits BinOp.and IntKind.u32 (q:Int) 1=0:=by
     have:=u32_and_nat q 1 hl (by omega)
     rw[nat_mask1,hz] at this;exact this
    have b2:bits BinOp.and IntKind.u32 2197175160 0=0:=by kernel_rfl
    have b3:bits BinOp.xor IntKind.u32 ((q:Int)/2) 0=(q2:Int):=by
     have:=u32_xor_nat (q/2) 0 (by omega) (by omega)
     rw[hq,show ((q:Int)/2)=((q/2:Nat):Int) by omega];rw[Nat.xor_zero] at this;exact this
    obtain⟨Hq2,Hq,Hs⟩:=hid3 hq2 hq hs
    clear hq2 hq hs ho hz
    go_wp2_with fail
    go_round
    case rel=>exact⟨i+1,by omega,by simp,by rw[Hq2.out],trivial⟩
    case measure=>simp[intOf];omega
  ·have hin:i=4:=by omega
   subst hin
   go_wp2_with fail
   go_returns
   exact⟨rfl,rfl⟩
theorem Qvh (s:Nat) (h:s<4294967296):4294967295 ^^^ s=4294967295-s:=by
 have h1:(BitVec.allOnes 32 ^^^ BitVec.ofNat 32 s).toNat=4294967295 ^^^ s:=by
  rw[BitVec.toNat_xor,BitVec.toNat_ofNat,BitVec.toNat_allOnes]
  congr 1
  omega
 have h2:BitVec.allOnes 32 ^^^ BitVec.ofNat 32 s = ~~~ (BitVec.ofNat 32 s):=BitVec.allOnes_xor
 rw[←h1,h2,BitVec.toNat_not,BitVec.toNat_ofNat]
 omega
theorem Qum (s:Nat) (h:s<4294967296):bits BinOp.xor IntKind.u32 IntKind.u32.max (s:Int)=((4294967295-s:Nat):Int):=by
 have:=u32_xor_nat 4294967295 s (by omega) h
 rw[Qvh s h] at this
 exact this
theorem Qrl (s b:Nat) (hs:s<4294967296) (hb:b<256) (w:World) :
 Calls Tryz.prog 231 #[.int .u32 (s:Int),.int .u8 (b:Int)] w fun e w'=>e = .returned (.int .u32 (crcNext s b:Int))∧w=w':=by
 have hx:(4294967295-s) ^^^ b<4294967296:=by
  have h1:4294967295-s<2 ^ 32:=by omega
  have h2:b<2 ^ 32:=by omega
  exact Nat.xor_lt_two_pow h1 h2
 have b1:bits BinOp.xor IntKind.u32 (bits BinOp.xor IntKind.u32 IntKind.u32.max (s:Int)) (b:Int)=(((4294967295-s) ^^^ b:Nat):Int):=by
  rw[Qum s hs]
  exact u32_xor_nat (4294967295-s) b (by omega) (by omega)
 have hl8:=Qir 8 hx
 have b2:bits BinOp.xor IntKind.u32 IntKind.u32.max (crcBits 8 ((4294967295-s) ^^^ b):Int)=(crcNext s b:Int):=Qum _ hl8
 have h1:=Qsh _ hx w
 have h2:=Qsh _ (Qir 4 hx) w
 rw[Qrm] at h2
 generalize crcNext s b=r at *
 generalize hq:(4294967295-s) ^^^ b=q at *
 generalize crcBits 4 q=q4 at *
 generalize crcBits (4+4) q=q8 at *
 have hsg:IntKind.u32.signed=false:=rfl
 obtain⟨H1,H2⟩:=hid2 h1 h2
 clear h1 h2 hq hl8
 go_enter Tryz.func231,Tryz.ntmps231
 go_wp2_with fail
 refine H1.out.mono ?_
 rintro e w' ⟨rfl,rfl⟩
 go_wp2_with fail
 refine H2.out.mono ?_
 rintro e w' ⟨rfl,rfl⟩
 go_wp2_with fail
 go_ret
 exact⟨rfl,rfl⟩
theorem Qqe {g:Tag} {br:Nat} {l:List Int}(hr:w.cell? ⟨br,0,none⟩=some v) (hb:Bytes w τ g v l) (hbig:l.length≤1000000000) :
 Calls Tryz.prog 155 #[.slice (some ⟨br,0,none⟩) 1 1] w fun e w'=>e = .returned (.int .u32 (crcTo l l.length:Int))∧w=w':=by
 obtain⟨p,c,rfl,h1,h2⟩:=hb.any
 have hB:=hb.isB
 have hc:∀i,i<l.length→∃b o,p=some ⟨b,o,none⟩∧w.cell? ⟨b,o+i,none⟩=some (.int .u8 (l.getD i 0)):=by
  intro i hi
  obtain⟨b,o,c',hv,_,_,_,_,hx⟩:=hb.pos (by omega)
  cases hv
  exact⟨b,o,rfl,hx i hi⟩
 generalize hn:l.length=n at *
 obtain⟨Hc,HB,Hn⟩:=hid3 hc hB hn
 clear hc hB hn hb h1 h2
 go_enter Tryz.func155,Tryz.ntmps155
 go_wp2_with fail
 go_loopw [3,10] (fun m v wr=>((v = .int .i64 0∧m = .int .u32 0)∨(v = .int .i64 1∧m = .int .u32 (crcTo l n:Int)))∧wr=w) (fun _ v _=>1-(intOf v).toNat)
 case atStart=>exact⟨.inl ⟨rfl,rfl⟩,rfl⟩
 case round =>
  obtain⟨⟨rfl,rfl⟩|⟨rfl,rfl⟩,rfl⟩:=hrel
  ·go_wp2_with fail
   go_loopw [3,16] (fun m v wq=>∃i:Nat,i≤n∧v = .int .i64 (i:Int)∧m = .int .u32 (crcTo l i:Int)∧wq=wr) (fun _ v _=>n-(intOf v).toNat)
   case atStart=>exact⟨0,Nat.zero_le _,rfl,rfl,rfl⟩
   case round =>
    obtain⟨i,hi,rfl,rfl,rfl⟩:=hrel
    by_cases hlt:i<n
    ·obtain⟨b,o,rfl,hcell⟩:=Hc.out i hlt
     have hx:=HB.out.at i
     have hs:crcTo l (i+1)=crcNext (crcTo l i) (l.getD i 0).toNat:=rfl
     have hlt2:=Qh8 l i
     obtain⟨q,hq⟩:=Int.eq_ofNat_of_zero_le hx.1
     rw[hq] at hcell hs hx
     have hnx:=Qrl (crcTo l i) q hlt2 (by omega) wr
     have htn:((q:Nat):Int).toNat=q:=by omega
     rw[htn] at hs
     rw[←hs] at hnx
     have Hnx:=Lib.hid hnx
     clear hnx hs hq htn hlt2
     go_wp2_with fail
     refine Hnx.out.mono ?_
     rintro e w' ⟨rfl,rfl⟩
     go_wp2_with fail
     go_round
     case rel=>exact⟨i+1,by omega,by simp,rfl,trivial⟩
     case measure=>simp[intOf];omega
    ·have hin:i=n:=by omega
     subst hin
     go_wp2_with fail
     go_round
     case rel=>exact⟨.inr ⟨by simp,rfl⟩,trivial⟩
     case measure=>simp[intOf]
  ·go_wp2_with fail
   go_returns
   exact⟨rfl,rfl⟩
theorem Qsc (a b:List Int) (off:Nat):over (u8s a) off (u8s b)=u8s (a.take off++b++a.drop (off+b.length)):=by
 simp[over,u8s,List.map_take,List.map_drop]
def headB (s ba ck ar:Nat):List Int:=leB s 8++[(ar:Int)]++leB ba 8++leB ck 8++List.replicate 95 0++leB s 8
theorem Qgm (s ba ck ar:Nat):(headB s ba ck ar).length=128:=by simp[headB,Qaa]
theorem Qvv (s ba ck ar:Nat) (h:ar<256):IsB (headB s ba ck ar):=by
 unfold headB
 refine((((((Qan s 8).append ?_).append (Qan ba 8)).append (Qan ck 8)).append ?_).append (Qan s 8))
 ·intro x hx
  rw[List.mem_singleton.1 hx];omega
 ·intro x hx
  rw[(List.mem_replicate.1 hx).2];omega
theorem Qy0 (l:List Int) (i:Nat) (x:Int):(u8s l).set i (.int .u8 x)=u8s (l.set i x):=by simp[u8s,List.map_set]
theorem Qxq (n k:Nat):(leB n k).take k=leB n k:=by rw[List.take_of_length_le (by rw[Qaa];exact Nat.le_refl _)]
def lay8 (l:List Int) (off n:Nat):List Int:=l.take off++leB n 8++l.drop (off+8)
theorem Qhh (l:List Int) (off n:Nat) (h:off+8≤l.length):(lay8 l off n).length=l.length:=by
 unfold lay8;simp only[List.length_append,List.length_take,List.length_drop,Qaa];omega
theorem Qhz (l:List Int) (off n:Nat):over (u8s l) off (u8s ((leB n 8).take 8))=u8s (lay8 l off n):=by
 rw[Qsc,Qxq,Qaa];rfl
theorem Qn5 (a b c:List Int) (off n:Nat) (ha:a.length=off) (hb:b.length=8):lay8 (a++b++c) off n=a++leB n 8++c:=by
 subst ha
 unfold lay8
 rw[List.append_assoc a b c,List.take_left,←List.drop_drop,List.drop_left,←hb,List.drop_left]
theorem Qvu (s ba ck ar:Nat):lay8 (lay8 (lay8 ((lay8 (List.replicate 128 0) 0 s).set 8 (ar:Int)) 9 ba) 17 ck) 120 s=headB s ba ck ar:=by
 have h1:lay8 (List.replicate 128 0) 0 s=leB s 8++List.replicate 120 0:=by simp[lay8]
 have hl:∀n,(leB n 8).length=8:=fun n=>Qaa n 8
 have h2:(leB s 8++List.replicate 120 0).set 8 (ar:Int)=(leB s 8++[(ar:Int)])++List.replicate 8 0++(List.replicate 8 0++(List.replicate 95 0++List.replicate 8 0)):=by
  rw[List.set_append_right _ _ (by rw[hl];omega),hl,List.append_assoc,List.append_assoc];rfl
 rw[h1,h2,Qn5 _ _ _ _ _ (by simp[hl]) (by simp),←List.append_assoc _ (List.replicate 8 0) (List.replicate 95 0++_),Qn5 _ _ _ _ _ (by simp[hl]) (by simp),←List.append_assoc,
  show ∀l:List Int,l++List.replicate 8 (0:Int)=l++List.replicate 8 0++[] from fun l=>by simp,Qn5 _ _ _ _ _ (by simp[hl]) (by simp),List.append_nil]
 rfl
theorem Qs5 (w:World) (τ:Tags) (g:Tag) (s ba ck ar:Nat) (hs:s<2 ^ 64) (hba:ba<2 ^ 64) (hck:ck<2 ^ 64) (har:ar<256) :
 Calls Tryz.prog 193 #[.agg #[.int .u64 (s:Int),.int .u64 (ba:Int),.int .u64 (ck:Int),.int .i64 (ar:Int)]] w fun e w'=>∃u τ',e = .returned u∧Bytes w' τ' g u (headB s ba ck ar)∧Step w τ w' τ' nil:=by
 have hps:=fun W τ=>Qeu W τ tData s 8 hs (by omega) (by omega)
 have hpb:=fun W τ=>Qeu W τ tData ba 8 hba (by omega) (by omega)
 have hpc:=fun W τ=>Qeu W τ tData ck 8 hck (by omega) (by omega)
 have hfin:=Qvv s ba ck ar har
 have hwr:IntKind.u8.wrap (ar:Int)=(ar:Int):=by
  have:IntKind.u8.wrap (ar:Int)=(ar:Int)%256:=by simp[IntKind.wrap,IntKind.bits,IntKind.signed]
  rw[this];omega
 have rn:=Qcz
 have hbox:=Own.new w τ tBox 116 [.int .u64 (s:Int),.int .u64 (ba:Int),.int .u64 (ck:Int),.int .i64 (ar:Int)]
 have hst1:=(Step.refl w τ nil).alloc (.cells #[.int .u64 (s:Int),.int .u64 (ba:Int),.int .u64 (ck:Int),.int .i64 (ar:Int)] 116) tBox
 have hbox2:=hbox.step_new (.cells (madeCells #[.int .u8 0] 128) 5) tFill
 have hst2:=hst1.alloc (.cells (madeCells #[.int .u8 0] 128) 5) tFill
 have hb2:=Own.born (w.alloc (.cells #[.int .u64 (s:Int),.int .u64 (ba:Int),.int .u64 (ck:Int),.int .i64 (ar:Int)] 116)) (τ.put w.heap.size tBox) tFill 5 (madeCells #[.int .u8 0] 128)
 rw[Qhm] at hb2
 simp only[World.size_alloc] at hbox2 hst2 hb2
 generalize (τ.put w.heap.size tBox).put (w.heap.size+1) tFill=τ2 at *
 obtain⟨Hps,Hpb,Hpc,Hfin,Hst2,Hb2,Hbox2⟩:=hid7 hps hpb hpc hfin hst2 hb2 hbox2
 clear hps hpb hpc hfin hst2 hb2 hbox2 hs hba hck har hbox hst1
 go_enter Tryz.func193,Tryz.ntmps193
 have hfill:¬(fun t=>t=tFill) tBox:=by simp[tFill,tBox]
 have hn8:∀n,8=Nat.min (leB n 8).length 128:=fun n=>by rw[Qaa];rfl
 have hn119:∀n,8=Nat.min (leB n 8).length 119:=fun n=>by rw[Qaa];rfl
 have hn111:∀n,8=Nat.min (leB n 8).length 111:=fun n=>by rw[Qaa];rfl
 have hn88:∀n,8=Nat.min (leB n 8).length 8:=fun n=>by rw[Qaa];rfl
 obtain⟨Hn8,Hn119,Hn111,Hn88⟩:=hid4 hn8 hn119 hn111 hn88
 clear hn8 hn119 hn111 hn88
 go_wp2_with fail
 refine(Hps.out _ τ2).mono ?_
 rintro e w3 ⟨u3,τ3,rfl,hb3,he3,hm3⟩
 have hst3:=Hst2.out.trans (Step.of nil hm3 he3)
 have hob3:=Hb2.out.step (Step.of nil hm3 he3) (fun h=>h)
 have hbx3:=Hbox2.out.step (Step.of nil hm3 he3) (fun h=>h)
 obtain⟨L3,hL3⟩:∃L,L=lay8 (List.replicate 128 0) 0 s:=⟨_,rfl⟩
 have hll3:L3.length=128:=by rw[hL3,Qhh _ _ _ (by rw[List.length_replicate];omega),List.length_replicate]
 have hfit3:0+8≤(u8s (List.replicate 128 0)).length:=by rw[Qac,List.length_replicate];omega
 have c33:=hbx3.at 3 rfl
 obtain⟨p3,k3,rfl,-,-⟩:=hb3.any
 have hl3:=Qaa s 8
 obtain⟨Hst3,Hob3,Hbx3,HL3,Hll3,Hfit3,Hb3⟩:=hid7 hst3 hob3 hbx3 hL3 hll3 hfit3 hb3
 clear hst3 hob3 hbx3 hL3 hll3 hfit3 hb3 he3 hm3 Hst2 Hb2 Hbox2
 have hlow:w.heap.size≤w.heap.size+1:=by omega
 go_wp2_with (refine Ql4 Hst3.out Hob3.out (.inr hlow) Hb3.out 8 (Hn8.out s) Hfit3.out rfl _ _ rfl rfl rfl ?_
              intro w4 ho4 hs4 hW4
              rw[Qhz,←HL3.out] at ho4
              have hbx4:=Hbx3.out.step hW4 hfill
              have c43:=hbx4.at 3 rfl
              have c41:=hbx4.at 1 rfl
              have c8:=ho4.at 8 (Qfw L3 8 (by rw[Hll3.out];omega))
              have z8:=ho4.fz 8
              obtain⟨Ho4,Hs4,HW4,Hbx4⟩:=hid4 ho4 hs4 hW4 hbx4
              clear ho4 hs4 hW4 hbx4)
 have ho5:=Ho4.out.set 8 (.int .u8 (ar:Int))
 rw[Qy0] at ho5
 have hs5:=Hs4.out.setNew (o:=8) hlow (.int .u8 (ar:Int))
 have hbx5:=Hbx4.out.step ((Step.refl w4 τ3 (fun t=>t=tFill)).set (o:=8) Ho4.out.tag rfl (.int .u8 (ar:Int))) hfill
 obtain⟨L5,hL5⟩:∃L,L=L3.set 8 (ar:Int):=⟨_,rfl⟩
 have hll5:L5.length=128:=by rw[hL5,List.length_set];exact Hll3.out
 rw[←hL5] at ho5
 generalize w4.setCell ⟨w.heap.size+1,8,none⟩ (.int .u8 (ar:Int))=w5 at *
 clear c33 c41 c43 c8 z8 Hst3 Hob3 Hbx3 Hb3 Hs4 HW4 Hbx4 Hfit3 hl3
 have c51:=hbx5.at 1 rfl
 have hfit5:9+8≤(u8s L5).length:=by rw[Qac,hll5];omega
 obtain⟨Ho5,Hs5,Hbx5,HL5,Hll5,Hfit5⟩:=hid6 ho5 hs5 hbx5 hL5 hll5 hfit5
 clear ho5 hs5 hbx5 hL5 hll5 hfit5
 go_region_law (first
  | (go_simp
     go_at_call 154
     refine(Hpb.out _ τ3).mono ?_
     rintro e w6 ⟨u6,τ6,rfl,hb6,he6,hm6⟩
     have hs6:=Hs5.out.drew.trans (Step.of nil hm6 he6)
     have hob6:=Ho5.out.drew.step (Step.of nil hm6 he6) (fun h=>h)
     have hbx6:=Hbx5.out.drew.step (Step.of nil hm6 he6) (fun h=>h)
     obtain⟨p6,k6,rfl,-,-⟩:=hb6.any
     have hl6:=Qaa ba 8
     have c61:=hbx6.at 1 rfl
     obtain⟨Hs6,Hob6,Hbx6,Hb6⟩:=hid4 hs6 hob6 hbx6 hb6
     clear hs6 hob6 hbx6 hb6
     clear he6 hm6)
  | (refine Qbb Hs6.out Hob6.out (.inr hlow) Hb6.out 8 (Hn119.out ba) Hfit5.out rfl _ _ rfl rfl rfl ?_
     intro w7 ho7 hs7 hW7
     rw[Qhz] at ho7
     have hbx7:=Hbx6.out.step hW7 hfill
     have c72:=hbx7.at 2 rfl
     obtain⟨Ho7,Hs7,HW7,Hbx7⟩:=hid4 ho7 hs7 hW7 hbx7
     clear ho7 hs7 hW7 hbx7))
 obtain⟨L8,hL8⟩:∃L,L=lay8 L5 9 ba:=⟨_,rfl⟩
 have hll8:L8.length=128:=by rw[hL8,Qhh _ _ _ (by rw[Hll5.out];omega)];exact Hll5.out
 have ho8:=Ho7.out
 rw[←hL8] at ho8
 have hfit8:17+8≤(u8s L8).length:=by rw[Qac,hll8];omega
 obtain⟨Ho8,HL8,Hll8,Hfit8⟩:=hid4 ho8 hL8 hll8 hfit8
 clear ho8 hL8 hll8 hfit8 hl6
 go_wp2_with fail
 go_region_law (first
  | (go_simp
     go_at_call 154
     refine(Hpc.out _ τ6).mono ?_
     rintro e w9 ⟨u9,τ9,rfl,hb9,he9,hm9⟩
     have hs9:=Hs7.out.drew.trans (Step.of nil hm9 he9)
     have hob9:=Ho8.out.drew.step (Step.of nil hm9 he9) (fun h=>h)
     have hbx9:=Hbx7.out.drew.step (Step.of nil hm9 he9) (fun h=>h)
     obtain⟨p9,k9,rfl,-,-⟩:=hb9.any
     have hl9:=Qaa ck 8
     have c9x:=hbx9.at 2 rfl
     obtain⟨Hs9,Hob9,Hbx9,Hb9⟩:=hid4 hs9 hob9 hbx9 hb9
     clear hs9 hob9 hbx9 hb9
     clear he9 hm9)
  | (refine Qbb Hs9.out Hob9.out (.inr hlow) Hb9.out 8 (Hn111.out ck) Hfit8.out rfl _ _ rfl rfl rfl ?_
     intro w10 ho10 hs10 hW10
     rw[Qhz] at ho10
     have hbx10:=Hbx9.out.step hW10 hfill
     have c10x:=hbx10.at 0 rfl
     obtain⟨Ho10,Hs10,HW10,Hbx10⟩:=hid4 ho10 hs10 hW10 hbx10
     clear ho10 hs10 hW10 hbx10))
 obtain⟨L11,hL11⟩:∃L,L=lay8 L8 17 ck:=⟨_,rfl⟩
 have hll11:L11.length=128:=by rw[hL11,Qhh _ _ _ (by rw[Hll8.out];omega)];exact Hll8.out
 have ho11:=Ho10.out
 rw[←hL11] at ho11
 have hfit11:120+8≤(u8s L11).length:=by rw[Qac,hll11];omega
 obtain⟨Ho11,HL11,Hll11,Hfit11⟩:=hid4 ho11 hL11 hll11 hfit11
 clear ho11 hL11 hll11 hfit11 hl9
 go_wp2_with fail
 go_region_law (first
  | (go_simp
     go_at_call 154
     refine(Hps.out _ τ9).mono ?_
     rintro e w12 ⟨u12,τ12,rfl,hb12,he12,hm12⟩
     have hs12:=Hs10.out.drew.trans (Step.of nil hm12 he12)
     have hob12:=Ho11.out.drew.step (Step.of nil hm12 he12) (fun h=>h)
     have hbx12:=Hbx10.out.drew.step (Step.of nil hm12 he12) (fun h=>h)
     obtain⟨p12,k12,rfl,-,-⟩:=hb12.any
     have hl12:=Qaa s 8
     have c12x:=hbx12.at 0 rfl
     obtain⟨Hs12,Hob12,Hbx12,Hb12⟩:=hid4 hs12 hob12 hbx12 hb12
     clear hs12 hob12 hbx12 hb12
     clear he12 hm12)
  | (refine Qbb Hs12.out Hob12.out (.inr hlow) Hb12.out 8 (Hn88.out s) Hfit11.out rfl _ _ rfl rfl rfl ?_
     intro w13 ho13 hs13 hW13
     rw[Qhz] at ho13
     have hbx13:=Hbx12.out.step hW13 hfill
     have c13x:=hbx13.at 0 rfl
     obtain⟨Ho13,Hs13,HW13,Hbx13⟩:=hid4 ho13 hs13 hW13 hbx13
     clear ho13 hs13 hW13 hbx13))
 go_wp2_with fail
 go_ret
 have hfl:lay8 L11 120 s=headB s ba ck ar:=by rw[HL11.out,HL8.out,HL5.out,HL3.out];exact Qvu s ba ck ar
 have ho:=Ho13.out
 rw[hfl] at ho
 have hb:=(ho.retag g).bytes Hfin.out (by rw[Qgm];unfold maxLen;omega)
 rw[Qgm] at hb
 exact⟨_,_,rfl,hb,Hs13.out.retag hlow g⟩
def toU8 (l:List Int):List UInt8:=l.map (fun x=>UInt8.ofNat x.toNat)
theorem Qw0 {l m:List Int}(hl:IsB l) (hm:IsB m) (h:toU8 l=toU8 m):l=m:=by
 induction l generalizing m with
 | nil=>cases m with
   | nil=>rfl
   | cons y r=>simp[toU8] at h
 | cons x l ih=>cases m with
   | nil=>simp[toU8] at h
   | cons y r =>
     simp only[toU8,List.map_cons,List.cons.injEq] at h
     have hx:=hl x (by simp)
     have hy:=hm y (by simp)
     have h1:x=y:=by
      have:=congrArg UInt8.toNat h.1
      simp only[UInt8.toNat_ofNat'] at this
      omega
     rw[h1,ih (fun z hz=>hl z (by simp[hz])) (fun z hz=>hm z (by simp[hz])) h.2]
theorem Qqc {l m:List Int}(hl:IsB l) (hm:IsB m):(toU8 l==toU8 m)=decide (l=m):=by
 by_cases h:l=m
 ·subst h;simp
 ·have:toU8 l≠toU8 m:=fun e=>h (Qw0 hl hm e)
  simp[h,this]
theorem Bytes.conv {g:Tag} {l:List Int}(h:Bytes w τ g v l):(convert 37 9 v).run Tryz.prog w = .ok (.string ⟨(toU8 l).toArray⟩) w:=by
 have hB:=h.isB
 obtain⟨p,c,rfl,h1,h2,hc⟩:=h.is
 by_cases h0:0<l.length
 ·obtain⟨b,o,rfl,_,hcell⟩:=hc h0
  have hl:(toU8 l).length=l.length:=by simp[toU8]
  have:=run_convert_bytes_back (P:=Tryz.prog) w 37 9 5 ⟨b,o,none⟩ c (toU8 l) Tryz.underlying37 Tryz.underlying5 Tryz.underlying9 (fun j hj=>by
   have hj':j<l.length:=by rw[hl] at hj;exact hj
   have:=hcell j hj'
   have e:(⟨b,o,none⟩:Addr).add j=⟨b,o+j,none⟩:=by unfold Addr.add;split <;> simp_all
   rw[e,this]
   congr 2
   have hx:=hB.at j
   simp only[toU8,List.getElem_map,UInt8.toNat_ofNat']
   rw[List.getD_eq_getElem?_getD,List.getElem?_eq_getElem hj'] at hx ⊢
   simp only[Option.getD_some] at hx ⊢
   omega)
  rw[hl] at this
  exact this
 ·have hn:l=[]:=List.eq_nil_of_length_eq_zero (by omega)
  subst hn
  cases p with
  | none=>exact Lib.run_convert_nil_bytes (P:=Tryz.prog) w 37 9 5 c Tryz.underlying37 Tryz.underlying5 Tryz.underlying9
  | some a=>exact run_convert_bytes_back (P:=Tryz.prog) w 37 9 5 a c [] Tryz.underlying37 Tryz.underlying5 Tryz.underlying9 (fun j hj=>by simp at hj)
theorem Qh7 {g g2:Tag} {u:Value} {l m:List Int}(h:Bytes w τ g v l) (k:Bytes w τ g2 u m) :
 Calls Tryz.prog 124 #[v,u] w fun e w'=>e = .returned (.bool (decide (l=m)))∧w=w':=by
 have c1:=h.conv
 have c2:=k.conv
 have he:=Qqc h.isB k.isB
 generalize decide (l=m)=r at *
 clear h k
 generalize toU8 l=a at *
 generalize toU8 m=b at *
 go_enter Tryz.func124,Tryz.ntmps124
 go_wp2_with fail
 go_ret
 exact⟨rfl,rfl⟩
theorem Qng {g g2:Tag} {u:Value} {l m:List Int}(h:Bytes w τ g v l) (k:Bytes w τ g2 u m) :
 Calls Tryz.prog 17 #[v,u] w fun e w'=>e = .returned (.bool (decide (l=m)))∧w=w':=by
 have c1:=h.conv
 have c2:=k.conv
 have he:=Qqc h.isB k.isB
 generalize decide (l=m)=r at *
 clear h k
 generalize toU8 l=a at *
 generalize toU8 m=b at *
 go_enter Tryz.func17,Tryz.ntmps17
 go_wp2_with fail
 go_ret
 exact⟨rfl,rfl⟩
def Dev.write (D:Dev) (f k:Nat) (l:List Int):Dev :=
 if D.go.1=true then (match (D.file f)[k]? with|some s=>D.go.2.put f ((D.file f).set k (s.add l))|none=>D) else D.go.2
def Dev.sync (D:Dev) (f:Nat):Dev:=if D.go.1=true then D.go.2.put f ((D.file f).map Sec.sync) else D.go.2
def Dev.lim (D:Dev) (b:Nat):Prop:=∀(f k:Nat) (s:Sec),(D.file f)[k]?=some s→s.waits.length≤b
theorem Dev.put_file (D:Dev) (f:Nat) (hf:f<2) (l:List Sec) (g:Nat):(D.put f l).file g=if g=f then l else D.file g:=by
 unfold Dev.put Dev.file
 rcases (by omega:f=0∨f=1) with rfl|rfl
 ·by_cases h:g=0
  ·subst h;simp
  ·simp[h]
 ·by_cases h:g=1
  ·subst h;simp
  ·by_cases h0:g=0
   ·subst h0;simp
   ·simp[h,h0]
theorem Dev.write_file (D:Dev) (f k:Nat) (hf:f<2) (l:List Int) (g:Nat):((D.write f k l).file g).length=(D.file g).length:=by
 unfold Dev.write
 split
 ·cases h:(D.file f)[k]? with
  | none=>rfl
  | some s =>
    simp only
    rw[Dev.put_file _ _ hf]
    split
    ·rename_i e;rw[e,List.length_set]
    ·rw[Dev.go_file]
 ·rw[Dev.go_file]
theorem Dev.sync_file (D:Dev) (f:Nat) (hf:f<2) (g:Nat):((D.sync f).file g).length=(D.file g).length:=by
 unfold Dev.sync
 split
 ·rw[Dev.put_file _ _ hf]
  split
  ·rename_i e;rw[e,List.length_map]
  ·rw[Dev.go_file]
 ·rw[Dev.go_file]
theorem Dev.lim_mono {a b:Nat}(h:D.lim a) (hab:a≤b):D.lim b:=fun f k s hk=>Nat.le_trans (h f k s hk) hab
theorem Dev.lim_go {b:Nat}(h:D.lim b):D.go.2.lim b:=fun f k s hk=>h f k s (by rw[Dev.go_file] at hk;exact hk)
theorem Dev.lim_write {b:Nat}(h:D.lim b) (f k:Nat) (hf:f<2) (l:List Int):(D.write f k l).lim (b+1):=by
 unfold Dev.write
 split
 ·cases hs:(D.file f)[k]? with
  | none=>exact Dev.lim_mono h (by omega)
  | some s =>
    intro g j t hj
    simp only at hj
    rw[Dev.put_file _ _ hf] at hj
    split at hj
    ·by_cases e:j=k
     ·subst e
      rw[List.getElem?_set_self (List.getElem?_eq_some_iff.1 hs).1] at hj
      cases hj
      have:=h f j s hs
      simp only[Sec.add,List.length_append,List.length_cons,List.length_nil];omega
     ·rw[List.getElem?_set_ne (fun q=>e q.symm)] at hj
      have:=h f j t hj;omega
    ·rw[Dev.go_file] at hj
     have:=h g j t hj;omega
 ·exact Dev.lim_mono (Dev.lim_go h) (by omega)
theorem Dev.lim_sync {b:Nat}(h:D.lim b) (f:Nat) (hf:f<2):(D.sync f).lim b:=by
 unfold Dev.sync
 split
 ·intro g j t hj
  rw[Dev.put_file _ _ hf] at hj
  split at hj
  ·rw[List.getElem?_map] at hj
   obtain⟨s,hs,rfl⟩:=Option.map_eq_some_iff.1 hj
   simp[Sec.sync]
  ·rw[Dev.go_file] at hj
   exact h g j t hj
 ·exact Dev.lim_go h
def DevR (w:World) (τ:Tags) (b:Nat) (D:Dev) (r:Value) (e:Ending) (w':World):Prop:=e = .returned r∧∃τ',DevAt w' τ' b D∧Step w τ w' τ' DevTag
theorem Qey {b:Nat}(h:DevAt w τ b D) (f:Nat) (hf:f<2) (k:Nat) (hk:k<(D.file f).length) {v:Value}{l:List Int}{g:Tag}(hb:Bytes w τ g v l) (hl:l.length=128) (hg:¬DevTag g) (hlim:D.lim 900000) :
 Calls Tryz.prog 100 #[.pointer (some ⟨b,0,none⟩),.int .u8 (f:Int),.int .i64 (k:Int),v] w (DevR w τ b (D.write f k l) (.int .u16 0)):=by
 obtain⟨s,hs⟩:∃s,(D.file f)[k]?=some s:=⟨_,List.getElem?_eq_getElem hk⟩
 obtain⟨p,c,rfl,-,-⟩:=hb.any
 rw[hl] at hb ⊢
 cases hgo:D.go.1 with
 | true =>
   have:=Qug h f hf k s hs hl hb ⟨fun e=>hg (by rw[e];exact DevTag.dev),fun e=>hg (by rw[e];exact DevTag.left)⟩ (by have:=hlim f k s hs;omega) hgo
   refine this.mono ?_
   rintro e w' ⟨he,τ',hd,hx,hm⟩
   refine⟨he,τ',?_,Step.mk' hm hx (fun j _ hj=>?_)⟩
   ·unfold Dev.write;rw[if_pos hgo,hs];exact hd
   ·rcases hj with h|h|h
    ·rw[h];exact DevTag.dev
    ·rw[h];exact DevTag.left
    ·exact DevTag.file h
 | false =>
   have:=Qsr h f hf k hk p c hgo
   refine this.mono ?_
   rintro e w' ⟨he,hd,hm,hz⟩
   refine⟨he,τ,?_,Step.mk' hm (Ext.refl _ _) (fun j _ hj=>?_)⟩
   ·unfold Dev.write;rw[if_neg (by rw[hgo];simp)];exact hd
   ·rcases hj with h|h
    ·rw[h];exact DevTag.dev
    ·rw[h];exact DevTag.left
theorem Qhr {b:Nat}(h:DevAt w τ b D) (f:Nat) (hf:f<2) :
 Calls Tryz.prog 101 #[.pointer (some ⟨b,0,none⟩),.int .u8 (f:Int)] w (DevR w τ b (D.sync f) (.tuple #[])):=by
 cases hgo:D.go.1 with
 | true =>
   refine(Qw2 h f hf hgo).mono ?_
   rintro e w' ⟨he,hd,hm,hz⟩
   refine⟨he,τ,?_,Step.mk' hm (Ext.refl _ _) (fun j _ hj=>?_)⟩
   ·unfold Dev.sync;rw[if_pos hgo];exact hd
   ·rcases hj with h|h|h
    ·rw[h];exact DevTag.dev
    ·rw[h];exact DevTag.left
    ·rw[h];exact DevTag.file (f:=f) (.inl rfl)
 | false =>
   refine(Qut h f hf hgo).mono ?_
   rintro e w' ⟨he,hd,hm,hz⟩
   refine⟨he,τ,?_,Step.mk' hm (Ext.refl _ _) (fun j _ hj=>?_)⟩
   ·unfold Dev.sync;rw[if_neg (by rw[hgo];simp)];exact hd
   ·rcases hj with h|h
    ·rw[h];exact DevTag.dev
    ·rw[h];exact DevTag.left
def Dev.last (D:Dev) (f k:Nat):List Int:=((D.file f)[k]?.map Sec.newest).getD []
theorem DevAt.length {b:Nat}(h:DevAt w τ b D) (f:Nat):(D.file f).length≤4096:=by
 obtain⟨v0,v1,ha⟩:=h.as
 obtain⟨p,cap,_,_,h2,_⟩:=ha.file f
 exact h2
theorem DevAt.last128 {b:Nat}(h:DevAt w τ b D) (f k:Nat) (hk:k<(D.file f).length):(D.last f k).length=128∧IsB (D.last f k):=by
 obtain⟨v0,v1,ha⟩:=h.as
 obtain⟨p,cap,_,_,_,hp⟩:=ha.file f
 obtain⟨bf,xs,_,ho,hs⟩:=hp (by omega)
 have hx:(D.file f)[k]?=some (D.file f)[k]:=List.getElem?_eq_getElem hk
 obtain⟨v,_,hb,hl⟩:=Qin ho (hs k _ hx)
 unfold Dev.last
 rw[hx]
 exact⟨hl,hb.isB⟩
theorem Qnm {b:Nat}(h:DevAt w τ b D) (f:Nat) (hf:f<256) (k:Nat) (hk:k<(D.file f).length) (g:Tag) :
 Calls Tryz.prog 53 #[.pointer (some ⟨b,0,none⟩),.int .u8 (f:Int),.int .i64 (k:Int)] w fun e w'=>∃u τ',e = .returned (.tuple #[u,.int .u16 0])∧Bytes w' τ' g u (D.last f k)∧Step w τ w' τ' nil:=by
 have hx:(D.file f)[k]?=some (D.file f)[k]:=List.getElem?_eq_getElem hk
 refine(Qw9 h f hf k _ hx g).mono ?_
 rintro e w' ⟨u,τ',he,hb,hext,hm⟩
 refine⟨u,τ',he,?_,Step.of _ hm hext⟩
 unfold Dev.last
 rw[hx];exact hb
theorem Qkr {b:Nat}(h:RDevAt w τ b D) (f:Nat) (hf:f<2) :
 Calls Tryz.prog 175 #[.pointer (some ⟨b,0,none⟩),.int .u8 (f:Int)] w fun e w'=>e = .returned (.int .i64 ((D.file f).length:Int))∧w=w':=by
 obtain⟨v0,v1,h⟩:=h
 exact Jam h f hf
theorem Qgt {b:Nat}(h:RDevAt w τ b D) (f:Nat) (hf:f<2):(D.file f).length≤4096:=by
 obtain⟨v0,v1,h⟩:=h
 exact(h.file f hf).2.1
theorem Qkt {b:Nat}(h:RDevAt w τ b D) (f k:Nat) (hf:f<2) (hk:k<(D.file f).length):(D.last f k).length=128∧IsB (D.last f k):=by
 obtain⟨v0,v1,h⟩:=h
 obtain⟨bf,c,xs,ys,hv,hcap,ho,hxl,hsec⟩:=(h.file f hf).2.lenp (by omega)
 have hx:(D.file f)[k]?=some (D.file f)[k]:=List.getElem?_eq_getElem hk
 obtain⟨⟨hl,v,hv,hb⟩,⟨u,hu,hw⟩⟩:=hsec k _ hx
 unfold Dev.last
 rw[hx]
 show (Sec.newest _).length=128∧IsB (Sec.newest _)
 generalize (D.file f)[k]=s at *
 by_cases hz:s.waits=[]
 ·have hnew:s.newest=s.last:=by simp[Sec.newest,hz]
  rw[hnew]
  exact⟨hl,hb.isB⟩
 ·obtain⟨p',c',hv',_,hr⟩:=hw.read
  obtain⟨m,hm⟩:∃m,s.waits.length=m+1:=⟨s.waits.length-1,by have:=List.length_pos_iff.2 hz;omega⟩
  have hlast:s.waits[m]?=some s.newest:=by
   unfold Sec.newest
   rw[List.getLastD_eq_getLast?,List.getLast?_eq_getElem?,hm]
   simp only[Nat.add_sub_cancel]
   rw[List.getElem?_eq_getElem (by omega)];rfl
  obtain⟨a,b,u,_,_,hb⟩:=hr m _ hlast
  exact⟨a,hb.isB⟩
theorem Qr6 {b:Nat}(h:RDevAt w τ b D) (f:Nat) (hf:f<2) (k:Nat) (hk:k<(D.file f).length) (g:Tag) :
 Calls Tryz.prog 245 #[.pointer (some ⟨b,0,none⟩),.int .u8 (f:Int),.int .i64 (k:Int)] w fun e w'=>∃u τ',e = .returned (.tuple #[u,.int .i64 0])∧Bytes w' τ' g u (D.last f k)∧Step w τ w' τ' nil:=by
 obtain⟨v0,v1,h⟩:=h
 have h1:=Qks h f hf k hk
 obtain⟨cf,hfile⟩:=h.file f hf
 obtain⟨bf,c,xs,ys,hv,hcap,ho,hxl,hsec⟩:=hfile.lenp (by omega)
 rw[hv] at cf
 have hx:(D.file f)[k]?=some (D.file f)[k]:=List.getElem?_eq_getElem hk
 obtain⟨⟨hl,v,hv0,hb⟩,⟨u,hu,hw⟩⟩:=hsec k _ hx
 have c0:=ho.at (k*2) (v:=v) (by rw[List.getElem?_append_left (by omega)];exact hv0)
 have c1:=ho.at (k*2+1) (v:=u) (by rw[List.getElem?_append_left (by omega)];exact hu)
 have hla:D.last f k=(D.file f)[k].newest:=by unfold Dev.last;rw[hx];rfl
 rw[hla]
 have hn4096:=hfile.1
 generalize (D.file f)[k]=s at *
 generalize (D.file f).length=n at *
 by_cases hz:s.waits=[]
 ·have hnew:s.newest=s.last:=by simp[Sec.newest,hz]
  rw[hnew]
  obtain⟨pu,cu,rfl⟩:=hw.len
  rw[hz] at c1
  simp only[List.length_nil] at c1
  obtain⟨pv,cv,rfl,-,-⟩:=hb.any
  rw[hl] at hb c0
  have hln:=fun W (m:Step w τ W τ nil)=>Qr7 (hb.step m (fun h=>h)) g (by omega)
  obtain⟨H1,Hln⟩:=hid2 h1 hln
  clear h1 hln h hfile hv hsec hw hu hz hx hb hla ho hv0 hnew
  go_enter Tryz.func245,Tryz.ntmps245
  go_wp2_with fail
  refine H1.out.mono ?_
  rintro e w' ⟨rfl,rfl⟩
  go_wp2_with fail
  refine(Hln.out _ ((Step.refl w τ nil).alloc' _)).mono ?_
  rintro e w2 ⟨uu,τ2,rfl,hb2,hs2⟩
  obtain⟨Hb2,Hs2⟩:=hid2 hb2 hs2
  clear hb2 hs2
  go_wp2_with fail
  go_ret2
  exact⟨uu,τ2,rfl,Hb2.out,((Step.refl w τ nil).alloc' _).trans Hs2.out⟩
 ·obtain⟨pu,cu,rfl,hwm,hr⟩:=hw.read
  obtain⟨m,hm⟩:∃m,s.waits.length=m+1:=⟨s.waits.length-1,by have:=List.length_pos_iff.2 hz;omega⟩
  have hlast:s.waits[m]?=some s.newest:=by
   unfold Sec.newest
   rw[List.getLastD_eq_getLast?,List.getLast?_eq_getElem?,hm]
   simp only[Nat.add_sub_cancel]
   rw[List.getElem?_eq_getElem (by omega)];rfl
  obtain⟨hl2,bw,ul,rfl,cm,hbl⟩:=hr m _ hlast
  obtain⟨pv,cv,rfl,-,-⟩:=hb.any
  obtain⟨pl,cl,rfl,-,-⟩:=hbl.any
  rw[hl2] at hbl cm
  rw[hl] at c0
  have hln:=fun W (mm:Step w τ W τ nil)=>Qr7 (hbl.step mm (fun h=>h)) g (by omega)
  have hmx:m+1≤9223372036854775807:=by unfold maxLen at hwm;omega
  rw[hm] at c1
  have hbw:=cell_lt cm
  obtain⟨H1,Hln⟩:=hid2 h1 hln
  clear h1 hln h hfile hv hsec hw hu hz hx hb hla ho hv0 hr hlast hbl hm hwm
  go_enter Tryz.func245,Tryz.ntmps245
  go_wp2_with fail
  refine H1.out.mono ?_
  rintro e w' ⟨rfl,rfl⟩
  go_wp2_with fail
  refine(Hln.out _ ((Step.refl w τ nil).alloc' _)).mono ?_
  rintro e w2 ⟨uu,τ2,rfl,hb2,hs2⟩
  obtain⟨Hb2,Hs2⟩:=hid2 hb2 hs2
  clear hb2 hs2
  go_wp2_with fail
  go_ret2
  exact⟨uu,τ2,rfl,Hb2.out,((Step.refl w τ nil).alloc' _).trans Hs2.out⟩
theorem Qzb {b:Nat}(h:RDevAt w τ b D) (f:Nat) (hf:f<2) (k:Nat) {s:Sec}(hx:(D.file f)[k]?=some s) :
 Calls Tryz.prog 288 #[.pointer (some ⟨b,0,none⟩),.int .u8 (f:Int),.int .i64 (k:Int)] w fun e w'=>e = .returned (.int .i64 (s.waits.length:Int))∧w=w':=by
 obtain⟨v0,v1,h⟩:=h
 have hk:=(List.getElem?_eq_some_iff.1 hx).1
 have h1:=Qks h f hf k hk
 obtain⟨cf,hfile⟩:=h.file f hf
 obtain⟨bf,c,xs,ys,hv,hcap,ho,hxl,hsec⟩:=hfile.lenp (by omega)
 rw[hv] at cf
 obtain⟨⟨hl,v,hv0,hb⟩,⟨u,hu,hw⟩⟩:=hsec k _ hx
 obtain⟨pu,cu,rfl⟩:=hw.len
 have c1:=ho.at (k*2+1) (by rw[List.getElem?_append_left (by omega)];exact hu)
 have hn4096:=hfile.1
 generalize (D.file f).length=n at *
 generalize s.waits.length=m at *
 have H1:=Lib.hid h1
 clear h1 h hfile hv hsec hw hu hx hb ho hv0
 go_enter Tryz.func288,Tryz.ntmps288
 go_wp2_with fail
 refine H1.out.mono ?_
 rintro e w' ⟨rfl,rfl⟩
 go_wp2_with fail
 go_ret
 exact⟨rfl,rfl⟩
end Go.Proofs.YtemacanaihaldaaGreat