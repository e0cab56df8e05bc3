/-
 slots of the laws of restarts: all slots of all pages,whatever the pool is.
-/
import Derived.Test.YtociicnopccppaaGreatMSlH
import Derived.Test.YtociicnopccppaaGreatMGetW
set_option maxRecDepth 100000
set_option maxHeartbeats 4000000
set_option linter.all false
namespace Go.Proofs.YtociicnopccppaaGreat
open Go.RowKit
structure SlG (I:Ids) (V:qbd) (J:Nat->World->qa1->Prop) (i b:Nat) (G:World->qa1->Prop):Prop where
 step:∀{w w':World} {τ τ':qa1} {S:Tag->Prop},G w τ->Step w τ w' τ' S->(∀g,S g->¬qbe g/\¬Qai g/\g≠qa2)->G w' τ'
 page:∀{w:World} {τ:qa1},G w τ->∃g P,qag w τ g b P/\Fit P/\∀q,qb7 P q=V i q
 pool:∀{w:World} {τ:qa1},G w τ->Calls Tryz.prog 13 #[.pointer (some ⟨I.bm,0,none⟩)] w fun e w'=>e = .returned (.pointer (some ⟨I.bp,0,none⟩))/\w=w'
 put:∀{w:World} {τ:qa1},G w τ->Calls Tryz.prog 56 #[.pointer (some ⟨I.bp,0,none⟩),.int .u32 i,.int .u64 0] w fun e w'=>e = .returned (.bool true)/\J (i+1) w' τ/\Step w τ w' τ qbe
structure SlI (I:Ids) (V:qbd) (J:Nat->World->qa1->Prop):Prop where
 pool:∀{i:Nat} {w:World} {τ:qa1},J i w τ->Calls Tryz.prog 13 #[.pointer (some ⟨I.bm,0,none⟩)] w fun e w'=>e = .returned (.pointer (some ⟨I.bp,0,none⟩))/\w=w'
 pages:∀{i:Nat} {w:World} {τ:qa1},J i w τ->Calls Tryz.prog 20 #[.pointer (some ⟨I.bp,0,none⟩)] w fun e w'=>e = .returned (.int .i64 I.N)/\w=w'
 get:∀{i:Nat} {w:World} {τ:qa1},J i w τ->i<I.N->Calls Tryz.prog 54 #[.pointer (some ⟨I.bp,0,none⟩),.int .u32 i] w fun e w'=>∃b,e = .returned (.tuple #[.pointer (some ⟨b,0,none⟩),.int .u16 0])/\∃τ' G,G w' τ'/\SlG I V J i b G/\Step w τ w' τ' qbe
def Jme (w:World) (τ:qa1) (I:Ids) (V:qbd) (J:Nat->World->qa1->Prop) (j:Nat) (e:Ending) (w':World):Prop :=
 ∃v τ',e = .returned v/\NV w.heap.size w' τ' (qf7 j) v (Qbw V I.N)/\J I.N w' τ'/\Step w τ w' τ' qbj
theorem Jja {w:World}{τ:qa1}{I:Ids}{V:qbd}{J:Nat->World->qa1->Prop}(hJ:SlI I V J) (h:J 0 w τ) (hN:I.N<=512) (h4:∀i,i<I.N->∀q,(V i q).length<=4) (j:Nat) :
 Calls Tryz.prog 17 #[.pointer (some ⟨I.bm,0,none⟩)] w (Jme w τ I V J j):=by
 have bp:=Z2 h
 clear h
 go_enter Tryz.func17,Tryz.ntmps17
 go_wp2_with fail
 go_loopw [3,4] (fun o v wr=>∃(i:Nat) (C:qa1),i<=I.N/\v = .int .i64 i/\NV w.heap.size wr C (qf7 j) o (Qbw V i)/\J i wr C/\Step w τ wr C qbj) (fun _ v _=>I.N-(intOf v).toNat)
 case atStart=>exact⟨0,τ,Z9 _,rfl,NV.nil _ _ _ _,bp,Step.refl _ _ _⟩
 case round =>
  obtain⟨i,C,hi,rfl,n,hz,hs⟩:=hrel
  have a0:=hJ.pool hz
  have a1:=hJ.pages hz
  obtain⟨p,c,rfl⟩:=n.val
  by_cases az:i<I.N
  ·have hlt':(i:Int)<I.N:=oM
   have hconv:IntKind.u32.wrap (i:Int)=i:=by simp[IntKind.wrap,IntKind.bits,IntKind.signed];omega
   have a7:=hJ.get hz az
   obtain⟨nr,D⟩:=gN ((Qbw V i).length)
   rw[D] at n ⊢
   obtain⟨ag,Hs,a2,ah,b0⟩:=qbq n hs a0 a1 a7
   clear n hs a0 a1 a7 D
   go_wp2_with fail
   refine a2.mono ?_
   rintro e w1 ⟨rfl,rfl⟩
   go_wp2_with fail
   refine ah.mono ?_
   rintro e w1 ⟨rfl,rfl⟩
   go_wp2_with fail
   refine a2.mono ?_
   rintro e w1 ⟨rfl,rfl⟩
   go_wp2_with fail
   refine b0.mono ?_
   rintro e w1 ⟨b,rfl,τ1,G,b1,hG,b2⟩
   have a8:=ag.step b2 (Qfy j).1 Qhd
   have E:Step w τ w1 τ1 qbj:=Hs.trans (b2.mono (fun _ h=>.inl (.inl h)))
   have b3:=Z2 a8
   have aj:=Z2 E
   have br:=Z2 b1
   clear a8 E b1
   go_wp2_with fail
   go_loopw [3,7] (fun o v wr=>∃(q:Nat) (F:qa1),q<=12/\v = .int .i64 q/\NV w.heap.size wr F (qf7 j) o (Qbw V i++Qbi V i q)/\G wr F/\Step w τ wr F qbj) (fun _ v _=>12-(intOf v).toNat)
   case atStart=>exact⟨0,τ1,Z9 _,rfl,by rw[show Qbi V i 0=[] from rfl,List.append_nil];exact b3,br,aj⟩
   case round =>
    obtain⟨q,F,hq,rfl,r,s,a3⟩:=hrel
    obtain⟨pq,cq,rfl⟩:=r.val
    by_cases hlt12:q<12
    ·have hltq:(q:Int)<12:=oM
     obtain⟨gP,P,bs,b4,b5⟩:=hG.page s
     have a4:=Qk0 bs b4 q oM qa2
     rw[b5 q] at a4
     obtain⟨B,hB⟩:=gN (decide (0<(V i q).length))
     rw[hB] at a4
     have a9:Qbi V i (q+1)=Qbi V i q++[Jb2 (V i q)]:=Qnu V i q
     have b6:(Qbw V i++Qbi V i q).length<=1000000000:=by rw[Z6,Qc3,Qi6];omega
     obtain⟨nq,a⟩:∃nq,(Qbw V i++Qbi V i q).length=nq:=⟨_,rfl⟩
     rw[a] at r ⊢
     obtain⟨a5,ak,a6,bv,HB,aa,b7⟩:=qdr r s a3 a4 hB a9 b6
     have b8:=Z2 a
     clear r s a3 a4 hB a9 b6 a
     go_wp2_with fail
     refine bv.mono ?_
     rintro e w2 ⟨u,b9,rfl,hu,x⟩
     cases B with
     | true =>
       have L:V i q≠[]:=fun e=>by have:=HB.out;rw[e] at this;simp at this
       have z:Jb2 (V i q)=V i q++[1]:=if_neg L
       obtain⟨pu,cu,rfl⟩:=hu.val
       obtain⟨lu,M⟩:=gN ((V i q).length)
       have ac:(V i q).length<=4:=h4 i az q
       rw[M] at hu ⊢
       obtain⟨Hu,ba,bb,bc⟩:=qb9 hu x z ac
       clear hu x z M ac L
       go_upto_region 14 with (at_builtin;go_loud (refine Qal (ba.alloc' _) (Hu.alloc _) (Qwv w2 b9) (by have:=bc.out;show _+1<=_;omega) rfl _ _ rfl rfl rfl ?_;intro v3 w3 bw al bd be;obtain⟨p3,c3,rfl⟩:=al.val;clear be;obtain⟨bz,am⟩:=qaj al bd;clear al bd))
       have d:=a5.step am id id
       have k:=a6.trans am.nz
       have O:=hG.step ak am (fun g h=>h.elim)
       have y:Bytes w3 bw qa2 (.slice p3 (V i q++[1]).length c3) (Jb2 (V i q)):=by rw[bb.out];exact bz.bytes
       obtain⟨l3,an⟩:=gN ((V i q).length+1)
       rw[Z6,List.length_singleton,an] at y
       rw[an]
       obtain⟨R,U,ao,ap⟩:=qb9 d k O y
       clear d k O y an
       go_wp2_with (at_builtin;go_loud (refine Qcv U (Qfy j).2.2.1 R ap b7 rfl rfl _ _ rfl rfl rfl ?_;intro v4 w4 aq X Y l;obtain⟨ar,av⟩:=qaj X Y;have Z:=Z2 l;clear X Y l))
       go_round
       case rel=>exact⟨q+1,aq,oM,sM,by rw[aa.out,<-Y9];exact ar,hG.step ao Z (fun g h=>by subst h;exact⟨(Qfy j).1,(Qfy j).2.1,(Qfy j).2.2.1⟩),av⟩
       case measure=>simp[intOf];omega
     | false =>
       have L:V i q=[]:=by
        have:=of_decide_eq_false HB
        exact List.eq_nil_of_length_eq_zero oM
       have z:Jb2 (V i q)=V i q:=by rw[L];rfl
       obtain⟨pu,cu,rfl⟩:=hu.val
       obtain⟨lu,M⟩:=gN ((V i q).length)
       have d:=a5.step x id id
       have k:=a6.trans x.nz
       have O:=hG.step ak x (fun g h=>h.elim)
       have y:Bytes w2 b9 qa2 (.slice pu (V i q).length cu) (Jb2 (V i q)):=by rw[z];exact hu.bytes
       rw[M] at y ⊢
       obtain⟨R,U,ao,ap,bb,Hu,ba⟩:=qdr d k O y z hu x
       clear d k O y M z hu x L
       go_wp2_with (at_builtin;go_loud (refine Qcv U (Qfy j).2.2.1 R ap b7 rfl rfl _ _ rfl rfl rfl ?_;intro v4 w4 aq X Y l;obtain⟨ar,av⟩:=qaj X Y;have Z:=Z2 l;clear X Y l))
       go_round
       case rel=>exact⟨q+1,aq,oM,sM,by rw[aa.out,<-Y9];exact ar,hG.step ao Z (fun g h=>by subst h;exact⟨(Qfy j).1,(Qfy j).2.1,(Qfy j).2.2.1⟩),av⟩
       case measure=>simp[intOf];omega
    ·have bf:q=12:=oM
     subst bf
     have ad:=hG.pool s
     have ae:=hG.put s
     have bg:Qbw V (i+1)=Qbw V i++Qbi V i 12:=Qgr V i
     obtain⟨nq,a⟩:∃nq,(Qbw V i++Qbi V i 12).length=nq:=⟨_,rfl⟩
     rw[a] at r ⊢
     obtain⟨a5,ak,a6,bh,bi,c4⟩:=qcq r s a3 ad ae bg
     have b8:=Z2 a
     clear r s a3 ad ae bg a
     go_wp2_with fail
     refine zC bh ?_
     go_wp2_with fail
     refine bi.mono ?_
     rintro e w5 ⟨rfl,bj,aw⟩
     have bk:=a5.step aw (Qfy j).1 Qhd
     have af:=a6.trans (aw.mono (T:=qbj) (fun _ h=>.inl (.inl h)))
     obtain⟨c5,c6,bl⟩:=qan bj bk af
     clear bj bk af aw
     go_wp2_with fail
     go_round
     case rel=>exact⟨i+1,F,oM,sM,by rw[c4.out];exact c6,c5,bl⟩
     case measure=>simp[intOf];omega
  ·obtain rfl:i=I.N:=oM
   obtain⟨nr,D⟩:=gN ((Qbw V I.N).length)
   rw[D] at n ⊢
   obtain⟨ag,Hz,Hs,a2,ah⟩:=qbq n hz hs a0 a1
   clear n hz hs a0 a1 D
   go_wp2_with fail
   refine a2.mono ?_
   rintro e w1 ⟨rfl,rfl⟩
   go_wp2_with fail
   refine ah.mono ?_
   rintro e w1 ⟨rfl,rfl⟩
   go_wp2_with fail
   go_returns
   exact⟨_,C,rfl,ag,Hz,Hs⟩
theorem Jmb {I:Ids}{bo:Nat->Nat}{X:List qa9}{next:Nat}{R:List qak}{V:qbd}{st:Nat}(hst:st+I.N<=1000000):SlI I V (fun i w τ=>i<=I.N/\TZ w τ I bo X next R V (st+i)):=by
 refine⟨fun h=>Qhg h.2.mgr,fun {i w τ} h=>?_,fun {i w τ} h hi=>?_⟩
 ·obtain⟨H,L,D,F,s,cur,h1,-⟩:=h.2.is
  have:=Qk2 h1.pool.pool
  rw[h1.hn] at this
  exact this
 ·obtain⟨H,L,D,F,s,cur,h1,h2,r,h4,l⟩:=h.2.is
  refine(Qr0 h1 oM i hi).mono ?_
  rintro e w1 ⟨b,rfl,τ1,n,o,p,q,x,y,f,d,hst1,c,g⟩
  refine⟨b,rfl,τ1,fun w τ=>TG w τ I.bm I.bl I.bp I.bf I.bd I.N bo X next n o p q x cur i y b f,d,⟨fun a m z=>a.step m z,fun a=>⟨_,_,a.page,(h1.good.page i hi).1.tidy.lies.fit,(l i hi).2⟩,fun a=>Qhg a.mgr,fun {w τ} a=>?_⟩,g⟩
  refine(Qrz a (by have:=h1.pool.pool.n1;rw[h1.hn] at this;omega)).mono ?_
  rintro e w5 ⟨rfl,B,j,k⟩
  exact⟨rfl,⟨hi,⟨⟨n,o,p,q,B,cur,j,h2.same c,by rw[c.strips];exact r,oM,l⟩⟩⟩,k⟩
structure ClnW (I:Ids) (H:qaq) (L:qac) (D:Dev) (V:qbd) (cur:Nat->List Int) (next:Nat) (w:World) (τ:qa1):Prop where
 is:∃F s,qbz w τ I.bp I.bf I.bd H L D F s/\qez I.N D F cur/\Clock F s
 mgr:qbr w τ I.bm I.bl I.bp (fun _=>0) [] next
 n:H.n=I.N
 page:∀n,n<I.N->Fit (cur n)/\∀t,qb7 (cur n) t=V n t
theorem Jla {I:Ids}{H:qaq}{L:qac}{D:Dev}{V:qbd}{cur:Nat->List Int}{next:Nat}:SlI I V (fun _ w τ=>ClnW I H L D V cur next w τ):=by
 refine⟨fun h=>Qhg h.mgr,fun {i w τ} h=>?_,fun {i w τ} h hi=>?_⟩
 ·obtain⟨F,s,h1,-,-⟩:=h.is
  have:=Qk2 h1.pool
  rw[h.n] at this
  exact this
 ·obtain⟨F,s,h1,h2,q⟩:=h.is
  refine(Jfq h1 h2 q h.n i hi).mono ?_
  rintro e w1 ⟨b,rfl,τ1,p,r,x,f,a⟩
  refine⟨b,rfl,τ1,fun w τ=>qbz w τ I.bp I.bf I.bd H L D p r/\qbr w τ I.bm I.bl I.bp (fun _=>0) [] next,⟨a.pool,h.mgr.step a.step (fun g o d=>(Qi3 d).1 o)⟩,⟨fun c m j=>⟨c.1.step m (fun g a=>⟨fun k=>(j g a).1 (.inl k),fun k=>(j g a).1 (.inr (.inl k)),fun k=>(j g a).1 (.inr (.inr k)),(j g a).2.2⟩),c.2.step m (fun g a y=>(j g y).2.1 a)⟩,fun {w τ} c=>?_,fun c=>Qhg c.2,fun {w τ} c=>?_⟩,a.step⟩
  ·exact⟨_,_,c.1.pool.pg x b (cur i) (by rw[a.at_];exact a.pg),(h.page i hi).1,(h.page i hi).2⟩
  ·refine(Jfe c.1 h.n a.held a.at_ a.pg a.fn hi).mono ?_
   rintro e w5 ⟨rfl,z,d,B,l⟩
   exact⟨rfl,⟨⟨p,z,d,a.good,B⟩,c.2.step l (fun g o d=>(Qi3 d).1 o),h.n,h.page⟩,l⟩
