/-
 TxnBack: the law walked.
-/
import Derived.Test.YtjgacceifcnedaaGreatML15H
import Derived.Test.YtjgacceifcnedaaGreatML15D
import Derived.Test.YtjgacceifcnedaaGreatMActE
import Derived.Test.YtjgacceifcnedaaGreatML15B
import Derived.ProofKit
import Derived.Test.YtjgacceifcnedaaGreatRows
import Derived.Test.YtjgacceifcnedaaGreatChecked
set_option maxRecDepth 100000
set_option maxHeartbeats 8000000
set_option linter.all false
namespace Go.Proofs.YtjgacceifcnedaaGreat
open Go.RowKit Go.Maps ArgsQ
theorem Jcm (w:World) (sp pg fr:Nat) (hsp:sp<256) (hpg:pg<256) (hfr:fr<256) (la lb:Option Addr) (n1 c1 n2 c2:Nat) (hn1:n1≤maxLen) (hn2:n2≤maxLen) (o1:OpsT w la n1) (o2:OpsT w lb n2) :
 Calls Tryz.prog 4 #[.int .u8 (sp:Int),.int .u8 (pg:Int),.int .u8 (fr:Int),.slice la n1 c1,.slice lb n2 c2] w (LawD w):=by
 have hkn:=Qra w
 obtain⟨Hkn,H_o1,H_o2⟩:=hid3 hkn o1 o2
 clear hkn o1 o2
 by_cases hb1:40<n1
 ·have g1:decide ((40:Int)<(n1:Int))=true:=decide_eq_true (by omega)
  go_enter Tryz.func4,Tryz.ntmps4
  go_wp2_with fail
  refine Hkn.out.mono ?_
  rintro e w' ⟨rfl,τ',hs⟩
  have hbw:=(Qiv hs).below
  have Hbw:=Lib.hid hbw
  clear hbw hs
  go_wp2_with fail
  go_ret
  exact⟨rfl,Hbw.out⟩
 by_cases hb2:40<n2
 ·have g1:decide ((40:Int)<(n1:Int))=false:=decide_eq_false (by omega)
  have g2:decide ((40:Int)<(n2:Int))=true:=decide_eq_true (by omega)
  go_enter Tryz.func4,Tryz.ntmps4
  go_wp2_with fail
  refine Hkn.out.mono ?_
  rintro e w' ⟨rfl,τ',hs⟩
  have hbw:=(Qiv hs).below
  have Hbw:=Lib.hid hbw
  clear hbw hs
  go_wp2_with fail
  go_ret
  exact⟨rfl,Hbw.out⟩
 have g1:decide ((40:Int)<(n1:Int))=false:=decide_eq_false (by omega)
 have g2:decide ((40:Int)<(n2:Int))=false:=decide_eq_false (by omega)
 go_enter Tryz.func4,Tryz.ntmps4
 go_wp2_with fail
 refine Hkn.out.mono ?_
 rintro e w0 ⟨rfl,τ0,hs0⟩
 have hm0:=Qiv hs0
 have hsh:=Qu2 w0 sp pg fr hsp hpg hfr
 obtain⟨Hm0,Hsh⟩:=hid2 hm0 hsh
 clear hm0 hsh hs0
 go_wp2_with fail
 refine Hsh.out.mono ?_
 rintro e w1 ⟨I,τ1,rfl,hN,hS,hz1,hs1⟩
 have hst1:=Qw3 Hm0.out hs1
 have hbe:=Qsz hz1 (by omega) (by omega)
 obtain⟨HN,HS,Hz1,Hst1,Hbe⟩:=hid5 hN hS hz1 hst1 hbe
 clear hN hS hz1 hst1 hbe hs1
 go_wp2_with fail
 refine Hbe.out.mono ?_
 rintro e w2 ⟨rfl,τ2,bo,hs2,hso2⟩
 have hst2:=Hst1.out.trans (hs2.mono (T:=AnyTag) (fun _ h=>Qdw h))
 obtain⟨Hst2,Hso2⟩:=hid2 hst2 hso2
 clear hst2 hso2 hs2
 go_wp2_with fail
 have hsl0:=Qrx Hso2.out.tz (by have:=HN.out;omega) (by have:=HN.out;omega) 0
 have Hsl0:=Lib.hid hsl0
 clear hsl0
 refine Hsl0.out.mono ?_
 rintro e wf ⟨vf,τf,rfl,hrf,hzf,hsf⟩
 have hsof:=Hso2.out.retz hzf
 have hstf:=Hst2.out.trans (hsf.mono (T:=AnyTag) (fun _ h=>Qdw h))
 obtain⟨n0f,hn0f⟩:∃q,w2.heap.size=q:=⟨_,rfl⟩
 rw[hn0f] at hrf
 obtain⟨pf,cf,rfl⟩:=hrf.val
 obtain⟨lf,hlf⟩:∃q,(Qbw kV0 I.N).length=q:=⟨_,rfl⟩
 rw[hlf] at hrf
 rw[hlf]
 obtain⟨Hsof,Hstf,Hrf,Hlf⟩:=hid4 hsof hstf hrf hlf
 clear hsof hstf hrf hlf hsf hzf
 go_wp2_with fail
 go_loopw [16] (fun v wr=>∃(i:Nat) (τr:Tags) (R:List RecP) (V:SlotV) (x:OneP) (l:List (Nat×ChangeP)),i≤n1∧v = .int .i64 (i:Int)∧Solo wr τr I bo R V ((0+I.N)+i) x l kV0∧(Solo.top x l∧x.undo=x.last)∧Step w boxed wr τr AnyTag∧(NV n0f wr τr (tSlR 0) (.slice pf lf cf) (Qbw kV0 I.N))) (fun v _=>n1-(intOf v).toNat)
 case atStart=>exact⟨0,τf,_,_,_,_,Nat.zero_le _,rfl,Hsof.out,⟨.inl ⟨rfl,rfl⟩,rfl⟩,Hstf.out,Hrf.out⟩
 case round =>
  obtain⟨i,τr,R,V,x,l,hi,rfl,hso,hph,hst,hex⟩:=hrel
  by_cases hlt:i<n1
  ·obtain⟨bl,ol,op,hla,hop⟩:=H_o1.out i hlt
   obtain⟨q0,q1,q2,p0,p1,p2,p3,p4,p5,p6⟩:=hop.stay hst
   have hltI:(i:Int)<(n1:Int):=by omega
   have hown:=Qnc hso (by have:=HN.out;omega) (kd:=op.kd) (nn:=op.nn) (pg:=op.pg) (sl:=op.sl) (p:=op.p) (m:=op.m) (c:=op.c) (k:=op.k) (at_:=op.at_) q0 q1 q2
   unfold OpV at hown
   have hxl:=hso.tlast.low
   obtain⟨hs0,hs0'⟩:∃b,decide (0<op.kd%5)=b:=⟨_,rfl⟩
   rw[hs0'] at hown
   obtain⟨Hso,Hph,Hst,Hop,Hex,Hown,Hxl⟩:=hid7 hso hph hst hop hex hown hxl
   clear hso hph hst hop hex hown hxl
   rw[hla]
   clear hla
   go_wp2_with fail
   refine Hown.out.mono ?_
   rintro e w3 ⟨e',τ3,V',R',x',l',rfl,hs3,hc3,hso3⟩
   have hph3:Solo.top x' l'∧x'.undo=x'.last:=⟨Qwy hc3 Hph.out.1,hc3.grow.2.2 Hph.out.2⟩
   have hst3:=Hst.out.trans (hs3.mono (T:=AnyTag) (fun _ h=>Qdw (.inl h)))
   have hex3:=Hex.out.step (hs3.mono (T:=TyTag) (fun _ h=>.inl h)) (Qov 0) Qkg
   obtain⟨Hph3,Hst3,Hso3,Hex3⟩:=hid4 hph3 hst3 hso3 hex3
   clear hph3 hst3 hso3 hex3 hs3 hc3 p0 p1 p2 p3 p4 p5 p6
   go_wp2_with fail
   go_round
   case rel=>exact⟨i+1,τ3,R',V',x',l',by omega,by simp,Hso3.out,Hph3.out,Hst3.out,Hex3.out⟩
   case measure=>simp[intOf];omega
  ·have hin:i=n1:=by omega
   rw[hin] at hso
   try rw[hin]
   obtain⟨RA,rfl⟩:∃q,q=R:=⟨_,rfl⟩
   obtain⟨VA,rfl⟩:∃q,q=V:=⟨_,rfl⟩
   obtain⟨xA,rfl⟩:∃q,q=x:=⟨_,rfl⟩
   obtain⟨kA,rfl⟩:∃q,q=l:=⟨_,rfl⟩
   obtain⟨τA,rfl⟩:∃q,q=τr:=⟨_,rfl⟩
   have hmk:=Qsd hso.tz.mgr (x:=xA) (by simp) hso.state 1 hso.txn (by omega)
   have hsl:=Qrx hso.tz (by have:=HN.out;omega) (by have:=HN.out;omega) 1
   obtain⟨Hso,Hph,Hst,Hex,Hmk,Hsl⟩:=hid6 hso hph hst hex hmk hsl
   clear hso hph hst hex hmk hsl
   go_wp2_with fail
   refine Hmk.out.mono ?_
   rintro e w' ⟨rfl,rfl⟩
   go_wp2_with fail
   refine Hsl.out.mono ?_
   rintro e w4 ⟨vw,τ4,rfl,hrw,hz4,hs4⟩
   have hso4:=Hso.out.retz hz4
   have hst4:=Hst.out.trans (hs4.mono (T:=AnyTag) (fun _ h=>Qdw h))
   have hrf4:=Hex.out.step hs4 (Qov 0) Qkg
   obtain⟨n0w,hn0w⟩:∃q,wr.heap.size=q:=⟨_,rfl⟩
   rw[hn0w] at hrw
   obtain⟨pw,cw,rfl⟩:=hrw.val
   obtain⟨lw,hlw⟩:∃q,(Qbw VA I.N).length=q:=⟨_,rfl⟩
   rw[hlw] at hrw
   rw[hlw]
   have hsame:=Hph.out.2
   obtain⟨Hso4,Hst4,Hrf4,Hrw,Hlw,Hsame⟩:=hid6 hso4 hst4 hrf4 hrw hlw hsame
   clear hso4 hst4 hrf4 hrw hlw hsame hs4 hz4
   go_wp2_with fail
   go_loopw [20] (fun v wr=>∃(i:Nat) (τr:Tags) (R:List RecP) (V:SlotV) (x:OneP) (l:List (Nat×ChangeP)),i≤n2∧v = .int .i64 (i:Int)∧Solo wr τr I bo R V ((0+I.N+n1+I.N)+i) x l kV0∧(PhB VA kA xA.undo R V x l∧∃T,R=RA++T)∧Step w boxed wr τr AnyTag∧(NV n0f wr τr (tSlR 0) (.slice pf lf cf) (Qbw kV0 I.N)∧NV n0w wr τr (tSlR 1) (.slice pw lw cw) (Qbw VA I.N))) (fun v _=>n2-(intOf v).toNat)
   case atStart=>exact⟨0,τ4,_,_,_,_,Nat.zero_le _,rfl,Hso4.out,⟨PhB.start _ _ _ _ Hsame.out,[],by simp⟩,Hst4.out,Hrf4.out,Hrw.out⟩
   case round =>
    obtain⟨i,τr,R,V,x,l,hi,rfl,hso,hph,hst,hex⟩:=hrel
    by_cases hlt:i<n2
    ·obtain⟨bl,ol,op,hla,hop⟩:=H_o2.out i hlt
     obtain⟨q0,q1,q2,p0,p1,p2,p3,p4,p5,p6⟩:=hop.stay hst
     have hltI:(i:Int)<(n2:Int):=by omega
     have hown:=Qnc hso (by have:=HN.out;omega) (kd:=op.kd) (nn:=op.nn) (pg:=op.pg) (sl:=op.sl) (p:=op.p) (m:=op.m) (c:=op.c) (k:=op.k) (at_:=op.at_) q0 q1 q2
     unfold OpV at hown
     have hxl:=hso.tlast.low
     obtain⟨hs0,hs0'⟩:∃b,decide (0<op.kd%5)=b:=⟨_,rfl⟩
     rw[hs0'] at hown
     obtain⟨Hso,Hph,Hst,Hop,Hex,Hown,Hxl⟩:=hid7 hso hph hst hop hex hown hxl
     clear hso hph hst hop hex hown hxl
     rw[hla]
     clear hla
     go_wp2_with fail
     refine Hown.out.mono ?_
     rintro e w3 ⟨e',τ3,V',R',x',l',rfl,hs3,hc3,hso3⟩
     have hph3:PhB VA kA xA.undo R' V' x' l'∧∃T,R'=RA++T:=⟨Hph.out.1.next (by have:=Hxl.out;omega) hc3,by
      obtain⟨T,hT⟩:=Hph.out.2
      obtain⟨T',hT'⟩:=hc3.grow.1
      exact⟨T++T',by rw[hT',hT,List.append_assoc]⟩⟩
     have hst3:=Hst.out.trans (hs3.mono (T:=AnyTag) (fun _ h=>Qdw (.inl h)))
     have hex3:=(⟨Hex.out.1.step (hs3.mono (T:=TyTag) (fun _ h=>.inl h)) (Qov 0) Qkg,Hex.out.2.step (hs3.mono (T:=TyTag) (fun _ h=>.inl h)) (Qov 1) Qkg⟩:NV n0f w3 τ3 (tSlR 0) (.slice pf lf cf) (Qbw kV0 I.N)∧NV n0w w3 τ3 (tSlR 1) (.slice pw lw cw) (Qbw VA I.N))
     obtain⟨Hph3,Hst3,Hso3,Hex3⟩:=hid4 hph3 hst3 hso3 hex3
     clear hph3 hst3 hso3 hex3 hs3 hc3 p0 p1 p2 p3 p4 p5 p6
     go_wp2_with fail
     go_round
     case rel=>exact⟨i+1,τ3,R',V',x',l',by omega,by simp,Hso3.out,Hph3.out,Hst3.out,Hex3.out⟩
     case measure=>simp[intOf];omega
    ·have hin:i=n2:=by omega
     rw[hin] at hso
     try rw[hin]
     obtain⟨RB,rfl⟩:∃q,q=R:=⟨_,rfl⟩
     obtain⟨VB,rfl⟩:∃q,q=V:=⟨_,rfl⟩
     obtain⟨xB,rfl⟩:∃q,q=x:=⟨_,rfl⟩
     obtain⟨lB,rfl⟩:∃q,q=l:=⟨_,rfl⟩
     obtain⟨τB,rfl⟩:∃q,q=τr:=⟨_,rfl⟩
     obtain⟨hph,T,hT⟩:=hph
     have htr:Trail RB xA.undo kA:=by rw[hT];exact Hso4.out.trail.app T
     obtain⟨q2,hq2,hq3,hq4⟩:=hph.split
     have hch:=hso.ch
     rw[hq2] at hch
     have hmk2:=Hso4.out.marks (Qwz Hph.out.1) hch hso.start
     have hba:=Jck hso hph htr hmk2 (by have:=HN.out;omega)
     have hU:=Hso4.out.view
     obtain⟨Hso,Hst,Hex,Hba,HU⟩:=hid5 hso hst hex hba hU
     clear hso hst hex hba hU hph htr hmk2 hT hq2 hq3 hq4 hch
     go_wp2_with fail
     refine Hba.out.mono ?_
     rintro e w5 ⟨rfl,τ5,R5,V5,st5,y5,hb5⟩
     have hsl3:=Qrx hb5.tz (by have:=HN.out;have:=hb5.st;omega) (by have:=HN.out;omega) 2
     have hst5:=Hst.out.trans (hb5.step.mono (T:=AnyTag) (fun _ h=>Qdw h))
     have hrf5:=Hex.out.1.step hb5.step (Qov 0) Qkg
     have hrw5:=Hex.out.2.step hb5.step (Qov 1) Qkg
     obtain⟨Hb5,Hsl3,Hst5,Hrf5,Hrw5⟩:=hid5 hb5 hsl3 hst5 hrf5 hrw5
     clear hb5 hsl3 hst5 hrf5 hrw5
     go_wp2_with fail
     refine Hsl3.out.mono ?_
     rintro e w6 ⟨vn,τ6,rfl,hrn,hz6,hs6⟩
     have hst6:=Hst5.out.trans (hs6.mono (T:=AnyTag) (fun _ h=>Qdw h))
     have hrf6:=Hrf5.out.step hs6 (Qov 0) Qkg
     have hrw6:=Hrw5.out.step hs6 (Qov 1) Qkg
     have hVV:V5=VA:=funext fun p=>funext fun t=>Hb5.out.view p t
     rw[hVV] at hrn
     have hmk6:=Qsd hz6.mgr (x:=y5) (by simp) Hb5.out.state 1 Hb5.out.txn (by omega)
     rw[Hb5.out.undo] at hmk6
     have hab:=Jch Hb5.out HU.out hz6 (by have:=HN.out;have:=Hb5.out.st;omega) (by have:=HN.out;omega) (by have:=HS.out;omega)
     obtain⟨n0n,hn0n⟩:∃q,w5.heap.size=q:=⟨_,rfl⟩
     rw[hn0n] at hrn
     obtain⟨pn,cn,rfl⟩:=hrn.val
     rw[Hlw.out]
     rw[Hlw.out] at hrn
     obtain⟨Hst6,Hrf6,Hrw6,Hrn,Hmk6,Hab⟩:=hid6 hst6 hrf6 hrw6 hrn hmk6 hab
     clear hst6 hrf6 hrw6 hrn hmk6 hab hs6 hz6 hVV
     go_wp2_with fail
     refine Hmk6.out.mono ?_
     rintro e w' ⟨rfl,rfl⟩
     go_wp2_with fail
     refine Hab.out.mono ?_
     rintro e w7 ⟨rfl,τ7,R7,hs7,hz7⟩
     have hsl4:=Qrx hz7 (by have:=HN.out;have:=Hb5.out.st;omega) (by have:=HN.out;omega) 3
     have hst7:=Hst6.out.trans (hs7.mono (T:=AnyTag) (fun _ h=>Qdw h))
     have hrf7:=Hrf6.out.step hs7 (Qov 0) Qkg
     have hrw7:=Hrw6.out.step hs7 (Qov 1) Qkg
     have hrn7:=Hrn.out.step hs7 (Qov 2) Qkg
     obtain⟨Hsl4,Hst7,Hrf7,Hrw7,Hrn7⟩:=hid5 hsl4 hst7 hrf7 hrw7 hrn7
     clear hsl4 hst7 hrf7 hrw7 hrn7 hs7 hz7
     go_wp2_with fail
     refine Hsl4.out.mono ?_
     rintro e w8 ⟨vl,τ8,rfl,hrl,hz8,hs8⟩
     have hst8:=Hst7.out.trans (hs8.mono (T:=AnyTag) (fun _ h=>Qdw h))
     have hrf8:=Hrf7.out.step hs8 (Qov 0) Qkg
     have hrw8:=Hrw7.out.step hs8 (Qov 1) Qkg
     have hrn8:=Hrn7.out.step hs8 (Qov 2) Qkg
     obtain⟨n0l,hn0l⟩:∃q,w7.heap.size=q:=⟨_,rfl⟩
     rw[hn0l] at hrl
     obtain⟨pl,cl,rfl⟩:=hrl.val
     rw[Hlf.out] at hrl
     rw[Hlf.out]
     have hsb1:=Jb0 hrw8 hrn8
     try rw[Hlw.out] at hsb1
     obtain⟨Hst8,Hrf8,Hrl,Hsb1,Hz8⟩:=hid5 hst8 hrf8 hrl hsb1 hz8
     clear hst8 hrf8 hrl hsb1 hz8 hs8 hrw8 hrn8
     go_wp2_with fail
     refine Hsb1.out.mono ?_
     rintro e wg ⟨rfl,q9,rfl⟩
     have hd9:Step w8 τ8 (w8.drewN q9) τ8 nil:=(Step.refl _ _ _).drews q9
     have hsb2:=Jb0 (Hrf8.out.step hd9 (fun h=>h) (fun h=>h)) (Hrl.out.step hd9 (fun h=>h) (fun h=>h))
     try rw[Hlf.out] at hsb2
     have hst9:=Hst8.out.trans (hd9.mono (T:=AnyTag) (fun _ h=>h.elim))
     have hz9:=Hz8.out.nil hd9
     obtain⟨Hsb2,Hst9,Hz9⟩:=hid3 hsb2 hst9 hz9
     clear hsb2 hst9 hz9 hd9
     go_wp2_with fail
     refine Hsb2.out.mono ?_
     rintro e wh ⟨rfl,q10,rfl⟩
     have hd10:Step w8 τ8 (w8.drewN (q9+q10)) τ8 nil:=(Step.refl _ _ _).drews (q9+q10)
     have hac:=Jb5 (Hz8.out.nil hd10).mgr
     have hst10:=Hst8.out.trans (hd10.mono (T:=AnyTag) (fun _ h=>h.elim))
     obtain⟨Hac,Hst10⟩:=hid2 hac hst10
     clear hac hst10 hd10
     go_wp2_with fail
     refine Hac.out.mono ?_
     rintro e wi ⟨rfl,τi,hsi⟩
     have hbw:=(Qiv (Hst10.out.trans (hsi.mono (T:=AnyTag) (fun _ h=>h.elim)))).below
     have Hbw:=Lib.hid hbw
     clear hbw hsi
     go_wp2_with fail
     go_ret
     exact⟨rfl,Hbw.out⟩
end Go.Proofs.YtjgacceifcnedaaGreat
namespace Go.Proofs.YtjgacceifcnedaaGreat.lawBack
open Go.ChangeShapes Go.WideShapes Go.ChangeAt Go.RowKit Go.Deep ArgsQ
theorem own:ownKnob Tryz.prog.godebug=none:=by kernel_rfl
theorem Qq9:laidOutB Tryz.prog=true:=by kernel_rfl
theorem Jas (os:Os) (started:os.Started) (H:Type) (enc:TypeId×Value→H) :
 ReturnsInHanded {} Tryz.checked os 4 .any (Rows.txnBackSpec.pre6 enc Tryz.prog Tryz.f4 Rows.txnBackRow.domain false) (Rows.txnBackSpec.post enc Tryz.prog Tryz.f4 false true false false):=by
 refine returnsInHanded_of_change (C:=Tryz.checked) own started (by kernel_rfl) Tryz.func4
  (ChangeSpec.witness6 (enc:=enc) (C:=Tryz.checked) false ⟨#[],#[.int .u8 0,.int .u8 0,.int .u8 0,.slice none 0 0,.slice none 0 0],[]⟩ 8 (by kernel_rfl) (by kernel_rfl) (by kernel_rfl) (by kernel_rfl)) ?_
 intro W base args ds gs before hval0 hW hcnd _
 have hval:∀(j:Nat) t v,Tryz.f4.params[j]?=some t→args[j]?=some v→Value.okWide Tryz.prog W .any base t v:=hval0
 have hW':=hW
 obtain⟨p,q,hA0,hV,rfl,hfz,hnd⟩:=hW
 have hA:DataW.TrodAll enc Tryz.prog W 0 (fun _=>true) true Tryz.f4.params.toList args.toList ds p:=hA0
 rw[Tryz.params4] at hA hval
 obtain⟨v0,v1,v2,v3,v4,d0,d1,d2,d3,d4,p0,p1,p2,p3,p4,rfl,rfl,rfl,h0,h1,h2,h3,h4⟩:=Jb7 hA
 obtain⟨rfl,rfl⟩:=trodVars_none hV
 obtain⟨n0,rfl,rfl,rfl,wf0⟩:=open_int Tryz.underlying5 (hval 0 5 v0 rfl rfl) h0
 obtain⟨n1,rfl,rfl,rfl,wf1⟩:=open_int Tryz.underlying5 (hval 1 5 v1 rfl rfl) h1
 obtain⟨n2,rfl,rfl,rfl,wf2⟩:=open_int Tryz.underlying5 (hval 2 5 v2 rfl rfl) h2
 obtain⟨b3,len3,cap3,rfl,hlen3,hops3⟩:=Qk6 (hval 3 22 v3 rfl rfl) h3
 obtain⟨b4,len4,cap4,rfl,hlen4,hops4⟩:=Qk6 (hval 4 22 v4 rfl rfl) h4
 clear hA0 hval0
 simp only[List.append_nil,List.nil_append,List.append_assoc] at hW'
 have hlt3:∀x∈p3,x.block<W.heap.size:=fun x hx=>hW'.lt x (by simp[hx])
 have hlt4:∀x∈p4,x.block<W.heap.size:=fun x hx=>hW'.lt x (by simp[hx])
 have hx0:=Qiu wf0
 have hx1:=Qiu wf1
 have hx2:=Qiu wf2
 obtain⟨n0,rfl⟩:=Int.eq_ofNat_of_zero_le hx0.1
 obtain⟨n1,rfl⟩:=Int.eq_ofNat_of_zero_le hx1.1
 obtain⟨n2,rfl⟩:=Int.eq_ofNat_of_zero_le hx2.1
 refine(Jcm W n0 n1 n2 (by omega) (by omega) (by omega) b3 b4 len3 cap3 len4 cap4 hlen3 hlen4 hops3 hops4).mono fun e W' ⟨he,hg⟩=>?_
 subst he
 exact⟨_,rfl,Qnp (pa:=(p3++p4)) (pv:=[]) hW' (fun _ _ _=>trodAll_mk1 (shut_bool Tryz.underlying4 _))
  (fun sp hsp=>Qqa (shut_int Tryz.underlying5 wf0) (shut_int Tryz.underlying5 wf1) (shut_int Tryz.underlying5 wf2) (WideElems.Trod_stays Qq9 (by kernel_rfl) (of_decide_eq_true (by kernel_rfl)) h3 (fun x hx=>hg.same (hlt3 x hx)) (fun x hx=>hsp x (by simp[hx]))) (WideElems.Trod_stays Qq9 (by kernel_rfl) (of_decide_eq_true (by kernel_rfl)) h4 (fun x hx=>hg.same (hlt4 x hx)) (fun x hx=>hsp x (by simp[hx]))))
  (fun _ _=>rfl) (by simp) hg (ok_one (by kernel_rfl) rfl (okWide_bool_mk Tryz.underlying4 _))⟩
theorem holds:Rows.TxnBackSaid :=
 OpenClaim.holds_of_wide 4 Tryz.f4 rfl rfl rfl rfl rfl rfl rfl ⟨rfl,rfl,rfl,rfl,rfl⟩ rfl rfl rfl rfl rfl (by kernel_rfl) Tryz.func4 (by kernel_rfl)
  (of_decide_eq_true (by kernel_rfl)) (by unfold Func.isWrapper;first|(rw[if_pos (by decide +kernel)];kernel_rfl)|(rw[if_neg (by decide +kernel)];exact⟨rfl,rfl⟩))
  (fun os started H enc _=>Jas os started H enc)
#print axioms holds
end Go.Proofs.YtjgacceifcnedaaGreat.lawBack