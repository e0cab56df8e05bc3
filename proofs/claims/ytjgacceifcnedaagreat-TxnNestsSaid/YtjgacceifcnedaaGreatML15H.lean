/-
 TxnNests: the law walked.
-/
import Derived.Test.YtjgacceifcnedaaGreatML15D
import Derived.Test.YtjgacceifcnedaaGreatML15B
set_option maxRecDepth 100000
set_option maxHeartbeats 8000000
set_option linter.all false
namespace Go.Proofs.YtjgacceifcnedaaGreat
open Go.RowKit Go.Maps ArgsQ
theorem Qw3 {w w0 w1:World}{τ1:Tags}(hk:Mod w w0 no) (hs:Step w0 boxed w1 τ1 AnyTag):Step w boxed w1 τ1 AnyTag :=
 ⟨(hk.mono (fun _ _ h=>h.elim)).seq hs.mod (fun _ _ h=>h),fun k hk'=>hs.ext k (Nat.lt_of_lt_of_le hk' hk.size)⟩
theorem ArgsQ.OpTAt.stay {w w':World}{τ':Tags}(m:Step w boxed w' τ' AnyTag) {b o:Nat}{x:OpT}(h:OpTAt w b o x):OpTAt w' b o x :=
 ⟨h.kd,h.pg,h.k,Qcq m h.c0 Qhl,Qcq m h.c1 Qhl,Qcq m h.c2 Qhl,Qcq m h.c3 Qhl,Qcq m h.c4 Qhl,Qcq m h.c5 Qhl,Qcq m h.c6 Qhl⟩
def LawD (w:World) (e:Ending) (w':World):Prop:=e = .returned (.bool true)∧Below w.heap.size w w'
theorem Jb1 {x:Int}(h0:0≤x) (h:x<256):IntKind.u8.wrap x=x:=by
 have:IntKind.u8.wrap x=x%256:=by simp[IntKind.wrap,IntKind.bits,IntKind.signed]
 rw[this];omega
theorem Qvm (w:World) (sp pg fr:Nat) (hsp:sp<256) (hpg:pg<256) (hfr:fr<256) (la lb lc:Option Addr) (n1 c1 n2 c2 n3 c3:Nat) (hn1:n1≤maxLen) (hn2:n2≤maxLen) (hn3:n3≤maxLen) (o1:OpsT w la n1) (o2:OpsT w lb n2) (o3:OpsT w lc n3) :
 Calls Tryz.prog 3 #[.int .u8 (sp:Int),.int .u8 (pg:Int),.int .u8 (fr:Int),.slice la n1 c1,.slice lb n2 c2,.slice lc n3 c3] w (LawD w):=by
 have hkn:=Qra w
 obtain⟨Hkn,H_o1,H_o2,H_o3⟩:=hid4 hkn o1 o2 o3
 clear hkn o1 o2 o3
 by_cases hb1:20<n1
 ·have g1:decide ((20:Int)<(n1:Int))=true:=decide_eq_true (by omega)
  go_enter Tryz.func3,Tryz.ntmps3
  go_wp2_with fail
  refine Hkn.out.mono ?_
  rintro e w' ⟨rfl,τ',hs⟩
  have hbw:=(Qiv hs).below
  have Hbw:=Lib.hid hbw
  clear hbw hs
  go_wp2_with fail
  go_ret
  exact⟨rfl,Hbw.out⟩
 by_cases hb2:20<n2
 ·have g1:decide ((20:Int)<(n1:Int))=false:=decide_eq_false (by omega)
  have g2:decide ((20:Int)<(n2:Int))=true:=decide_eq_true (by omega)
  go_enter Tryz.func3,Tryz.ntmps3
  go_wp2_with fail
  refine Hkn.out.mono ?_
  rintro e w' ⟨rfl,τ',hs⟩
  have hbw:=(Qiv hs).below
  have Hbw:=Lib.hid hbw
  clear hbw hs
  go_wp2_with fail
  go_ret
  exact⟨rfl,Hbw.out⟩
 by_cases hb3:20<n3
 ·have g1:decide ((20:Int)<(n1:Int))=false:=decide_eq_false (by omega)
  have g2:decide ((20:Int)<(n2:Int))=false:=decide_eq_false (by omega)
  have g3:decide ((20:Int)<(n3:Int))=true:=decide_eq_true (by omega)
  go_enter Tryz.func3,Tryz.ntmps3
  go_wp2_with fail
  refine Hkn.out.mono ?_
  rintro e w' ⟨rfl,τ',hs⟩
  have hbw:=(Qiv hs).below
  have Hbw:=Lib.hid hbw
  clear hbw hs
  go_wp2_with fail
  go_ret
  exact⟨rfl,Hbw.out⟩
 have g1:decide ((20:Int)<(n1:Int))=false:=decide_eq_false (by omega)
 have g2:decide ((20:Int)<(n2:Int))=false:=decide_eq_false (by omega)
 have g3:decide ((20:Int)<(n3:Int))=false:=decide_eq_false (by omega)
 go_enter Tryz.func3,Tryz.ntmps3
 go_wp2_with fail
 refine Hkn.out.mono ?_
 rintro e w0 ⟨rfl,τ0,hs0⟩
 have hm0:=Qiv hs0
 have hsh:=Qu2 w0 sp pg fr hsp hpg hfr
 obtain⟨Hm0,Hsh⟩:=hid2 hm0 hsh
 clear hm0 hsh hs0
 go_wp2_with fail
 refine Hsh.out.mono ?_
 rintro e w1 ⟨I,τ1,rfl,hN,hS,hz1,hs1⟩
 have hst1:=Qw3 Hm0.out hs1
 have hbe:=Qsz hz1 (by omega) (by omega)
 obtain⟨HN,HS,Hz1,Hst1,Hbe⟩:=hid5 hN hS hz1 hst1 hbe
 clear hN hS hz1 hst1 hbe hs1
 go_wp2_with fail
 refine Hbe.out.mono ?_
 rintro e w2 ⟨rfl,τ2,bo,hs2,hso2⟩
 have hst2:=Hst1.out.trans (hs2.mono (T:=AnyTag) (fun _ h=>Qdw h))
 obtain⟨Hst2,Hso2⟩:=hid2 hst2 hso2
 clear hst2 hso2 hs2
 go_wp2_with fail
 go_loopw [17] (fun v wr=>∃(i:Nat) (τr:Tags) (R:List RecP) (V:SlotV) (x:OneP) (l:List (Nat×ChangeP)),i≤n1∧v = .int .i64 (i:Int)∧Solo wr τr I bo R V (0+i) x l kV0∧Ph kV0 [] 0 3 V l∧(∃T,R=kR1++T)∧(Solo.top x l)∧Step w boxed wr τr AnyTag∧True) (fun v _=>n1-(intOf v).toNat)
 case atStart=>exact⟨0,τ2,_,_,_,_,Nat.zero_le _,rfl,Hso2.out,Ph.start _ _ _ _,⟨[],by simp⟩,.inl ⟨rfl,rfl⟩,Hst2.out,trivial⟩
 case round =>
  obtain⟨i,τr,R,V,x,l,hi,rfl,hso,hph,hgr,htp,hst,hex⟩:=hrel
  by_cases hlt:i<n1
  ·obtain⟨bl,ol,op,hla,hop⟩:=H_o1.out i hlt
   obtain⟨q0,q1,q2,p0,p1,p2,p3,p4,p5,p6⟩:=hop.stay hst
   have hltI:(i:Int)<(n1:Int):=by omega
   have r1:IntKind.u8.wrap ((op.k:Int)%80)=(op.k:Int)%80:=Jb1 (by omega) (by omega)
   have r2:IntKind.u8.wrap (3*((op.k:Int)%80))=3*((op.k:Int)%80):=Jb1 (by omega) (by omega)
   obtain⟨Hso,Hph,Htp,Hst,Hop,Hgr,Hex⟩:=hid7 hso hph htp hst hop hgr hex
   clear hso hph htp hst hop hgr hex
   rw[hla]
   clear hla
   go_upto_region 12 with fail
   obtain⟨kk,hkk⟩:∃kk:Nat,3*((op.k:Int)%80)=(kk:Int):=⟨3*(op.k%80),by omega⟩
   have hk256:kk<256:=by omega
   have hk3:kk%3=0:=by omega
   rw[hkk]
   have hal:=(Step.refl wr τr nil).alloc (.cells #[.int .u8 (op.kd:Int),.int .u32 (op.nn:Int),.int .u32 (op.pg:Int),.int .i64 op.sl,.slice op.p op.m op.c,.int .u8 (kk:Int),.int .u64 (op.at_:Int)] 36) tTn
   have hoc:=Own.born wr τr tTn 36 #[.int .u8 (op.kd:Int),.int .u32 (op.nn:Int),.int .u32 (op.pg:Int),.int .i64 op.sl,.slice op.p op.m op.c,.int .u8 (kk:Int),.int .u64 (op.at_:Int)]
   generalize τr.put wr.heap.size tTn=τs at *
   have hso1:=Hso.out.step hal
   have hst1':=Hst.out.trans (hal.mono (T:=AnyTag) (fun _ h=>h.elim))
   have d0:=hoc.at 0 (v:=.int .u8 (op.kd:Int)) rfl
   have d1:=hoc.at 1 (v:=.int .u32 (op.nn:Int)) rfl
   have d2:=hoc.at 2 (v:=.int .u32 (op.pg:Int)) rfl
   have d3:=hoc.at 3 (v:=.int .i64 op.sl) rfl
   have d4:=hoc.at 4 (v:=.slice op.p op.m op.c) rfl
   have d5:=hoc.at 5 (v:=.int .u8 (kk:Int)) rfl
   have d6:=hoc.at 6 (v:=.int .u64 (op.at_:Int)) rfl
   obtain⟨bc,hbc⟩:∃bc,wr.heap.size=bc:=⟨_,rfl⟩
   obtain⟨W2,hW2⟩:∃W,wr.alloc (.cells #[.int .u8 (op.kd:Int),.int .u32 (op.nn:Int),.int .u32 (op.pg:Int),.int .i64 op.sl,.slice op.p op.m op.c,.int .u8 (kk:Int),.int .u64 (op.at_:Int)] 36)=W:=⟨_,rfl⟩
   rw[hW2] at hal hoc hso1 hst1' d0 d1 d2 d3 d4 d5 d6
   rw[hbc] at d0 d1 d2 d3 d4 d5 d6
   rw[hW2,hbc]
   have hown:=Qnc hso1 (by omega) (kd:=op.kd) (nn:=op.nn) (pg:=op.pg) (sl:=op.sl) (p:=op.p) (m:=op.m) (c:=op.c) (k:=kk) (at_:=op.at_) q0 q1 hk256
   unfold OpV at hown
   have hslot:ownSlot 1 kk=3:=by unfold ownSlot;omega
   obtain⟨hs0,hs0'⟩:∃b,decide (0<op.kd%5)=b:=⟨_,rfl⟩
   rw[hs0'] at hown
   obtain⟨Hal,Hoc,Hso1⟩:=hid3 hal hoc hso1
   have Hst1':=Lib.hid hst1'
   obtain⟨Hown,HW2,Hbc,Hkk⟩:=hid4 hown hW2 hbc hkk
   clear hal hoc hso1 hst1' hown hW2 hbc hkk p0 p1 p2 p3 p4 p5 p6 r1 r2
   go_wp2_with fail
   refine Hown.out.mono ?_
   rintro e w3 ⟨e',τ3,V',R',x',l',rfl,hs3,hc3,hso3⟩
   have hph3:=Hph.out.next hc3 hslot (by omega)
   have htp3:Solo.top x' l':=Qwy hc3 Htp.out
   have hgr3:∃T,R'=kR1++T:=by
    obtain⟨T,rfl⟩:=Hgr.out
    obtain⟨T',rfl⟩:=hc3.grow.1
    exact⟨T++T',by rw[List.append_assoc]⟩
   have hst3:=Hst1'.out.trans (hs3.mono (T:=AnyTag) (fun _ h=>Qdw (.inl h)))
   have hex3:=trivial
   obtain⟨Hph3,Htp3,Hgr3,Hst3,Hso3,Hex3⟩:=hid6 hph3 htp3 hgr3 hst3 hso3 hex3
   clear hph3 htp3 hgr3 hst3 hso3 hex3 hs3 hc3 d0 d1 d2 d3 d4 d5 d6
   go_wp2_with fail
   go_round
   case rel=>exact⟨i+1,τ3,R',V',x',l',by omega,by simp,Hso3.out,Hph3.out,Hgr3.out,Htp3.out,Hst3.out,Hex3.out⟩
   case measure=>simp[intOf];omega
  ·have hin:i=n1:=by omega
   rw[hin] at hso
   try rw[hin]
   obtain⟨RA,rfl⟩:∃q,q=R:=⟨_,rfl⟩
   obtain⟨VA,rfl⟩:∃q,q=V:=⟨_,rfl⟩
   obtain⟨xA,rfl⟩:∃q,q=x:=⟨_,rfl⟩
   obtain⟨kA,rfl⟩:∃q,q=l:=⟨_,rfl⟩
   obtain⟨τA,rfl⟩:∃q,q=τr:=⟨_,rfl⟩
   have hmk:=Qsd hso.tz.mgr (x:=xA) (by simp) hso.state 1 hso.txn (by omega)
   have hml:xA.undo<1+(recsB RA).length:=by have:=hso.trail.low;omega
   obtain⟨Hso,Hph,Htp,Hst,Hgr,Hmk,Hml⟩:=hid7 hso hph htp hst hgr hmk hml
   clear hso hph htp hst hgr hmk hml
   go_wp2_with fail
   refine Hmk.out.mono ?_
   rintro e w' ⟨rfl,rfl⟩
   go_wp2_with fail
   go_loopw [21] (fun v wr=>∃(i:Nat) (τr:Tags) (R:List RecP) (V:SlotV) (x:OneP) (l:List (Nat×ChangeP)),i≤n2∧v = .int .i64 (i:Int)∧Solo wr τr I bo R V ((0+n1)+i) x l kV0∧Ph VA kA xA.undo 4 V l∧(∃T,R=RA++T)∧(xA.undo<1+(recsB RA).length)∧Step w boxed wr τr AnyTag∧True) (fun v _=>n2-(intOf v).toNat)
   case atStart=>exact⟨0,τA,_,_,_,_,Nat.zero_le _,rfl,Hso.out,Ph.start _ _ _ _,⟨[],by simp⟩,Hml.out,Hst.out,trivial⟩
   case round =>
    obtain⟨i,τr,R,V,x,l,hi,rfl,hso,hph,hgr,htp,hst,hex⟩:=hrel
    by_cases hlt:i<n2
    ·obtain⟨bl,ol,op,hla,hop⟩:=H_o2.out i hlt
     obtain⟨q0,q1,q2,p0,p1,p2,p3,p4,p5,p6⟩:=hop.stay hst
     have hltI:(i:Int)<(n2:Int):=by omega
     have r1:IntKind.u8.wrap ((op.k:Int)%80)=(op.k:Int)%80:=Jb1 (by omega) (by omega)
     have r2:IntKind.u8.wrap (3*((op.k:Int)%80))=3*((op.k:Int)%80):=Jb1 (by omega) (by omega)
     have r3:IntKind.u8.wrap (1+3*((op.k:Int)%80))=1+3*((op.k:Int)%80):=Jb1 (by omega) (by omega)
     obtain⟨Hso,Hph,Htp,Hst,Hop,Hgr,Hex⟩:=hid7 hso hph htp hst hop hgr hex
     clear hso hph htp hst hop hgr hex
     rw[hla]
     clear hla
     go_upto_region 19 with fail
     obtain⟨kk,hkk⟩:∃kk:Nat,1+3*((op.k:Int)%80)=(kk:Int):=⟨1+3*(op.k%80),by omega⟩
     have hk256:kk<256:=by omega
     have hk3:kk%3=1:=by omega
     rw[hkk]
     have hal:=(Step.refl wr τr nil).alloc (.cells #[.int .u8 (op.kd:Int),.int .u32 (op.nn:Int),.int .u32 (op.pg:Int),.int .i64 op.sl,.slice op.p op.m op.c,.int .u8 (kk:Int),.int .u64 (op.at_:Int)] 36) tTn
     have hoc:=Own.born wr τr tTn 36 #[.int .u8 (op.kd:Int),.int .u32 (op.nn:Int),.int .u32 (op.pg:Int),.int .i64 op.sl,.slice op.p op.m op.c,.int .u8 (kk:Int),.int .u64 (op.at_:Int)]
     generalize τr.put wr.heap.size tTn=τs at *
     have hso1:=Hso.out.step hal
     have hst1':=Hst.out.trans (hal.mono (T:=AnyTag) (fun _ h=>h.elim))
     have d0:=hoc.at 0 (v:=.int .u8 (op.kd:Int)) rfl
     have d1:=hoc.at 1 (v:=.int .u32 (op.nn:Int)) rfl
     have d2:=hoc.at 2 (v:=.int .u32 (op.pg:Int)) rfl
     have d3:=hoc.at 3 (v:=.int .i64 op.sl) rfl
     have d4:=hoc.at 4 (v:=.slice op.p op.m op.c) rfl
     have d5:=hoc.at 5 (v:=.int .u8 (kk:Int)) rfl
     have d6:=hoc.at 6 (v:=.int .u64 (op.at_:Int)) rfl
     obtain⟨bc,hbc⟩:∃bc,wr.heap.size=bc:=⟨_,rfl⟩
     obtain⟨W2,hW2⟩:∃W,wr.alloc (.cells #[.int .u8 (op.kd:Int),.int .u32 (op.nn:Int),.int .u32 (op.pg:Int),.int .i64 op.sl,.slice op.p op.m op.c,.int .u8 (kk:Int),.int .u64 (op.at_:Int)] 36)=W:=⟨_,rfl⟩
     rw[hW2] at hal hoc hso1 hst1' d0 d1 d2 d3 d4 d5 d6
     rw[hbc] at d0 d1 d2 d3 d4 d5 d6
     rw[hW2,hbc]
     have hown:=Qnc hso1 (by omega) (kd:=op.kd) (nn:=op.nn) (pg:=op.pg) (sl:=op.sl) (p:=op.p) (m:=op.m) (c:=op.c) (k:=kk) (at_:=op.at_) q0 q1 hk256
     unfold OpV at hown
     have hslot:ownSlot 1 kk=4:=by unfold ownSlot;omega
     obtain⟨hs0,hs0'⟩:∃b,decide (0<op.kd%5)=b:=⟨_,rfl⟩
     rw[hs0'] at hown
     obtain⟨Hal,Hoc,Hso1⟩:=hid3 hal hoc hso1
     have Hst1':=Lib.hid hst1'
     obtain⟨Hown,HW2,Hbc,Hkk⟩:=hid4 hown hW2 hbc hkk
     clear hal hoc hso1 hst1' hown hW2 hbc hkk p0 p1 p2 p3 p4 p5 p6 r1 r2 r3
     go_wp2_with fail
     refine Hown.out.mono ?_
     rintro e w3 ⟨e',τ3,V',R',x',l',rfl,hs3,hc3,hso3⟩
     have hph3:=Hph.out.next hc3 hslot (by obtain⟨T,hT⟩:=Hgr.out;have:=Htp.out;rw[hT,Qo7,List.length_append];omega)
     have htp3:xA.undo<1+(recsB RA).length:=Htp.out
     have hgr3:∃T,R'=RA++T:=by
      obtain⟨T,rfl⟩:=Hgr.out
      obtain⟨T',rfl⟩:=hc3.grow.1
      exact⟨T++T',by rw[List.append_assoc]⟩
     have hst3:=Hst1'.out.trans (hs3.mono (T:=AnyTag) (fun _ h=>Qdw (.inl h)))
     have hex3:=trivial
     obtain⟨Hph3,Htp3,Hgr3,Hst3,Hso3,Hex3⟩:=hid6 hph3 htp3 hgr3 hst3 hso3 hex3
     clear hph3 htp3 hgr3 hst3 hso3 hex3 hs3 hc3 d0 d1 d2 d3 d4 d5 d6
     go_wp2_with fail
     go_round
     case rel=>exact⟨i+1,τ3,R',V',x',l',by omega,by simp,Hso3.out,Hph3.out,Hgr3.out,Htp3.out,Hst3.out,Hex3.out⟩
     case measure=>simp[intOf];omega
    ·have hin:i=n2:=by omega
     rw[hin] at hso
     try rw[hin]
     obtain⟨RB,rfl⟩:∃q,q=R:=⟨_,rfl⟩
     obtain⟨VB,rfl⟩:∃q,q=V:=⟨_,rfl⟩
     obtain⟨xB,rfl⟩:∃q,q=x:=⟨_,rfl⟩
     obtain⟨τB,rfl⟩:∃q,q=τr:=⟨_,rfl⟩
     obtain⟨l2,rfl,hl2⟩:=hph.split
     have hvb:=hph.view
     have hsoB:=hso
     have hstB:=hst
     have hgrB:=hgr
     have hNb:1≤I.N∧I.N≤6:=by have:=HN.out;omega
     have hsl:=Qrx hso.tz (by omega) (by omega) 1
     have hch:=hso.ch
     have hstb:=hso.start
     have htr:Trail RB xA.undo kA:=by
      obtain⟨T,rfl⟩:=hgr
      exact Hso.out.trail.app T
     have hmk2:=Hso.out.marks (Qwz Htp.out) hch hstb
     clear hso hst hgr hph
     obtain⟨HsoB,HgrB,HstB,Hsl,Htr,Hmk2,Hl2,Hvb,Hch⟩:=hid9 hsoB hgrB hstB hsl htr hmk2 hl2 hvb hch
     clear hsoB hgrB hstB hsl htr hmk2 hl2 hvb hch
     go_wp2_with fail
     refine Hsl.out.mono ?_
     rintro e w4 ⟨vw,τ4,rfl,hrw,hz4,hs4⟩
     have hso4:=HsoB.out.retz hz4
     have hst4:=HstB.out.trans (hs4.mono (T:=AnyTag) (fun _ h=>Qdw h))
     have hne:=Qu0 hso4 (fun z hz=>(Hl2.out z hz).2) Htr.out Hmk2.out
     obtain⟨Hrw,Hso4,Hst4,Hne⟩:=hid4 hrw hso4 hst4 hne
     clear hrw hso4 hst4 hne hs4 hz4
     go_wp2_with fail
     refine Hne.out.mono ?_
     rintro e w5 ⟨τ5,hs5,rfl|⟨rfl,hso5⟩⟩
     ·have hbw:=(Qiv (Hst4.out.trans (hs5.mono (T:=AnyTag) (fun _ h=>Qdw h)))).below
      have Hbw:=Lib.hid hbw
      clear hbw hs5
      go_wp2_with fail
      go_ret
      exact⟨rfl,Hbw.out⟩
     ·have hrw5:=Hrw.out.step hs5 (Qov 1) Qkg
      have hst5:=Hst4.out.trans (hs5.mono (T:=AnyTag) (fun _ h=>Qdw h))
      obtain⟨n0w,hn0w⟩:∃q,wr.heap.size=q:=⟨_,rfl⟩
      rw[hn0w] at hrw5
      obtain⟨pw,cw,rfl⟩:=hrw5.val
      obtain⟨lw,hlw⟩:∃q,(Qbw VB I.N).length=q:=⟨_,rfl⟩
      rw[hlw] at hrw5
      rw[hlw]
      obtain⟨RC,hRC⟩:∃q,RB++[Qfp xB xA.undo]=q:=⟨_,rfl⟩
      rw[hRC] at hso5
      obtain⟨Hrw5,Hst5,Hso5,Hlw,HRC⟩:=hid5 hrw5 hst5 hso5 hlw hRC
      clear hrw5 hst5 hso5 hlw hRC hs5
      go_wp2_with fail
      go_loopw [25] (fun v wr=>∃(i:Nat) (τr:Tags) (R:List RecP) (V:SlotV) (x:OneP) (l:List (Nat×ChangeP)),i≤n3∧v = .int .i64 (i:Int)∧Solo wr τr I bo R V ((0+n1+n2+I.N)+i) x l (undoV VB kA)∧Ph VB kA 0 5 V l∧(∃T,R=RC++T)∧(0<1+(recsB RC).length)∧Step w boxed wr τr AnyTag∧NV n0w wr τr (tSlR 1) (.slice pw lw cw) (Qbw VB I.N)) (fun v _=>n3-(intOf v).toNat)
      case atStart=>exact⟨0,τ5,_,_,_,_,Nat.zero_le _,rfl,Hso5.out,Ph.start _ _ _ _,⟨[],by simp⟩,by omega,Hst5.out,Hrw5.out⟩
      case round =>
       obtain⟨i,τr,R,V,x,l,hi,rfl,hso,hph,hgr,htp,hst,hex⟩:=hrel
       by_cases hlt:i<n3
       ·obtain⟨bl,ol,op,hla,hop⟩:=H_o3.out i hlt
        obtain⟨q0,q1,q2,p0,p1,p2,p3,p4,p5,p6⟩:=hop.stay hst
        have hltI:(i:Int)<(n3:Int):=by omega
        have r1:IntKind.u8.wrap ((op.k:Int)%80)=(op.k:Int)%80:=Jb1 (by omega) (by omega)
        have r2:IntKind.u8.wrap (3*((op.k:Int)%80))=3*((op.k:Int)%80):=Jb1 (by omega) (by omega)
        have r3:IntKind.u8.wrap (2+3*((op.k:Int)%80))=2+3*((op.k:Int)%80):=Jb1 (by omega) (by omega)
        obtain⟨Hso,Hph,Htp,Hst,Hop,Hgr,Hex⟩:=hid7 hso hph htp hst hop hgr hex
        clear hso hph htp hst hop hgr hex
        rw[hla]
        clear hla
        go_upto_region 31 with fail
        obtain⟨kk,hkk⟩:∃kk:Nat,2+3*((op.k:Int)%80)=(kk:Int):=⟨2+3*(op.k%80),by omega⟩
        have hk256:kk<256:=by omega
        have hk3:kk%3=2:=by omega
        rw[hkk]
        have hal:=(Step.refl wr τr nil).alloc (.cells #[.int .u8 (op.kd:Int),.int .u32 (op.nn:Int),.int .u32 (op.pg:Int),.int .i64 op.sl,.slice op.p op.m op.c,.int .u8 (kk:Int),.int .u64 (op.at_:Int)] 36) tTn
        have hoc:=Own.born wr τr tTn 36 #[.int .u8 (op.kd:Int),.int .u32 (op.nn:Int),.int .u32 (op.pg:Int),.int .i64 op.sl,.slice op.p op.m op.c,.int .u8 (kk:Int),.int .u64 (op.at_:Int)]
        generalize τr.put wr.heap.size tTn=τs at *
        have hso1:=Hso.out.step hal
        have hst1':=Hst.out.trans (hal.mono (T:=AnyTag) (fun _ h=>h.elim))
        have d0:=hoc.at 0 (v:=.int .u8 (op.kd:Int)) rfl
        have d1:=hoc.at 1 (v:=.int .u32 (op.nn:Int)) rfl
        have d2:=hoc.at 2 (v:=.int .u32 (op.pg:Int)) rfl
        have d3:=hoc.at 3 (v:=.int .i64 op.sl) rfl
        have d4:=hoc.at 4 (v:=.slice op.p op.m op.c) rfl
        have d5:=hoc.at 5 (v:=.int .u8 (kk:Int)) rfl
        have d6:=hoc.at 6 (v:=.int .u64 (op.at_:Int)) rfl
        obtain⟨bc,hbc⟩:∃bc,wr.heap.size=bc:=⟨_,rfl⟩
        obtain⟨W2,hW2⟩:∃W,wr.alloc (.cells #[.int .u8 (op.kd:Int),.int .u32 (op.nn:Int),.int .u32 (op.pg:Int),.int .i64 op.sl,.slice op.p op.m op.c,.int .u8 (kk:Int),.int .u64 (op.at_:Int)] 36)=W:=⟨_,rfl⟩
        rw[hW2] at hal hoc hso1 hst1' d0 d1 d2 d3 d4 d5 d6
        rw[hbc] at d0 d1 d2 d3 d4 d5 d6
        rw[hW2,hbc]
        have hown:=Qnc hso1 (by omega) (kd:=op.kd) (nn:=op.nn) (pg:=op.pg) (sl:=op.sl) (p:=op.p) (m:=op.m) (c:=op.c) (k:=kk) (at_:=op.at_) q0 q1 hk256
        unfold OpV at hown
        have hslot:ownSlot 1 kk=5:=by unfold ownSlot;omega
        obtain⟨hs0,hs0'⟩:∃b,decide (0<op.kd%5)=b:=⟨_,rfl⟩
        rw[hs0'] at hown
        obtain⟨Hal,Hoc,Hso1⟩:=hid3 hal hoc hso1
        have Hst1':=Lib.hid hst1'
        obtain⟨Hown,HW2,Hbc,Hkk⟩:=hid4 hown hW2 hbc hkk
        clear hal hoc hso1 hst1' hown hW2 hbc hkk p0 p1 p2 p3 p4 p5 p6 r1 r2 r3
        go_wp2_with fail
        refine Hown.out.mono ?_
        rintro e w3 ⟨e',τ3,V',R',x',l',rfl,hs3,hc3,hso3⟩
        have hph3:=Hph.out.next hc3 hslot (by obtain⟨T,hT⟩:=Hgr.out;have:=Htp.out;rw[hT,Qo7,List.length_append];omega)
        have htp3:0<1+(recsB RC).length:=Htp.out
        have hgr3:∃T,R'=RC++T:=by
         obtain⟨T,rfl⟩:=Hgr.out
         obtain⟨T',rfl⟩:=hc3.grow.1
         exact⟨T++T',by rw[List.append_assoc]⟩
        have hst3:=Hst1'.out.trans (hs3.mono (T:=AnyTag) (fun _ h=>Qdw (.inl h)))
        have hex3:=(Hex.out.step (Hal.out.mono (T:=TyTag) (fun _ h=>h.elim)) (Qov 1) Qkg).step (hs3.mono (T:=TyTag) (fun _ h=>.inl h)) (Qov 1) Qkg
        obtain⟨Hph3,Htp3,Hgr3,Hst3,Hso3,Hex3⟩:=hid6 hph3 htp3 hgr3 hst3 hso3 hex3
        clear hph3 htp3 hgr3 hst3 hso3 hex3 hs3 hc3 d0 d1 d2 d3 d4 d5 d6
        go_wp2_with fail
        go_round
        case rel=>exact⟨i+1,τ3,R',V',x',l',by omega,by simp,Hso3.out,Hph3.out,Hgr3.out,Htp3.out,Hst3.out,Hex3.out⟩
        case measure=>simp[intOf];omega
       ·have hin:i=n3:=by omega
        rw[hin] at hso
        try rw[hin]
        obtain⟨τC,rfl⟩:∃q,q=τr:=⟨_,rfl⟩
        have hk3:∀z∈kA,z.2.slot=3:=by
         obtain⟨q2,hq,hq2⟩:=Hph.out.split
         rw[List.append_nil] at hq
         rw[hq]
         exact fun z hz=>(hq2 z hz).1
        have hU4:∀p,undoV VB kA p 4=VB p 4:=fun p=>Qka kA (fun y hy q=>by have:=hk3 y hy;omega)
        have hU0:∀p t,t≠4→undoV VB kA p t=[]:=fun p t ht=>by
         by_cases e:t=3
         ·subst e
          rw[Qkb kA (show VB p 3=VA p 3 from Hvb.out p 3 (by omega))]
          exact Hso.out.view p 3
         ·rw[Qka kA (fun y hy q=>by have:=hk3 y hy;omega),Hvb.out p t ht]
          exact Hph.out.view p t e
        have hab:=Qs0 hso (by omega)
        have hlw12:lw=12*I.N:=by rw[←Hlw.out,Qc3]
        have hNw:=HN.out
        obtain⟨U,hU⟩:∃q,undoV VB kA=q:=⟨_,rfl⟩
        rw[hU] at hU4 hU0 hab
        obtain⟨Hk3,HU4,HU0,Hso,Hph,Hgr,Hst,Hex,Hab,HU,Hlw12⟩:=hid11 hk3 hU4 hU0 hso hph hgr hst hex hab hU hlw12
        clear hk3 hU4 hU0 hso hph hgr hst hex hab hU hlw12
        go_wp2_with fail
        refine Hab.out.mono ?_
        rintro e w6 ⟨rfl,τ6,R6,hs6,hz6⟩
        have hsl2:=Qrx hz6 (by omega) (by omega) 2
        have hex6:=Hex.out.step hs6 (Qov 1) Qkg
        have hst6:=Hst.out.trans (hs6.mono (T:=AnyTag) (fun _ h=>Qdw h))
        obtain⟨Hsl2,Hex6,Hst6⟩:=hid3 hsl2 hex6 hst6
        clear hsl2 hex6 hst6 hs6 hz6
        go_wp2_with fail
        refine Hsl2.out.mono ?_
        rintro e w7 ⟨vn,τ7,rfl,hrn,hz7,hs7⟩
        have hex7:=Hex6.out.step hs7 (Qov 1) Qkg
        have hst7:=Hst6.out.trans (hs7.mono (T:=AnyTag) (fun _ h=>Qdw h))
        have hlU:(Qbw U I.N).length=lw:=by rw[Qc3,Hlw12.out]
        obtain⟨pn,cn,rfl⟩:=hrn.val
        obtain⟨p1',c1',hv1,hmx,hrd1⟩:=hrn.read
        obtain⟨p2',c2',hv2,-,hrd2⟩:=hex7.read
        obtain⟨rfl,-,rfl⟩:=Value.slice.inj hv1
        obtain⟨rfl,-,rfl⟩:=Value.slice.inj hv2
        rw[hlU] at hrd1 hmx ⊢
        rw[Hlw.out] at hrd2
        have hmx2:lw≤9223372036854775807:=by unfold maxLen at hmx;omega
        obtain⟨Hrd1,Hrd2,Hst7,HlU⟩:=hid4 hrd1 hrd2 hst7 hlU
        clear hrd1 hrd2 hst7 hlU hs7 hz7 hrn hex7 hv1 hv2 hmx
        go_wp2_with fail
        go_loopw [29] (fun v wr=>∃i:Nat,i≤lw∧v = .int .i64 (i:Int)∧Step w7 τ7 wr τ7 nil) (fun v _=>lw-(intOf v).toNat)
        case atStart=>exact⟨0,Nat.zero_le _,rfl,Step.refl _ _ _⟩
        case round =>
         obtain⟨i,hi,rfl,hwr⟩:=hrel
         by_cases hlt:i<lw
         ·obtain⟨b1,u1,hp1,hc1,hb1⟩:=Hrd1.out i hlt
          obtain⟨b2,u2,hp2,hc2,hb2⟩:=Hrd2.out i hlt
          have hnN:i/12<I.N:=by have:=Hlw12.out;omega
          have hs12:i%12<12:=Nat.mod_lt _ (by omega)
          have hie:12*(i/12)+i%12=i:=Nat.div_add_mod i 12
          have ha1:=Ql0 U hnN hs12
          have ha2:=Ql0 VB hnN hs12
          rw[hie] at ha1 ha2
          rw[List.getD_eq_getElem?_getD,ha1,Option.getD_some] at hb1
          rw[List.getD_eq_getElem?_getD,ha2,Option.getD_some] at hb2
          have hin:(i:Int)<(lw:Int):=by omega
          have hm0:(i:Int).tmod 12=((i%12:Nat):Int):=by rw[Int.tmod_eq_emod_of_nonneg (by omega)];omega
          obtain⟨r,hr⟩:∃r,i%12=r:=⟨_,rfl⟩
          rw[hr] at hm0 hb1 hb2
          have hm2:IntKind.i64.wrap (r:Int)=(r:Int):=by simp[IntKind.wrap,IntKind.bits,IntKind.signed];omega
          rw[hp1,hp2]
          have hd0:Step wr τ7 wr.drew τ7 nil:=(Step.refl wr τ7 nil).drew
          have hq0:=hwr.trans hd0
          obtain⟨q1,e1,rfl,-,-⟩:=hb1.any
          obtain⟨q2,e2,rfl,-,-⟩:=hb2.any
          have ci:=Qcq hq0 hc1 (fun h=>h)
          have di:=Qcq hq0 hc2 (fun h=>h)
          have hd1:=hb1.step hq0 (fun h=>h)
          have hd2:=hb2.step hq0 (fun h=>h)
          by_cases h4:r=4
          ·subst h4
           rw[HU4.out] at hd1 hb1 ci
           have hsb:=Qnf hd1 hd2
           have hm0':(i:Int).tmod 12=4:=hm0
           generalize (slotRow (VB (i/12) 4)).length=nB at *
           have hS1:wr.drew.cell? ⟨b1,i,none⟩=some (.slice q1 nB e1)∧wr.drew.cell? ⟨b2,i,none⟩=some (.slice q2 nB e2):=⟨ci,di⟩
           obtain⟨Hwr,Hsb,Hr,Hd1,Hd2,Hb1,Hb2,Ha1,Ha2,Hie,Hq0,Hd0⟩:=hid12 hwr hsb hr hd1 hd2 hb1 hb2 ha1 ha2 hie hq0 hd0
           clear hwr hsb hr hd1 hd2 hb1 hb2 ha1 ha2 hie hq0 hd0 hc1 hc2 hm0 hm2 ci di
           go_wp2_with fail
           refine Qaf (S:=fun W:World=>W.cell? ⟨b1,i,none⟩=some (.slice q1 nB e1)∧W.cell? ⟨b2,i,none⟩=some (.slice q2 nB e2)) (by kernel_rfl) ?_
           refine tk0 [0,1,2,3] ?_
           iterate 4
            refine tks (v:=?_) rfl (Or.inl ⟨by kernel_rfl,?_⟩) (by assumption) ?_
            rotate_left
            ·intro w hSw;(try dsimp only at hSw);go_simp
             all_goals with_reducible rfl
            try simp only[Act.put,lz1,lz2,lz3]
           refine tk9 ?_
           try simp only[lz4,lz5,lz6,lz1,lz2,lz3]
           refine tk0 [4,5,6,7,8,9,10,11] ?_
           iterate 8
            refine tks (v:=?_) rfl (Or.inl ⟨by kernel_rfl,?_⟩) (by assumption) ?_
            rotate_left
            ·intro w hSw;(try dsimp only at hSw);go_simp
             all_goals with_reducible rfl
            try simp only[Act.put,lz1,lz2,lz3]
           refine tk9 ?_
           try simp only[lz4,lz5,lz6,lz1,lz2,lz3]
           refine tk1 12 rfl fun K hK=>?_
           go_simp
           go_at_call 15
           refine Hsb.out.mono ?_
           rintro e w' ⟨rfl,rfl⟩
           refine hK.out _ _ (fun _=>hS1) ?_
           clear hK K
           refine tk0 [13,14,15,16,17,18,19] ?_
           iterate 7
            refine tks (v:=?_) rfl (Or.inl ⟨by kernel_rfl,?_⟩) (by assumption) ?_
            rotate_left
            ·intro w hSw;(try dsimp only at hSw);go_simp
             all_goals with_reducible rfl
            try simp only[Act.put,lz1,lz2,lz3]
           refine tk9 ?_
           try simp only[lz4,lz5,lz6,lz1,lz2,lz3]
           refine tk0 [20,21,22,23,24,25] ?_
           iterate 6
            refine tks (v:=undef) rfl (Or.inr ⟨by kernel_rfl,rfl⟩) (by assumption) ?_
            try simp only[Act.put,lz1,lz2,lz3]
           refine tk9 ?_
           try simp only[lz4,lz5,lz6,lz1,lz2,lz3]
           refine tk0 [26,27] ?_
           iterate 2
            refine tks (v:=?_) rfl (Or.inl ⟨by kernel_rfl,?_⟩) (by assumption) ?_
            rotate_left
            ·intro w hSw;(try dsimp only at hSw);go_simp
             all_goals with_reducible rfl
            try simp only[Act.put,lz1,lz2,lz3]
           refine tk9 ?_
           try simp only[lz4,lz5,lz6,lz1,lz2,lz3]
           refine Qad (by kernel_rfl) ?_ _
           clear hS1
           go_wp2_with fail
           go_round
           case rel=>exact⟨i+1,by omega,by simp,Hq0.out⟩
           case measure=>simp[intOf];omega
          ·have hrow:slotRow (U (i/12) r)=[]:=by rw[HU0.out _ _ h4];rfl
           have hz:(slotRow (U (i/12) r)).length=0:=by rw[hrow];rfl
           rw[hz] at ci
           generalize (slotRow (VB (i/12) r)).length=nB at *
           have hS1:wr.drew.cell? ⟨b1,i,none⟩=some (.slice q1 0 e1)∧wr.drew.cell? ⟨b2,i,none⟩=some (.slice q2 nB e2):=⟨ci,di⟩
           have hne4:((r:Int)==4)=false:=beq_eq_false_iff_ne.2 (by omega)
           have hne4':¬(r:Int)=4:=by omega
           have hne4'':¬r=4:=h4
           have hne5:((r:Int) != 4)=true:=by simp[bne,hne4]
           have hne6:decide (¬(r:Int)=4)=true:=decide_eq_true hne4'
           have hne7:decide ((r:Int)=4)=false:=decide_eq_false hne4'
           have hne8:decide (r=4)=false:=decide_eq_false h4
           obtain⟨Hwr,Hr,Hd1,Hd2,Hb1,Hb2,Ha1,Ha2,Hie,Hrow,Hz,Hq0⟩:=hid12 hwr hr hd1 hd2 hb1 hb2 ha1 ha2 hie hrow hz hq0
           have Hd0:=Lib.hid hd0
           clear hwr hr hd1 hd2 hb1 hb2 ha1 ha2 hie hrow hz hq0 hd0 hc1 hc2 ci di
           go_wp2_with fail
           refine Qaf (S:=fun W:World=>W.cell? ⟨b1,i,none⟩=some (.slice q1 0 e1)∧W.cell? ⟨b2,i,none⟩=some (.slice q2 nB e2)) (by kernel_rfl) ?_
           refine tk0 [0,1,2,3] ?_
           iterate 4
            refine tks (v:=?_) rfl (Or.inl ⟨by kernel_rfl,?_⟩) (by assumption) ?_
            rotate_left
            ·intro w hSw;(try dsimp only at hSw);go_simp
             all_goals with_reducible rfl
            try simp only[Act.put,lz1,lz2,lz3]
           refine tk9 ?_
           try simp only[lz4,lz5,lz6,lz1,lz2,lz3]
           refine tk0 [4,5,6,7,8,9,10,11,12,13] ?_
           iterate 10
            refine tks (v:=undef) rfl (Or.inr ⟨by kernel_rfl,rfl⟩) (by assumption) ?_
            try simp only[Act.put,lz1,lz2,lz3]
           refine tk9 ?_
           try simp only[lz4,lz5,lz6,lz1,lz2,lz3]
           refine tk0 [14,15,16,17,18,19] ?_
           iterate 6
            refine tks (v:=?_) rfl (Or.inl ⟨by kernel_rfl,?_⟩) (by assumption) ?_
            rotate_left
            ·intro w hSw;(try dsimp only at hSw);go_simp
             all_goals with_reducible rfl
            try simp only[Act.put,lz1,lz2,lz3]
           refine tk9 ?_
           try simp only[lz4,lz5,lz6,lz1,lz2,lz3]
           refine tk0 [20,21,22,23,24,25] ?_
           iterate 6
            refine tks (v:=?_) rfl (Or.inl ⟨by kernel_rfl,?_⟩) (by assumption) ?_
            rotate_left
            ·intro w hSw;(try dsimp only at hSw);go_simp
             all_goals with_reducible rfl
            try simp only[Act.put,lz1,lz2,lz3]
           refine tk9 ?_
           try simp only[lz4,lz5,lz6,lz1,lz2,lz3]
           refine tk0 [26,27] ?_
           iterate 2
            refine tks (v:=?_) rfl (Or.inl ⟨by kernel_rfl,?_⟩) (by assumption) ?_
            rotate_left
            ·intro w hSw;(try dsimp only at hSw);go_simp
             all_goals with_reducible rfl
            try simp only[Act.put,lz1,lz2,lz3]
           refine tk9 ?_
           try simp only[lz4,lz5,lz6,lz1,lz2,lz3]
           refine Qad (by kernel_rfl) ?_ _
           clear hS1
           go_wp2_with fail
           go_round
           case rel=>exact⟨i+1,by omega,by simp,Hq0.out⟩
           case measure=>simp[intOf];omega
         ·have hin:i=lw:=by omega
          have hbw:=(Qiv (Hst7.out.trans (hwr.mono (T:=AnyTag) (fun _ h=>h.elim)))).below
          obtain⟨Hwr,Hbw⟩:=hid2 hwr hbw
          clear hwr hbw
          rw[hin]
          go_wp2_with fail
          go_ret
          exact⟨rfl,Hbw.out⟩
end Go.Proofs.YtjgacceifcnedaaGreat