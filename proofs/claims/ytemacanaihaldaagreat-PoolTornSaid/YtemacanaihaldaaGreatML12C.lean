/-
 A log and a pool,and the document's: Make of the chapter's example.
-/
import Derived.Test.YtemacanaihaldaaGreatML12
import Derived.Test.YtemacanaihaldaaGreatMR12C
set_option maxRecDepth 100000
set_option maxHeartbeats 4000000
set_option linter.all false
namespace Go.Proofs.YtemacanaihaldaaGreat
open Go.RowKit
theorem Qba:tTwoW.1=70:=rfl
theorem Jew:knD0.f0.length=18:=List.length_replicate
theorem Jev:knD0.lim 0:=Qzq 18 20
theorem Je4 (w:World):Calls Tryz.prog 42 #[.int .i64 8,.int .i64 4,.int .i64 3] w fun e w'=>∃(bt bf:Nat) (τ':Tags) (T:TwoH) (H:PoolH) (HR:RPoolH) (L:LogM),e = .returned (.tuple #[.pointer (some ⟨bt,0,none⟩),.int .i64 1])∧TwoW w' τ' bt bf T H HR L knD (Ck.Clk.newS 3)∧T.n=4∧T.k=3∧Step w (fun _=>tBox) w' τ' AnyTag:=by
 have hnd:Calls Tryz.prog 44 #[.int .i64 18,.int .i64 20] w (NewD w (fun _=>tBox) 18 20):=Qmx w (fun _=>tBox) 18 20 (by omega) (by omega)
 obtain⟨L0,hL0⟩:∃L0,walNewLog knD0.f0.length=L0:=⟨_,rfl⟩
 have hK:Qbl knD0=knD:=rfl
 obtain⟨Hnd,HL0,HK⟩:=hid3 hnd hL0 hK
 clear hnd hL0 hK
 go_enter Tryz.func42,Tryz.ntmps42
 go_wp2_with fail
 refine Hnd.out.mono ?_
 rintro e w1 ⟨bd,rfl,hlow1,τ1,he1,hm1,hd1⟩
 have hd1':DevAt w1 τ1 bd knD0:=hd1
 have hs1:Step w (fun _=>tBox) w1 τ1 AnyTag:=Step.of _ hm1 he1
 have hne:Calls Tryz.prog 108 #[.int .i64 18,.int .i64 20] w1 fun e w'=>∃bd τ',e = .returned (.pointer (some ⟨bd,0,none⟩))∧w1.heap.size≤bd∧RDevAt w' τ' bd knD0∧Step w1 τ1 w' τ' RDevTag:=r5new w1 τ1 18 20 (by omega) (by omega)
 have Hd1':=Lib.hid hd1'
 obtain⟨Hs1,Hne⟩:=hid2 hs1 hne
 clear hd1' hs1 hne hd1 he1 hm1
 go_wp2_with fail
 refine Hne.out.mono ?_
 rintro e w2 ⟨be,τ2,rfl,hlow2,he2,hs2⟩
 have hd2:=Hd1'.out.step hs2 (fun g hg=>⟨fun k=>by have:=hg.fst;have:=k.fst;omega,fun k=>by have:=hg.fst;rw[k,Qf6] at this;omega⟩)
 have hst2:=Hs1.out.trans (hs2.mono (T:=AnyTag) (fun g hg=>by have:=hg.fst;show g.1≠90;omega))
 have ho3:=Own.new w2 τ2 tTwoW 97 [.pointer (some ⟨bd,0,none⟩),.pointer (some ⟨be,0,none⟩),.pointer none,.pointer none,.pointer none,.pointer none,.int .i64 4,.int .i64 3]
 have hq3:=(Step.refl w2 τ2 nil).alloc (.cells ⟨[.pointer (some ⟨bd,0,none⟩),.pointer (some ⟨be,0,none⟩),.pointer none,.pointer none,.pointer none,.pointer none,.int .i64 4,.int .i64 3]⟩ 97) tTwoW
 have hd3:=hd2.step hq3 (fun _ h=>h.elim)
 have he3:=he2.step hq3 (fun _ h=>h.elim)
 have hst3:=hst2.trans (hq3.mono (T:=AnyTag) (fun _ h=>h.elim))
 generalize τ2.put w2.heap.size tTwoW=τ3 at *
 obtain⟨bt,hbt⟩:∃bt,w2.heap.size=bt:=⟨_,rfl⟩
 rw[hbt] at ho3
 have hlow3:w.heap.size≤bt:=by rw[←hbt];exact hst2.size
 obtain⟨Ho3,Hd3,He3,Hst3,Hbt⟩:=hid5 ho3 hd3 he3 hst3 hbt
 clear ho3 hd3 he3 hst3 hbt hd2 he2 hs2 hst2 hq3
 go_wp2_with fail
 rw[Hbt.out]
 generalize w2.alloc (.cells #[.pointer (some ⟨bd,0,none⟩),.pointer (some ⟨be,0,none⟩),.pointer none,.pointer none,.pointer none,.pointer none,.int .i64 4,.int .i64 3] 97)=w3 at *
 have hnew:=Qmj Hd3.out (by rw[Jew];exact Nat.le_refl _) (Dev.lim_mono Jev (by omega))
 rw[HL0.out,HK.out] at hnew
 have c0:=Ho3.out.at 0 (v:=.pointer (some ⟨bd,0,none⟩)) rfl
 have c1:=Ho3.out.at 1 (v:=.pointer (some ⟨be,0,none⟩)) rfl
 have Hnew:=Lib.hid hnew
 clear hnew
 go_wp2_with fail
 refine Hnew.out.mono ?_
 rintro e w4 ⟨bl,τ4,rfl,-,hl4,hd4,hs4⟩
 have ho4:=Ho3.out.step hs4 (fun k=>by have:=k.fst;rw[Qba] at this;omega)
 have he4:=He3.out.step hs4 (fun g hg=>⟨fun k=>by have:=hg.fst;have:=k.fst;omega,fun k=>by have:=hg.fst;rw[k,Qf6] at this;omega⟩)
 have hst4:=Hst3.out.trans (hs4.mono (T:=AnyTag) (fun g hg=>by have:=hg.fst;show g.1≠90;omega))
 have hrn:=Qu6 he4 (by rw[Jew];exact Nat.le_refl _) (Dev.lim_mono Jev (by omega))
 rw[HL0.out,HK.out] at hrn
 have d1:=ho4.at 1 (v:=.pointer (some ⟨be,0,none⟩)) rfl
 obtain⟨Ho4,Hl4,Hd4,Hst4,Hrn⟩:=hid5 ho4 hl4 hd4 hst4 hrn
 clear ho4 hl4 hd4 hst4 hrn he4 hs4 c0 c1
 go_wp2_with fail
 refine Hrn.out.mono ?_
 rintro e w5 ⟨br,τ5,rfl,-,hr5,he5,hs5⟩
 have ho5:=Ho4.out.step hs5 (fun k=>by have:=k.fst;rw[Qba] at this;omega)
 have hl5:=Hl4.out.step hs5 (fun g hg k=>by have:=hg.fst;have:=k.fst;omega)
 have hd5:=Hd4.out.step hs5 (fun g hg=>⟨fun k=>by have:=hg.fst;have:=k.fst;omega,fun k=>by have:=hg.fst;rw[k,Qf6] at this;omega⟩)
 have hst5:=Hst4.out.trans (hs5.mono (T:=AnyTag) (fun g hg=>by have:=hg.fst;show g.1≠90;omega))
 have c2:=ho5.at 2 (v:=.pointer none) rfl
 have z2:=ho5.fz 2
 have c3:=ho5.at 3 (v:=.pointer none) rfl
 have z3:=ho5.fz 3
 have ho6:=(ho5.set 2 (.pointer (some ⟨bl,0,none⟩))).set 3 (.pointer (some ⟨br,0,none⟩))
 have hq6:Step w5 τ5 ((w5.setCell ⟨bt,2,none⟩ (.pointer (some ⟨bl,0,none⟩))).setCell ⟨bt,3,none⟩ (.pointer (some ⟨br,0,none⟩))) τ5 (fun t=>t=tTwoW):=((Step.refl w5 τ5 (fun t=>t=tTwoW)).set (o:=2) ho5.tag rfl _).set (o:=3) (ho5.set 2 (.pointer (some ⟨bl,0,none⟩))).tag rfl _
 have hl6:=hl5.step hq6 (fun g hg k=>by have:=hg.fst;rw[k,Qba] at this;omega)
 have hr6:=hr5.step hq6 (fun g hg k=>by have:=hg.fst;rw[k,Qba] at this;omega)
 have hd6:=hd5.step hq6 (fun g hg=>⟨fun k=>by have:=k.fst;rw[hg,Qba] at this;omega,fun k=>by rw[hg] at k;cases k⟩)
 have he6:=he5.step hq6 (fun g hg=>⟨fun k=>by have:=k.fst;rw[hg,Qba] at this;omega,fun k=>by rw[hg] at k;cases k⟩)
 have hst6:=hst5.trans (hq6.mono (T:=AnyTag) (fun g hg=>by show g.1≠90;rw[hg];decide))
 obtain⟨Ho6,Hl6,Hr6,Hd6,He6,Hst6⟩:=hid6 ho6 hl6 hr6 hd6 he6 hst6
 clear ho6 hl6 hr6 hd6 he6 hst6 hl5 hr5 hd5 he5 hs5 hst5 ho5 hq6
 go_wp2_with fail
 generalize (w5.setCell ⟨bt,2,none⟩ (.pointer (some ⟨bl,0,none⟩))).setCell ⟨bt,3,none⟩ (.pointer (some ⟨br,0,none⟩))=w6 at *
 have hpn:Calls Tryz.prog 14 #[.pointer (some ⟨bl,0,none⟩),.int .i64 4,.int .i64 3] w6 fun e w'=>∃bp bf τ' H,e = .returned (.tuple #[.pointer (some ⟨bp,0,none⟩),.int .u16 0])∧PoolAt w' τ' bp bf H (List.replicate 3 Fr.no) (Ck.Clk.newS 3)∧H.bl=bl∧H.n=4∧H.st=stampTo knD (4+1)∧w6.heap.size≤bp∧Step w6 τ5 w' τ' nil :=
  Qkv Hl6.out Hd6.out 4 3 (by omega) (by omega) (by omega) (by omega) (by rw[Jav];omega) (fun i hi=>by rw[Jaw i (by omega)];exact Qj2)
 have Hpn:=Lib.hid hpn
 clear hpn c2 z2 c3 z3 d1
 go_wp2_with fail
 refine Hpn.out.mono ?_
 rintro e w7 ⟨bp,bf,τ7,H,rfl,hp7,hHl,hHn,-,-,hs7⟩
 have ho7:=Ho6.out.step hs7 (fun h=>h)
 have hl7:=Hl6.out.step hs7 (fun _ _ h=>h)
 have hr7:=Hr6.out.step hs7 (fun _ _ h=>h)
 have hd7:=Hd6.out.step hs7 (fun _ h=>h.elim)
 have he7:=He6.out.step hs7 (fun _ h=>h.elim)
 have hst7:=Hst6.out.trans (hs7.mono (T:=AnyTag) (fun _ h=>h.elim))
 have hqn:Calls Tryz.prog 111 #[.pointer (some ⟨br,0,none⟩),.int .i64 4,.int .i64 3] w7 fun e w'=>∃bp τ' H,e = .returned (.tuple #[.pointer (some ⟨bp,0,none⟩),.int .i64 0])∧RPoolAt0 w' τ' bp H 3∧H.bl=br∧H.n=4∧H.st=stampTo knD (4+1)∧w7.heap.size≤bp∧Step w7 τ7 w' τ' RPoolTag :=
  Qs9 hr7 he7 4 3 (by omega) (by omega) (by omega) (by omega) (by rw[Jav];omega) (fun i hi=>by rw[Jaw i (by omega)];exact Qj2) (fun i hi=>Qmm hd7 i (by rw[Jav];omega))
 obtain⟨Ho7,Hl7,Hr7,Hd7,He7,Hst7,Hp7,Hqn,HHl,HHn⟩:=hid10 ho7 hl7 hr7 hd7 he7 hst7 hp7 hqn hHl hHn
 clear ho7 hl7 hr7 hd7 he7 hst7 hp7 hqn hHl hHn hs7
 go_wp2_with fail
 refine Hqn.out.mono ?_
 rintro e w8 ⟨bq,τ8,HR,rfl,hq8,-,-,-,-,hs8⟩
 have ho8:=Ho7.out.step hs8 (fun k=>by have:=k.fst;rw[Qba] at this;omega)
 have hl8:=Hl7.out.step hs8 (fun g hg k=>by have:=hg.fst;have:=k.fst;omega)
 have hr8:=Hr7.out.step hs8 (fun g hg k=>by have:=hg.fst;have:=k.fst;omega)
 have hd8:=Hd7.out.step hs8 (fun g hg=>⟨fun k=>by have:=hg.fst;have:=k.fst;omega,fun k=>by have:=hg.fst;rw[k,Qf6] at this;omega⟩)
 have he8:=He7.out.step hs8 (fun g hg=>⟨fun k=>by have:=hg.fst;have:=k.fst;omega,fun k=>by have:=hg.fst;rw[k,Qf6] at this;omega⟩)
 have hp8:=Hp7.out.step hs8 (fun g hg k=>by have:=hg.fst;have:=k.fst;omega)
 have hst8:=Hst7.out.trans (hs8.mono (T:=AnyTag) (fun g hg=>by have:=hg.fst;show g.1≠90;omega))
 have c4:=ho8.at 4 (v:=.pointer none) rfl
 have z4:=ho8.fz 4
 have c5:=ho8.at 5 (v:=.pointer none) rfl
 have z5:=ho8.fz 5
 have ho9:=(ho8.set 4 (.pointer (some ⟨bp,0,none⟩))).set 5 (.pointer (some ⟨bq,0,none⟩))
 have hq9:Step w8 τ8 ((w8.setCell ⟨bt,4,none⟩ (.pointer (some ⟨bp,0,none⟩))).setCell ⟨bt,5,none⟩ (.pointer (some ⟨bq,0,none⟩))) τ8 (fun t=>t=tTwoW):=((Step.refl w8 τ8 (fun t=>t=tTwoW)).set (o:=4) ho8.tag rfl _).set (o:=5) (ho8.set 4 (.pointer (some ⟨bp,0,none⟩))).tag rfl _
 have hW:TwoW ((w8.setCell ⟨bt,4,none⟩ (.pointer (some ⟨bp,0,none⟩))).setCell ⟨bt,5,none⟩ (.pointer (some ⟨bq,0,none⟩))) τ8 bt bf ⟨bd,be,bl,br,bp,bq,4,3⟩ H HR L0 knD (Ck.Clk.newS 3) :=
  ⟨ho9,hl8.step hq9 (fun g hg k=>by have:=hg.fst;rw[k,Qba] at this;omega),hr8.step hq9 (fun g hg k=>by have:=hg.fst;rw[k,Qba] at this;omega),
   hd8.step hq9 (fun g hg=>⟨fun k=>by have:=k.fst;rw[hg,Qba] at this;omega,fun k=>by rw[hg] at k;cases k⟩),he8.step hq9 (fun g hg=>⟨fun k=>by have:=k.fst;rw[hg,Qba] at this;omega,fun k=>by rw[hg] at k;cases k⟩),
   hp8.step hq9 (fun g hg k=>by have:=hg.fst;rw[k,Qba] at this;omega),hq8.step hq9 (fun g hg k=>by have:=hg.fst;rw[k,Qba] at this;omega),HHl.out,HHn.out,⟨by show 0<3;omega,by show 3≤64;omega⟩⟩
 have hst9:=hst8.trans (hq9.mono (T:=AnyTag) (fun g hg=>by show g.1≠90;rw[hg];decide))
 have hal:=Qz4 hW
 obtain⟨HW,Hst9,Hal⟩:=hid3 hW hst9 hal
 clear hW hst9 hal ho8 hl8 hr8 hd8 he8 hp8 hq8 hs8 hst8 ho9 hq9
 go_wp2_with fail
 generalize (w8.setCell ⟨bt,4,none⟩ (.pointer (some ⟨bp,0,none⟩))).setCell ⟨bt,5,none⟩ (.pointer (some ⟨bq,0,none⟩))=w9 at *
 refine Hal.out.mono ?_
 rintro e w10 ⟨rfl,τ10,hs10⟩
 have Hs10:=Lib.hid hs10
 clear hs10 c4 z4 c5 z5
 go_wp2_with fail
 go_ret2
 exact⟨bt,bf,τ10,_,H,HR,L0,rfl,HW.out.step Hs10.out,rfl,rfl,Hst9.out.trans (Hs10.out.mono (T:=AnyTag) (fun _ h=>h.elim))⟩
theorem Jeq {F:List Fr}(one:OneHas F) {i:Nat}{b:Nat}{P:List Int}{n m:Nat}(h:F[i]?=some ⟨some (b,P),n,m⟩):Qaq F n=some i :=
 (Qa6 one n i).2 ⟨_,h,by simp[Fr.has]⟩
theorem Jda {g:Tag}(h:PoolTag g):g≠tTwoW:=fun e=>by have:=h.fst;rw[e,Qba] at this;omega
theorem Jc7 {g:Tag}(h:PoolTag g):AnyTag g:=by have:=h.fst;show g.1≠90;omega
theorem Jdv {g:Tag}(h:g=tClk):PoolTag g:=.inr (.inr (.inr (.inl h)))
theorem Jfm (w:World):Calls Tryz.prog 7 #[] w fun e w'=>e = .returned (.bool true)∧Mod w w' no:=by
 have hmk:=Je4 w
 have Hmk:=Lib.hid hmk
 clear hmk
 go_enter Tryz.func7,Tryz.ntmps7
 go_wp2_with fail
 refine Hmk.out.mono ?_
 rintro e w1 ⟨bt,bf,τ1,T,H,HR,L,rfl,hW,hTn,hTk,hst1⟩
 have hP1:PoolW w1 τ1 T.bp bf T.bd H L knD (List.replicate 3 Fr.no) (knS 0):=⟨by have:=hW.pool;rw[hTk] at this;exact this,by rw[hW.hl];exact hW.log,hW.dev⟩
 have hHn:H.n=4:=hW.hn.trans hTn
 have ht1:=hW.two
 have hF0:=FirstF.start 3
 obtain⟨HP1,Ht1,Hst1,HHn,HF0⟩:=hid5 hP1 ht1 hst1 hHn hF0
 clear hP1 ht1 hst1 hHn hF0 hW
 go_wp2_with fail
 go_loopw [3] (fun v wr=>∃(i:Nat) (τr:Tags) (F:List Fr),i≤3∧v = .int .u32 (i:Int)∧Own wr τr bt tTwoW 97 T.cells∧PoolW wr τr T.bp bf T.bd H L knD F (knS i)∧FirstF 3 i F∧Step w (fun _=>tBox) wr τr AnyTag) (fun v _=>3-(intOf v).toNat)
 case atStart=>exact⟨0,τ1,_,Nat.zero_le _,rfl,Ht1.out,HP1.out,HF0.out,Hst1.out⟩
 case round =>
  clear HP1 Ht1 Hst1 HF0
  obtain⟨i,τr,F,hi,rfl,ht,hP,hF,hst⟩:=hrel
  have c4:=ht.at 4 (v:=.pointer (some ⟨T.bp,0,none⟩)) rfl
  by_cases hlt:i<3
  ·have hone:=hP.pool.one
   have hno:=hF.no i (Nat.le_refl _) hlt
   have hg:=Jay hP i (by rw[HHn.out];omega) (by rw[Jav];omega) (Jaw i (by omega)) (Jbj i hlt).1 (Jbj i hlt).2 hno (fun h=>by cases h) (hF.not hone i (Nat.le_refl _)) (fun k=>by have:=Jau i k;omega)
   have hi3:(i:Int)<3:=by omega
   have hwu:IntKind.u32.wrap ((i:Int)+1)=(i:Int)+1:=by
    have:IntKind.u32.wrap ((i:Int)+1)=((i:Int)+1)%4294967296:=by simp[IntKind.wrap,IntKind.bits,IntKind.signed]
    rw[this];omega
   obtain⟨Hg,Ht,Hst,HF,Hwu⟩:=hid5 hg ht hst hF hwu
   clear hg ht hst hF hwu hP hone hno
   go_wp2_with fail
   refine Hg.out.mono ?_
   rintro e w2 ⟨b,τ2,rfl,hP2,hs2⟩
   have ht2:=Ht.out.step hs2 (fun h=>Jda h rfl)
   have hF2:=HF.out.next hlt b
   have hst2:=Hst.out.trans (hs2.mono (fun _ h=>Jc7 h))
   have hp:=Qxd hP2.pool i (by omega) (hF2.yes hP2.pool.one i (by omega)) (by rw[List.length_set,HF.out.len];exact hlt) (fun k=>by have:=(Qil _ _ (Jau i) i).1 false k;exact Nat.le_trans this (by omega))
   have hv:(decide (Ck.Clk.pinsV (fillS (knS i) i false) i≠0) && Ck.Clk.unpinB (fillS (knS i) i false) i)=true:=by rw[(Jbs i hlt).2,decide_eq_true (Jbs i hlt).1];rfl
   have hp':Calls Tryz.prog 16 #[.pointer (some ⟨T.bp,0,none⟩),.int .u32 (i:Int),.int .u64 0] w2 fun e w'=>e = .returned (.bool true)∧PoolAt w' τ2 T.bp bf H (F.set i ⟨some (b,emptyPage i),i,0⟩) (knS (i+1))∧Step w2 τ2 w' τ2 (fun t=>t=tClk):=by
    rw[←hv];exact hp
   have d4:=ht2.at 4 (v:=.pointer (some ⟨T.bp,0,none⟩)) rfl
   obtain⟨Ht2,HF2,Hst2,HP2⟩:=hid4 ht2 hF2 hst2 hP2
   have Hp':=Lib.hid hp'
   clear ht2 hF2 hst2 hP2 hp' hp hs2 hv
   go_wp2_with fail
   refine Hp'.out.mono ?_
   rintro e w3 ⟨rfl,hp3,hs3⟩
   have hs3':=hs3.mono (T:=PoolTag) (fun _ h=>Jdv h)
   have hP3:=HP2.out.turn hp3 hs3'
   have ht3:=Ht2.out.step hs3' (fun h=>Jda h rfl)
   have hst3:=Hst2.out.trans (hs3'.mono (fun _ h=>Jc7 h))
   obtain⟨HP3,Ht3,Hst3⟩:=hid3 hP3 ht3 hst3
   clear hP3 ht3 hst3 hs3 hs3' hp3
   have hwu:=Hwu.out
   go_wp2_with fail
   go_round
   case rel =>
    have h1:=Ht3.out
    have h2:=HP3.out
    have h3:=HF2.out
    have h4:=Hst3.out
    first
     | exact⟨i+1,τ2,_,by omega,by simp,h1,h2,h3,h4⟩
     | exact⟨i+1,by omega,by simp,τ2,_,h1,h2,h3,h4⟩
     | exact⟨i+1,by omega,τ2,_,h1,h2,h3,h4⟩
     | exact⟨i+1,by omega,τ2,h1,⟨_,h2,h3⟩,h4⟩
     | exact⟨i+1,by omega,by simp,τ2,h1,⟨_,h2,h3⟩,h4⟩
   case measure=>simp[intOf];omega
  ·obtain rfl:i=3:=by omega
   have hk1:=knS_3.1
   have hk2:=knS_3.2
   have hk3:=Jau 3
   have hk4:=Jbk
   generalize knS 3=s3 at *
   have hbd:∀k,s3.p k≤1000000:=fun k=>Nat.le_trans (hk3 k) (by decide)
   have hbd1:∀k,(fillS s3 0 true).p k≤1000000:=fun k=>Nat.le_trans ((Qil _ _ hk3 0).1 true k) (by decide)
   have hbd2:∀k,(hitS (fillS s3 0 true) 1).p k≤1000000:=fun k=>Nat.le_trans ((Qil _ _ ((Qil _ _ hk3 0).1 true) 1).2.2.1 k) (by decide)
   obtain⟨b0,hf0⟩:=hF.has 0 (by omega)
   obtain⟨b1,hf1⟩:=hF.has 1 (by omega)
   obtain⟨b2,hf2⟩:=hF.has 2 (by omega)
   have hg:=Jay hP 3 (by rw[HHn.out];omega) (by rw[Jav];omega) (Jaw 3 (by omega)) hk1 hk2 hf0 (fun _=>⟨rfl,by show (0:Nat)<_;omega⟩) (hF.not hP.pool.one 3 (Nat.le_refl _)) hbd
   have hgs:fillS s3 0 (⟨some (b0,emptyPage 0),0,0⟩:Fr).pg.isSome=fillS s3 0 true:=rfl
   rw[hgs,show ((3:Nat):Int)=3 from rfl] at hg
   clear hgs
   have hlen:=hF.len
   obtain⟨Hg,Ht,Hst,Hf0,Hf1,Hf2,Hlen,Hk4⟩:=hid8 hg ht hst hf0 hf1 hf2 hlen hk4
   clear hg ht hst hf0 hf1 hf2 hlen hk4 hk1 hk2 hk3 hbd
   obtain⟨Hbd1,Hbd2⟩:=hid2 hbd1 hbd2
   clear hbd1 hbd2 hP hF
   go_wp2_with fail
   refine Hg.out.mono ?_
   rintro e w2 ⟨b,τ2,rfl,hP2,hs2⟩
   have ht2:=Ht.out.step hs2 (fun h=>Jda h rfl)
   have hst2:=Hst.out.trans (hs2.mono (fun _ h=>Jc7 h))
   have hg0:(F.set 0 ⟨some (b,emptyPage 3),3,0⟩)[0]?=some ⟨some (b,emptyPage 3),3,0⟩:=by rw[List.getElem?_set_self (by rw[Hlen.out];omega)]
   have hg1:(F.set 0 ⟨some (b,emptyPage 3),3,0⟩)[1]?=some ⟨some (b1,emptyPage 1),1,0⟩:=by rw[List.getElem?_set_ne (by omega)];exact Hf1.out
   have hg2:(F.set 0 ⟨some (b,emptyPage 3),3,0⟩)[2]?=some ⟨some (b2,emptyPage 2),2,0⟩:=by rw[List.getElem?_set_ne (by omega)];exact Hf2.out
   have hlen2:(F.set 0 ⟨some (b,emptyPage 3),3,0⟩).length=3:=by rw[List.length_set];exact Hlen.out
   generalize F.set 0 ⟨some (b,emptyPage 3),3,0⟩=F1 at *
   have hat:=Qz3 hP2.pool
   rw[hlen2] at hat
   have d4:=ht2.at 4 (v:=.pointer (some ⟨T.bp,0,none⟩)) rfl
   obtain⟨HP2,Ht2,Hst2,Hg0,Hg1,Hg2,Hlen2,Hat⟩:=hid8 hP2 ht2 hst2 hg0 hg1 hg2 hlen2 hat
   clear hP2 ht2 hst2 hg0 hg1 hg2 hlen2 hat hs2 c4
   go_wp2_with fail
   refine Hat.out.mono ?_
   rintro e w3 ⟨ba,τ3,rfl,-,hoa,hs3⟩
   have ht3:=Ht2.out.step hs3 (fun h=>h)
   have hP3:=HP2.out.step hs3 (fun _ h=>h.elim)
   have hst3:=Hst2.out.trans (hs3.mono (T:=AnyTag) (fun _ h=>h.elim))
   have hw1:=Jeq hP3.pool.one Hg1.out
   have hh1:=Qzy hP3.pool 1 (by rw[HHn.out];omega) hw1 Hg1.out Hbd1.out
   rw[show Ck.Clk.pinS (Ck.Clk.touchS (fillS s3 0 true) ((1:Nat):Int)) ((1:Nat):Int)=hitS (fillS s3 0 true) 1 from rfl,show ((1:Nat):Int)=1 from rfl] at hh1
   simp only[Option.map_some] at hh1
   have hh1':=hh1
   have e4:=ht3.at 4 (v:=.pointer (some ⟨T.bp,0,none⟩)) rfl
   obtain⟨Ht3,HP3,Hst3⟩:=hid3 ht3 hP3 hst3
   have Hh1':=Lib.hid hh1'
   have Hoa:=Lib.hid hoa
   clear ht3 hP3 hst3 hh1' hoa hs3 d4 hh1 hw1
   go_wp2_with fail
   refine Hh1'.out.mono ?_
   rintro e w4 ⟨rfl,hp4,hs4⟩
   have hs4':=hs4.mono (T:=PoolTag) (fun _ h=>Jdv h)
   have hP4:=HP3.out.turn hp4 hs4'
   have ht4:=Ht3.out.step hs4' (fun h=>Jda h rfl)
   have hoa4:=Hoa.out.step hs4' (fun h=>by have:=h.fst;simp[tOut] at this)
   have hst4:=Hst3.out.trans (hs4'.mono (fun _ h=>Jc7 h))
   have hw2:=Jeq hP4.pool.one Hg2.out
   have hh2:=Qzy hP4.pool 2 (by rw[HHn.out];omega) hw2 Hg2.out Hbd2.out
   rw[show Ck.Clk.pinS (Ck.Clk.touchS (hitS (fillS s3 0 true) 1) ((2:Nat):Int)) ((2:Nat):Int)=hitS (hitS (fillS s3 0 true) 1) 2 from rfl,show ((2:Nat):Int)=2 from rfl] at hh2
   simp only[Option.map_some] at hh2
   have f4:=ht4.at 4 (v:=.pointer (some ⟨T.bp,0,none⟩)) rfl
   obtain⟨Ht4,HP4,Hst4,Hh2,Hoa4⟩:=hid5 ht4 hP4 hst4 hh2 hoa4
   clear ht4 hP4 hst4 hh2 hoa4 hs4 hs4' hp4 e4 hw2
   go_wp2_with fail
   refine Hh2.out.mono ?_
   rintro e w5 ⟨rfl,hp5,hs5⟩
   have hs5':=hs5.mono (T:=PoolTag) (fun _ h=>Jdv h)
   have hP5:=HP4.out.turn hp5 hs5'
   have ht5:=Ht4.out.step hs5' (fun h=>Jda h rfl)
   have hoa5:=Hoa4.out.step hs5' (fun h=>by have:=h.fst;simp[tOut] at this)
   have hst5:=Hst4.out.trans (hs5'.mono (fun _ h=>Jc7 h))
   have hw0:Qaq F1 0=none:=by
    cases hw:Qaq F1 0 with
    | none=>rfl
    | some j =>
      obtain⟨f,hf,hh⟩:=(Qa6 hP5.pool.one 0 j).1 hw
      have hj:=(List.getElem?_eq_some_iff.1 hf).1
      rw[Hlen2.out] at hj
      rcases (by omega:j=0∨j=1∨j=2) with rfl|rfl|rfl
      ·rw[Hg0.out] at hf;cases hf;simp[Fr.has] at hh
      ·rw[Hg1.out] at hf;cases hf;simp[Fr.has] at hh
      ·rw[Hg2.out] at hf;cases hf;simp[Fr.has] at hh
   have hh3:=Jbm hP5.pool 0 (by rw[HHn.out];omega) hw0 Hk4.out
   rw[show ((0:Nat):Int)=0 from rfl] at hh3
   have g4:=ht5.at 4 (v:=.pointer (some ⟨T.bp,0,none⟩)) rfl
   obtain⟨Ht5,HP5,Hst5,Hh3,Hoa5⟩:=hid5 ht5 hP5 hst5 hh3 hoa5
   clear ht5 hP5 hst5 hh3 hoa5 hs5 hs5' hp5 f4 hw0
   go_wp2_with fail
   refine Hh3.out.mono ?_
   rintro e w6 ⟨rfl,-,hs6⟩
   have hoa6:=Hoa5.out.step hs6 (fun h=>by have:=h.fst;simp[tOut] at this)
   have hst6:=Hst5.out.trans (hs6.mono (fun _ h=>Jc7 h))
   have ca:w6.cell? ⟨ba,0,none⟩=some (.int .i64 3):=by
    refine hoa6.at 0 ?_
    unfold i64z
    rw[List.getElem?_map,List.getElem?_map,Hg0.out];rfl
   have Hst6:=Lib.hid hst6
   clear hst6 hs6 hoa6 g4
   go_wp2_with fail
   go_ret
   exact⟨rfl,Qiv Hst6.out⟩
end Go.Proofs.YtemacanaihaldaaGreat