/-
 A log and a pool,and the document's: Make on empty devices.
-/
import Derived.Test.YtjgacceifcnedaaGreatML12
import Derived.Test.YtjgacceifcnedaaGreatMNewD
set_option maxRecDepth 100000
set_option maxHeartbeats 4000000
set_option linter.all false
namespace Go.Proofs.YtjgacceifcnedaaGreat
open Go.RowKit
theorem Qba:tTwoW.1=70:=rfl
theorem Qxl (w:World) (S N k:Nat) (hS:8≤S) (hS2:S≤1000) (hN1:1≤N) (hN:N≤500) (hk3:3≤k) (hk64:k≤64):Calls Tryz.prog 57 #[.int .i64 (S:Int),.int .i64 (N:Int),.int .i64 (k:Int)] w fun e w'=>∃(bt bf:Nat) (τ':Tags) (T:TwoH) (H:PoolH) (HR:RPoolH),e = .returned (.tuple #[.pointer (some ⟨bt,0,none⟩),.int .i64 1])∧TwoW w' τ' bt bf T H HR (walNewLog (2+2*S)) (nwD (2+2*S) N) (Ck.Clk.newS k)∧T.n=N∧T.k=k∧H.st=stampTo (nwD (2+2*S) N) (N+1)∧Step w (fun _=>tBox) w' τ' AnyTag:=by
 obtain⟨Z,hZ⟩:∃Z,2+2*S=Z:=⟨_,rfl⟩
 rw[hZ]
 obtain⟨Y,hY⟩:∃Y,4*(N+1)=Y:=⟨_,rfl⟩
 have hnd:Calls Tryz.prog 33 #[.int .i64 (Z:Int),.int .i64 (Y:Int)] w (NewD w (fun _=>tBox) Z Y):=Qmx w (fun _=>tBox) Z Y (by omega) (by omega)
 have hD0:nwD0 Z N=⟨List.replicate Z zsec,List.replicate Y zsec,none,false⟩:=by unfold nwD0;rw[hY]
 obtain⟨L0,hL0⟩:∃L0,walNewLog (nwD0 Z N).f0.length=L0:=⟨_,rfl⟩
 have hLL:walNewLog Z=L0:=by rw[←hL0,Qfo]
 have hK:Qbl (nwD0 Z N)=nwD Z N:=rfl
 have hZi:2+2*(S:Int)=(Z:Int):=by omega
 have hYi:4*((N:Int)+1)=(Y:Int):=by omega
 have hZle:Z≤2002:=by omega
 rw[hLL]
 obtain⟨Hnd,HL0,HK,HD0,HY⟩:=hid5 hnd hL0 hK hD0 hY
 clear hnd hL0 hK hD0 hY
 go_enter Tryz.func57,Tryz.ntmps57
 go_wp2_with fail
 refine Hnd.out.mono ?_
 rintro e w1 ⟨bd,rfl,hlow1,τ1,he1,hm1,hd1⟩
 have hd1':DevAt w1 τ1 bd (nwD0 Z N):=by rw[HD0.out];exact hd1
 have hs1:Step w (fun _=>tBox) w1 τ1 AnyTag:=Step.of _ hm1 he1
 have hne:Calls Tryz.prog 109 #[.int .i64 (Z:Int),.int .i64 (Y:Int)] w1 fun e w'=>∃bd τ',e = .returned (.pointer (some ⟨bd,0,none⟩))∧w1.heap.size≤bd∧RDevAt w' τ' bd (nwD0 Z N)∧Step w1 τ1 w' τ' RDevTag:=by rw[HD0.out];exact r5new w1 τ1 Z Y (by omega) (by omega)
 have Hd1':=Lib.hid hd1'
 obtain⟨Hs1,Hne⟩:=hid2 hs1 hne
 clear hd1' hs1 hne hd1 he1 hm1
 go_wp2_with fail
 refine Hne.out.mono ?_
 rintro e w2 ⟨be,τ2,rfl,hlow2,he2,hs2⟩
 have hd2:=Hd1'.out.step hs2 (fun g hg=>⟨fun k=>by have:=hg.fst;have:=k.fst;omega,fun k=>by have:=hg.fst;rw[k,Qf6] at this;omega⟩)
 have hst2:=Hs1.out.trans (hs2.mono (T:=AnyTag) (fun g hg=>by have:=hg.fst;show g.1≠90;omega))
 have ho3:=Own.new w2 τ2 tTwoW 85 [.pointer (some ⟨bd,0,none⟩),.pointer (some ⟨be,0,none⟩),.pointer none,.pointer none,.pointer none,.pointer none,.int .i64 (N:Int),.int .i64 (k:Int)]
 have hq3:=(Step.refl w2 τ2 nil).alloc (.cells ⟨[.pointer (some ⟨bd,0,none⟩),.pointer (some ⟨be,0,none⟩),.pointer none,.pointer none,.pointer none,.pointer none,.int .i64 (N:Int),.int .i64 (k:Int)]⟩ 85) tTwoW
 have hd3:=hd2.step hq3 (fun _ h=>h.elim)
 have he3:=he2.step hq3 (fun _ h=>h.elim)
 have hst3:=hst2.trans (hq3.mono (T:=AnyTag) (fun _ h=>h.elim))
 generalize τ2.put w2.heap.size tTwoW=τ3 at *
 obtain⟨bt,hbt⟩:∃bt,w2.heap.size=bt:=⟨_,rfl⟩
 rw[hbt] at ho3
 have hlow3:w.heap.size≤bt:=by rw[←hbt];exact hst2.size
 obtain⟨Ho3,Hd3,He3,Hst3,Hbt⟩:=hid5 ho3 hd3 he3 hst3 hbt
 clear ho3 hd3 he3 hst3 hbt hd2 he2 hs2 hst2 hq3
 go_wp2_with fail
 rw[Hbt.out]
 generalize w2.alloc (.cells #[.pointer (some ⟨bd,0,none⟩),.pointer (some ⟨be,0,none⟩),.pointer none,.pointer none,.pointer none,.pointer none,.int .i64 (N:Int),.int .i64 (k:Int)] 85)=w3 at *
 have hnew:=Qmj Hd3.out (by rw[Qfo];omega) (Dev.lim_mono (Qn1 Z N) (by omega))
 rw[HL0.out,HK.out] at hnew
 have c0:=Ho3.out.at 0 (v:=.pointer (some ⟨bd,0,none⟩)) rfl
 have c1:=Ho3.out.at 1 (v:=.pointer (some ⟨be,0,none⟩)) rfl
 have Hnew:=Lib.hid hnew
 clear hnew
 go_wp2_with fail
 refine Hnew.out.mono ?_
 rintro e w4 ⟨bl,τ4,rfl,-,hl4,hd4,hs4⟩
 have ho4:=Ho3.out.step hs4 (fun k=>by have:=k.fst;rw[Qba] at this;omega)
 have he4:=He3.out.step hs4 (fun g hg=>⟨fun k=>by have:=hg.fst;have:=k.fst;omega,fun k=>by have:=hg.fst;rw[k,Qf6] at this;omega⟩)
 have hst4:=Hst3.out.trans (hs4.mono (T:=AnyTag) (fun g hg=>by have:=hg.fst;show g.1≠90;omega))
 have hrn:=Qu6 he4 (by rw[Qfo];omega) (Dev.lim_mono (Qn1 Z N) (by omega))
 rw[HL0.out,HK.out] at hrn
 have d1:=ho4.at 1 (v:=.pointer (some ⟨be,0,none⟩)) rfl
 obtain⟨Ho4,Hl4,Hd4,Hst4,Hrn⟩:=hid5 ho4 hl4 hd4 hst4 hrn
 clear ho4 hl4 hd4 hst4 hrn he4 hs4 c0 c1
 go_wp2_with fail
 refine Hrn.out.mono ?_
 rintro e w5 ⟨br,τ5,rfl,-,hr5,he5,hs5⟩
 have ho5:=Ho4.out.step hs5 (fun k=>by have:=k.fst;rw[Qba] at this;omega)
 have hl5:=Hl4.out.step hs5 (fun g hg k=>by have:=hg.fst;have:=k.fst;omega)
 have hd5:=Hd4.out.step hs5 (fun g hg=>⟨fun k=>by have:=hg.fst;have:=k.fst;omega,fun k=>by have:=hg.fst;rw[k,Qf6] at this;omega⟩)
 have hst5:=Hst4.out.trans (hs5.mono (T:=AnyTag) (fun g hg=>by have:=hg.fst;show g.1≠90;omega))
 have c2:=ho5.at 2 (v:=.pointer none) rfl
 have z2:=ho5.fz 2
 have c3:=ho5.at 3 (v:=.pointer none) rfl
 have z3:=ho5.fz 3
 have ho6:=(ho5.set 2 (.pointer (some ⟨bl,0,none⟩))).set 3 (.pointer (some ⟨br,0,none⟩))
 have hq6:Step w5 τ5 ((w5.setCell ⟨bt,2,none⟩ (.pointer (some ⟨bl,0,none⟩))).setCell ⟨bt,3,none⟩ (.pointer (some ⟨br,0,none⟩))) τ5 (fun t=>t=tTwoW):=((Step.refl w5 τ5 (fun t=>t=tTwoW)).set (o:=2) ho5.tag rfl _).set (o:=3) (ho5.set 2 (.pointer (some ⟨bl,0,none⟩))).tag rfl _
 have hl6:=hl5.step hq6 (fun g hg k=>by have:=hg.fst;rw[k,Qba] at this;omega)
 have hr6:=hr5.step hq6 (fun g hg k=>by have:=hg.fst;rw[k,Qba] at this;omega)
 have hd6:=hd5.step hq6 (fun g hg=>⟨fun k=>by have:=k.fst;rw[hg,Qba] at this;omega,fun k=>by rw[hg] at k;cases k⟩)
 have he6:=he5.step hq6 (fun g hg=>⟨fun k=>by have:=k.fst;rw[hg,Qba] at this;omega,fun k=>by rw[hg] at k;cases k⟩)
 have hst6:=hst5.trans (hq6.mono (T:=AnyTag) (fun g hg=>by show g.1≠90;rw[hg];decide))
 obtain⟨Ho6,Hl6,Hr6,Hd6,He6,Hst6⟩:=hid6 ho6 hl6 hr6 hd6 he6 hst6
 clear ho6 hl6 hr6 hd6 he6 hst6 hl5 hr5 hd5 he5 hs5 hst5 ho5 hq6
 go_wp2_with fail
 generalize (w5.setCell ⟨bt,2,none⟩ (.pointer (some ⟨bl,0,none⟩))).setCell ⟨bt,3,none⟩ (.pointer (some ⟨br,0,none⟩))=w6 at *
 have hpn:Calls Tryz.prog 35 #[.pointer (some ⟨bl,0,none⟩),.int .i64 (N:Int),.int .i64 (k:Int)] w6 fun e w'=>∃bp bf τ' H,e = .returned (.tuple #[.pointer (some ⟨bp,0,none⟩),.int .u16 0])∧PoolAt w' τ' bp bf H (List.replicate k Fr.no) (Ck.Clk.newS k)∧H.bl=bl∧H.n=N∧H.st=stampTo (nwD Z N) (N+1)∧w6.heap.size≤bp∧Step w6 τ5 w' τ' nil :=
  Qkv Hl6.out Hd6.out N k (by omega) (by omega) (by omega) (by omega) (by rw[Qgj];exact Nat.le_refl _) (fun i hi=>by rw[Qe8 Z N i (by omega)];exact Qj2)
 have Hpn:=Lib.hid hpn
 clear hpn c2 z2 c3 z3 d1
 go_wp2_with fail
 refine Hpn.out.mono ?_
 rintro e w7 ⟨bp,bf,τ7,H,rfl,hp7,hHl,hHn,hHs,-,hs7⟩
 have ho7:=Ho6.out.step hs7 (fun h=>h)
 have hl7:=Hl6.out.step hs7 (fun _ _ h=>h)
 have hr7:=Hr6.out.step hs7 (fun _ _ h=>h)
 have hd7:=Hd6.out.step hs7 (fun _ h=>h.elim)
 have he7:=He6.out.step hs7 (fun _ h=>h.elim)
 have hst7:=Hst6.out.trans (hs7.mono (T:=AnyTag) (fun _ h=>h.elim))
 have hqn:Calls Tryz.prog 112 #[.pointer (some ⟨br,0,none⟩),.int .i64 (N:Int),.int .i64 (k:Int)] w7 fun e w'=>∃bp τ' H,e = .returned (.tuple #[.pointer (some ⟨bp,0,none⟩),.int .i64 0])∧RPoolAt0 w' τ' bp H k∧H.bl=br∧H.n=N∧H.st=stampTo (nwD Z N) (N+1)∧w7.heap.size≤bp∧Step w7 τ7 w' τ' RPoolTag :=
  Qs9 hr7 he7 N k (by omega) (by omega) (by omega) (by omega) (by rw[Qgj];exact Nat.le_refl _) (fun i hi=>by rw[Qe8 Z N i (by omega)];exact Qj2) (fun i hi=>Qmm hd7 i (by rw[Qgj];omega))
 obtain⟨Ho7,Hl7,Hr7,Hd7,He7,Hst7,Hp7,Hqn,HHl,HHn,HHs⟩:=hid11 ho7 hl7 hr7 hd7 he7 hst7 hp7 hqn hHl hHn hHs
 clear ho7 hl7 hr7 hd7 he7 hst7 hp7 hqn hHl hHn hHs hs7
 go_wp2_with fail
 refine Hqn.out.mono ?_
 rintro e w8 ⟨bq,τ8,HR,rfl,hq8,-,-,-,-,hs8⟩
 have ho8:=Ho7.out.step hs8 (fun k=>by have:=k.fst;rw[Qba] at this;omega)
 have hl8:=Hl7.out.step hs8 (fun g hg k=>by have:=hg.fst;have:=k.fst;omega)
 have hr8:=Hr7.out.step hs8 (fun g hg k=>by have:=hg.fst;have:=k.fst;omega)
 have hd8:=Hd7.out.step hs8 (fun g hg=>⟨fun k=>by have:=hg.fst;have:=k.fst;omega,fun k=>by have:=hg.fst;rw[k,Qf6] at this;omega⟩)
 have he8:=He7.out.step hs8 (fun g hg=>⟨fun k=>by have:=hg.fst;have:=k.fst;omega,fun k=>by have:=hg.fst;rw[k,Qf6] at this;omega⟩)
 have hp8:=Hp7.out.step hs8 (fun g hg k=>by have:=hg.fst;have:=k.fst;omega)
 have hst8:=Hst7.out.trans (hs8.mono (T:=AnyTag) (fun g hg=>by have:=hg.fst;show g.1≠90;omega))
 have c4:=ho8.at 4 (v:=.pointer none) rfl
 have z4:=ho8.fz 4
 have c5:=ho8.at 5 (v:=.pointer none) rfl
 have z5:=ho8.fz 5
 have ho9:=(ho8.set 4 (.pointer (some ⟨bp,0,none⟩))).set 5 (.pointer (some ⟨bq,0,none⟩))
 have hq9:Step w8 τ8 ((w8.setCell ⟨bt,4,none⟩ (.pointer (some ⟨bp,0,none⟩))).setCell ⟨bt,5,none⟩ (.pointer (some ⟨bq,0,none⟩))) τ8 (fun t=>t=tTwoW):=((Step.refl w8 τ8 (fun t=>t=tTwoW)).set (o:=4) ho8.tag rfl _).set (o:=5) (ho8.set 4 (.pointer (some ⟨bp,0,none⟩))).tag rfl _
 have hW:TwoW ((w8.setCell ⟨bt,4,none⟩ (.pointer (some ⟨bp,0,none⟩))).setCell ⟨bt,5,none⟩ (.pointer (some ⟨bq,0,none⟩))) τ8 bt bf ⟨bd,be,bl,br,bp,bq,N,k⟩ H HR L0 (nwD Z N) (Ck.Clk.newS k) :=
  ⟨ho9,hl8.step hq9 (fun g hg k=>by have:=hg.fst;rw[k,Qba] at this;omega),hr8.step hq9 (fun g hg k=>by have:=hg.fst;rw[k,Qba] at this;omega),
   hd8.step hq9 (fun g hg=>⟨fun k=>by have:=k.fst;rw[hg,Qba] at this;omega,fun k=>by rw[hg] at k;cases k⟩),he8.step hq9 (fun g hg=>⟨fun k=>by have:=k.fst;rw[hg,Qba] at this;omega,fun k=>by rw[hg] at k;cases k⟩),
   hp8.step hq9 (fun g hg k=>by have:=hg.fst;rw[k,Qba] at this;omega),hq8.step hq9 (fun g hg k=>by have:=hg.fst;rw[k,Qba] at this;omega),HHl.out,HHn.out,⟨by show 0<k;omega,by show k≤64;omega⟩⟩
 have hst9:=hst8.trans (hq9.mono (T:=AnyTag) (fun g hg=>by show g.1≠90;rw[hg];decide))
 have hal:=Qz4 hW
 obtain⟨HW,Hst9,Hal⟩:=hid3 hW hst9 hal
 clear hW hst9 hal ho8 hl8 hr8 hd8 he8 hp8 hq8 hs8 hst8 ho9 hq9
 go_wp2_with fail
 generalize (w8.setCell ⟨bt,4,none⟩ (.pointer (some ⟨bp,0,none⟩))).setCell ⟨bt,5,none⟩ (.pointer (some ⟨bq,0,none⟩))=w9 at *
 refine Hal.out.mono ?_
 rintro e w10 ⟨rfl,τ10,hs10⟩
 have Hs10:=Lib.hid hs10
 clear hs10 c4 z4 c5 z5
 go_wp2_with fail
 go_ret2
 exact⟨bt,bf,τ10,_,H,HR,rfl,HW.out.step Hs10.out,rfl,rfl,HHs.out,Hst9.out.trans (Hs10.out.mono (T:=AnyTag) (fun _ h=>h.elim))⟩
end Go.Proofs.YtjgacceifcnedaaGreat