/-
 Pools: bring a page that was never written into an empty frame.
-/
import Derived.Test.YtemacanaihaldaaGreatMPoolD
import Derived.Maps.Own
import Derived.Test.YtemacanaihaldaaGreatMInts
import Derived.Test.YtemacanaihaldaaGreatMGrow
set_option maxRecDepth 100000
set_option maxHeartbeats 2000000
set_option linter.all false
namespace Go.Proofs.YtemacanaihaldaaGreat
open Go.RowKit
theorem Qwe {w:World}{τ:Tags}{bp bf bd:Nat}{H:PoolH}{F:List Fr}{s:Ck.Clk.St}{L:LogM}{D:Dev}(h:PoolAt w τ bp bf H F s) (hl:LogAt w τ H.bl bd L) (hd:DevAt w τ bd D) (n:Nat) (hn:n<H.n) (hfit:4*n+4≤D.f1.length) (hz:lastTo D n 4=blank) (hyes:Ck.Clk.pickB s=true) {i:Nat}(hi:Ck.Clk.pickI s=i) {f:Fr}(hf:F[i]?=some f) (hfn:f.pg=none) (hno:Qaq F n=none) :
 Calls Tryz.prog 66 #[.pointer (some ⟨bp,0,none⟩),.int .u32 (n:Int)] w fun e w'=>e = .returned (.tuple #[.int .i64 (i:Int),.int .u16 0])∧∃b τ',PoolAt w' τ' bp bf H (F.set i ⟨some (b,emptyPage n),n,0⟩) (Ck.Clk.takeS (Ck.Clk.pickS s) i)∧Step w τ w' τ' PoolTag:=by
 have h1:=Qft h.ck
 rw[hyes,hi] at h1
 have d4:=h.hd.at 4 (v:=.pointer (some ⟨H.bc,0,none⟩)) rfl
 have h512:=h.n1
 have hk:=h.k1
 have hil:i<F.length:=(List.getElem?_eq_some_iff.1 hf).1
 obtain⟨H1,H_h,Hl,Hd,Hf,Hno,Hz⟩:=hid7 h1 h hl hd hf hno hz
 clear h1 h hl hd hf hno hz
 go_enter Tryz.func66,Tryz.ntmps66
 go_wp2_with fail
 refine H1.out.mono ?_
 rintro e w1 ⟨rfl,hc1,hs1⟩
 have hp1:=H_h.out.clk hc1 hs1 (Qkz s)
 have h2:=Qm3 hp1 i Hf.out hfn
 have h3:=Qld hp1.hd (Hl.out.step hs1 (by rintro g (rfl|rfl|rfl) <;> decide)) (Hd.out.step hs1 (by rintro g rfl;simp[DevTag,tClk,tData])) n hfit Hz.out (tPg i)
 obtain⟨Hp1,Hs1,H2,H3⟩:=hid4 hp1 hs1 h2 h3
 clear hp1 hs1 h2 h3 hc1
 go_wp2_with fail
 refine H2.out.mono ?_
 rintro e w' ⟨rfl,rfl⟩
 go_wp2_with fail
 refine H3.out.mono ?_
 rintro e w2 ⟨b,τ2,rfl,hlow,hpg,hs2⟩
 have hp2:=Hp1.out.step hs2 (fun _ _ h=>h)
 have e2:=hp2.hd.at 2 (v:=H.vf) rfl
 rw[hp2.vf] at e2
 obtain⟨c0,c1,c2⟩:=hp2.cells Hf.out
 have z0:=hp2.fr.fz (i*3)
 have z1:=hp2.fr.fz (i*3+1)
 have z2:=hp2.fr.fz (i*3+2)
 have hst3:Step w2 τ2 (((w2.setCell ⟨bf,i*3,none⟩ (.pointer (some ⟨b,0,none⟩))).setCell ⟨bf,i*3+1,none⟩ (.int .u32 (n:Int))).setCell ⟨bf,i*3+2,none⟩ (.int .u64 0)) τ2 (fun g=>g=tFr) :=
  (((Step.refl w2 τ2 (fun g=>g=tFr)).set hp2.fr.tag rfl _).set hp2.fr.tag rfl _).set hp2.fr.tag rfl _
 have hd3:=hp2.hd.step hst3 (by decide)
 have e3:=hd3.at 3 (v:=.map (some H.bm)) rfl
 have hm3:=hp2.mp.step hst3 (by decide)
 have hc3:=hp2.ck.step hst3 (by decide)
 obtain⟨Hst3,Hd3,Hm3,Hc3⟩:=hid4 hst3 hd3 hm3 hc3
 clear hst3 hd3 hm3 hc3
 generalize F.length=k at *
 obtain⟨Hp2,Hpg,Hs2⟩:=hid3 hp2 hpg hs2
 clear hp2 hpg hs2
 go_wp2_with (at_mapUpdate;go_loud (refine Qca Hm3.out (by omega) n i hn (by omega) rfl _ _ _ rfl rfl rfl rfl ?_;intro w4 hm4 hs4;have e4:=(Hd3.out.step hs4 (by decide)).at 4 (v:=.pointer (some ⟨H.bc,0,none⟩)) rfl;have htk:=Qhj (Hc3.out.step hs4 (by decide)) (i:Int);obtain⟨Hm4,Hs4,Htk⟩:=hid3 hm4 hs4 htk;clear hm4 hs4 htk))
 refine Htk.out.mono ?_
 rintro e w5 ⟨rfl,hc5,hs5⟩
 obtain⟨Hc5,Hs5⟩:=hid2 hc5 hs5
 clear hc5 hs5
 go_wp2_with fail
 go_ret2
 have hp1:=Hp1.out
 have hp2:=Hp2.out
 have h45:=(Hs4.out.mono (T:=fun g=>g=tWhere∨g=tClk) (fun g h=>.inl h)).trans (Hs5.out.mono (fun g h=>.inr h))
 have h35:=(Hst3.out.mono (T:=PoolTag) (fun g h=>.inr (.inl h))).trans (h45.mono (T:=PoolTag) (fun g h=>by rcases h with h|h;exact .inr (.inr (.inl h));exact .inr (.inr (.inr (.inl h)))))
 have hall:=((Hs1.out.mono (T:=PoolTag) (fun g h=>.inr (.inr (.inr (.inl h))))).trans (Hs2.out.mono (T:=PoolTag) (fun g h=>h.elim))).trans h35
 have hiF:i<F.length:=(List.getElem?_eq_some_iff.1 Hf.out).1
 obtain⟨hone,hwh⟩:=Qf4 hp2.one hiF Hf.out hfn ⟨some (b,emptyPage n),n,0⟩ (by simp[Fr.has]) Hno.out
 have hfr3:=((hp2.fr.set (i*3) (.pointer (some ⟨b,0,none⟩))).set (i*3+1) (.int .u32 (n:Int))).set (i*3+2) (.int .u64 0)
 have hfs:=Qd8 F i ⟨some (b,emptyPage n),n,0⟩ hiF
 rw[show ((((Qao F).set (i*3) (Value.pointer (some ⟨b,0,none⟩))).set (i*3+1) (Value.int .u32 (n:Int))).set (i*3+2) (Value.int .u64 0))=Qao (F.set i ⟨some (b,emptyPage n),n,0⟩) from hfs] at hfr3
 have hmp:=Hm4.out.step Hs5.out (by decide)
 rw[hwh] at hmp
 refine⟨rfl,b,τ2,⟨(Hd3.out.step h45 (by decide)),by rw[List.length_set];exact hp2.vf,hfr3.step h45 (by decide),?_,hmp,Hc5.out,hp2.n1,by rw[List.length_set];exact hp2.k1,?_,hp2.st,hone,?_⟩,hall⟩
 ·intro j c P hb
  rw[List.getElem?_set] at hb
  by_cases e:i=j
  ·subst e
   rw[if_pos rfl,if_pos hiF] at hb
   cases hb
   exact(Hpg.out.step Hst3.out (by simp[tPg,tFr])).step h45 (by simp[tPg,tWhere,tClk])
  ·rw[if_neg e] at hb
   exact((hp2.pg j c P hb).step Hst3.out (by simp[tPg,tFr])).step h45 (by simp[tPg,tWhere,tClk])
 ·rw[List.length_set]
  have e:(Ck.Clk.takeS (Ck.Clk.pickS s) i).n=(Ck.Clk.pickS s).n:=by unfold Ck.Clk.takeS;split <;> rfl
  rw[e];exact hp2.sn
 ·intro j m g hg hh
  rw[List.getElem?_set] at hg
  by_cases e:i=j
  ·rw[if_pos e,if_pos hiF] at hg
   cases hg
   simp only[Fr.has,Bool.and_eq_true,beq_iff_eq] at hh
   rw[←hh.2];exact hn
  ·rw[if_neg e] at hg
   exact hp2.low j m g hg hh
theorem Qbo {g:Tag}(h:LogTag g):¬PoolTag g:=by
 rcases h with rfl|rfl|rfl <;> simp[PoolTag,tPool,tFr,tWhere,tClk,tPg,tLog,Qah,Qag]
theorem Qbg {g:Tag}(h:PoolTag g):¬DevTag g∧g≠tData:=by
 rcases h with rfl|rfl|rfl|rfl|⟨i,rfl⟩ <;> simp[DevTag,tPool,tFr,tWhere,tClk,tPg,tData]
theorem Qt8 {w:World}{τ:Tags}{bp bf bd:Nat}{H:PoolH}{F:List Fr}{s:Ck.Clk.St}{L:LogM}{D:Dev}(h:PoolAt w τ bp bf H F s) (hl:LogAt w τ H.bl bd L) (hd:DevAt w τ bd D) (n:Nat) (hn:n<H.n) (hfit:4*n+4≤D.f1.length) (hz:lastTo D n 4=blank) (hyes:Ck.Clk.pickB s=true) {i:Nat}(hi:Ck.Clk.pickI s=i) {f:Fr}{x:Nat×List Int}(hf:F[i]?=some f) (hfx:f.pg=some x) (hf0:f.first=0) (hf32:f.n<4294967296) (hno:Qaq F n=none) :
 Calls Tryz.prog 66 #[.pointer (some ⟨bp,0,none⟩),.int .u32 (n:Int)] w fun e w'=>e = .returned (.tuple #[.int .i64 (i:Int),.int .u16 0])∧∃b τ',PoolAt w' τ' bp bf H (F.set i ⟨some (b,emptyPage n),n,0⟩) (Ck.Clk.takeS (Ck.Clk.leaveS (Ck.Clk.pickS s) i) i)∧Step w τ w' τ' PoolTag:=by
 have h1:=Qft h.ck
 rw[hyes,hi] at h1
 have d4:=h.hd.at 4 (v:=.pointer (some ⟨H.bc,0,none⟩)) rfl
 have h512:=h.n1
 have hk:=h.k1
 have hil:i<F.length:=(List.getElem?_eq_some_iff.1 hf).1
 obtain⟨H1,H_h,Hl,Hd,Hf,Hno,Hz⟩:=hid7 h1 h hl hd hf hno hz
 clear h1 h hl hd hf hno hz
 go_enter Tryz.func66,Tryz.ntmps66
 go_wp2_with fail
 refine H1.out.mono ?_
 rintro e w1 ⟨rfl,hc1,hs1⟩
 have hp1:=H_h.out.clk hc1 hs1 (Qkz s)
 have h2:=Qlp hp1 i Hf.out hfx hf0 hf32
 obtain⟨Hp1,Hs1,H2⟩:=hid3 hp1 hs1 h2
 clear hp1 hs1 h2 hc1
 go_wp2_with fail
 refine H2.out.mono ?_
 rintro e w1b ⟨rfl,hpb,hsb⟩
 have hs1b:=(Hs1.out.mono (T:=PoolTag) (fun g h=>.inr (.inr (.inr (.inl h))))).trans hsb
 have h3:=Qld hpb.hd (Hl.out.step hs1b (fun g h=>Qbo h)) (Hd.out.step hs1b (fun g h=>Qbg h)) n hfit Hz.out (tPg i)
 have hfb:(F.set i Fr.no)[i]?=some Fr.no:=by rw[List.getElem?_set,if_pos rfl,if_pos hil]
 have hhas:f.has f.n=true:=by simp[Fr.has,hfx]
 have hnob:Qaq (F.set i Fr.no) n=none:=by
  rw[←Qfh H_h.out.one Hf.out hhas]
  unfold updO;split
  ·rfl
  ·exact Hno.out
 have hss:∀y,F.set i y=(F.set i Fr.no).set i y:=fun y=>by rw[List.set_set]
 have hlb:(F.set i Fr.no).length=F.length:=List.length_set
 generalize hF1:F.set i Fr.no=F1 at *
 generalize hs1e:Ck.Clk.leaveS (Ck.Clk.pickS s) (i:Int)=s1 at *
 obtain⟨Hss,HF1,Hs1e⟩:=hid3 hss hF1 hs1e
 clear hss hF1 hs1e
 have hk:=hpb.k1
 have hil:i<F1.length:=by omega
 obtain⟨Hpb,Hs1b,H3,Hfb,Hnob⟩:=hid5 hpb hs1b h3 hfb hnob
 clear hpb hs1b h3 hfb hnob hlb H2
 go_wp2_with fail
 refine H3.out.mono ?_
 rintro e w2 ⟨b,τ2,rfl,hlow,hpg,hs2⟩
 have hp2:=Hpb.out.step hs2 (fun _ _ h=>h)
 have e2:=hp2.hd.at 2 (v:=H.vf) rfl
 rw[hp2.vf] at e2
 obtain⟨c0,c1,c2⟩:=hp2.cells Hfb.out
 have z0:=hp2.fr.fz (i*3)
 have z1:=hp2.fr.fz (i*3+1)
 have z2:=hp2.fr.fz (i*3+2)
 have hst3:Step w2 τ2 (((w2.setCell ⟨bf,i*3,none⟩ (.pointer (some ⟨b,0,none⟩))).setCell ⟨bf,i*3+1,none⟩ (.int .u32 (n:Int))).setCell ⟨bf,i*3+2,none⟩ (.int .u64 0)) τ2 (fun g=>g=tFr) :=
  (((Step.refl w2 τ2 (fun g=>g=tFr)).set hp2.fr.tag rfl _).set hp2.fr.tag rfl _).set hp2.fr.tag rfl _
 have hd3:=hp2.hd.step hst3 (by decide)
 have e3:=hd3.at 3 (v:=.map (some H.bm)) rfl
 have hm3:=hp2.mp.step hst3 (by decide)
 have hc3:=hp2.ck.step hst3 (by decide)
 obtain⟨Hst3,Hd3,Hm3,Hc3⟩:=hid4 hst3 hd3 hm3 hc3
 clear hst3 hd3 hm3 hc3
 generalize F1.length=k at *
 obtain⟨Hp2,Hpg,Hs2⟩:=hid3 hp2 hpg hs2
 clear hp2 hpg hs2
 go_wp2_with (at_mapUpdate;go_loud (refine Qca Hm3.out (by omega) n i hn (by omega) rfl _ _ _ rfl rfl rfl rfl ?_;intro w4 hm4 hs4;have e4:=(Hd3.out.step hs4 (by decide)).at 4 (v:=.pointer (some ⟨H.bc,0,none⟩)) rfl;have htk:=Qhj (Hc3.out.step hs4 (by decide)) (i:Int);obtain⟨Hm4,Hs4,Htk⟩:=hid3 hm4 hs4 htk;clear hm4 hs4 htk))
 refine Htk.out.mono ?_
 rintro e w5 ⟨rfl,hc5,hs5⟩
 obtain⟨Hc5,Hs5⟩:=hid2 hc5 hs5
 clear hc5 hs5
 go_wp2_with fail
 go_ret2
 have hp2:=Hp2.out
 have h45:=(Hs4.out.mono (T:=fun g=>g=tWhere∨g=tClk) (fun g h=>.inl h)).trans (Hs5.out.mono (fun g h=>.inr h))
 have h35:=(Hst3.out.mono (T:=PoolTag) (fun g h=>.inr (.inl h))).trans (h45.mono (T:=PoolTag) (fun g h=>by rcases h with h|h;exact .inr (.inr (.inl h));exact .inr (.inr (.inr (.inl h)))))
 have hall:=(Hs1b.out.trans (Hs2.out.mono (T:=PoolTag) (fun g h=>h.elim))).trans h35
 have hiF:i<F1.length:=(List.getElem?_eq_some_iff.1 Hfb.out).1
 obtain⟨hone,hwh⟩:=Qf4 hp2.one hiF Hfb.out rfl ⟨some (b,emptyPage n),n,0⟩ (by simp[Fr.has]) Hnob.out
 have hfr3:=((hp2.fr.set (i*3) (.pointer (some ⟨b,0,none⟩))).set (i*3+1) (.int .u32 (n:Int))).set (i*3+2) (.int .u64 0)
 have hfs:=Qd8 F1 i ⟨some (b,emptyPage n),n,0⟩ hiF
 rw[show ((((Qao F1).set (i*3) (Value.pointer (some ⟨b,0,none⟩))).set (i*3+1) (Value.int .u32 (n:Int))).set (i*3+2) (Value.int .u64 0))=Qao (F1.set i ⟨some (b,emptyPage n),n,0⟩) from hfs] at hfr3
 have hmp:=Hm4.out.step Hs5.out (by decide)
 rw[hwh] at hmp
 refine⟨rfl,b,τ2,?_,hall⟩
 rw[Hss.out,Hs1e.out]
 refine⟨(Hd3.out.step h45 (by decide)),by rw[List.length_set];exact hp2.vf,hfr3.step h45 (by decide),?_,hmp,Hc5.out,hp2.n1,by rw[List.length_set];exact hp2.k1,?_,hp2.st,hone,?_⟩
 ·intro j c P hb
  rw[List.getElem?_set] at hb
  by_cases e:i=j
  ·subst e
   rw[if_pos rfl,if_pos hiF] at hb
   cases hb
   exact(Hpg.out.step Hst3.out (by simp[tPg,tFr])).step h45 (by simp[tPg,tWhere,tClk])
  ·rw[if_neg e] at hb
   exact((hp2.pg j c P hb).step Hst3.out (by simp[tPg,tFr])).step h45 (by simp[tPg,tWhere,tClk])
 ·rw[List.length_set]
  have e:(Ck.Clk.takeS s1 i).n=s1.n:=by unfold Ck.Clk.takeS;split <;> rfl
  rw[e];exact hp2.sn
 ·intro j m g hg hh
  rw[List.getElem?_set] at hg
  by_cases e:i=j
  ·rw[if_pos e,if_pos hiF] at hg
   cases hg
   simp only[Fr.has,Bool.and_eq_true,beq_iff_eq] at hh
   rw[←hh.2];exact hn
  ·rw[if_neg e] at hg
   exact hp2.low j m g hg hh
theorem PoolAt.clk_n {s:Ck.Clk.St}(i:Int):(Ck.Clk.touchS s i).n=s.n∧(Ck.Clk.pinS s i).n=s.n∧(Ck.Clk.unpinS s i).n=s.n∧(Ck.Clk.takeS s i).n=s.n:=by
 refine⟨?_,?_,?_,?_⟩
 ·unfold Ck.Clk.touchS;split <;> rfl
 ·unfold Ck.Clk.pinS;split <;> rfl
 ·unfold Ck.Clk.unpinS;split <;> rfl
 ·unfold Ck.Clk.takeS;split <;> rfl
theorem Qqb (s:Ck.Clk.St) (i:Int):(Ck.Clk.touchS s i).p=s.p:=by unfold Ck.Clk.touchS;split <;> rfl
theorem Qzy {w:World}{τ:Tags}{bp bf:Nat}{H:PoolH}{F:List Fr}{s:Ck.Clk.St}(h:PoolAt w τ bp bf H F s) (n:Nat) (hn:n<H.n) {i:Nat}(hw:Qaq F n=some i) {f:Fr}(hf:F[i]?=some f) (hs:∀k,s.p k≤1000000) :
 Calls Tryz.prog 15 #[.pointer (some ⟨bp,0,none⟩),.int .u32 (n:Int)] w fun e w'=>e = .returned (.tuple #[.pointer (f.pg.map (fun x=>(⟨x.1,0,none⟩:Addr))),.int .u16 0])∧PoolAt w' τ bp bf H F (Ck.Clk.pinS (Ck.Clk.touchS s i) i)∧Step w τ w' τ (fun t=>t=tClk):=by
 have h512:=h.n1
 have hk:=h.k1
 have hil:i<F.length:=(List.getElem?_eq_some_iff.1 hf).1
 have d1:=h.hd.at 1 (v:=.int .i64 (H.n:Int)) rfl
 have d3:=h.hd.at 3 (v:=.map (some H.bm)) rfl
 have d4:=h.hd.at 4 (v:=.pointer (some ⟨H.bc,0,none⟩)) rfl
 have hwr:=Qb1 H.n (by omega)
 have hlk:=h.mp.look n (by omega)
 rw[hw] at hlk
 simp only[Option.getD_some,Option.isSome_some] at hlk
 have h1:=Qgo h.ck (i:Int)
 obtain⟨H_h,H1,Hf⟩:=hid3 h h1 hf
 clear h h1 hf
 go_enter Tryz.func15,Tryz.ntmps15
 go_wp2_with fail
 refine H1.out.mono ?_
 rintro e w1 ⟨rfl,hc1,hs1⟩
 have hp1:=H_h.out.clk hc1 hs1 (PoolAt.clk_n _).1
 have e4:=hp1.hd.at 4 (v:=.pointer (some ⟨H.bc,0,none⟩)) rfl
 have h2:=Qis hp1.ck (i:Int) (by rw[Qqb];exact hs)
 obtain⟨Hp1,Hs1,H2⟩:=hid3 hp1 hs1 h2
 clear hp1 hs1 h2 hc1
 go_wp2_with fail
 refine H2.out.mono ?_
 rintro e w2 ⟨rfl,hc2,hs2⟩
 have hp2:=Hp1.out.clk hc2 hs2 (PoolAt.clk_n _).2.1
 have e2:=hp2.hd.at 2 (v:=H.vf) rfl
 rw[hp2.vf] at e2
 obtain⟨c0,c1,c2⟩:=hp2.cells Hf.out
 generalize hl:F.length=k at *
 obtain⟨Hp2,Hs2⟩:=hid2 hp2 hs2
 clear hp2 hs2 hc2
 go_wp2_with fail
 go_ret2
 exact⟨rfl,Hp2.out,Hs1.out.trans Hs2.out⟩
theorem Jbm {w:World}{τ:Tags}{bp bf:Nat}{H:PoolH}{F:List Fr}{s:Ck.Clk.St}(h:PoolAt w τ bp bf H F s) (n:Nat) (hn:n<H.n) (hw:Qaq F n=none) (hno:Ck.Clk.pickB s=false) :
 Calls Tryz.prog 15 #[.pointer (some ⟨bp,0,none⟩),.int .u32 (n:Int)] w fun e w'=>e = .returned (.tuple #[.pointer none,.int .u16 120])∧PoolAt w' τ bp bf H F (Ck.Clk.pickS s)∧Step w τ w' τ PoolTag:=by
 have h512:=h.n1
 have d1:=h.hd.at 1 (v:=.int .i64 (H.n:Int)) rfl
 have d3:=h.hd.at 3 (v:=.map (some H.bm)) rfl
 have hwr:=Qb1 H.n (by omega)
 have hlk:=h.mp.look n (by omega)
 rw[hw] at hlk
 simp only[Option.getD_none,Option.isSome_none] at hlk
 have h1:=Qt9 h n hno
 obtain⟨H_h,H1⟩:=hid2 h h1
 clear h h1
 go_enter Tryz.func15,Tryz.ntmps15
 go_wp2_with fail
 refine H1.out.mono ?_
 rintro e w1 ⟨rfl,hp1,hs1⟩
 obtain⟨Hp1,Hs1⟩:=hid2 hp1 hs1
 clear hp1 hs1
 go_wp2_with fail
 go_ret2
 exact⟨rfl,Hp1.out,Hs1.out⟩
theorem Qsj {w:World}{τ:Tags}{bp bf:Nat}{H:PoolH}{F:List Fr}{s s1:Ck.Clk.St}(h:PoolAt w τ bp bf H F s) (n:Nat) (hn:n<H.n) (hw:Qaq F n=none) {i:Nat}(hi:i<F.length)
 (hb:Calls Tryz.prog 66 #[.pointer (some ⟨bp,0,none⟩),.int .u32 (n:Int)] w fun e w'=>e = .returned (.tuple #[.int .i64 (i:Int),.int .u16 0])∧∃b τ',PoolAt w' τ' bp bf H (F.set i ⟨some (b,emptyPage n),n,0⟩) s1∧Step w τ w' τ' PoolTag) (hs:∀k,s1.p k≤1000000) :
 Calls Tryz.prog 15 #[.pointer (some ⟨bp,0,none⟩),.int .u32 (n:Int)] w fun e w'=>∃b τ',e = .returned (.tuple #[.pointer (some ⟨b,0,none⟩),.int .u16 0])∧PoolAt w' τ' bp bf H (F.set i ⟨some (b,emptyPage n),n,0⟩) (Ck.Clk.pinS (Ck.Clk.touchS s1 i) i)∧Step w τ w' τ' PoolTag:=by
 have h512:=h.n1
 have hk:=h.k1
 have d1:=h.hd.at 1 (v:=.int .i64 (H.n:Int)) rfl
 have d3:=h.hd.at 3 (v:=.map (some H.bm)) rfl
 have hwr:=Qb1 H.n (by omega)
 have hlk:=h.mp.look n (by omega)
 rw[hw] at hlk
 simp only[Option.getD_none,Option.isSome_none] at hlk
 obtain⟨H_h,Hb⟩:=hid2 h hb
 clear h hb
 go_enter Tryz.func15,Tryz.ntmps15
 go_wp2_with fail
 refine Hb.out.mono ?_
 rintro e w0 ⟨rfl,b,τ',hp0,hs0⟩
 have hf:(F.set i ⟨some (b,emptyPage n),n,0⟩)[i]?=some ⟨some (b,emptyPage n),n,0⟩:=by rw[List.getElem?_set,if_pos rfl,if_pos hi]
 have d4:=hp0.hd.at 4 (v:=.pointer (some ⟨H.bc,0,none⟩)) rfl
 have h1:=Qgo hp0.ck (i:Int)
 have hl:(F.set i ⟨some (b,emptyPage n),n,0⟩).length=F.length:=List.length_set
 obtain⟨Hp0,Hs0,H1,Hf,Hl⟩:=hid5 hp0 hs0 h1 hf hl
 clear hp0 hs0 h1 hf hl
 go_wp2_with fail
 refine H1.out.mono ?_
 rintro e w1 ⟨rfl,hc1,hs1⟩
 have hp1:=Hp0.out.clk hc1 hs1 (PoolAt.clk_n _).1
 have e4:=hp1.hd.at 4 (v:=.pointer (some ⟨H.bc,0,none⟩)) rfl
 have h2:=Qis hp1.ck (i:Int) (by rw[Qqb];exact hs)
 obtain⟨Hp1,Hs1,H2⟩:=hid3 hp1 hs1 h2
 clear hp1 hs1 h2 hc1
 go_wp2_with fail
 refine H2.out.mono ?_
 rintro e w2 ⟨rfl,hc2,hs2⟩
 have hp2:=Hp1.out.clk hc2 hs2 (PoolAt.clk_n _).2.1
 have e2:=hp2.hd.at 2 (v:=H.vf) rfl
 rw[hp2.vf,Hl.out] at e2
 obtain⟨c0,c1,c2⟩:=hp2.cells Hf.out
 simp only[Option.map_some] at c0
 generalize F.length=k at *
 obtain⟨Hp2,Hs2⟩:=hid2 hp2 hs2
 clear hp2 hs2 hc2
 go_wp2_with fail
 go_ret2
 exact⟨b,τ',rfl,Hp2.out,Hs0.out.trans ((Hs1.out.trans Hs2.out).mono (fun g h=>.inr (.inr (.inr (.inl h)))))⟩
theorem Qxd {w:World}{τ:Tags}{bp bf:Nat}{H:PoolH}{F:List Fr}{s:Ck.Clk.St}(h:PoolAt w τ bp bf H F s) (n:Nat) (hn:n<4294967296) {i:Nat}(hw:Qaq F n=some i) (hi:i<F.length) (hs:∀k,s.p k≤1000000) :
 Calls Tryz.prog 16 #[.pointer (some ⟨bp,0,none⟩),.int .u32 (n:Int),.int .u64 0] w fun e w'=>e = .returned (.bool (decide (Ck.Clk.pinsV s i≠0) && Ck.Clk.unpinB s i))∧PoolAt w' τ bp bf H F (if Ck.Clk.pinsV s i=0 then s else Ck.Clk.unpinS s i)∧Step w τ w' τ (fun t=>t=tClk):=by
 have hk:=h.k1
 have d2:=h.hd.at 2 (v:=H.vf) rfl
 rw[h.vf] at d2
 have d3:=h.hd.at 3 (v:=.map (some H.bm)) rfl
 have d4:=h.hd.at 4 (v:=.pointer (some ⟨H.bc,0,none⟩)) rfl
 have hlk:=h.mp.look n hn
 rw[hw] at hlk
 simp only[Option.getD_some,Option.isSome_some] at hlk
 have h1:=Qlw h.ck (i:Int)
 have h2:=Qjg h.ck (i:Int) hs
 generalize hq:Ck.Clk.pinsV s (i:Int)=q at *
 generalize F.length=k at *
 obtain⟨H_h,H1,H2⟩:=hid3 h h1 h2
 clear h h1 h2
 by_cases h0:q=0
 ·subst h0
  go_enter Tryz.func16,Tryz.ntmps16
  go_wp2_with fail
  refine H1.out.mono ?_
  rintro e w' ⟨rfl,rfl⟩
  go_wp2_with fail
  go_ret
  exact⟨by simp,H_h.out,Step.refl _ _ _⟩
 ·have hq0:¬(q:Int)=0:=by omega
  go_enter Tryz.func16,Tryz.ntmps16
  go_wp2_with fail
  refine H1.out.mono ?_
  rintro e w' ⟨rfl,rfl⟩
  go_wp2_with fail
  refine H2.out.mono ?_
  rintro e w2 ⟨rfl,hc2,hs2⟩
  have hp2:=H_h.out.clk hc2 hs2 (PoolAt.clk_n _).2.2.1
  obtain⟨Hp2,Hs2⟩:=hid2 hp2 hs2
  clear hp2 hs2 hc2
  go_wp2_with fail
  go_ret
  exact⟨by simp[],Hp2.out,Hs2.out⟩
theorem Qk2 {w:World}{τ:Tags}{bp bf:Nat}{H:PoolH}{F:List Fr}{s:Ck.Clk.St}(h:PoolAt w τ bp bf H F s) :
 Calls Tryz.prog 41 #[.pointer (some ⟨bp,0,none⟩)] w fun e w'=>e = .returned (.int .i64 (H.n:Int))∧w=w':=by
 have d1:=h.hd.at 1 (v:=.int .i64 (H.n:Int)) rfl
 clear h
 go_enter Tryz.func41,Tryz.ntmps41
 go_wp2_with fail
 go_ret
 exact⟨rfl,rfl⟩
theorem Qqt {w:World}{τ:Tags}{bp bf:Nat}{H:PoolH}{F:List Fr}{s:Ck.Clk.St}(h:PoolAt w τ bp bf H F s) :
 Calls Tryz.prog 192 #[.pointer (some ⟨bp,0,none⟩)] w fun e w'=>e = .returned (.pointer (some ⟨H.bl,0,none⟩))∧w=w':=by
 have d1:=h.hd.at 0 (v:=.pointer (some ⟨H.bl,0,none⟩)) rfl
 clear h
 go_enter Tryz.func192,Tryz.ntmps192
 go_wp2_with fail
 go_ret
 exact⟨rfl,rfl⟩
def i64z (l:List Int):List Value:=l.map (Value.int .i64)
def Fr.at (f:Fr):Int:=if f.pg.isSome then (f.n:Int) else -1
def atTo (F:List Fr) (i:Nat):List Int:=(F.take i).map Fr.at++List.replicate (F.length-i) 0
theorem Qrr (F:List Fr) (i:Nat) (hi:i≤F.length):(atTo F i).length=F.length:=by
 simp[atTo,Nat.min_eq_left hi];omega
theorem Qfq (l:List Int):(i64z l).length=l.length:=by simp[i64z]
theorem Qyh {F:List Fr}{i:Nat}{f:Fr}(hf:F[i]?=some f):(i64z (atTo F i)).set i (.int .i64 f.at)=i64z (atTo F (i+1)):=by
 obtain⟨hi,rfl⟩:=List.getElem?_eq_some_iff.1 hf
 have e:(i64z (atTo F i)).set i (.int .i64 (F[i]).at)=i64z ((atTo F i).set i (F[i]).at):=by simp[i64z,List.map_set]
 rw[e]
 congr 1
 unfold atTo
 rw[List.take_add_one,hf]
 have hl:((F.take i).map Fr.at).length=i:=by simp;omega
 rw[List.set_append_right _ _ (by rw[hl];exact Nat.le_refl _),hl,Nat.sub_self]
 rw[show F.length-i=(F.length-(i+1))+1 by omega,List.replicate_succ]
 simp only[List.map_append,List.set_cons_zero,Option.toList_some,List.map_cons,List.map_nil,List.append_assoc,List.cons_append,List.nil_append]
theorem Qnh (k:Nat) (hk:k≤64) (W:World):(Instr.makeSlice 98 (.int .i64 (k:Int)) (.int .i64 (k:Int))).run Tryz.prog W =
 .ok (.slice (some ⟨W.heap.size,0,none⟩) k k) (W.alloc (.cells (i64z (List.replicate k 0)).toArray 3)):=by
 obtain⟨i,hi,hz0,hz1,hz2⟩:=info_parts Tryz.infoInt
 have:=run_make (P:=Tryz.prog) W 98 3 i (.int .i64 0) Tryz.underlying98 hi hz0 .i64 .i64 k k (by omega) (Int.le_refl _) (by rw[hz2];omega) (by omega)
 simp only[Int.toNat_natCast,hz1] at this
 rw[this]
 congr 3
 apply Array.ext_getElem?
 intro j
 simp only[Nat.mul_one]
 by_cases hj:j<k
 ·have h1:=Ck.made_get #[Value.int .i64 0] k j hj
  have e:(Value.int .i64 0).cells=#[Value.int .i64 0]:=rfl
  rw[e,h1]
  simp[i64z,hj,Nat.mod_one]
 ·have l:(madeCells (Value.int .i64 0).cells k)[j]?=none:=by
   unfold madeCells
   rw[Array.getElem?_map,Array.getElem?_range,if_neg hj];rfl
  rw[l]
  simp[i64z,hj]
theorem Qz3 {w:World}{τ:Tags}{bp bf:Nat}{H:PoolH}{F:List Fr}{s:Ck.Clk.St}(h:PoolAt w τ bp bf H F s) :
 Calls Tryz.prog 43 #[.pointer (some ⟨bp,0,none⟩)] w fun e w'=>∃b τ',e = .returned (.slice (some ⟨b,0,none⟩) F.length F.length)∧w.heap.size≤b∧Own w' τ' b tOut 3 (i64z (F.map Fr.at))∧Step w τ w' τ' nil:=by
 have d2:=h.hd.at 2 (v:=H.vf) rfl
 rw[h.vf] at d2
 have hk:=h.k1
 have hmk:=Qnh F.length hk.2
 have ho:=Own.new w τ tOut 3 (i64z (List.replicate F.length 0))
 have hs:=(Step.refl w τ nil).alloc (.cells (i64z (List.replicate F.length 0)).toArray 3) tOut
 have hd1:=(h.hd.step hs (fun h=>h)).at 2 (v:=H.vf) rfl
 rw[h.vf] at hd1
 generalize hl:F.length=k at *
 obtain⟨H_h,Ho,Hs,Hl⟩:=hid4 h ho hs hl
 clear h ho hs hl
 go_enter Tryz.func43,Tryz.ntmps43
 go_wp2_with fail
 go_loopw [17] (fun v wr=>∃(i:Nat) (τr:Tags),i≤k∧v = .int .i64 (i:Int)∧Own wr τr w.heap.size tOut 3 (i64z (atTo F i))∧Step w τ wr τr nil) (fun v _=>k-(intOf v).toNat)
 case atStart=>exact⟨0,_,Nat.zero_le _,rfl,by
  have e:atTo F 0=List.replicate k 0:=by {simp[atTo,Hl.out]}
  rw[e];exact Ho.out,Hs.out⟩
 case round =>
  obtain⟨i,τr,hi,rfl,hob,hst⟩:=hrel
  by_cases hlt:i<k
  ·obtain⟨f,hf⟩:∃f,F[i]?=some f:=⟨_,List.getElem?_eq_getElem (by rw[Hl.out];exact hlt)⟩
   have hp:=H_h.out.step hst (fun _ _ h=>h)
   obtain⟨c0,c1,c2⟩:=hp.cells hf
   have hset:=Qyh hf
   have lb:=hp.fr.lt
   have lo:=hob.lt
   have z:=hob.fz i
   obtain⟨u,ci⟩:∃u,wr.cell? ⟨w.heap.size,i,none⟩=some u:=by
    rw[hob.cell i]
    exact⟨_,List.getElem?_eq_getElem (by rw[Qfq,Qrr F i (by rw[Hl.out];exact hi),Hl.out];exact hlt)⟩
   have hob1:=(hob.set i (.int .i64 (-1)))
   have hst1:=hst.setNew (o:=i) (Nat.le_refl _) (.int .i64 (-1))
   cases hpg:f.pg with
   | none =>
     have hv:f.at = -1:=by simp[Fr.at,hpg]
     rw[hv] at hset
     rw[hpg] at c0
     simp only[Option.map_none] at c0
     rw[hset] at hob1
     obtain⟨Hob,Hst,Hob1,Hst1,Hset,Hp,Hf⟩:=hid7 hob hst hob1 hst1 hset hp hf
     clear hob hst hob1 hst1 hset hp hf
     go_wp2_with fail
     go_round
     case rel=>exact⟨i+1,τr,by omega,by simp,Hob1.out.alloc _,Hst1.out.alloc' _⟩
     case measure=>simp[intOf];omega
   | some x =>
     have hv:f.at=(f.n:Int):=by simp[Fr.at,hpg]
     rw[hv] at hset
     rw[hpg] at c0
     simp only[Option.map_some] at c0
     have hlow:=hp.low i f.n f hf (by simp[Fr.has,hpg])
     have h512:=hp.n1
     have hwr:wrap64 (f.n:Int)=(f.n:Int):=by unfold wrap64;omega
     have hset2:((i64z (atTo F i)).set i (.int .i64 (-1))).set i (.int .i64 (f.n:Int))=i64z (atTo F (i+1)):=by rw[List.set_set];exact hset
     obtain⟨Hob,Hst,Hob1,Hst1,Hset2,Hp,Hf⟩:=hid7 hob hst hob1 hst1 hset2 hp hf
     clear hob hst hob1 hst1 hset2 hp hf hset
     go_wp2_with fail
     go_round
     case rel =>
      refine⟨i+1,τr,by omega,by simp,?_,?_⟩
      ·rw[←Hset2.out];try rw[hwr]
       exact(Hob1.out.set i _).alloc _
      ·exact(Hst1.out.setNew (Nat.le_refl _) _).alloc' _
     case measure=>simp[intOf];omega
  ·obtain rfl:i=k:=by omega
   obtain⟨Hob,Hst⟩:=hid2 hob hst
   clear hob hst
   go_wp2_with fail
   go_ret
   exact⟨w.heap.size,τr,rfl,Nat.le_refl _,by
    have e:atTo F i=F.map Fr.at:=by {unfold atTo;rw[Hl.out,Nat.sub_self,←Hl.out,List.take_length];simp}
    rw[←e];exact Hob.out,Hst.out⟩
theorem Qzu (w:World):Calls Tryz.prog 268 #[.int .u64 0] w fun e w'=>e = .returned (.int .i64 0)∧w=w':=by
 go_enter Tryz.func268,Tryz.ntmps268
 go_wp2_with fail
 go_ret
 exact⟨by kernel_rfl,rfl⟩
theorem len_0 (w:World):Calls Tryz.prog 224 #[.int .u64 0] w fun e w'=>e = .returned (.int .i64 0)∧w=w':=by
 have h1:=Qzu w
 have H1:=Lib.hid h1
 clear h1
 go_enter Tryz.func224,Tryz.ntmps224
 go_wp2_with fail
 refine H1.out.mono ?_
 rintro e w' ⟨rfl,rfl⟩
 go_wp2_with fail
 go_ret
 exact⟨rfl,rfl⟩
theorem Qn7 (w:World) (f:Value):Calls Tryz.prog 259 #[.slice none 0 0,.int .i64 0,.int .i64 0,f] w fun e w'=>e = .returned (.tuple #[])∧w=w':=by
 go_enter Tryz.func259,Tryz.ntmps259
 go_wp2_with fail
 go_loopw [8] (fun v wr=>v = .int .i64 1∧wr=w) (fun _ _=>0)
 case atStart=>exact⟨rfl,rfl⟩
 case round =>
  obtain⟨rfl,rfl⟩:=hrel
  go_wp2_with fail
  go_returns
  exact⟨rfl,rfl⟩
theorem Qzj (w:World) (f:Value):Calls Tryz.prog 223 #[.slice none 0 0,.int .i64 0,.int .i64 0,.int .i64 0,f] w fun e w'=>e = .returned (.tuple #[])∧w=w':=by
 have h1:=Qn7 w f
 have H1:=Lib.hid h1
 clear h1
 go_enter Tryz.func223,Tryz.ntmps223
 go_wp2_with fail
 go_loopw [1,2,3,10,11] (fun a b c d e wr=>a = .int .i64 0∧b = .int .i64 0∧c = .int .i64 0∧d = .bool true∧e = .bool true∧wr=w) (fun _ _ _ _ _ _=>0)
 case atStart=>exact⟨rfl,rfl,rfl,rfl,rfl,rfl⟩
 case round =>
  obtain⟨rfl,rfl,rfl,rfl,rfl,rfl⟩:=hrel
  go_wp2_with fail
  refine H1.out.mono ?_
  rintro e w' ⟨rfl,rfl⟩
  go_wp2_with fail
  go_returns
  exact⟨rfl,rfl⟩
theorem Qw4 (w:World) (f:Value):Calls Tryz.prog 146 #[.slice none 0 0,f] w fun e w'=>e = .returned (.tuple #[])∧w=w':=by
 have h1:=len_0 w
 have h2:=Qzj w f
 obtain⟨H1,H2⟩:=hid2 h1 h2
 clear h1 h2
 go_enter Tryz.func146,Tryz.ntmps146
 go_wp2_with fail
 refine H1.out.mono ?_
 rintro e w' ⟨rfl,rfl⟩
 go_wp2_with fail
 refine H2.out.mono ?_
 rintro e w' ⟨rfl,rfl⟩
 go_wp2_with fail
 go_returns
 exact⟨rfl,rfl⟩
theorem Qty {w:World}{τ:Tags}{bp bf:Nat}{H:PoolH}{F:List Fr}{s:Ck.Clk.St}(h:PoolAt w τ bp bf H F s) (h0:∀f∈F,f.first=0) :
 Calls Tryz.prog 85 #[.pointer (some ⟨bp,0,none⟩)] w fun e w'=>e = .returned (.slice none 0 0)∧∃τ',Step w τ w' τ' nil:=by
 have d2:=h.hd.at 2 (v:=H.vf) rfl
 rw[h.vf] at d2
 have hk:=h.k1
 have hso:=fun W f=>Qw4 W f
 generalize hl:F.length=k at *
 obtain⟨H_h,H0,Hl,Hso⟩:=hid4 h h0 hl hso
 clear h h0 hl hso
 go_enter Tryz.func85,Tryz.ntmps85
 go_wp2_with fail
 go_loopw [3,11] (fun m v wr=>∃(i:Nat) (τr:Tags),i≤k∧m = .slice none 0 0∧v = .int .i64 (i:Int)∧Step w τ wr τr nil) (fun _ v _=>k-(intOf v).toNat)
 case atStart=>exact⟨0,τ,Nat.zero_le _,rfl,rfl,Step.refl _ _ _⟩
 case round =>
  obtain⟨i,τr,hi,rfl,rfl,hst⟩:=hrel
  by_cases hlt:i<k
  ·obtain⟨f,hf⟩:∃f,F[i]?=some f:=⟨_,List.getElem?_eq_getElem (by rw[Hl.out];exact hlt)⟩
   have hp:=H_h.out.step hst (fun _ _ h=>h)
   obtain⟨c0,c1,c2⟩:=hp.cells hf
   have hz:=H0.out f (List.mem_of_getElem? hf)
   rw[hz] at c2
   generalize Option.map (fun x=>(⟨x.1,0,none⟩:Addr)) f.pg=pp at *
   generalize f.n=n at *
   obtain⟨Hst,Hf⟩:=hid2 hst hf
   clear hst hf hp hz
   go_wp2_with fail
   go_round
   case rel=>exact⟨i+1,τr,by omega,rfl,by simp,Hst.out.alloc' _⟩
   case measure=>simp[intOf];omega
  ·obtain rfl:i=k:=by omega
   have Hst:=Lib.hid hst
   clear hst
   go_wp2_with fail
   refine(Hso.out _ _).mono ?_
   rintro e w' ⟨rfl,rfl⟩
   go_wp2_with fail
   go_ret
   exact⟨rfl,τr,Hst.out⟩
structure PoolW (w:World) (τ:Tags) (bp bf bd:Nat) (H:PoolH) (L:LogM) (D:Dev) (F:List Fr) (s:Ck.Clk.St):Prop where
 pool:PoolAt w τ bp bf H F s
 log:LogAt w τ H.bl bd L
 dev:DevAt w τ bd D
theorem PoolW.step {w w':World}{τ τ':Tags}{S:Tag→Prop}{bp bf bd:Nat}{H:PoolH}{L:LogM}{D:Dev}{F:List Fr}{s:Ck.Clk.St}(h:PoolW w τ bp bf bd H L D F s) (m:Step w τ w' τ' S) (hs:∀g,S g→¬PoolTag g∧¬LogTag g∧¬DevTag g∧g≠tData):PoolW w' τ' bp bf bd H L D F s :=
 ⟨h.pool.step m (fun g hg hS=>(hs g hS).1 hg),h.log.step m (fun g hg hS=>(hs g hS).2.1 hg),h.dev.step m (fun g hS=>(hs g hS).2.2)⟩
theorem PoolW.turn {w w':World}{τ τ':Tags}{bp bf bd:Nat}{H:PoolH}{L:LogM}{D:Dev}{F F':List Fr}{s s':Ck.Clk.St}(h:PoolW w τ bp bf bd H L D F s) (hp:PoolAt w' τ' bp bf H F' s') (m:Step w τ w' τ' PoolTag):PoolW w' τ' bp bf bd H L D F' s' :=
 ⟨hp,h.log.step m (fun g hg=>Qbo hg),h.dev.step m (fun g hg=>Qbg hg)⟩
def fillS (s:Ck.Clk.St) (i:Nat) (had:Bool):Ck.Clk.St:=Ck.Clk.pinS (Ck.Clk.touchS (Ck.Clk.takeS (if had then Ck.Clk.leaveS (Ck.Clk.pickS s) i else Ck.Clk.pickS s) i) i) i
theorem Qik {s:Ck.Clk.St}(i:Int) (h:∀k,s.p k≤1000000):(∀k,(Ck.Clk.takeS s i).p k≤1000000)∧(∀k,(Ck.Clk.leaveS s i).p k≤1000000)∧(∀k,(Ck.Clk.pickS s).p k≤1000000)∧(∀k,(Ck.Clk.touchS s i).p k≤1000000):=by
 refine⟨fun k=>?_,fun k=>?_,fun k=>?_,fun k=>?_⟩
 ·unfold Ck.Clk.takeS
  split
  ·simp only[Ck.Clk.upd];split
   ·omega
   ·exact h k
  ·exact h k
 ·unfold Ck.Clk.leaveS
  split <;> exact h k
 ·unfold Ck.Clk.pickS
  split
  ·exact h k
  ·split <;> exact h k
 ·unfold Ck.Clk.touchS
  split <;> exact h k
theorem Jay {w:World}{τ:Tags}{bp bf bd:Nat}{H:PoolH}{L:LogM}{D:Dev}{F:List Fr}{s:Ck.Clk.St}(h:PoolW w τ bp bf bd H L D F s) (n:Nat) (hn:n<H.n) (hfit:4*n+4≤D.f1.length) (hz:lastTo D n 4=blank) (hyes:Ck.Clk.pickB s=true) {i:Nat}(hi:Ck.Clk.pickI s=i) {f:Fr}(hf:F[i]?=some f) (hc:f.pg.isSome=true→f.first=0∧f.n<4294967296) (hno:Qaq F n=none) (hs:∀k,s.p k≤1000000) :
 Calls Tryz.prog 15 #[.pointer (some ⟨bp,0,none⟩),.int .u32 (n:Int)] w fun e w'=>∃b τ',e = .returned (.tuple #[.pointer (some ⟨b,0,none⟩),.int .u16 0])∧PoolW w' τ' bp bf bd H L D (F.set i ⟨some (b,emptyPage n),n,0⟩) (fillS s i f.pg.isSome)∧Step w τ w' τ' PoolTag:=by
 have hil:=(List.getElem?_eq_some_iff.1 hf).1
 cases hpg:f.pg with
 | none =>
   have hb:=Qwe h.pool h.log h.dev n hn hfit hz hyes hi hf hpg hno
   have:=Qsj h.pool n hn hno hil hb ((Qik i ((Qik i hs).2.2.1)).1)
   refine this.mono ?_
   rintro e w' ⟨b,τ',rfl,hp,hst⟩
   exact⟨b,τ',rfl,h.turn hp hst,hst⟩
 | some x =>
   obtain⟨h0,h32⟩:=hc (by rw[hpg];rfl)
   have hb:=Qt8 h.pool h.log h.dev n hn hfit hz hyes hi hf hpg h0 h32 hno
   have:=Qsj h.pool n hn hno hil hb ((Qik i (Qik i ((Qik i hs).2.2.1)).2.1).1)
   refine this.mono ?_
   rintro e w' ⟨b,τ',rfl,hp,hst⟩
   exact⟨b,τ',rfl,h.turn hp hst,hst⟩
def Dev.writes (D:Dev) (f a:Nat) (ls:List (List Int)):Nat→Dev
 | 0=>D
 | i+1=>(D.writes f a ls i).write f (a+i) (ls.getD i [])
def Dev.lay (D:Dev) (f a:Nat) (ls:List (List Int)):Dev:=(D.writes f a ls ls.length).sync f
theorem Dev.writes_length (D:Dev) (f a:Nat) (hf:f<2) (ls:List (List Int)) (i g:Nat):((D.writes f a ls i).file g).length=(D.file g).length:=by
 induction i with
 | zero=>rfl
 | succ i ih =>
   show (((D.writes f a ls i).write f _ _).file g).length=_
   rw[Dev.write_file _ _ _ hf];exact ih
theorem Dev.writes_lim {D:Dev}{b:Nat}(h:D.lim b) (f a:Nat) (hf:f<2) (ls:List (List Int)) (i:Nat):(D.writes f a ls i).lim (b+i):=by
 induction i with
 | zero=>exact h
 | succ i ih=>exact Dev.lim_write ih f _ hf _
theorem Dev.lay_length (D:Dev) (f a:Nat) (hf:f<2) (ls:List (List Int)) (g:Nat):((D.lay f a ls).file g).length=(D.file g).length:=by
 unfold Dev.lay
 rw[Dev.sync_file _ _ hf,Dev.writes_length _ _ _ hf]
theorem Dev.lay_lim {D:Dev}{b:Nat}(h:D.lim b) (f a:Nat) (hf:f<2) (ls:List (List Int)):(D.lay f a ls).lim (b+ls.length):=Dev.lim_sync (Dev.writes_lim h f a hf ls _) f hf
structure Dev.Calm (D:Dev):Prop where
 left:D.left=none
 waits:∀(f k:Nat) (s:Sec),(D.file f)[k]?=some s→s.waits=[]
theorem Dev.go_free {D:Dev}(h:D.left=none):D.go=(true,D):=by unfold Dev.go;rw[h]
theorem Dev.write_free {D:Dev}(h:D.left=none) (f k:Nat) (l:List Int):(D.write f k l).left=none:=by
 unfold Dev.write
 rw[Dev.go_free h,if_pos rfl]
 cases (D.file f)[k]? with
 | none=>exact h
 | some s=>show (Dev.put _ _ _).left=none;unfold Dev.put;split <;> (try split) <;> exact h
theorem Dev.sync_free {D:Dev}(h:D.left=none) (f:Nat):(D.sync f).left=none:=by
 unfold Dev.sync
 rw[Dev.go_free h,if_pos rfl]
 show (Dev.put _ _ _).left=none;unfold Dev.put;split <;> (try split) <;> exact h
theorem Dev.write_get {D:Dev}(h:D.left=none) {f:Nat}(hf:f<2) (k:Nat) (l:List Int) (g j:Nat):((D.write f k l).file g)[j]?=if g=f∧j=k then (D.file g)[j]?.map (fun s=>s.add l) else (D.file g)[j]?:=by
 unfold Dev.write
 rw[Dev.go_free h,if_pos rfl]
 cases hs:(D.file f)[k]? with
 | none =>
   show (D.file g)[j]?=_
   by_cases e:g=f∧j=k
   ·rw[if_pos e,e.1,e.2,hs];rfl
   ·rw[if_neg e]
 | some s =>
   show ((Dev.put D f _).file g)[j]?=_
   rw[Dev.put_file _ _ hf]
   by_cases eg:g=f
   ·rw[if_pos eg]
    by_cases e:j=k
    ·rw[if_pos ⟨eg,e⟩,e,eg,hs,List.getElem?_set_self (List.getElem?_eq_some_iff.1 hs).1];rfl
    ·rw[if_neg (fun q=>e q.2),List.getElem?_set_ne (fun q=>e q.symm),eg]
   ·rw[if_neg eg,if_neg (fun q=>eg q.1)]
theorem Dev.sync_get {D:Dev}(h:D.left=none) {f:Nat}(hf:f<2) (g j:Nat):((D.sync f).file g)[j]?=if g=f then (D.file g)[j]?.map Sec.sync else (D.file g)[j]?:=by
 unfold Dev.sync
 rw[Dev.go_free h,if_pos rfl]
 show ((Dev.put D f _).file g)[j]?=_
 rw[Dev.put_file _ _ hf]
 by_cases eg:g=f
 ·rw[if_pos eg,if_pos eg,List.getElem?_map,eg]
 ·rw[if_neg eg,if_neg eg]
theorem Sec.add_newest (s:Sec) (l:List Int):(s.add l).newest=l:=by
 show (s.waits++[l]).getLastD s.last=l
 rw[List.getLastD_eq_getLast?,List.getLast?_append];rfl
theorem Dev.last_write {D:Dev}(h:D.left=none) {f:Nat}(hf:f<2) {k:Nat}(hk:k<(D.file f).length) (l:List Int) (g j:Nat):(D.write f k l).last g j=if g=f∧j=k then l else D.last g j:=by
 unfold Dev.last
 rw[Dev.write_get h hf]
 by_cases e:g=f∧j=k
 ·rw[if_pos e,if_pos e,e.1,e.2,List.getElem?_eq_getElem hk]
  show (Sec.add _ l).newest=l
  exact Sec.add_newest _ _
 ·rw[if_neg e,if_neg e]
theorem Dev.last_sync {D:Dev}(h:D.left=none) {f:Nat}(hf:f<2) (g j:Nat):(D.sync f).last g j=D.last g j:=by
 unfold Dev.last
 rw[Dev.sync_get h hf]
 by_cases e:g=f
 ·rw[if_pos e]
  cases (D.file g)[j]? with
  | none=>rfl
  | some s=>rfl
 ·rw[if_neg e]
theorem Dev.writes_free {D:Dev}(h:D.left=none) (f a:Nat) (ls:List (List Int)) (i:Nat):(D.writes f a ls i).left=none:=by
 induction i with
 | zero=>exact h
 | succ i ih=>exact Dev.write_free ih _ _ _
theorem Dev.lay_free {D:Dev}(h:D.left=none) (f a:Nat) (ls:List (List Int)):(D.lay f a ls).left=none:=Dev.sync_free (Dev.writes_free h _ _ _ _) _
theorem Dev.last_writes {D:Dev}(h:D.left=none) {f:Nat}(hf:f<2) (a:Nat) (ls:List (List Int)) (i:Nat) (hi:a+i≤(D.file f).length) (g j:Nat):(D.writes f a ls i).last g j=if g=f∧a≤j∧j<a+i then ls.getD (j-a) [] else D.last g j:=by
 induction i with
 | zero=>rw[if_neg (by omega)];rfl
 | succ i ih =>
   show ((D.writes f a ls i).write f (a+i) (ls.getD i [])).last g j=_
   rw[Dev.last_write (Dev.writes_free h _ _ _ _) hf (by rw[Dev.writes_length _ _ _ hf];omega),ih (by omega)]
   by_cases e:g=f∧j=a+i
   ·rw[if_pos e,if_pos ⟨e.1,by omega,by omega⟩,e.2,Nat.add_sub_cancel_left]
   ·rw[if_neg e]
    by_cases e2:g=f∧a≤j∧j<a+i
    ·rw[if_pos e2,if_pos ⟨e2.1,e2.2.1,by omega⟩]
    ·rw[if_neg e2,if_neg (by omega)]
theorem Dev.last_lay {D:Dev}(h:D.left=none) {f:Nat}(hf:f<2) (a:Nat) (ls:List (List Int)) (hi:a+ls.length≤(D.file f).length) (g j:Nat):(D.lay f a ls).last g j=if g=f∧a≤j∧j<a+ls.length then ls.getD (j-a) [] else D.last g j:=by
 unfold Dev.lay
 rw[Dev.last_sync (Dev.writes_free h _ _ _ _) hf,Dev.last_writes h hf a ls _ hi]
theorem Dev.writes_other {D:Dev}(h:D.left=none) {f:Nat}(hf:f<2) (a:Nat) (ls:List (List Int)) (i g:Nat) (hg:g≠f) (j:Nat):((D.writes f a ls i).file g)[j]?=(D.file g)[j]?:=by
 induction i with
 | zero=>rfl
 | succ i ih =>
   show (((D.writes f a ls i).write f _ _).file g)[j]?=_
   rw[Dev.write_get (Dev.writes_free h _ _ _ _) hf,if_neg (fun q=>hg q.1)];exact ih
theorem Dev.Calm.lay {D:Dev}(h:D.Calm) {f:Nat}(hf:f<2) (a:Nat) (ls:List (List Int)):(D.lay f a ls).Calm:=by
 refine⟨Dev.lay_free h.left _ _ _,fun g k s hs=>?_⟩
 unfold Dev.lay at hs
 rw[Dev.sync_get (Dev.writes_free h.left _ _ _ _) hf] at hs
 by_cases e:g=f
 ·rw[if_pos e] at hs
  obtain⟨s',_,rfl⟩:=Option.map_eq_some_iff.1 hs
  rfl
 ·rw[if_neg e,Dev.writes_other h.left hf _ _ _ _ e] at hs
  exact h.waits g k s hs
theorem Dev.Calm.lim {D:Dev}(h:D.Calm) (b:Nat):D.lim b:=fun f k s hs=>by rw[h.waits f k s hs];exact Nat.zero_le _
theorem Qm0 {D E:Dev}{n m:Nat}(h:∀i,i<4→D.last 1 (4*n+i)=E.last 1 (4*m+i)):lastTo D n 4=lastTo E m 4:=by
 unfold lastTo
 refine List.map_congr_left (fun k hk=>h k (List.mem_range.1 hk))
theorem Qmz {D:Dev}(h:D.left=none) (n:Nat) (ls:List (List Int)) (hl:ls.length=4) (hi:4*n+4≤D.f1.length) (m:Nat):lastTo (D.lay 1 (4*n) ls) m 4=if m=n then ls else lastTo D m 4:=by
 have hlay:=fun j=>Dev.last_lay h (f:=1) (by omega) (4*n) ls (by rw[hl];exact hi) 1 j
 by_cases e:m=n
 ·rw[if_pos e]
  apply List.ext_getElem?
  intro i
  by_cases hi4:i<4
  ·have e1:(lastTo (D.lay 1 (4*n) ls) m 4)[i]?=some ((D.lay 1 (4*n) ls).last 1 (4*m+i)):=by
    unfold lastTo
    rw[List.getElem?_map,List.getElem?_range hi4];rfl
   rw[e1,hlay,if_pos ⟨rfl,by omega,by omega⟩,show 4*m+i-4*n=i by omega,List.getD_eq_getElem?_getD,List.getElem?_eq_getElem (by omega)];rfl
  ·rw[List.getElem?_eq_none (by rw[Qbe];omega),List.getElem?_eq_none (by omega)]
 ·rw[if_neg e]
  refine Qm0 (fun i hi4=>?_)
  rw[hlay,if_neg (by omega)]
theorem Qq8 {D:Dev}(h:D.left=none) (a:Nat) (ls:List (List Int)) (hi:a+ls.length≤D.f0.length) (m:Nat):lastTo (D.lay 0 a ls) m 4=lastTo D m 4 :=
 Qm0 (fun i _=>by rw[Dev.last_lay h (f:=0) (by omega) a ls hi,if_neg (by omega)])
def IntsZ (w:World) (τ:Tags) (g:Tag) (v:Value) (l:List Int):Prop:=Buf w τ g 3 1 v l.length (i64z l)
theorem Qzw (l:List Int) (i:Nat) (h:i<l.length):(i64z l)[i]?=some (.int .i64 (l.getD i 0)):=by
 simp[i64z,List.getD,List.getElem?_eq_getElem h]
theorem IntsZ.step {w w':World}{τ τ':Tags}{S:Tag→Prop}{g:Tag}{v:Value}{l:List Int}(h:IntsZ w τ g v l) (m:Step w τ w' τ' S) (hs:¬S g):IntsZ w' τ' g v l:=Buf.step h m hs
theorem IntsZ.read {w:World}{τ:Tags}{g:Tag}{v:Value}{l:List Int}(h:IntsZ w τ g v l):∃p c,v = .slice p l.length c∧l.length≤maxLen∧∀i,i<l.length→∃b,p=some ⟨b,0,none⟩∧w.cell? ⟨b,i,none⟩=some (.int .i64 (l.getD i 0)):=by
 obtain⟨h1,⟨rfl,h2⟩|⟨b,cap,ys,rfl,ho,h3,h4,h5⟩⟩:=h
 ·exact⟨none,0,by rw[h2],by omega,fun i hi=>by omega⟩
 ·refine⟨_,_,rfl,by omega,fun i hi=>⟨b,rfl,ho.at i ?_⟩⟩
  rw[List.getElem?_append_left (by rw[Qfq];exact hi),Qzw l i hi]
theorem Qxn {l m:List Int}(h1:l.length=m.length) (h:∀i,i<l.length→l.getD i 0=m.getD i 0):l=m:=by
 apply List.ext_getElem h1
 intro i h2 h3
 have:=h i h2
 simpa [List.getD,List.getElem?_eq_getElem h2,List.getElem?_eq_getElem h3] using this
theorem Qo6 {w:World}{τ:Tags}{g g2:Tag}{v u:Value}{l m:List Int}(h:IntsZ w τ g v l) (k:IntsZ w τ g2 u m) :
 Calls Tryz.prog 188 #[v,u] w fun e w'=>e = .returned (.bool (decide (l=m)))∧∃q,w'=w.drewN q:=by
 obtain⟨p,c,rfl,h1,hr⟩:=h.read
 obtain⟨q,d,rfl,k1,kr⟩:=k.read
 clear h k
 by_cases hlen:l.length=m.length
 ·have hne:=@Qxn l m hlen
  have hno:∀i,i<l.length→l.getD i 0≠m.getD i 0→¬l=m:=fun i _ hi e=>hi (by rw[e])
  rw[←hlen] at kr ⊢
  generalize hn:l.length=n at *
  have hmx:n≤9223372036854775807:=by unfold maxLen at h1;omega
  obtain⟨Hr,H_kr,Hne,Hno,Hn,Hlen⟩:=hid6 hr kr hne hno hn hlen
  clear hr kr hne hno hn hlen h1 k1
  go_enter Tryz.func188,Tryz.ntmps188
  go_wp2_with fail
  go_loopw [5] (fun v wr=>∃i q:Nat,i≤n∧v = .int .i64 (i:Int)∧wr=w.drewN q∧Hid (∀j,j<i→l.getD j 0=m.getD j 0)) (fun v _=>n-(intOf v).toNat)
  case atStart=>exact⟨0,0,Nat.zero_le _,rfl,rfl,Lib.hid (fun j hj=>absurd hj (by omega))⟩
  case round =>
   obtain⟨i,q,hi,rfl,hwr,HE⟩:=hrel
   by_cases hlt:i<n
   ·obtain⟨b,rfl,ci⟩:=Hr.out i hlt
    obtain⟨b2,hb2,di⟩:=H_kr.out i hlt
    cases hb2
    have ci':wr.cell? ⟨b,i,none⟩=some (.int .i64 (l.getD i 0)):=by rw[hwr];exact ci
    have di':wr.cell? ⟨b2,i,none⟩=some (.int .i64 (m.getD i 0)):=by rw[hwr];exact di
    clear ci di
    have hin:(i:Int)<(n:Int):=by omega
    generalize hx:l.getD i 0=x at *
    generalize hy:m.getD i 0=y at *
    by_cases heq:x=y
    ·subst heq
     obtain⟨Hx,Hy,Hwr⟩:=hid3 hx hy hwr
     clear hx hy hwr
     go_wp2_with fail
     go_quiet (fail)
     go_wp2_with fail
     go_round
     case rel =>
      refine⟨i+1,q+nq,by omega,by simp,by rw[Hwr.out,World.drewN_drewN],Lib.hid (fun j hj=>?_)⟩
      by_cases e:j=i
      ·subst e;rw[Hx.out,Hy.out]
      ·exact HE.out j (by omega)
     case measure=>simp[intOf];omega
    ·have b1:(x != y)=true:=by rw[bne_iff_ne];exact heq
     have hlm:=Hno.out i hlt (by rw[hx,hy];exact heq)
     obtain⟨Hlm,Hx,Hy,Heq,Hwr⟩:=hid5 hlm hx hy heq hwr
     clear hlm hx hy heq hwr
     go_wp2_with fail
     go_quiet (fail)
     go_wp2_with fail
     go_ret
     exact⟨by rw[decide_eq_false Hlm.out];rfl,q+nq,by rw[Hwr.out,World.drewN_drewN]⟩
   ·obtain rfl:i=n:=by omega
    have hlm:=Hne.out HE.out
    obtain⟨Hlm,Hwr⟩:=hid2 hlm hwr
    clear hlm hwr
    go_wp2_with fail
    go_ret
    exact⟨by rw[decide_eq_true Hlm.out];rfl,q,Hwr.out⟩
 ·rw[decide_eq_false (fun e=>hlen (by rw[e]))]
  have b1:((l.length:Int) != (m.length:Int))=true:=by rw[bne_iff_ne];omega
  generalize l.length=n at *
  generalize m.length=k at *
  clear hr kr h1 k1 hlen
  go_enter Tryz.func188,Tryz.ntmps188
  go_wp2_with fail
  go_ret
  exact⟨rfl,0,rfl⟩
theorem Qne (w:World):Calls Tryz.prog 190 #[.slice none 0 0,.slice none 0 0] w fun e w'=>e = .returned (.bool true)∧w=w':=by
 go_enter Tryz.func190,Tryz.ntmps190
 go_wp2_with fail
 go_loopw [5] (fun v wr=>v = .int .i64 0∧wr=w) (fun _ _=>0)
 case atStart=>exact⟨rfl,rfl⟩
 case round =>
  obtain⟨rfl,rfl⟩:=hrel
  go_wp2_with fail
  go_ret
  exact⟨rfl,rfl⟩
end Go.Proofs.YtemacanaihaldaaGreat
namespace Go.Proofs.YtemacanaihaldaaGreat
open Go.RowKit
structure FirstF (k i:Nat) (F:List Fr):Prop where
 len:F.length=k
 has:∀j,j<i→∃b,F[j]?=some ⟨some (b,emptyPage j),j,0⟩
 no:∀j,i≤j→j<k→F[j]?=some Fr.no
theorem FirstF.start (k:Nat):FirstF k 0 (List.replicate k Fr.no) :=
 ⟨List.length_replicate,fun j hj=>absurd hj (by omega),fun j _ hj=>by rw[List.getElem?_replicate,if_pos hj]⟩
theorem FirstF.next {k i:Nat}{F:List Fr}(h:FirstF k i F) (hi:i<k) (b:Nat):FirstF k (i+1) (F.set i ⟨some (b,emptyPage i),i,0⟩):=by
 refine⟨by rw[List.length_set];exact h.len,fun j hj=>?_,fun j hj hk=>?_⟩
 ·by_cases e:i=j
  ·subst e
   exact⟨b,by rw[List.getElem?_set_self (by rw[h.len];exact hi)]⟩
  ·obtain⟨c,hc⟩:=h.has j (by omega)
   exact⟨c,by rw[List.getElem?_set_ne e];exact hc⟩
 ·rw[List.getElem?_set_ne (by omega)];exact h.no j (by omega) hk
theorem FirstF.yes {k i:Nat}{F:List Fr}(h:FirstF k i F) (one:OneHas F) (n:Nat) (hn:n<i):Qaq F n=some n:=by
 obtain⟨b,hb⟩:=h.has n hn
 exact(Qa6 one n n).2 ⟨_,hb,by simp[Fr.has]⟩
theorem FirstF.not {k i:Nat}{F:List Fr}(h:FirstF k i F) (one:OneHas F) (n:Nat) (hn:i≤n):Qaq F n=none:=by
 cases hw:Qaq F n with
 | none=>rfl
 | some j =>
   obtain⟨f,hf,hh⟩:=(Qa6 one n j).1 hw
   by_cases e:j<i
   ·obtain⟨b,hb⟩:=h.has j e
    rw[hf] at hb;cases hb
    simp only[Fr.has,Bool.and_eq_true,beq_iff_eq] at hh
    omega
   ·have:=h.no j (by omega) (by rw[←h.len];exact(List.getElem?_eq_some_iff.1 hf).1)
    rw[hf] at this;cases this
    simp[Fr.has,Fr.no] at hh
open Ck.Clk
def putS (s:St) (i:Nat):St:=if pinsV s i=0 then s else unpinS s i
def knS:Nat→St
 | 0=>newS 3
 | i+1=>putS (fillS (knS i) i false) i
theorem Jbj:∀i,i<3→pickB (knS i)=true∧pickI (knS i)=i:=by decide +kernel
theorem Jbs:∀i,i<3→pinsV (fillS (knS i) i false) i≠0∧unpinB (fillS (knS i) i false) i=true:=by decide +kernel
theorem knS_3:pickB (knS 3)=true∧pickI (knS 3)=0:=by decide +kernel
def hitS (s:St) (i:Nat):St:=pinS (touchS s i) i
theorem Jbk:pickB (hitS (hitS (fillS (knS 3) 0 true) 1) 2)=false:=by decide +kernel
theorem Qil (s:St) (c:Nat) (h:∀k,s.p k≤c) (i:Nat):(∀b k,(fillS s i b).p k≤c+1)∧(∀k,(putS s i).p k≤c)∧(∀k,(hitS s i).p k≤c+1)∧(∀k,(pickS s).p k≤c)∧(∀k,(unpinS s i).p k≤c):=by
 have hpick:∀(s:St),(∀k,s.p k≤c)→∀k,(pickS s).p k≤c:=fun s h k=>by
  unfold pickS
  split
  ·exact h k
  ·split <;> exact h k
 have htouch:∀(s:St) (i:Int),(∀k,s.p k≤c)→∀k,(touchS s i).p k≤c:=fun s i h k=>by unfold touchS;split <;> exact h k
 have hleave:∀(s:St) (i:Int),(∀k,s.p k≤c)→∀k,(leaveS s i).p k≤c:=fun s i h k=>by unfold leaveS;split <;> exact h k
 have htake:∀(s:St) (i:Int),(∀k,s.p k≤c)→∀k,(takeS s i).p k≤c:=fun s i h k=>by
  unfold takeS
  split
  ·simp only[upd];split
   ·omega
   ·exact h k
  ·exact h k
 have hpin:∀(s:St) (i:Int),(∀k,s.p k≤c)→∀k,(pinS s i).p k≤c+1:=fun s i h k=>by
  unfold pinS
  split
  ·simp only[upd];split
   ·have:=h i.toNat;omega
   ·have:=h k;omega
  ·have:=h k;omega
 have hunpin:∀(s:St) (i:Int),(∀k,s.p k≤c)→∀k,(unpinS s i).p k≤c:=fun s i h k=>by
  unfold unpinS
  split
  ·simp only[upd];split
   ·have:=h i.toNat;omega
   ·exact h k
  ·exact h k
 refine⟨fun b=>?_,?_,hpin _ _ (htouch _ _ h),hpick _ h,hunpin _ _ h⟩
 ·unfold fillS
  refine hpin _ _ (htouch _ _ (htake _ _ ?_))
  split
  ·exact hleave _ _ (hpick _ h)
  ·exact hpick _ h
 ·unfold putS
  split
  ·exact h
  ·exact hunpin _ _ h
theorem Jau:∀i,∀k,(knS i).p k≤i:=by
 intro i
 induction i with
 | zero=>intro k;exact Nat.le_refl _
 | succ i ih=>exact(Qil _ _ ((Qil _ _ ih i).1 false) i).2.1
end Go.Proofs.YtemacanaihaldaaGreat