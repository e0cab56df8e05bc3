/-
 Pools: empty of a frame whose page is other than on the disk;empty of any frame.
-/
import Derived.Test.YtociicnopccppaaGreatMPoolQ
set_option maxRecDepth 100000
set_option maxHeartbeats 4000000
set_option linter.all false
namespace Go.Proofs.YtociicnopccppaaGreat
open Go.RowKit
theorem Qy1 {n:Nat}(h:0<n):(0:Int)<n:=oM
theorem Qrk {w:World}{τ:qa1}{bp bf bd:Nat}{H:qaq}{L:qac}{D:Dev}{F:List Fr}{s:Ck.Clk.St}(h:qbz w τ bp bf bd H L D F s) (hr:L.qfh) (C:L.stream.length<=127*L.strips) (O:L.qam+L.strips<=D.f0.length) (R:4*H.n+4<=D.f1.length) (p:D.lim 600000) (U:H.st+1<18446744073709551616)
 {i:Nat} {f:Fr} {b:Nat} {P:List Int} (hf:F[i]?=some f) (X:f.pg=some (b,P)) (ay:f.n<H.n) (h0:0<f.first) {m:Nat} (hm:qaa P=m) (E:m<18446744073709551616) :
 Calls Tryz.prog 165 #[.pointer (some ⟨bp,0,none⟩),.int .i64 i] w fun e G=>e = .returned (.tuple #[])/\∃(k:Nat) (fl:Bool) (d:qa1),L.AtR (qaa P) k fl/\qbz G d bp bf bd {H with st:=H.st+1} (flL L (k+(if fl then 1 else 0))) (wrD (flD L D (k+(if fl then 1 else 0))) H.n f.n P (H.st+1)) (F.set i Fr.no) (Ck.Clk.qc9 s i)/\Step w τ G d qbe:=by
 have a3:=Qhw h hr C O R p U hf X ay hm E
 obtain⟨c0,c1,c2⟩:=h.pool.cells hf
 rw[X] at c0
 simp only[Option.map_some] at c0
 have d2:=h.pool.hd.at 2 rfl
 rw[h.pool.vf] at d2
 have hi:i<F.length:=(Z4 hf).1
 have hn512:=h.pool.n1
 have a4:(F.set i {f with first:=0})[i]?=some {f with first:=0}:=by rw[List.getElem?_set_self hi]
 have a5:(F.set i {f with first:=0}).length=F.length:=Y1
 have a6:(F.set i {f with first:=0}).set i Fr.no=F.set i Fr.no:=List.set_set ..
 have I:({f with first:=0}:Fr).n=f.n:=rfl
 have a7:({f with first:=0}:Fr).pg=f.pg:=rfl
 generalize a8:F.set i {f with first:=0}=F' at *
 generalize hg:({f with first:=0}:Fr)=g at *
 generalize a9:F.length=k at *
 have aa:=Z2 a3
 have ab:=Z2 a4
 have az:=Z2 a5
 have b0:=Z2 a6
 have b1:=Z2 a8
 have Hg:=Z2 hg
 clear a3 hf a4 a5 a6 a9 a8 hg h C hr hm E p
 go_enter Tryz.func165,Tryz.ntmps165
 go_wp2_with fail
 refine aa.mono ?_
 rintro e w1 ⟨rfl,kk,fl,τ1,ad,c,ae⟩
 rw[Hg.out,b1.out] at c
 have q:∀(G:World) (d:qa1),qbz G d bp bf bd {H with st:=H.st+1} (flL L (kk+(if fl then 1 else 0))) (wrD (flD L D (kk+(if fl then 1 else 0))) H.n f.n P (H.st+1)) (F.set i Fr.no) (Ck.Clk.qc9 s i)->Step w τ G d qbe->∃(k:Nat) (fl:Bool) (d:qa1),L.AtR (qaa P) k fl/\qbz G d bp bf bd {H with st:=H.st+1} (flL L (k+(if fl then 1 else 0))) (wrD (flD L D (k+(if fl then 1 else 0))) H.n f.n P (H.st+1)) (F.set i Fr.no) (Ck.Clk.qc9 s i)/\Step w τ G d qbe :=
  fun G d h1 h2=>⟨kk,fl,d,ad,h1,h2⟩
 generalize flL L (kk+(if fl=true then 1 else 0))=L1 at *
 generalize wrD (flD L D (kk+(if fl=true then 1 else 0))) H.n f.n P (H.st+1)=D1 at *
 obtain⟨H1,r⟩:∃H1:qaq,H1={H with st:=H.st+1}:=⟨_,rfl⟩
 have e1:H1.bm=H.bm:=by rw[r]
 have e2:H1.bc=H.bc:=by rw[r]
 rw[<-r] at c
 have a:=c.pool
 obtain⟨x0,x1,x2⟩:=a.cells ab
 rw[I] at x1
 have y3:=a.hd.at 3 (v:=.map (some H.bm)) (by rw[<-e1];rfl)
 have y4:=a.hd.at 4 (v:=.pointer (some ⟨H.bc,0,none⟩)) (by rw[<-e2];rfl)
 have x:=a.ck
 rw[e2] at x
 have af:=Qjh x (i:Int)
 have q0:∃v,(Qao F')[i*3]?=some v:=⟨_,by have:=a.fr.cell (i*3);rw[x0] at this;rw[<-this]⟩
 obtain⟨v0,q0⟩:=q0
 have q1:(Qao F')[i*3+1]?=some (.int .u32 f.n):=by have:=a.fr.cell (i*3+1);rw[x1] at this;rw[<-this]
 have q2:∃v,(Qao F')[i*3+2]?=some v:=⟨_,by have:=a.fr.cell (i*3+2);rw[x2] at this;rw[<-this]⟩
 obtain⟨v2,q2⟩:=q2
 obtain⟨ag,b4,Y,ah,J,ai,b5,y,aj,b6⟩:=qhe c ae q q0 q1 q2 af e1 e2 r
 clear ad c ae q q0 q1 q2 af e1 e2 r a x x0 x2 c0 c1 c2 d2 aa
 go_wp2_with fail
 refine b5.mono ?_
 rintro e w2 ⟨rfl,ak,z⟩
 have a:=ag.pool
 have Z:=a.mp.step z dC
 have a0:=a.fr.step z dC
 have al:=a.hd.step z dC
 rw[y.out] at Z
 have y3:=al.at 3 (v:=.map (some H.bm)) (by rw[<-y.out];rfl)
 have g1:=a0.at _ J
 obtain⟨b8,b9,ba,bb⟩:=qb9 ak z Z a0
 clear ak z Z a0 a al y4 x1
 go_wp2_with fail
 go_region_law (first
  | (refine Qkj (ba.step (zS w2 τ1).drew id) f.n oM rfl _ _ rfl rfl rfl ?_
     intro w3 am a1
     have an:=(bb.step (zS w2 τ1).drew id).step a1 dC
     obtain⟨be,ao,o⟩:=qan am a1 an
     clear am a1 an))
 all_goals (
  have k0:=o.at _ ah
  have k1:=o.at _ J
  have k2:=o.at _ ai
  have z0:=o.fz (i*3)
  have z1:=o.fz (i*3+1)
  have z2:=o.fz (i*3+2))
 all_goals go_wp2_with fail
 all_goals go_returns
 all_goals (
  have M:Step w1 τ1 w3 τ1 (fun g=>g=qdk\/g=qbi):=(b9.mono (T:=fun g=>g=qdk\/g=qbi) (fun _ h=>.inl h)).drew.trans (ao.mono (fun _ h=>.inr h))
  have ap:g.has g.n=true:=by simp[Fr.has,a7,X]
  have B:=be.out
  have c:=ag.out
  rw[<-I,Qfh c.pool.one ab ap] at B
  have aq:=(b8.step (zS w2 τ1).drew id).step ao dC
  rw[<-aj.out] at aq
  rw[<-y.out] at B
  obtain⟨hp,U⟩:=c.pool.lay M dC dC (by simp[tPg,qdk,qbi]) (by rw[az.out];exact hi) Fr.no B aq (Qse _ _) (fun b P h=>by simp[Fr.no] at h) (qcn.set c.pool.one i Fr.no (fun j n g _ _ _=>Qk8 n)) (fun n h=>by simp[Fr.has,Fr.no] at h)
  rw[b0.out] at hp
  have l:Step w1 τ1 _ τ1 qb3:=(M.mono (T:=qb3) (fun g h=>by rcases h with rfl|rfl;exact .inr (.inr (.inr (.inl rfl)));exact .inr (.inr (.inl rfl)))).trans (U.mono (fun g h=>.inr (.inl h)))
  exact⟨rfl,Y _ τ1 (by rw[<-b6.out];exact⟨hp,c.log.step l (fun g hg=>Qbo hg),c.dev.step l (fun g hg=>Qbg hg)⟩) (b4.trans (l.mono (T:=qbe) (fun _ h=>.inl h)))⟩)
theorem Qwf {w:World}{τ:qa1}{bp bf bd:Nat}{H:qaq}{F:List Fr}{s:Ck.Clk.St}{L:qac}{D:Dev}(h:qbz w τ bp bf bd H L D F s) (n:Nat) (hn:n<H.n) (a6:Ck.Clk.qg1 s=true) {i:Nat}(hi:Ck.Clk.qfl s=i) (a7:i<F.length) {Q:List Int}(E:qaq->qac->Dev->Ck.Clk.St->Prop)
 (X:∀(q:World) (τ1:qa1),qbz q τ1 bp bf bd H L D F (Ck.Clk.qbt s)->Calls Tryz.prog 165 #[.pointer (some ⟨bp,0,none⟩),.int .i64 i] q fun e Y=>e = .returned (.tuple #[])/\∃H1 r x p d,E H1 r x p/\H1.n=H.n/\qbz Y d bp bf bd H1 r x (F.set i Fr.no) p/\Step q τ1 Y d qbe)
 (z:∀(q:World) (τ1:qa1) (H1:qaq) (r:qac) (x:Dev) (p:Ck.Clk.St),E H1 r x p->qbz q τ1 bp bf bd H1 r x (F.set i Fr.no) p->Calls Tryz.prog 166 #[.pointer (some ⟨bp,0,none⟩),.int .u32 n] q fun e Y=>∃b d,e = .returned (.tuple #[.pointer (some ⟨b,0,none⟩),.int .u16 0])/\q.heap.size<=b/\qag Y d (tPg i) b Q/\Step q τ1 Y d nil)
 (k:Qaq (F.set i Fr.no) n=none) :
 Calls Tryz.prog 105 #[.pointer (some ⟨bp,0,none⟩),.int .u32 n] w fun e Y=>e = .returned (.tuple #[.int .i64 i,.int .u16 0])/\∃H1 r x p b d,E H1 r x p/\qbz Y d bp bf bd H1 r x (F.set i ⟨some (b,Q),n,0⟩) (Ck.Clk.qe0 p i)/\Step w τ Y d qbe:=by
 have h1:=Qft h.pool.ck
 rw[a6,hi] at h1
 have d4:=h.pool.hd.at 4 rfl
 have h512:=h.pool.n1
 obtain⟨H1,a8,B,a9,a1⟩:=qbq h1 h k X z
 clear h1 h k X z
 go_enter Tryz.func105,Tryz.ntmps105
 go_wp2_with fail
 refine H1.mono ?_
 rintro e q ⟨rfl,aa,I⟩
 have ab:qbz q τ bp bf bd H L D F (Ck.Clk.qbt s):=a8.turn (a8.pool.clk aa I (Qkz s)) (I.mono (T:=qb3) (fun g h=>.inr (.inr (.inr (.inl h)))))
 have h2:=a9 q τ ab
 obtain⟨aw,H2⟩:=qaj I h2
 clear I h2 aa ab
 go_wp2_with fail
 refine H2.mono ?_
 rintro e ax ⟨rfl,HH,r,x,p,az,hE,e1,J,b1⟩
 have Z:=(aw.mono (T:=qbe) (fun g h=>.inl (.inr (.inr (.inr (.inl h)))))).trans b1
 have h3:=a1 ax az HH r x p hE J
 have k:=B.out
 have ac:(F.set i Fr.no)[i]?=some Fr.no:=by rw[List.getElem?_set,if_pos rfl,if_pos a7]
 have ad:∀y,F.set i y=(F.set i Fr.no).set i y:=fun y=>by rw[List.set_set]
 have b2:(F.set i Fr.no).length=F.length:=Y1
 generalize b3:F.set i Fr.no=F1 at *
 have ae:n<HH.n:=by rw[e1];exact hn
 obtain⟨b4,HE⟩:=qaj ad hE
 clear ad b3 hE
 have hk1:=J.pool.k1
 have a7:i<F1.length:=oM
 obtain⟨a2,af,H3,a3,B⟩:=qbq J Z h3 ac k
 clear J Z h3 ac k b2 H2
 go_wp2_with fail
 refine H3.mono ?_
 rintro e w2 ⟨b,M,rfl,hlow,ag,a4⟩
 have a:=a2.pool.step a4 zN
 have e2:=a.hd.at 2 rfl
 rw[a.vf] at e2
 obtain⟨c0,c1,c2⟩:=a.cells a3
 have z0:=a.fr.fz (i*3)
 have z1:=a.fr.fz (i*3+1)
 have z2:=a.fr.fz (i*3+2)
 have l:Step w2 M (((w2.setCell ⟨bf,i*3,none⟩ (.pointer (some ⟨b,0,none⟩))).setCell ⟨bf,i*3+1,none⟩ (.int .u32 n)).setCell ⟨bf,i*3+2,none⟩ (.int .u64 0)) M (fun g=>g=tFr) :=
  (((Step.refl w2 M (fun g=>g=tFr)).set a.fr.tag rfl _).set a.fr.tag rfl _).set a.fr.tag rfl _
 have a5:=a.hd.step l dC
 have e3:=a5.at 3 rfl
 have ah:=a.mp.step l dC
 have ai:=a.ck.step l dC
 obtain⟨C,aj,b6,b7⟩:=qb9 l a5 ah ai
 clear l a5 ah ai
 generalize F1.length=kF at *
 obtain⟨b8,b9,ba⟩:=qan a ag a4
 clear a ag a4
 go_wp2_with (at_mapUpdate;go_loud (refine Qca b6 oM n i ae oM rfl _ _ _ rfl rfl rfl rfl ?_;intro w4 ak O;have e4:=(aj.step O dC).at 4 rfl;have al:=Qhj (b7.step O dC) (i:Int);obtain⟨bb,bc,be⟩:=qan ak O al;clear ak O al))
 refine be.mono ?_
 rintro e w5 ⟨rfl,am,an⟩
 obtain⟨bg,ao⟩:=qaj am an
 clear am an
 go_wp2_with fail
 go_ret2
 have a:=b8.out
 have G:=(bc.mono (T:=fun g=>g=qbi\/g=qdk) (fun g h=>.inl h)).trans (ao.mono (fun g h=>.inr h))
 have bh:=(C.mono (T:=qb3) (fun g h=>.inr (.inl h))).trans (G.mono (T:=qb3) (fun g h=>by rcases h with h|h;exact .inr (.inr (.inl h));exact .inr (.inr (.inr (.inl h)))))
 have o:=(ba.mono (T:=qb3) (fun g h=>h.elim)).trans bh
 have ap:=af.trans (o.mono (T:=qbe) (fun _ h=>.inl h))
 have R:i<F1.length:=(Z4 a3).1
 obtain⟨aq,bi⟩:=Qf4 a.one R a3 rfl ⟨some (b,Q),n,0⟩ (by simp[Fr.has]) B
 have a0:=((a.fr.set (i*3) (.pointer (some ⟨b,0,none⟩))).set (i*3+1) (.int .u32 n)).set (i*3+2) (.int .u64 0)
 have bj:=Qd8 F1 i ⟨some (b,Q),n,0⟩ R
 rw[show ((((Qao F1).set (i*3) (Value.pointer (some ⟨b,0,none⟩))).set (i*3+1) (Value.int .u32 n)).set (i*3+2) (Value.int .u64 0))=Qao (F1.set i ⟨some (b,Q),n,0⟩) from bj] at a0
 have ar:=bb.step ao dC
 rw[bi] at ar
 refine⟨rfl,HH,r,x,p,b,M,HE,⟨?_,a2.log.step o (fun g U=>Qbo U),a2.dev.step o (fun g U=>Qbg U)⟩,ap⟩
 rw[b4.out]
 refine⟨(aj.step G dC),by rw[Y1];exact a.vf,a0.step G dC,?_,ar,bg,a.n1,by rw[Y1];exact a.k1,?_,a.st,aq,?_⟩
 ·intro j c P hb
  rw[List.getElem?_set] at hb
  by_cases e:i=j
  ·subst e
   rw[if_pos rfl,if_pos R] at hb
   cases hb
   exact(b9.step C (by simp[tPg,tFr])).step G (by simp[tPg,qbi,qdk])
  ·rw[if_neg e] at hb
   exact((a.pg j c P hb).step C (by simp[tPg,tFr])).step G (by simp[tPg,qbi,qdk])
 ·rw[Y1]
  have e:(Ck.Clk.qe0 p i).n=p.n:=by unfold Ck.Clk.qe0;split <;> rfl
  rw[e];exact a.sn
 ·intro j m g U hh
  rw[List.getElem?_set] at U
  by_cases e:i=j
  ·rw[if_pos e,if_pos R] at U
   cases U
   simp only[Fr.has,Bool.and_eq_true,beq_iff_eq] at hh
   rw[<-hh.2];exact ae
  ·rw[if_neg e] at U
   exact a.low j m g U hh
theorem Qzz {w:World}{τ:qa1}{bp bf bd:Nat}{H:qaq}{F:List Fr}{s:Ck.Clk.St}{L:qac}{D:Dev}(h:qbz w τ bp bf bd H L D F s) (n:Nat) (hn:n<H.n) (hw:Qaq F n=none) {i:Nat}(hi:i<F.length) {Q:List Int}(E:qaq->qac->Dev->Ck.Clk.St->Prop)
 (hb:Calls Tryz.prog 105 #[.pointer (some ⟨bp,0,none⟩),.int .u32 n] w fun e y=>e = .returned (.tuple #[.int .i64 i,.int .u16 0])/\∃H1 j l c b a,E H1 j l c/\qbz y a bp bf bd H1 j l (F.set i ⟨some (b,Q),n,0⟩) (Ck.Clk.qe0 c i)/\Step w τ y a qbe)
 (hs:∀H1 j l c,E H1 j l c->∀k,c.p k<=1000000) :
 Calls Tryz.prog 54 #[.pointer (some ⟨bp,0,none⟩),.int .u32 n] w fun e y=>∃H1 j l c b a,e = .returned (.tuple #[.pointer (some ⟨b,0,none⟩),.int .u16 0])/\E H1 j l c/\qbz y a bp bf bd H1 j l (F.set i ⟨some (b,Q),n,0⟩) (Ck.Clk.qgt (Ck.Clk.qc7 (Ck.Clk.qe0 c i) i) i)/\Step w τ y a qbe:=by
 have h512:=h.pool.n1
 have d1:=h.pool.hd.at 1 rfl
 have d3:=h.pool.hd.at 3 rfl
 have hwr:=Qb1 H.n oM
 have z:=h.pool.mp.look n oM
 rw[hw] at z
 simp only[Option.getD_none,Option.isSome_none] at z
 obtain⟨Hb,Hs⟩:=qaj hb hs
 clear h hb hs
 go_enter Tryz.func54,Tryz.ntmps54
 go_wp2_with fail
 refine Hb.mono ?_
 rintro e w0 ⟨rfl,H1,j,l,c,b,a,R,o,B⟩
 have hf:(F.set i ⟨some (b,Q),n,0⟩)[i]?=some ⟨some (b,Q),n,0⟩:=by rw[List.getElem?_set,if_pos rfl,if_pos hi]
 have d4:=o.pool.hd.at 4 rfl
 have h1:=Qgo o.pool.ck (i:Int)
 have hl:(F.set i ⟨some (b,Q),n,0⟩).length=F.length:=Y1
 have C:=Hs H1 j l c R
 obtain⟨G,U,Hf,Hl,HE,X⟩:=qcq o B hf hl R C
 clear o B hf hl R C
 have I:=Z2 h1
 clear h1
 go_wp2_with fail
 refine I.mono ?_
 rintro e w1 ⟨rfl,J,q⟩
 have r:=G.turn (G.pool.clk J q (qau.qih _).1) (q.mono (T:=qb3) (fun g h=>.inr (.inr (.inr (.inl h)))))
 have e4:=r.pool.hd.at 4 rfl
 have h2:=Qis r.pool.ck (i:Int) (by rw[Qqb];exact(Qik i X).1)
 obtain⟨M,Y,H2⟩:=qan r q h2
 clear r q h2 J
 go_wp2_with fail
 refine H2.mono ?_
 rintro e w2 ⟨rfl,O,x⟩
 have d:=M.turn (M.pool.clk O x (qau.qih _).2.1) (x.mono (T:=qb3) (fun g h=>.inr (.inr (.inr (.inl h)))))
 have e2:=d.pool.hd.at 2 rfl
 rw[d.pool.vf,Hl.out] at e2
 obtain⟨c0,c1,c2⟩:=d.pool.cells Hf
 simp only[Option.map_some] at c0
 generalize F.length=k at *
 obtain⟨Z,a0⟩:=qaj d x
 clear d x O
 go_wp2_with fail
 go_ret2
 exact⟨H1,j,l,c,b,a,rfl,HE,Z,U.trans ((Y.trans a0).mono (T:=qbe) (fun g h=>.inl (.inr (.inr (.inr (.inl h))))))⟩
theorem Qx7 {w:World}{b:Nat}(x y:Nat) (h0:w.cell? ⟨b,0,none⟩=some (.int .u64 x)) (h1:w.cell? ⟨b,1,none⟩=some (.int .u64 y)) :
 Calls Tryz.prog 111 #[.slice (some ⟨b,0,none⟩) 2 2] w fun e d=>e = .returned (.int .u64 ((if x=0 then y else x:Nat):Int))/\w=d:=by
 by_cases c:x=0
 ·subst c
  rw[if_pos rfl]
  by_cases g:y=0
  ·subst g
   obtain⟨a,H1⟩:=qaj h0 h1
   clear h0 h1
   go_enter Tryz.func111,Tryz.ntmps111
   go_wp2_with fail
   go_loopw [8] (fun v wr=>∃(i:Nat),i<=2/\v = .int .i64 i/\wr=w) (fun v _=>2-(intOf v).toNat)
   case atStart=>exact⟨0,oM,rfl,rfl⟩
   case round =>
    obtain⟨i,hi,rfl,rfl⟩:=hrel
    rcases (by omega:i=0\/i=1\/i=2) with rfl|rfl|rfl
    ·have h0:=a.out
     go_wp2_with fail
     go_round
     case rel=>exact⟨1,oM,sM,trivial⟩
     case measure=>simp[intOf]
    ·have h1:=H1.out
     go_wp2_with fail
     go_round
     case rel=>exact⟨2,oM,sM,trivial⟩
     case measure=>simp[intOf]
    ·go_wp2_with fail
     go_returns
     exact⟨rfl,rfl⟩
  ·have hy':¬(y:Int)=0:=oM
   obtain⟨a,H1⟩:=qaj h0 h1
   clear h0 h1
   go_enter Tryz.func111,Tryz.ntmps111
   go_wp2_with fail
   go_loopw [8] (fun v wr=>∃(i:Nat),i<=1/\v = .int .i64 i/\wr=w) (fun v _=>2-(intOf v).toNat)
   case atStart=>exact⟨0,oM,rfl,rfl⟩
   case round =>
    obtain⟨i,hi,rfl,rfl⟩:=hrel
    rcases (by omega:i=0\/i=1) with rfl|rfl
    ·have h0:=a.out
     go_wp2_with fail
     go_round
     case rel=>exact⟨1,oM,sM,trivial⟩
     case measure=>simp[intOf]
    ·have h1:=H1.out
     go_wp2_with fail
     go_returns
     exact⟨rfl,rfl⟩
 ·rw[if_neg c]
  have hx':¬(x:Int)=0:=oM
  go_enter Tryz.func111,Tryz.ntmps111
  go_wp2_with fail
  go_loopw [8] (fun v wr=>v = .int .i64 0/\wr=w) (fun v _=>2-(intOf v).toNat)
  case atStart=>exact⟨rfl,rfl⟩
  case round =>
   obtain⟨rfl,rfl⟩:=hrel
   go_wp2_with fail
   go_returns
   exact⟨rfl,rfl⟩
theorem Qoa (f:Fr) (b:Nat) (P Q:List Int) (h:f.pg=some (b,P)) (n:Nat):Fr.has {f with pg:=some (b,Q)} n=f.has n:=by unfold Fr.has;rw[h];rfl
theorem Qiy {F:List Fr}{i:Nat}{f:Fr}(a:F[i]?=some f) {b:Nat}{P:List Int}(h:f.pg=some (b,P)) (Q:List Int):Qaq (F.set i {f with pg:=some (b,Q)})=Qaq F:=by
 funext n
 unfold Qaq
 induction F generalizing i with
 | nil=>rfl
 | cons g F ih =>
   cases i with
   | zero =>
     have e:g=f:=by simpa using a
     subst e
     rw[List.set_cons_zero,List.findIdx?_cons,List.findIdx?_cons,Qoa _ _ _ _ h]
   | succ i =>
     rw[List.set_cons_succ,List.findIdx?_cons,List.findIdx?_cons,ih (by simpa using a)]
theorem Qjc {F:List Fr}{i:Nat}{f:Fr}(a:F[i]?=some f) {b:Nat}{P:List Int}(h:f.pg=some (b,P)) (Q:List Int):Qao (F.set i {f with pg:=some (b,Q)})=Qao F:=by
 induction F generalizing i with
 | nil=>rfl
 | cons g F ih =>
   cases i with
   | zero =>
     have e:g=f:=by simpa using a
     subst e
     show Fr.cells _++Qao F=Fr.cells g++Qao F
     congr 1
     unfold Fr.cells
     rw[h];rfl
   | succ i =>
     show g.cells++Qao (F.set i _)=g.cells++Qao F
     rw[ih (by simpa using a)]
theorem qau.qjp {w y:World}{τ k:qa1}{bp bf:Nat}{H:qaq}{F:List Fr}{s:Ck.Clk.St}(h:qau w τ bp bf H F s) {i:Nat}{f:Fr}(r:F[i]?=some f) {b:Nat}{P Q:List Int}(l:f.pg=some (b,P)) (m:Step w τ y k (fun g=>g=tPg i)) (E:qag y k (tPg i) b Q) :
 qau y k bp bf H (F.set i {f with pg:=some (b,Q)}) s:=by
 obtain⟨hi,hfi⟩:=Z4 r
 have d:∀(j:Nat) (g:Fr),(F.set i {f with pg:=some (b,Q)})[j]?=some g->∃o,F[j]?=some o/\(∀n,g.has n=o.has n)/\(j≠i->g=o):=fun j g x=>by
  by_cases e:i=j
  ·subst e
   rw[List.getElem?_set_self hi] at x
   cases x
   exact⟨f,r,fun n=>Qoa _ _ _ _ l n,fun h=>absurd rfl h⟩
  ·rw[List.getElem?_set_ne e] at x
   exact⟨g,x,fun _=>rfl,fun _=>rfl⟩
 refine⟨h.hd.step m (by simp[qcd,tPg]),by rw[Y1];exact h.vf,by rw[Qjc r l];exact h.fr.step m (by simp[tFr,tPg]),?_,by rw[Qiy r l];exact h.mp.step m (by simp[qbi,tPg]),h.ck.step m (by simp[qdk,tPg]),h.n1,by rw[Y1];exact h.k1,by rw[Y1];exact h.sn,h.st,?_,?_⟩
 ·intro j c R p
  by_cases e:i=j
  ·subst e
   rw[List.getElem?_set_self hi] at p
   cases p
   exact E
  ·rw[List.getElem?_set_ne e] at p
   exact(h.pg j c R p).step m (by intro q;apply e;simp[tPg] at q;omega)
 ·intro a c n g G z p h1 h2
  obtain⟨o,B,C,_⟩:=d a g z
  obtain⟨D,I,J,_⟩:=d c G p
  exact h.one a c n o D B I (by rw[<-C];exact h1) (by rw[<-J];exact h2)
 ·intro a n g z h1
  obtain⟨o,B,C,_⟩:=d a g z
  exact h.low a n o B (by rw[<-C];exact h1)
theorem Qi4 (i:Nat):qb3 (tPg i):=.inr (.inr (.inr (.inr ⟨i,rfl⟩)))
theorem Qzh {w:World}{τ:qa1}{bp bf:Nat}{H:qaq}{F:List Fr}{s:Ck.Clk.St}(h:qau w τ bp bf H F s) (n lsn:Nat) (hn:n<4294967296) {i:Nat}(hw:Qaq F n=some i) {f:Fr}(G:F[i]?=some f) {b:Nat}{P:List Int}(z:f.pg=some (b,P)) (hs:∀k,s.p k<=1000000) (hpin:Ck.Clk.qfk s i≠0) (hl0:0<lsn) (I:lsn<18446744073709551616) {nv:Nat}(J:(if f.first=0 then lsn else f.first)=nv) :
 Calls Tryz.prog 56 #[.pointer (some ⟨bp,0,none⟩),.int .u32 n,.int .u64 lsn] w fun e w'=>e = .returned (.bool (Ck.Clk.qdi s i))/\∃L,qau w' L bp bf H (F.set i ⟨some (b,qbf P 0 (leB lsn 8)),f.n,nv⟩) (Ck.Clk.qdc s i)/\Step w τ w' L qb3:=by
 have ab:=(Z4 G).1
 have d2:=h.hd.at 2 rfl
 rw[h.vf] at d2
 have d3:=h.hd.at 3 rfl
 have d4:=h.hd.at 4 rfl
 have M:=h.mp.look n hn
 rw[hw] at M
 simp only[Option.getD_some,Option.isSome_some] at M
 have h1:=Qlw h.ck (i:Int)
 have hP:qag w τ (tPg i) b P:=h.pg i b P (by rw[G];exact z)
 have O:=Qnq (Step.refl w τ (fun g=>g=tPg i)) (.inl rfl) hP lsn (by rw[show (2:Nat) ^ 64=18446744073709551616 from by decide];exact I)
 obtain⟨c0,c1,c2⟩:=h.cells G
 rw[z] at c0
 simp only[Option.map_some] at c0
 have hl0':(0:Int)<lsn:=oM
 generalize hq:Ck.Clk.qfk s (i:Int)=q at *
 have hq0:¬(q:Int)=0:=oM
 generalize r:F.length=k at *
 generalize hQ:qbf P 0 (leB lsn 8)=Q at *
 generalize R:f.first=ff at *
 obtain⟨ac,H1,U,Hf,X,ad,ae⟩:=qdr h h1 O G r R J
 clear h h1 O G r R J
 go_enter Tryz.func56,Tryz.ntmps56
 go_wp2_with fail
 refine zC H1 ?_
 go_wp2_with fail
 refine U.mono ?_
 rintro e E ⟨rfl,τ1,Y,-,B⟩
 have C:=ac.qjp Hf z B Y
 have o:(F.set i {f with pg:=some (b,Q)})[i]?=some {f with pg:=some (b,Q)}:=List.getElem?_set_self (by rw[X.out];exact ab)
 have Z:∀y,(F.set i {f with pg:=some (b,Q)}).set i y=F.set i y:=fun y=>List.set_set ..
 have af:({f with pg:=some (b,Q)}:Fr).n=f.n:=rfl
 have ag:({f with pg:=some (b,Q)}:Fr).pg=some (b,Q):=rfl
 have a3:({f with pg:=some (b,Q)}:Fr).first=ff:=ad.out
 generalize F.set i {f with pg:=some (b,Q)}=F1 at *
 generalize ({f with pg:=some (b,Q)}:Fr)=g at *
 obtain⟨x0,x1,x2⟩:=C.cells o
 rw[a3] at x2
 have a4:∀W:World,W.cell? ⟨E.heap.size,0,none⟩=some (.int .u64 ff)->W.cell? ⟨E.heap.size,1,none⟩=some (.int .u64 lsn)->Calls Tryz.prog 111 #[.slice (some ⟨E.heap.size,0,none⟩) 2 2] W fun e w'=>e = .returned (.int .u64 ((if ff=0 then lsn else ff:Nat):Int))/\W=w':=fun W a b=>Qx7 ff lsn a b
 have j:=Own.new E τ1 qa2 40 [.int .u64 ff,.int .u64 lsn]
 have l:=a4 (E.alloc (.cells #[.int .u64 ff,.int .u64 lsn] 40)) (j.at 0 rfl) (j.at 1 rfl)
 have c:=C.step ((zS E τ1).alloc' (.cells #[.int .u64 ff,.int .u64 lsn] 40)) (fun _ _ h=>h)
 obtain⟨a0,a1,a2⟩:=c.cells o
 have az2:=c.fr.fz (i*3+2)
 rw[ae.out] at l
 obtain⟨d,a5⟩:=c.qi8 o nv
 rw[Z] at d
 have h2:=Qjg d.ck (i:Int) hs
 have y4:=d.hd.at 4 rfl
 have x:=((B.mono (T:=qb3) (fun g hg=>by rw[hg];exact Qi4 i)).alloc' (.cells #[.int .u64 ff,.int .u64 lsn] 40)).trans (a5.mono (T:=qb3) (fun g hg=>.inr (.inl hg)))
 rw[ag,af] at d
 rw[a3] at a2
 obtain⟨a6,ai,H2,a7⟩:=qb9 l d h2 x
 clear l d h2 x a4 j C c B a5 Y U Z o
 go_wp2_with fail
 refine zC a6 ?_
 go_wp2_with fail
 refine H2.mono ?_
 rintro e w3 ⟨rfl,a8,D⟩
 have a9:=ai.clk a8 D (qau.qih _).2.2.1
 obtain⟨aj,ak⟩:=qaj a9 D
 clear a9 D a8
 go_wp2_with fail
 go_ret
 exact⟨rfl,τ1,aj,a7.trans (ak.mono (fun g h=>.inr (.inr (.inr (.inl h)))))⟩
theorem Jaa {w:World}{τ:qa1}{bp bf:Nat}{H:qaq}{F:List Fr}{s:Ck.Clk.St}(h:qau w τ bp bf H F s) (n:Nat) (hn:n<4294967296) (b:Qaq F n=none) :
 Calls Tryz.prog 37 #[.pointer (some ⟨bp,0,none⟩),.int .u32 n] w fun e c=>e = .returned (.bool false)/\w=c:=by
 have d3:=h.hd.at 3 rfl
 have a:=h.mp.look n hn
 rw[b] at a
 simp only[Option.getD_none,Option.isSome_none] at a
 clear h
 go_enter Tryz.func37,Tryz.ntmps37
 go_wp2_with fail
 go_ret
 exact⟨rfl,rfl⟩
theorem Qyy {w:World}{τ:qa1}{bp bf:Nat}{H:qaq}{F:List Fr}{s:Ck.Clk.St}(h:qau w τ bp bf H F s) (n:Nat) (hn:n<4294967296) {i:Nat}(c:Qaq F n=some i) {f:Fr}(b:F[i]?=some f) (h0:f.first=0) :
 Calls Tryz.prog 37 #[.pointer (some ⟨bp,0,none⟩),.int .u32 n] w fun e d=>e = .returned (.bool false)/\w=d:=by
 have hil:=(Z4 b).1
 have g:=h.hd.at 2 rfl
 rw[h.vf] at g
 have d3:=h.hd.at 3 rfl
 have a:=h.mp.look n hn
 rw[c] at a
 simp only[Option.getD_some,Option.isSome_some] at a
 obtain⟨c0,c1,c2⟩:=h.cells b
 rw[h0] at c2
 generalize F.length=k at *
 clear h
 go_enter Tryz.func37,Tryz.ntmps37
 go_wp2_with fail
 go_ret
 exact⟨rfl,rfl⟩
theorem Qyx {w:World}{τ:qa1}{bp bf bd:Nat}{H:qaq}{L:qac}{D:Dev}{F:List Fr}{s:Ck.Clk.St}(h:qbz w τ bp bf bd H L D F s) (C:L.qfh) (c:L.stream.length<=127*L.strips) (g:L.qam+L.strips<=D.f0.length) (j:4*H.n+4<=D.f1.length) (a:D.lim 600000) (q:H.st+1<18446744073709551616)
 (n:Nat) (hn:n<4294967296) {i:Nat} (G:Qaq F n=some i) {f:Fr} {b:Nat} {P:List Int} (r:F[i]?=some f) (x:f.pg=some (b,P)) (y:f.n<H.n) (h0:0<f.first) {m:Nat} (E:qaa P=m) (d:m<18446744073709551616) :
 Calls Tryz.prog 37 #[.pointer (some ⟨bp,0,none⟩),.int .u32 n] w fun e I=>e = .returned (.bool true)/\Qwm w τ bp bf bd H L D F s i f P I:=by
 have l:=Qhw h C c g j a q r x y E d
 have hil:=(Z4 r).1
 have J:=h.pool.hd.at 2 rfl
 rw[h.pool.vf] at J
 have d3:=h.pool.hd.at 3 rfl
 have o:=h.pool.mp.look n hn
 rw[G] at o
 simp only[Option.getD_some,Option.isSome_some] at o
 obtain⟨c0,c1,c2⟩:=h.pool.cells r
 generalize F.length=k at *
 generalize f.first=ff at *
 have z:=Z2 l
 clear l h C c a E d
 go_enter Tryz.func37,Tryz.ntmps37
 go_wp2_with fail
 refine z.mono ?_
 rintro e w1 ⟨rfl,p⟩
 have B:=Z2 p
 clear p
 go_wp2_with fail
 go_ret
 exact⟨rfl,B⟩
theorem Tryz.infoDirty:(Tryz.prog.info? 84).map (fun i=>(i.zero,i.size,i.bytes))=some (some (.agg #[.int .u32 0,.int .u64 0]),2,16):=kR
def qch:Tag:=(97,0)
def qh4 (x:Nat×Nat):List Value:=[.int .u32 x.1,.int .u64 x.2]
def Qf1 (l:List (Nat×Nat)):List Value:=l.flatMap qh4
theorem Qx5 (l:List (Nat×Nat)):(Qf1 l).length=l.length*2:=by
 induction l with
 | nil=>rfl
 | cons x l ih =>
   show (qh4 x++Qf1 l).length=_
   rw[Z6,ih,Y4]
   show 2+_=_
   omega
theorem Qok (l m:List (Nat×Nat)):Qf1 (l++m)=Qf1 l++Qf1 m:=by simp[Qf1]
theorem Ja0 (l:List (Nat×Nat)) (i j:Nat) (hj:j<2) (hi:i<l.length):(Qf1 l)[i*2+j]?=(qh4 (l[i]))[j]?:=by
 induction l generalizing i with
 | nil=>simp at hi
 | cons x l ih =>
   show (qh4 x++Qf1 l)[i*2+j]?=_
   have hl:(qh4 x).length=2:=rfl
   cases i with
   | zero=>rw[Y5 (by rw[hl];omega)];simp
   | succ i =>
     rw[Y6 (by rw[hl];omega),hl,show (i+1)*2+j-2=i*2+j by omega,ih i (by simpa using hi)]
     rfl
structure ND (n0:Nat) (w:World) (τ:qa1) (g:Tag) (v:Value) (l:List (Nat×Nat)):Prop where
 buf:Buf w τ g 84 2 v l.length (Qf1 l)
 low:∀k,v.ownBlock=some k->n0<=k
theorem ND.nil (n0:Nat) (w:World) (τ:qa1) (g:Tag):ND n0 w τ g (.slice none 0 0) []:=⟨Buf.nil _ _ _ _ _,fun k a=>by simp[Value.ownBlock] at a⟩
theorem ND.step {n0:Nat}{w b:World}{τ a:qa1}{S:Tag->Prop}{g:Tag}{v:Value}{l:List (Nat×Nat)}(h:ND n0 w τ g v l) (m:Step w τ b a S) (c:¬S g):ND n0 b a g v l:=⟨h.buf.step m c,h.low⟩
theorem ND.val {n0:Nat}{w:World}{τ:qa1}{g:Tag}{v:Value}{l:List (Nat×Nat)}(h:ND n0 w τ g v l):∃p c,v = .slice p l.length c:=Buf.len h.buf
theorem ND.read {n0:Nat}{w:World}{τ:qa1}{g:Tag}{v:Value}{l:List (Nat×Nat)}(h:ND n0 w τ g v l):∃p c,v = .slice p l.length c/\l.length<=maxLen/\∀i,(hi:i<l.length)->∃b,p=some ⟨b,0,none⟩/\w.cell? ⟨b,i*2,none⟩=some (.int .u32 ((l[i]).1:Int))/\w.cell? ⟨b,i*2+1,none⟩=some (.int .u64 ((l[i]).2:Int)):=by
 obtain⟨h1,⟨rfl,h2⟩|⟨b,cap,ys,rfl,a,h3,h4,h5⟩⟩:=h.buf
 ·refine⟨none,0,by rw[h2],by rw[h2];exact Z9 _,fun i hi=>oM⟩
 ·refine⟨_,cap,rfl,oM,fun i hi=>⟨b,rfl,a.at _ ?_,a.at _ ?_⟩⟩
  ·rw[Y5 (by rw[Qx5];omega)]
   exact Ja0 l i 0 oM hi
  ·rw[Y5 (by rw[Qx5];omega)]
   exact Ja0 l i 1 oM hi
theorem Qjm {n w:World}{i τ:qa1}{S:Tag->Prop}(q:Step n i w τ S) {g:Tag}{v:Value}{l:List (Nat×Nat)}(j:ND n.heap.size w τ g v l) (x:Nat×Nat) (hsz:l.length<=1000000000) {kb:Nat}(r:kb=w.heap.size)
 {ops:Array Oper} {rest:List Oper} {o:Oper} {a:Act} {Q:Exit->Act->World->Prop} (z:o.guard=none) (s y:Operand)
 (B:o.op = .call {callee:=.builtin .append,args:=#[s,y],argTypes:=#[71,71]}) (R:a.eval s=v) (U:a.eval y = .slice (some ⟨kb,0,none⟩) 1 1)
 (h:∀p e c,ND n.heap.size e c g p (l++[x])->Step n i e c S->Step w τ e c (fun t=>t=g)->wpList Tryz.prog ops Q rest (a.put o.dst p) e):wpList Tryz.prog ops Q (o::rest) a (w.alloc (.cells #[.int .u32 x.1,.int .u64 x.2] 84)):=by
 subst r
 refine wpList_plain z fun K X=>?_
 obtain⟨Y,hi,C,D,E⟩:=info_parts Tryz.infoDirty
 have b:=q.alloc' (.cells #[.int .u32 x.1,.int .u64 x.2] 84)
 have d:=j.step ((Step.refl w τ Go.Proofs.YtociicnopccppaaGreat.nil).alloc' (.cells #[.int .u32 x.1,.int .u64 x.2] 84)) id
 obtain⟨p,e,c,Z,F,L,M,G⟩:=Qap (P:=Tryz.prog) (w.alloc (.cells #[.int .u32 x.1,.int .u64 x.2] 84)) τ g 71 o.type 84 Y (.agg #[.int .u32 0,.int .u64 0]) 2 16 Tryz.underlying71 hi C D E rfl dC v l.length (Qf1 l) d.buf
  (some ⟨w.heap.size,0,none⟩) 1 1 (qh4 x) rfl (fun h=>by cases h) (by
    intro ad had;cases had;exact World.news_of_block (cs:=#[.int .u32 x.1,.int .u64 x.2]) (t := 84) (fr:=(0,0)) (heap_alloc_new w _)) (by intro u O;simp[qh4] at O;rcases O with rfl|rfl <;> rfl) (by unfold maxLen;omega) oM
 unfold Oper.wp execOp
 simp only[B,resolve,invoke,builtin,Sem.run_bind,Sem.run_pure,Result.andThen_ok,List.map_toArray,X0,List.map_nil,R,U,Z]
 refine X _ _ (h p e c ⟨?_,fun k I=>?_⟩ ⟨b.mod.seq M (fun k I J=>absurd (d.low k J) oM),b.ext.trans L b.size⟩ (((Step.refl w τ _).alloc' _).trans ⟨M.mono (fun k I J=>(d.buf.own k J).1),L⟩))
 ·rw[Z6,Qok,show Qf1 [x]=qh4 x by simp[Qf1]];exact F
 ·rcases G k I with h|h
  ·exact d.low k h
  ·have:=b.size;omega
def Qfs (F:List Fr) (i:Nat):List (Nat×Nat):=((F.take i).filter (fun f=>decide (0<f.first))).map (fun f=>(f.n,f.first))
theorem Qpv {F:List Fr}{i:Nat}{f:Fr}(a:F[i]?=some f):Qfs F (i+1)=Qfs F i++(if 0<f.first then [(f.n,f.first)] else []):=by
 unfold Qfs
 rw[List.take_add_one,a,List.filter_append,List.map_append]
 congr 1
 by_cases h:0<f.first <;> simp[h]
theorem Qg6 (F:List Fr) (i:Nat):(Qfs F i).length<=i:=by
 unfold Qfs
 rw[Y0]
 exact Y3 (List.length_filter_le _ _) (by rw[List.length_take];exact Nat.min_le_left _ _)
def Qyu (F:List Fr):List (Nat×Nat):=Qfs F F.length
def SortD (K:Nat):Prop:=∀(n0:Nat) (W:World) (T:qa1) (v:Value) (l:List (Nat×Nat)),l.length<=K->ND n0 W T qch v l ->
 Calls Tryz.prog 96 #[v,.func (.func 97) #[] #[]] W fun e w'=>e = .returned (.tuple #[])/\∃l',l'.Perm l/\l'.Pairwise (fun x y=>x.1<=y.1)/\ND n0 w' T qch v l'/\Mod W w' (fun k=>v.ownBlock=some k)
theorem Jaz {w:World}{τ:qa1}{bp bf:Nat}{H:qaq}{F:List Fr}{s:Ck.Clk.St}(h:qau w τ bp bf H F s) (o:SortD F.length) :
 Calls Tryz.prog 47 #[.pointer (some ⟨bp,0,none⟩)] w fun e G=>∃v r I,e = .returned v/\I.Perm (Qyu F)/\I.Pairwise (fun x y=>x.1<=y.1)/\ND w.heap.size G r qch v I/\Step w τ G r nil:=by
 have d2:=h.hd.at 2 rfl
 rw[h.vf] at d2
 have hk:=h.k1
 have J:Qyu F=Qfs F F.length:=rfl
 generalize hl:F.length=k at *
 obtain⟨a1,Hl,D,a2⟩:=qb9 h hl o J
 clear h hl o J
 go_enter Tryz.func47,Tryz.ntmps47
 go_wp2_with fail
 go_loopw [3,11] (fun m v wr=>∃(i:Nat) (a:qa1),i<=k/\v = .int .i64 i/\ND w.heap.size wr a qch m (Qfs F i)/\Step w τ wr a nil) (fun _ v _=>k-(intOf v).toNat)
 case atStart=>exact⟨0,τ,Z9 _,rfl,ND.nil _ _ _ _,Step.refl _ _ _⟩
 case round =>
  obtain⟨i,a,hi,rfl,g,b⟩:=hrel
  obtain⟨pm,cm,rfl⟩:=g.val
  by_cases a3:i<k
  ·obtain⟨f,hf⟩:∃f,F[i]?=some f:=⟨_,Z3 (by rw[Hl.out];exact a3)⟩
   have hp:=a1.step b zN
   obtain⟨c0,c1,c2⟩:=hp.cells hf
   have l:=Qpv hf
   have L:=Qg6 F i
   generalize Option.map (fun x=>(⟨x.1,0,none⟩:Addr)) f.pg=pp at *
   generalize f.n=n at *
   generalize f.first=ff at *
   by_cases h0:0<ff
   ·rw[if_pos h0] at l
    have h0':(0:Int)<ff:=oM
    have c:=b.alloc' (.cells #[.pointer pp,.int .u32 n,.int .u64 ff] 189)
    have d:=g.step ((zS wr a).alloc' (.cells #[.pointer pp,.int .u32 n,.int .u64 ff] 189)) id
    have M:(Qfs F i).length<=1000000000:=oM
    obtain⟨z,p,q,E,a5⟩:=qbq b c d l M
    clear b g c d l M hf hp L
    go_wp2_with (at_builtin;refine Qjm p q (n,ff) a5 (kb:=wr.heap.size+1) (by rw[World.size_alloc]) rfl _ _ rfl rfl rfl ?_;intro v' G r hb he O;obtain⟨Hb,He,Hmo⟩:=qan hb he O;clear hb he O)
    go_round
    case rel=>exact⟨i+1,r,oM,sM,by rw[E.out];exact Hb,He⟩
    case measure=>simp[intOf];omega
   ·rw[if_neg h0,List.append_nil] at l
    obtain rfl:ff=0:=oM
    have c:=b.alloc' (.cells #[.pointer pp,.int .u32 n,.int .u64 0] 189)
    have d:=g.step ((zS wr a).alloc' (.cells #[.pointer pp,.int .u32 n,.int .u64 0] 189)) id
    obtain⟨z,p,q,E⟩:=qb9 b c d l
    clear b g c d l hf hp L
    go_wp2_with fail
    go_round
    case rel=>exact⟨i+1,a,oM,sM,by rw[E.out];exact q,p⟩
    case measure=>simp[intOf];omega
  ·obtain rfl:i=k:=oM
   have R:=D _ wr a _ _ (Qg6 F i) g
   obtain⟨z,a6⟩:=qaj b R
   clear b R g
   go_wp2_with fail
   refine a6.mono ?_
   rintro e G ⟨rfl,I,U,X,B,Y⟩
   have a7:=Z2 U
   have a8:=Z2 X
   have C:=Z2 B
   have a9:=Z2 Y
   clear U X B Y
   go_wp2_with fail
   go_ret
   have Z:Step w τ G a nil:=⟨z.mod.seq a9 (fun j hj hS=>absurd (C.low j hS) oM),z.ext⟩
   exact⟨_,a,I,rfl,by rw[a2.out];exact a7,a8,C,Z⟩
def qhj (D:Dev) (n st:Nat) (L:qac) (Q:List Int):Prop :=
 (qap D n 4=blank/\Q=qaf n)\/(∃s,s<=st/\qap D n 4=qao Q s/\Sound Q/\0<qaa Q/\qaa Q<L.base+L.lasts)
def qac.has (L:qac) (lsn:Nat):Prop:=∃x∈L.starts,lsn=L.base+x
structure Good (N:Nat) (st:Nat) (L:qac) (D:Dev) (F:List Fr) (cur:Nat->List Int):Prop where
 calm:D.Calm
 f1:D.f1.length=4*(N+1)
 f0:L.qam+L.strips<=D.f0.length
 cap:L.stream.length<=127*L.strips
 lasts:L.lasts<=L.stream.length
 rise:L.qfh
 base:0<L.base
 page:∀n,n<N->Sound (cur n)/\qa8 (cur n)=n/\(qaa (cur n)=0/\cur n=qaf n\/L.has (qaa (cur n)))
 home:∀n,n<N->∃Q,qhj D n st L Q/\((∀(i:Nat) (f:Fr),F[i]?=some f->f.has n=true->f.first=0)->Q=cur n)
 frame:∀(i:Nat) (f:Fr) (b:Nat) (P:List Int),F[i]?=some f->f.pg=some (b,P)->f.n<N/\P=cur f.n/\(0<f.first->0<qaa P/\f.first<18446744073709551616)
 none:∀(i:Nat) (f:Fr),F[i]?=some f->f.pg=none->f=Fr.no
 one:qcn F
 spare:qap D N 4=blank\/∃Q s,s<=st/\Q.length=448/\qap D N 4=qao Q s
 qgv:qdf L D
theorem Qd7 {f:Fr}{n:Nat}:f.has n=true↔∃b P,f.pg=some (b,P)/\f.n=n:=by
 unfold Fr.has
 rw[Bool.and_eq_true,beq_iff_eq]
 constructor
 ·rintro⟨h1,h2⟩
  obtain⟨⟨b,P⟩,h⟩:=Option.isSome_iff_exists.1 h1
  exact⟨b,P,h,h2⟩
 ·rintro⟨b,P,h1,h2⟩
  exact⟨by rw[h1];rfl,h2⟩
theorem Qjz (L:qac) (k:Nat):(flL L k).base=L.base/\(flL L k).stream=L.stream/\(flL L k).starts=L.starts/\(flL L k).strips=L.strips/\(flL L k).qam=L.qam:=by
 unfold flL
 by_cases h:Qbj L k=true
 ·rw[if_pos h];exact⟨rfl,rfl,rfl,rfl,rfl⟩
 ·rw[if_neg h];exact⟨rfl,rfl,rfl,rfl,rfl⟩
theorem Jjs (L:qac) (k:Nat):(flL L k).stamp=L.stamp:=by
 unfold flL
 split <;> rfl
theorem Qlm (L:qac) (k:Nat):L.lasts<=(flL L k).lasts/\(k≠0->L.qal k<=(flL L k).lasts):=by
 unfold flL
 by_cases h:Qbj L k=true
 ·rw[if_pos h]
  have h2:=of_decide_eq_true h
  exact⟨by show L.lasts<=L.qal k;omega,fun _=>Z0 _⟩
 ·rw[if_neg h]
  refine⟨Z0 _,fun b=>?_⟩
  rcases Nat.lt_or_ge L.lasts (L.qal k) with a|a
  ·exact absurd (decide_eq_true ⟨b,a⟩) h
  ·exact a
theorem Qxx {L:qac}(h:L.qfh) (k:Nat):(flL L k).qfh:=by
 obtain⟨_,b,a,_,_⟩:=Qjz L k
 exact⟨by rw[a];exact h.rise,by rw[b,a];exact h.low⟩
theorem Qz0 {L:qac}(h:L.qfh) (hl:L.lasts<=L.stream.length) (k:Nat):(flL L k).lasts<=(flL L k).stream.length:=by
 obtain⟨_,b,_,_,_⟩:=Qjz L k
 rw[b]
 unfold flL
 by_cases a:Qbj L k=true
 ·rw[if_pos a];exact qac.qcb h (k-1)
 ·rw[if_neg a];exact hl
theorem Qxy {L:qac}{D:Dev}(a:L.qfh) (b:D.Calm) (hcap:L.stream.length<=127*L.strips) (hfit:L.qam+L.strips<=D.f0.length) (k n:Nat):qap (flD L D k) n 4=qap D n 4:=by
 unfold flD
 by_cases h:Qbj L k=true
 ·rw[if_pos h]
  unfold Qdq
  have h1:=Qd9 L a k
  have h2:=qac.qcb a (k-1)
  have h3:L.qal k=L.qd8 (k-1):=rfl
  have h4:=(of_decide_eq_true (show decide (k≠0/\L.lasts<L.qal k)=true from h)).2
  refine Qq8 b.left _ _ ?_ n
  rw[h1]
  unfold parts
  omega
 ·rw[if_neg h]
theorem Qtr {L:qac}(d:L.qfh) {lsn k:Nat}{fl:Bool}(e:L.AtR lsn k fl) (hh:L.has lsn):lsn<L.base+(flL L (k+(if fl=true then 1 else 0))).lasts:=by
 obtain⟨x,q,rfl⟩:=hh
 have a:=d.low x q
 have c:=e.within (Nat.le_add_right _ _) oM
 rw[Nat.add_sub_cancel_left] at c
 obtain⟨j,g,r⟩:=List.mem_iff_getElem.1 q
 have b:∀i,(hi:i<L.starts.length)->L.starts.getD i 0=L.starts[i]:=fun i hi=>by rw[Z5,Z3 hi];rfl
 have l:L.starts.getD j 0=x:=by rw[b j g,r]
 have n:k=j:=by
  rcases Nat.lt_trichotomy k j with h|h|h
  ·have h1:=c.hi k (Z0 _) oM
   have h2:=d.rise k j h g
   omega
  ·exact h
  ·have:=c.lo j h;omega
 subst n
 have o:fl=true:=by rw[c.is];exact decide_eq_true ⟨g,l⟩
 rw[if_pos o]
 have h1:=(Qlm L (k+1)).2 oM
 have h2:L.qal (k+1)=L.qd8 k:=rfl
 have h3:x<L.qd8 k:=by
  unfold qac.qd8
  by_cases p:k+1<L.starts.length
  ·rw[if_pos p]
   have:=d.rise k (k+1) oM p
   omega
  ·rw[if_neg p];exact a
 omega
theorem qhj.flush {D E:Dev}{n st a:Nat}{L M:qac}{Q:List Int}(h:qhj D n st L Q) (hst:st<=a) (hb:M.base=L.base) (hl:L.lasts<=M.lasts) (b:qap E n 4=qap D n 4):qhj E n a M Q:=by
 rcases h with ⟨h1,h2⟩|⟨s,h1,h2,c,d,h5⟩
 ·exact .inl ⟨b.trans h1,h2⟩
 ·exact .inr ⟨s,oM,b.trans h2,c,d,oM⟩
theorem qdf.fl {L:qac}{D:Dev}(h:qdf L D) (c:L.qfh) (d:D.left=none) (a:L.qam+L.strips<=D.f0.length) (b:L.stream.length<=127*L.strips) (k:Nat):qdf (flL L k) (flD L D k):=by
 unfold flL flD
 by_cases e:Qbj L k=true
 ·rw[if_pos e,if_pos e]
  exact h.flush c d a b (of_decide_eq_true (p:=k≠0/\L.lasts<L.qal k) e)
 ·rw[if_neg e,if_neg e]
  exact h
theorem qdf.wr {L:qac}{D:Dev}(h:qdf L D) (d:D.Calm) {N n st:Nat}{P:List Int}(e:4*N+4<=D.f1.length) (hn:4*n+4<=D.f1.length):qdf L (wrD D N n P st):=h.file1 (fun j=>by
 have b:=Qet P st
 have a:∀(X:Dev),X.file 1=X.f1:=fun X=>rfl
 have c:=d.lay (f:=1) oM (4*N) (qao P st)
 unfold wrD
 rw[Dev.qet c.left oM _ _ (by rw[Dev.qbg _ _ _ oM,a,b];exact hn),if_neg oM,Dev.qet d.left oM _ _ (by rw[a,b];exact e),if_neg oM]) (by
 show ((wrD D N n P st).file 0).length=(D.file 0).length
 unfold wrD
 rw[Dev.qbg _ _ _ oM,Dev.qbg _ _ _ oM])
theorem Good.write {N st:Nat}{L:qac}{D:Dev}{F:List Fr}{cur:Nat->List Int}(h:Good N st L D F cur) {i:Nat}{f:Fr}{b:Nat}{P:List Int}(G:F[i]?=some f) (I:f.pg=some (b,P)) (h0:0<f.first) {k:Nat}{fl:Bool}(aa:L.AtR (qaa P) k fl) :
 Good N (st+1) (flL L (k+(if fl=true then 1 else 0))) (wrD (flD L D (k+(if fl=true then 1 else 0))) N f.n P (st+1)) (F.set i {f with first:=0}) cur /\
  qap (wrD (flD L D (k+(if fl=true then 1 else 0))) N f.n P (st+1)) f.n 4=qao P (st+1)/\qap (wrD (flD L D (k+(if fl=true then 1 else 0))) N f.n P (st+1)) N 4=qao P (st+1):=by
 obtain⟨ab,hP,w⟩:=h.frame i f b P G I
 obtain⟨y,ac,J⟩:=h.page f.n ab
 have w:=(w h0).1
 rw[<-hP] at y ac J
 have M:L.has (qaa P):=by
  rcases J with ⟨h1,_⟩|h1
  ·omega
  ·exact h1
 have z:=Qtr h.rise aa M
 obtain⟨e1,e2,e3,e4,e5⟩:=Qjz L (k+(if fl=true then 1 else 0))
 have ad:=(Qlm L (k+(if fl=true then 1 else 0))).1
 have ae:=Qxx h.rise (k+(if fl=true then 1 else 0))
 have O:=Qz0 h.rise h.lasts (k+(if fl=true then 1 else 0))
 have r:=Qyt L D (k+(if fl=true then 1 else 0))
 have B:=Qsl (L:=L) h.calm (k+(if fl=true then 1 else 0))
 have af:=fun n=>Qxy h.rise h.calm h.cap h.f0 (k+(if fl=true then 1 else 0)) n
 have ag:=h.qgv.fl h.rise h.calm.left h.f0 h.cap (k+(if fl=true then 1 else 0))
 generalize flL L (k+(if fl=true then 1 else 0))=L1 at *
 generalize flD L D (k+(if fl=true then 1 else 0))=E at *
 have U:=Qet P (st+1)
 have d:∀(X:Dev),X.file 1=X.f1:=fun X=>rfl
 have o:∀(X:Dev),X.file 0=X.f0:=fun X=>rfl
 have Y:=B.lay (f:=1) oM (4*N) (qao P (st+1))
 have Z:(E.lay 1 (4*N) (qao P (st+1))).f1.length=E.f1.length:=by rw[<-d,<-d,Dev.qbg _ _ _ oM]
 have hw:∀n,qap (wrD E N f.n P (st+1)) n 4=if n=f.n then qao P (st+1) else if n=N then qao P (st+1) else qap D n 4:=fun n=>by
  unfold wrD
  rw[Qmz Y.left f.n _ U (by rw[Z,r.1,h.f1];omega),Qmz B.left N _ U (by rw[r.1,h.f1];omega),af]
 have hi:=(Z4 G).1
 have p:∀(j:Nat) (g:Fr),(F.set i {f with first:=0})[j]?=some g->(j=i/\g={f with first:=0})\/(j≠i/\F[j]?=some g):=fun j g s=>by
  by_cases e:i=j
  ·subst e
   rw[List.getElem?_set_self hi] at s
   cases s
   exact .inl ⟨rfl,rfl⟩
  ·rw[List.getElem?_set_ne e] at s
   exact .inr ⟨fun q=>e q.symm,s⟩
 refine⟨⟨(Y.lay (f:=1) oM (4*f.n) (qao P (st+1))),?_,?_,by rw[e2,e4];exact h.cap,O,ae,by rw[e1];exact h.base,fun n hn=>?_,fun n hn=>?_,fun j g c R s a4=>?_,fun j g s C=>?_,?_,.inr ⟨P,st+1,Z0 _,y.tidy.len,by rw[hw];by_cases e:N=f.n <;> simp[e]⟩,ag.wr B (by rw[r.1,h.f1];omega) (by rw[r.1,h.f1];omega)⟩,by rw[hw,if_pos rfl],by rw[hw];by_cases e:N=f.n <;> simp[e]⟩
 ·show ((E.lay 1 (4*N) _).lay 1 (4*f.n) _).f1.length=_
  rw[<-d,Dev.qbg _ _ _ oM,d,Z,r.1];exact h.f1
 ·show _<=((E.lay 1 (4*N) _).lay 1 (4*f.n) _).f0.length
  rw[<-o,Dev.qbg _ _ _ oM,Dev.qbg _ _ _ oM,o,r.2,e4,e5];exact h.f0
 ·obtain⟨p1,p2,p3⟩:=h.page n hn
  refine⟨p1,p2,?_⟩
  rcases p3 with p3|⟨x,hx,ai⟩
  ·exact .inl p3
  ·exact .inr ⟨x,by rw[e3];exact hx,by rw[e1];exact ai⟩
 ·by_cases en:n=f.n
  ·refine⟨P,.inr ⟨st+1,Z0 _,by rw[hw,if_pos en],y,w,by rw[e1];exact z⟩,fun _=>by rw[en];exact hP⟩
  ·obtain⟨Q,hQ,hq⟩:=h.home n hn
   refine⟨Q,hQ.flush (Nat.le_succ _) e1 ad (by rw[hw,if_neg en,if_neg oM]),fun aj=>hq (fun j g s a6=>?_)⟩
   by_cases ej:j=i
   ·subst ej
    rw[G] at s
    cases s
    obtain⟨_,_,_,hx⟩:=Qd7.1 a6
    exact absurd hx.symm en
   ·exact aj j g (by rw[List.getElem?_set_ne (fun q=>ej q.symm)];exact s) a6
 ·rcases p j g s with ⟨rfl,rfl⟩|⟨_,l⟩
  ·obtain⟨a1,a2,a3⟩:=h.frame j f c R G a4
   exact⟨a1,a2,fun hx=>absurd hx (by show ¬0<0;omega)⟩
  ·exact h.frame j g c R l a4
 ·rcases p j g s with ⟨rfl,rfl⟩|⟨_,l⟩
  ·rw[show ({f with first:=0}:Fr).pg=f.pg from rfl,I] at C
   cases C
  ·exact h.none j g l C
 ·intro a c n g g2 ha hc h1 h2
  have k1:∃g',F[a]?=some g'/\g'.has n=true:=by
   rcases p a g ha with ⟨rfl,rfl⟩|⟨_,l⟩
   ·exact⟨f,G,h1⟩
   ·exact⟨g,l,h1⟩
  have k2:∃g',F[c]?=some g'/\g'.has n=true:=by
   rcases p c g2 hc with ⟨rfl,rfl⟩|⟨_,l⟩
   ·exact⟨f,G,h2⟩
   ·exact⟨g2,l,h2⟩
  obtain⟨x1,y1,z1⟩:=k1
  obtain⟨x2,y2,z2⟩:=k2
  exact h.one a c n x1 x2 y1 y2 z1 z2
end Go.Proofs.YtociicnopccppaaGreat
namespace Go.Proofs.YtociicnopccppaaGreat
open Go.RowKit Ck.Clk
theorem Qxv (n:Nat) (p:Nat->Nat) (hn:n<=64) (e:Nat) (g:e<n) (c:p e=0):∀(m:Nat) (u:Nat->Bool) (h:Nat),h<n->mes n p u h<=m->(goes n p u h).2.2<n/\p (goes n p u h).2.2=0:=by
 intro m
 induction m with
 | zero =>
   intro u h hh i
   by_cases a:p h=0
   ·cases d:u h with
    | true=>have:=Qh2 n p u h hh a d;omega
    | false=>rw[Qll n p u h a d];exact⟨hh,a⟩
   ·have:=Qe9 n p u h hh a e g c;omega
 | succ m ih =>
   intro u h hh i
   have b:(h+1)%n<n:=Nat.mod_lt _ oM
   by_cases a:p h=0
   ·cases d:u h with
    | true =>
      have:=Qh2 n p u h hh a d
      rw[Qpo n p u h hn hh a d];exact ih _ _ b oM
    | false=>rw[Qll n p u h a d];exact⟨hh,a⟩
   ·have:=Qe9 n p u h hh a e g c
    rw[Qlk n p u h hn hh a e g c];exact ih _ _ b oM
theorem Jap (s:St):(qbt s).p=s.p:=by unfold qbt;split <;> (try split) <;> rfl
theorem Jao (s:St):(qbt s).t=s.t:=by unfold qbt;split <;> (try split) <;> rfl
structure Clock (F:List Fr) (s:St):Prop where
 n:s.n=F.length
 h:s.h<s.n
 n64:s.n<=64
 t:∀(i:Nat) (f:Fr),F[i]?=some f->s.t i=f.pg.isSome
 p:∀k,s.p k=0
structure Held (F:List Fr) (s:St) (i:Nat):Prop where
 n:s.n=F.length
 n64:s.n<=64
 t:∀(j:Nat) (f:Fr),F[j]?=some f->s.t j=f.pg.isSome
 p:∀k,s.p k=if k=i then 1 else 0
 lt:i<F.length
 is:∃f,F[i]?=some f/\f.pg.isSome=true
theorem Clock.pick {F:List Fr}{s:St}(h:Clock F s):qg1 s=true/\qfl s<F.length:=by
 have h0:0<s.n:=Nat.lt_of_le_of_lt (Z9 _) h.h
 have a:qge s=true:=(Qo2 s).2 ⟨0,h0,h.p 0⟩
 refine⟨by unfold qg1;rw[a,Bool.or_true],?_⟩
 rw[<-h.n]
 unfold qfl
 by_cases b:qfs s<s.n
 ·rw[if_pos b];exact b
 ·rw[if_neg b,if_pos a]
  exact(Qxv s.n s.p h.n64 0 h0 (h.p 0) _ s.u s.h h.h (Z0 _)).1
theorem Qn6 {s:St}{i:Nat}(hi:i<s.n):isT s (i:Int)=s.t i:=by
 unfold isT inn
 rw[decide_eq_true (show (0:Int)<=i by omega),decide_eq_true (show (i:Int)<s.n by omega)]
 simp
theorem Qvs {s:St}{i:Nat}(hi:i<s.n) (a:s.t i=true) (b:∀k,s.p k=0) :
 (qgt (qc7 s i) i).n=s.n/\(∀j,(qgt (qc7 s i) i).t j=s.t j)/\(∀k,(qgt (qc7 s i) i).p k=if k=i then 1 else 0):=by
 have h1:qc7 s (i:Int)={s with u:=upd s.u i true}:=by
  unfold qc7
  rw[Qn6 hi,a,if_pos rfl];simp
 rw[h1]
 have h2:qgt {s with u:=upd s.u i true} (i:Int)={s with u:=upd s.u i true,p:=upd s.p i (s.p i+1)}:=by
  unfold qgt
  rw[Qn6 (s:={s with u:=upd s.u i true}) hi,show ({s with u:=upd s.u i true}:St).t i=s.t i from rfl,a,if_pos rfl]
  simp
 rw[h2]
 refine⟨rfl,fun _=>rfl,fun k=>?_⟩
 show upd s.p i (s.p i+1) k=_
 unfold upd
 by_cases e:k=i
 ·rw[if_pos e,if_pos e,b]
 ·rw[if_neg e,if_neg e,b]
theorem Clock.hit {F:List Fr}{s:St}(h:Clock F s) {i:Nat}{f:Fr}(a:F[i]?=some f) (b:f.pg.isSome=true):Held F (qgt (qc7 s i) i) i:=by
 have hi:i<F.length:=(Z4 a).1
 obtain⟨h1,h2,c⟩:=Qvs (s:=s) (i:=i) (by rw[h.n];exact hi) (by rw[h.t i f a];exact b) h.p
 exact⟨by rw[h1];exact h.n,by rw[h1];exact h.n64,fun j g d=>by rw[h2];exact h.t j g d,c,hi,f,a,b⟩
def qfr (s:St) (i:Nat) (had:Bool):St:=if had=true then qc9 s i else s
theorem Clock.fill {F:List Fr}{s:St}(h:Clock F s) {i:Nat}{f:Fr}(d:F[i]?=some f) (x:Nat×List Int) (n v:Nat):Held (F.set i ⟨some x,n,v⟩) (qgt (qc7 (qe0 (qfr (qbt s) i f.pg.isSome) i) i) i) i/\(∀k,(qfr (qbt s) i f.pg.isSome).p k<=1000000):=by
 have hi:i<F.length:=(Z4 d).1
 have a:i<s.n:=by rw[h.n];exact hi
 have pn:(qbt s).n=s.n:=Qkz s
 have b:=Jao s
 have l:=Jap s
 have key:(qfr (qbt s) i f.pg.isSome).n=s.n/\(qfr (qbt s) i f.pg.isSome).t i=false/\(∀j,j≠i->(qfr (qbt s) i f.pg.isSome).t j=s.t j)/\∀k,(qfr (qbt s) i f.pg.isSome).p k=0:=by
  unfold qfr
  cases r:f.pg.isSome with
  | false =>
    rw[if_neg sM]
    exact⟨pn,by rw[b,h.t i f d,r],fun j _=>by rw[b],fun k=>by rw[l];exact h.p k⟩
  | true =>
    rw[if_pos rfl]
    have hl:qe6 (qbt s) (i:Int)=true:=by
     unfold qe6
     rw[Qn6 (by rw[pn];exact a),b,h.t i f d,r,l]
     simp[h.p]
    have y:qc9 (qbt s) (i:Int)={qbt s with t:=upd (qbt s).t i false,u:=upd (qbt s).u i false}:=by
     unfold qc9
     rw[hl,if_pos rfl];simp
    rw[y]
    refine⟨pn,by simp[upd],fun j z=>?_,fun k=>by show (qbt s).p k=0;rw[l];exact h.p k⟩
    show upd (qbt s).t i false j=_
    unfold upd
    rw[if_neg z,b]
 obtain⟨k1,B,C,w⟩:=key
 generalize qfr (qbt s) i f.pg.isSome=s1 at *
 have o:qe0 s1 (i:Int)={s1 with t:=upd s1.t i true,u:=upd s1.u i true,p:=upd s1.p i 0}:=by
  unfold qe0
  have:takeB s1 (i:Int)=true:=by
   unfold takeB inn
   rw[decide_eq_true (show (0:Int)<=i by omega),decide_eq_true (show (i:Int)<s1.n by omega)]
   simp[B]
  rw[this,if_pos rfl];simp
 rw[o]
 obtain⟨h1,h2,D⟩:=Qvs (s:={s1 with t:=upd s1.t i true,u:=upd s1.u i true,p:=upd s1.p i 0}) (i:=i) (by show i<s1.n;rw[k1];exact a) (by simp[upd]) (fun k=>by
  show upd s1.p i 0 k=0
  unfold upd
  split
  ·rfl
  ·exact w k)
 refine⟨⟨?_,?_,fun j g c=>?_,D,by rw[Y1];exact hi,⟨some x,n,v⟩,by rw[List.getElem?_set_self hi],rfl⟩,fun k=>by rw[w];omega⟩
 ·rw[h1,Y1];exact k1.trans h.n
 ·rw[h1];show s1.n<=64;rw[k1];exact h.n64
 ·rw[h2]
  show upd s1.t i true j=_
  unfold upd
  by_cases e:j=i
  ·rw[if_pos e]
   subst e
   rw[List.getElem?_set_self hi] at c
   cases c
   rfl
  ·rw[if_neg e,C j e]
   rw[List.getElem?_set_ne (fun q=>e q.symm)] at c
   exact h.t j g c
theorem Held.put {F:List Fr}{s:St}{i:Nat}(h:Held F s i) (hh:s.h<s.n):qfk s i≠0/\qdi s i=true/\(∀k,s.p k<=1000000)/\∀G:List Fr,G.length=F.length->(∀(j:Nat) (f g:Fr),F[j]?=some f->G[j]?=some g->g.pg.isSome=f.pg.isSome)->Clock G (qdc s i):=by
 obtain⟨f,q,r⟩:=h.is
 have d:i<s.n:=by rw[h.n];exact h.lt
 have a:s.p i=1:=by rw[h.p,if_pos rfl]
 have w:isT s (i:Int)=true:=by rw[Qn6 d,h.t i f q,r]
 have l:qdi s (i:Int)=true:=by
  unfold qdi
  rw[w]
  simp[a]
 refine⟨?_,l,fun k=>by rw[h.p];split <;> omega,fun G hl x=>?_⟩
 ·unfold qfk inn
  rw[decide_eq_true (show (0:Int)<=i by omega),decide_eq_true (show (i:Int)<s.n by omega)]
  simp[a]
 ·have y:qdc s (i:Int)={s with p:=upd s.p i (s.p i-1)}:=by
   unfold qdc
   rw[l,if_pos rfl];simp
  rw[y]
  refine⟨h.n.trans hl.symm,hh,h.n64,fun j g o=>?_,fun k=>?_⟩
  ·obtain⟨c,b⟩:∃c,F[j]?=some c:=⟨_,Z3 (by rw[<-hl];exact(Z4 o).1)⟩
   rw[x j c g b o]
   exact h.t j c b
  ·show upd s.p i (s.p i-1) k=0
   unfold upd
   by_cases e:k=i
   ·rw[if_pos e,a]
   ·rw[if_neg e,h.p,if_neg e]
end Go.Proofs.YtociicnopccppaaGreat
namespace Go.Proofs.YtociicnopccppaaGreat
open Go.RowKit
theorem qce {F:List Fr}{i:Nat}{x:Fr}(hi:i<F.length) {j:Nat}{g:Fr}(a:(F.set i x)[j]?=some g):(j=i/\g=x)\/(j≠i/\F[j]?=some g):=by
 by_cases e:i=j
 ·subst e
  rw[List.getElem?_set_self hi] at a
  cases a
  exact .inl ⟨rfl,rfl⟩
 ·rw[List.getElem?_set_ne e] at a
  exact .inr ⟨fun q=>e q.symm,a⟩
theorem Good.drop {N st:Nat}{L:qac}{D:Dev}{F:List Fr}{cur:Nat->List Int}(h:Good N st L D F cur) {i:Nat}{f:Fr}(p:F[i]?=some f) (h0:f.first=0):Good N st L D (F.set i Fr.no) cur:=by
 have hi:=(Z4 p).1
 refine⟨h.calm,h.f1,h.f0,h.cap,h.lasts,h.rise,h.base,h.page,fun n hn=>?_,fun j g c R a d=>?_,fun j g a k=>?_,qcn.set h.one i Fr.no (fun j n g _ _ _=>Qk8 n),h.spare,h.qgv⟩
 ·obtain⟨Q,r,s⟩:=h.home n hn
  refine⟨Q,r,fun l=>s (fun j g a o=>?_)⟩
  by_cases e:j=i
  ·subst e
   rw[p] at a
   cases a
   exact h0
  ·exact l j g (by rw[List.getElem?_set_ne (fun q=>e q.symm)];exact a) o
 ·rcases qce hi a with ⟨_,rfl⟩|⟨_,b⟩
  ·cases d
  ·exact h.frame j g c R b d
 ·rcases qce hi a with ⟨_,rfl⟩|⟨_,b⟩
  ·rfl
  ·exact h.none j g b k
theorem Good.fill {N st:Nat}{L:qac}{D:Dev}{F:List Fr}{cur:Nat->List Int}(h:Good N st L D F cur) {i n:Nat}(hi:i<F.length) (hn:n<N) (p:∀(j:Nat) (g:Fr),F[j]?=some g->g.has n=false) (b:Nat) (s:F[i]?=some Fr.no):Good N st L D (F.set i ⟨some (b,cur n),n,0⟩) cur:=by
 refine⟨h.calm,h.f1,h.f0,h.cap,h.lasts,h.rise,h.base,h.page,fun m w=>?_,fun j g c R a l=>?_,fun j g a o=>?_,qcn.set h.one i _ (fun j m g _ a d=>?_),h.spare,h.qgv⟩
 ·obtain⟨Q,x,y⟩:=h.home m w
  refine⟨Q,x,fun r=>y (fun j g a d=>?_)⟩
  by_cases e:j=i
  ·subst e
   rw[s] at a
   cases a
   rfl
  ·exact r j g (by rw[List.getElem?_set_ne (fun q=>e q.symm)];exact a) d
 ·rcases qce hi a with ⟨_,rfl⟩|⟨_,k⟩
  ·cases l
   exact⟨hn,rfl,fun h=>absurd h (by show ¬0<0;omega)⟩
  ·exact h.frame j g c R k l
 ·rcases qce hi a with ⟨_,rfl⟩|⟨_,k⟩
  ·cases o
  ·exact h.none j g k o
 ·by_cases e:m=n
  ·subst e
   rw[p j g a] at d
   cases d
  ·cases z:({pg:=some (b,cur n),n:=n,first:=0}:Fr).has m with
   | false=>rfl
   | true =>
     obtain⟨_,_,_,h2⟩:=Qd7.1 z
     exact absurd h2.symm e
def qi6 (cur:Nat->List Int) (n:Nat) (P:List Int):Nat->List Int:=fun m=>if m=n then P else cur m
theorem qac.qfh.more {L:qac}(h:L.qfh) (b:List Int) (hb:0<b.length):(L.more b).qfh:=by
 refine⟨fun i j c hj=>?_,fun x a=>?_⟩
 ·show (L.starts++[L.stream.length]).getD i 0<(L.starts++[L.stream.length]).getD j 0
  have hj':j<L.starts.length+1:=by
   have:(L.more b).starts.length=L.starts.length+1:=by show (L.starts++[L.stream.length]).length=_;rw[Z6];rfl
   omega
  have d:∀k,k<L.starts.length->(L.starts++[L.stream.length]).getD k 0=L.starts.getD k 0:=fun k g=>by
   rw[Z5,Z5,Y5 g]
  have l:(L.starts++[L.stream.length]).getD L.starts.length 0=L.stream.length:=by
   rw[Z5,Y6 (Z0 _),Nat.sub_self];rfl
  by_cases e:j=L.starts.length
  ·rw[e,l,d i oM]
   refine h.low _ ?_
   rw[Z5,Z3 oM]
   exact List.getElem_mem _
  ·rw[d i oM,d j oM]
   exact h.rise i j c oM
 ·show x<(L.stream++b).length
  rw[Z6]
  rcases List.mem_append.1 a with a|a
  ·have:=h.low x a;omega
  ·have:x=L.stream.length:=by simpa using a
   omega
theorem Good.put {N st:Nat}{L:qac}{D:Dev}{F:List Fr}{cur:Nat->List Int}(h:Good N st L D F cur) {i:Nat}{f:Fr}{b:Nat}{P Q:List Int}(r:F[i]?=some f) (s:f.pg=some (b,P)) (hQ:Sound Q) (U:qa8 Q=f.n) (o:List Int) (X:0<o.length) (w:L.stream.length+o.length<=127*L.strips) (y:L.base+L.stream.length<2 ^ 64) {nv:Nat}(hnv:0<nv) (z:nv=L.base+L.stream.length\/nv=f.first) :
 Good N st (L.more o) D (F.set i ⟨some (b,qbf Q 0 (leB (L.base+L.stream.length) 8)),f.n,nv⟩) (qi6 cur f.n (qbf Q 0 (leB (L.base+L.stream.length) 8))):=by
 have hi:=(Z4 r).1
 obtain⟨Y,hP,B⟩:=h.frame i f b P r s
 have C:nv<18446744073709551616:=by
  rcases z with e|e
  ·rw[e,show (18446744073709551616:Nat)=2 ^ 64 from by decide];exact y
  ·rw[e];exact(B oM).2
 clear z B
 obtain⟨q1,q2,q3,-⟩:=hQ.stamp (L.base+L.stream.length) y
 have E:0<qaa (qbf Q 0 (leB (L.base+L.stream.length) 8)):=by rw[q3];have:=h.base;omega
 have G:(L.more o).has (qaa (qbf Q 0 (leB (L.base+L.stream.length) 8))):=⟨L.stream.length,List.mem_append_right _ sM,q3⟩
 generalize qbf Q 0 (leB (L.base+L.stream.length) 8)=R at *
 have I:(L.more o).stream=L.stream++o:=rfl
 have a:f.has f.n=true:=Qd7.2 ⟨b,P,s,rfl⟩
 refine⟨h.calm,h.f1,h.f0,by rw[I,Z6];exact w,by rw[I,Z6];exact Y3 h.lasts (Nat.le_add_right _ _),h.rise.more o X,h.base,fun n hn=>?_,fun n hn=>?_,fun j g c S d p=>?_,fun j g d J=>?_,qcn.set h.one i _ (fun j m g Z d k=>?_),h.spare,h.qgv.more h.lasts o⟩
 ·unfold qi6
  by_cases e:n=f.n
  ·rw[if_pos e]
   exact⟨q1,by rw[q2,U,e],.inr G⟩
  ·rw[if_neg e]
   obtain⟨p1,p2,p3⟩:=h.page n hn
   refine⟨p1,p2,?_⟩
   rcases p3 with p3|⟨x,M,he⟩
   ·exact .inl p3
   ·exact .inr ⟨x,List.mem_append_left _ M,he⟩
 ·obtain⟨S,hS,hs⟩:=h.home n hn
  refine⟨S,hS,fun O=>?_⟩
  by_cases e:n=f.n
  ·exfalso
   have:=O i _ (List.getElem?_set_self hi) (Qd7.2 ⟨b,R,rfl,e.symm⟩)
   have h2:nv=0:=this
   omega
  ·unfold qi6
   rw[if_neg e]
   refine hs (fun j g d k=>?_)
   by_cases ej:j=i
   ·subst ej
    rw[r] at d
    cases d
    obtain⟨_,_,_,M⟩:=Qd7.1 k
    exact absurd M.symm e
   ·exact O j g (by rw[List.getElem?_set_ne (fun q=>ej q.symm)];exact d) k
 ·rcases qce hi d with ⟨_,rfl⟩|⟨Z,l⟩
  ·cases p
   exact⟨Y,by unfold qi6;rw[if_pos rfl],fun _=>⟨E,C⟩⟩
  ·obtain⟨a1,a2,a3⟩:=h.frame j g c S l p
   refine⟨a1,?_,a3⟩
   unfold qi6
   rw[if_neg (fun e=>Z (h.one j i f.n g f l r (Qd7.2 ⟨c,S,p,e⟩) a))]
   exact a2
 ·rcases qce hi d with ⟨_,rfl⟩|⟨_,l⟩
  ·cases J
  ·exact h.none j g l J
 ·cases M:({pg:=some (b,R),n:=f.n,first:=nv}:Fr).has m with
  | false=>rfl
  | true =>
    obtain⟨_,_,_,h2⟩:=Qd7.1 M
    have h3:f.n=m:=h2
    exact absurd (h.one j i m g f d r k (by rw[<-h3];exact a)) Z
