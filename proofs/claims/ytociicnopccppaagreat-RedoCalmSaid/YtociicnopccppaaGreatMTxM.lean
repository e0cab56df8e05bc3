/-
 Transactions: undo of one change.
-/
import Derived.Test.YtociicnopccppaaGreatMTxJ
set_option maxRecDepth 100000
set_option maxHeartbeats 4000000
set_option linter.all false
namespace Go.Proofs.YtociicnopccppaaGreat
open Go.RowKit
theorem Qgd (X:List qa9) {x y:qa9}(h:x.txn=y.txn):qee (qee X x) y=qee X y:=by
 unfold qee
 rw[List.map_map]
 refine List.map_congr_left fun z _=>?_
 show (if (if z.txn=x.txn then x else z).txn=y.txn then y else (if z.txn=x.txn then x else z))=if z.txn=y.txn then y else z
 by_cases e:z.txn=x.txn
 ·rw[if_pos e,if_pos h,if_pos (e.trans h)]
 ·rw[if_neg e]
theorem TW.qfz {w c:World}{τ b:qa1}{S:Tag->Prop}{bm bl bp bf bd N:Nat}{bo:Nat->Nat}{X:List qa9}{next:Nat}{H:qaq}{L:qac}{D:Dev}{F:List Fr}{s:Ck.Clk.St}{cur:Nat->List Int}(h:TW w τ bm bl bp bf bd N bo X next H L D F s cur) (m:Step w τ c b S) {x y:qa9}(j:y∈X) (e:y.txn=x.txn) (d:∀g,S g->g=qab x.txn\/g=qd3 x.txn) (l:qel c b (bo x.txn) x):TW c b bm bl bp bf bd N bo (qee X x) next H L D F s cur:=by
 have no:∀g,S g->¬qbe g/\g≠qa2:=fun g a=>by
  have i:Qai g:=by rcases d g a with h|h <;> (subst h;simp[Qai,qab,qd3])
  refine⟨fun q=>(Qi3 q).1 i,fun q=>?_⟩
  subst q
  simp[Qai,qa2] at i
 exact⟨h.pool.step m (fun g a=>⟨fun k=>(no g a).1 (.inl k),fun k=>(no g a).1 (.inr (.inl k)),fun k=>(no g a).1 (.inr (.inr k)),(no g a).2⟩),h.mgr.qfz m j e (fun g _ a=>d g a) l,h.good,h.clock,h.hn,h.hbl⟩
theorem qiu:¬qbe tTn:=by
 rintro(h|h|h)
 ·rcases h with h|h|h|h|⟨i,h⟩ <;> simp[tTn,qcd,tFr,qbi,qdk,tPg] at h
 ·rcases h with h|h|h <;> simp[tTn,qb1,qa5,qa6] at h
 ·rcases h with h|h|h|h <;> simp[tTn] at h
def Qed (c:qa7) (x:qa9) (nx:Nat):qak:=⟨3,x.txn,x.last,nx,c.turned,[],[]⟩
theorem Qif (c:qa7) (x:qa9) (nx:Nat):(encR (Qed c x nx)).length=Qak c:=by
 have:=Qkc c x.txn x.last nx
 exact this
def qa9.undone (x:qa9) (lsn nx:Nat) (l:List (Nat×Nat)):qa9:={x with last:=lsn,undo:=nx,ch:=l}
def UndoD (w:World) (τ:qa1) (bm bl bp bf bd N:Nat) (bo:Nat->Nat) (X:List qa9) (next:Nat) (st:Nat) (L:qac) (cur:Nat->List Int) (x:qa9) (c:qa7) (nx:Nat) (l1:List (Nat×Nat)) (e:Ending) (w':World):Prop :=
 e = .returned (.tuple #[.bool true,.int .u16 0])/\∃τ' H' L' D' F' s' Q,H'.st<=st+1/\Step w τ w' τ' qex/\qh2 (cur c.page) Q c.slot c.before /\
   TW w' τ' bm bl bp bf bd N bo (qee X (x.undone (L.base+L.stream.length) nx l1)) next H' L' D' F' s' (qi6 cur c.page (qbf Q 0 (leB (L.base+L.stream.length) 8)))/\qas (L.more (encR (Qed c x nx))) L'
theorem Qwu {w:World}{τ:qa1}{bm bl bp bf bd N:Nat}{bo:Nat->Nat}{X:List qa9}{next:Nat}{H:qaq}{L:qac}{D:Dev}{F:List Fr}{s:Ck.Clk.St}{cur:Nat->List Int}(h:TW w τ bm bl bp bf bd N bo X next H L D F s cur) (fo:H.st+1<18446744073709551616) {x:qa9}(hx:x∈X) (hN:N<=512) (al:L.starts.length<=100000) (ci:x.last<18446744073709551616) (fp:L.base+L.stream.length<18446744073709551616)
 {v:Value} {r:qak} (hv:qjn w τ v r) (hc:qed N r.change) (dh:Small (cur r.change.page)) {at_:Nat} (hat:at_<18446744073709551616) (hp:r.prev<at_) {l1:List (Nat×Nat)} {sz:Nat} (di:x.ch=l1++[(at_,sz)]) (dj:∀y∈l1,y.1≠at_) (b5:L.stream.length+Qak r.change<=L.strips*127) :
 Calls Tryz.prog 94 #[.pointer (some ⟨bm,0,none⟩),.pointer (some ⟨bo x.txn,0,none⟩),.int .u64 at_,v] w (UndoD w τ bm bl bp bf bd N bo X next H.st L cur x r.change r.prev l1):=by
 obtain⟨kd,tx,pv,nx,c,ts,ps⟩:=r
 dsimp only at *
 obtain⟨vb,va,vt,vp,n0,rfl,⟨pb,cb,rfl,hb⟩,⟨pa,ca,rfl,ha⟩,dk,dl⟩:=hv
 dsimp only at *
 obtain⟨pt,ct,rfl⟩:=dk.val
 obtain⟨pp,cp,rfl⟩:=dl.val
 have b6:=(h.good.page c.page hc.page).1
 have b7:=(h.good.page c.page hc.page).2.1
 have dm:c.turned.now=c.before:=hc.tnow
 have dn:=hc.page
 have cj:=hc.slot
 have hb4:=hc.b4
 have ha4:=hc.a4
 have b8:=(zS w τ).alloc (.cells #[.int .u64 at_] 40) tTn
 have ck:=Own.born w τ tTn 40 #[.int .u64 at_]
 obtain⟨bq,cm⟩:=gN w.heap.size
 have U:(w.alloc (.cells #[.int .u64 at_] 40)).heap.size=w.heap.size+1:=World.size_alloc _ _
 generalize τ.put w.heap.size tTn=τ1 at *
 rw[cm] at ck U
 generalize dp:w.alloc (.cells #[.int .u64 at_] 40)=W1 at *
 have Y:=(zS W1 τ1).alloc (.cells (rR kd tx pv nx c.page c.slot c.had c.has (.slice pb c.before.length cb) (.slice pa c.after.length ca) (.slice pt ts.length ct) (.slice pp ps.length cp)) 73) tTn
 have an:=Own.born W1 τ1 tTn 73 (rR kd tx pv nx c.page c.slot c.had c.has (.slice pb c.before.length cb) (.slice pa c.after.length ca) (.slice pt ts.length ct) (.slice pp ps.length cp))
 rw[U] at an Y
 have b9:=ck.step Y id
 have E:=b8.trans Y
 generalize τ1.put (bq+1) tTn=τ2 at *
 generalize cn:W1.alloc (.cells (rR kd tx pv nx c.page c.slot c.had c.has (.slice pb c.before.length cb) (.slice pa c.after.length ca) (.slice pt ts.length ct) (.slice pp ps.length cp)) 73)=W2 at *
 have co:=h.nil E
 have cq:=hb.step E id
 have cr:=ha.step E id
 have bb:=Qr0 co fo c.page dn
 obtain⟨ba,ho,-⟩:=co.mgr.is
 have c1:=ho.at 1 rfl
 obtain⟨nb,ao⟩:=gN c.before.length
 obtain⟨na,ap⟩:=gN c.after.length
 obtain⟨nt,cs⟩:=gN ts.length
 obtain⟨np,cv⟩:=gN ps.length
 rw[ao,ap,cs,cv] at cn an
 rw[ao] at cq
 rw[ap] at cr
 obtain⟨dr,ds,fs,dt,ft,fv,fw,fx,dv,G,O,fy⟩:=qds bb b9 an E cq cr dp cn U ao ap cs
 obtain⟨g6,g7,dw,dx,Hc,g8,aq,g9,be,ga⟩:=qhe cv dh b6 b7 hc dm di dj b5 cm
 clear h bb b9 an E co cq cr dp cn U ao ap cs cv dh b6 b7 hc dm di dj b5 cm b8 Y ck dk dl hb ha ho
 rw[show c.before.length=nb from G.out,show c.after.length=na from O.out,show ts.length=nt from fy.out,show ps.length=np from g6.out]
 go_enter Tryz.func94,Tryz.ntmps94
 go_upto_region 2 with fail
 try rw[fw.out]
 try rw[fx.out]
 try rw[dv.out]
 try rw[ga.out]
 go_wp2_with fail
 refine dr.mono ?_
 rintro e w3 ⟨b,rfl,dy,H3,L3,D3,F3,s3,i3,f3,dz,e0,bg,a2⟩
 have j:=fs.step a2 qiu
 have bh:=ds.step a2 qiu
 have ar:=ft.step a2 Qhd
 have av:=fv.step a2 Qhd
 have a8:=(dt.nz (T:=qbe)).trans a2
 rw[<-G.out] at ar
 rw[<-O.out] at av
 have a9:=Qml c ar av oM oM
 unfold qhk at a9
 dsimp only[qa7.turned] at a9
 rw[G.out,O.out] at a9
 rw[O.out] at av
 rw[G.out] at ar
 have d4:=j.at 4 rfl
 have d5:=j.at 5 rfl
 have d6:=j.at 6 rfl
 have d7:=j.at 7 rfl
 have d8:=j.at 8 rfl
 have d9:=j.at 9 rfl
 obtain⟨e3,e4⟩:=qaj j bh
 have aa:=Z2 a8
 obtain⟨gd,a3,d⟩:=qan a9 dz bg
 clear j bh ar av a8 a9 dz bg a2 c1
 go_upto_region 5 with fail
 go_wp2_with fail
 refine gd.mono ?_
 rintro e w4 ⟨qb,kb,qa,ka,cw,rfl,e6,e7,e8⟩
 obtain⟨bn,cx⟩:=gN w4.heap.size
 have n:=Own.born w4 cw tTn 70 #[.int .u32 c.page,.int .u16 c.slot,.bool c.has,.bool c.had,.slice qb na kb,.slice qa nb ka]
 have ab:=(zS w4 cw).alloc (.cells #[.int .u32 c.page,.int .u16 c.slot,.bool c.has,.bool c.had,.slice qb na kb,.slice qa nb ka] 70) tTn
 generalize cw.put w4.heap.size tTn=a5 at *
 rw[cx] at n
 obtain⟨w5,cy⟩:=gN (w4.alloc (.cells #[.int .u32 c.page,.int .u16 c.slot,.bool c.has,.bool c.had,.slice qb na kb,.slice qa nb ka] 70))
 rw[cy] at n ab
 have I:=e8.trans ab
 have bj:=e6.step ab id
 have ac:=e7.step ab id
 have ad:=e3.step I id
 have bk:=e4.step I id
 have e9:=a3.mgr.nil I
 have ea:qaw w5 a5 bl bd L3:=(a3.hbl▸a3.pool.log).step I zN
 have eb:=a3.page.step I id
 have ec:qh1 w5 a5 (.agg #[.int .u8 3,.int .u32 0,.int .u64 0,.int .u64 pv,.int .u32 c.page,.int .u16 c.slot,.bool c.has,.bool c.had,.slice qb na kb,.slice qa nb ka,.slice none 0 0,.slice none 0 0]) ⟨3,0,0,pv,c.turned,[],[]⟩:=⟨⟨qb,kb,qa,ka,none,0,none,0,qay,qay,0,by
  show _=Value.agg #[.int .u8 3,.int .u32 0,.int .u64 0,.int .u64 pv,.int .u32 c.page,.int .u16 c.slot,.bool c.has,.bool c.had,.slice qb c.after.length kb,.slice qa c.before.length ka,.slice none 0 0,.slice none 0 0]
  rw[O.out,G.out],by show Bytes w5 a5 qa2 (.slice qb c.after.length kb) c.after;rw[O.out];exact bj,by show Bytes w5 a5 qa2 (.slice qa c.before.length ka) c.before;rw[G.out];exact ac,NS.nil _ _ _ _ _ _ _,NS.nil _ _ _ _ _ _ _,by simp[WrT,qay,tWr,tWb],by simp[WrT,qay,tWr,tWb]⟩,by show 3<256;omega,by show 0<4294967296;omega,by show 0<18446744073709551616;omega,by show pv<18446744073709551616;omega,by show c.page<4294967296;omega,by show c.slot<65536;omega⟩
 have z:(qak.own ⟨3,0,0,pv,c.turned,[],[]⟩ x)=Qed c x pv:=rfl
 have ay:=Qif c x pv
 have ge:Qak c<=44:=by unfold Qak;omega
 have az:=Qe2 e9 ea hx (by rw[d.starts];exact al) ec (Hc.turned.may (.inr rfl)) (by rw[z,ay];omega) (by show (3:Nat)≠8;omega) ci 0 (by rw[z,ay,d.stream,d.strips];exact be)
 rw[z] at az
 obtain⟨lsn,ae⟩:=gN (L3.base+L3.stream.length)
 rw[ae] at az
 have g0:=n.at 0 rfl
 have g1:=n.at 1 rfl
 have g2:=n.at 2 rfl
 have g3:=n.at 3 rfl
 have g4:=n.at 4 rfl
 have g5:=n.at 5 rfl
 have r2:=ad.at 2 rfl
 have br:=aa.trans I.nz
 obtain⟨gf,gg,gh,ed,ee,ef,gi,gj,eg,gk,af,eh⟩:=qds n cx cy ac ad bk eb az ay I ae br
 clear n cx cy bj ac ad bk e9 ea eb az z ay I ae br ge e6 e7 e8 ab ec d4 d5 d6 d7 d8 d9
 go_upto_region 6 with fail
 try rw[gh.out]
 try rw[gg.out]
 go_wp2_with fail
 refine gj.mono ?_
 rintro e w6 ⟨rfl,ei,ej,ek,R⟩
 have em:∀i,¬(qai (tPg i)\/tPg i=qab x.txn):=fun i=>by simp[qai,tPg,qb1,qa5,qa6,qab]
 have en:¬(qai qa2\/qa2=qab x.txn):=by simp[qai,qa2,qb1,qa5,qa6,qab]
 have Z:¬(qai tTn\/tTn=qab x.txn):=by simp[qai,tTn,qb1,qa5,qa6,qab]
 have eo:=gi.step R (em i3)
 have k:=gf.step R Z
 have bs:=ee.step R Z
 have bv:=ef.step R Z
 have bw:=ed.step R en
 have bz:Step w3 dy w6 ei (qea i3 x.txn):=(gk.mono (T:=qea i3 x.txn) (fun _ h=>h.elim)).trans (R.mono (fun t h=>h.elim .inl (fun h=>.inr (.inl h))))
 have a6:=Qv1 (g:=tPg i3) (by simp[tPg,qe3,qa2,qji]) eo dw g7 c.turned cj (pb:=qb) (cb:=kb) (pa:=qa) (ca:=ka) (by show Bytes w6 ei qa2 (.slice qa c.before.length ka) c.before;rw[G.out];exact bw) (fun h=>by
  have h2:c.had=true:=h
  rw[Hc.had] at h2
  exact of_decide_eq_true h2) (by show c.before.length<=64;omega)
 rw[g8.out] at a6
 unfold qhk at a6
 dsimp only[qa7.turned] at a6
 rw[G.out,O.out] at a6
 have f0:=k.at 0 rfl
 have f1:=k.at 1 rfl
 have f2:=k.at 2 rfl
 have gl:=k.at 3 rfl
 have f4:=k.at 4 rfl
 have f5:=k.at 5 rfl
 obtain⟨gm,gn,ep,er,et,gp⟩:=qcq ej ek bs bv bz a6
 clear ej ek eo bs bv bz a6 R k bw em en Z g0 g1 g2 g3 g4 g5 r2
 go_wp2_with fail
 refine gp.mono ?_
 rintro e w7 ⟨rfl,Q,gq,b0,ev,a7⟩
 have cz:=gn.step a7 (by simp[qab,tPg]) (by simp[qd3,tPg])
 have ew:=gm.step a7 (by intro g hg e;subst e;rcases hg with h|h|h <;> simp[tPg,qb1,qa5,qa6] at h)
 have a0:Step w3 dy w7 gq (qea i3 x.txn):=et.trans (a7.mono (T:=qea i3 x.txn) (fun t h=>.inr (.inr (.inr (.inl h)))))
 have c3:=ep.step a7 (by simp[tTn,tPg])
 have c4:=er.step a7 (by simp[tTn,tPg])
 have ey:lsn<18446744073709551616:=by rw[<-af.out,d.base,d.stream];exact fp
 have c6:0<(encR (Qed c x pv)).length:=by rw[eg.out];unfold Qak;omega
 have c7:=Qup a3 oM a0 ev ew hx (x:={x with last:=lsn}) rfl rfl cz b0.sound (by rw[b0.num];exact dx) c6 (by rw[eg.out,d.stream,d.strips];have:=be.out;omega) af ey
 obtain⟨ba3,ez,-⟩:=a3.mgr.is
 have f6:=ez.step a0 (fun q=>by rcases qfv _ (by simp[Qai,qe4]) q with q|q <;> simp[qe4,qab,qd3] at q)
 have c71:=f6.at 1 rfl
 have d0:=eh.trans (τ1:=a5) (a:=w5) (Step.refl w5 a5 qbe)
 obtain⟨Hx7,f7,f8,f9,fa,gs⟩:=qcq cz a0 c3 c4 c7 b0
 clear cz ew a0 c3 c4 c7 b0 f6 c6 a7 ev ez d0 f0 f1 f2 gl f4 f5
 go_wp2_with fail
 refine fa.mono ?_
 rintro e w8 ⟨rfl,B,F8,s8,d1,b1⟩
 have c8:=f8.step b1 qiu
 have ag:=f9.step b1 qiu
 have k2:=c8.at 2 rfl
 have k0:=ag.at 0 rfl
 have d2:=Qpy w8 pv at_
 rw[if_pos hp] at d2
 have b2:=d1.mgr.ones _ (Qge hx (x:={x with last:=lsn}) rfl)
 obtain⟨vv,C,J⟩:=b2.is
 obtain⟨gt,gv,rfl,-,-⟩:=J.done
 have l:=b2.len
 have ah:=b2.size
 unfold qa9.cells at C
 dsimp only at C J l ah
 obtain⟨bx,d3⟩:=gN (bo x.txn)
 rw[d3] at C
 obtain⟨gw,a1⟩:=gN x.ch.length
 rw[a1] at C J l
 have m2:=C.at 2 rfl
 have z2:=C.fz 2
 have b3:Step w8 B (w8.setCell ⟨bx,2,none⟩ (.int .u64 pv)) B (fun t=>t=qab x.txn):=(Step.refl w8 B (fun t=>t=qab x.txn)).set (o:=2) C.tag rfl _
 have ai:Own (w8.setCell ⟨bx,2,none⟩ (.int .u64 pv)) B bx (qab x.txn) 108 [.int .u32 x.txn,.int .u64 lsn,.int .u64 pv,.int .u8 x.state,.int .u64 x.start,.slice gt gw gv]:=C.set 2 (.int .u64 pv)
 have da:=J.step b3 (by simp[qab,qd3])
 have c9:=ag.step b3 (by simp[qab,tTn])
 have c5:=ai.at 5 rfl
 rw[aq.out] at da
 have cc:=Qlt (F := 158) (bc:=bq) (p:=fun y=>decide (y.1=at_)) da rfl (fun W q=>Quk ((c9.step q id).at 0 rfl))
  (fun y hy=>decide_eq_false (g9 y hy)) (fun y hy=>by rw[Y8 hy];exact decide_eq_true rfl) (by rw[<-aq.out,a1];exact l)
 obtain⟨gx,gy,gz,db,fc,fe,ff,fg,h0,fh⟩:=qhe d2 d1 b1 l ah d3 a1 cc b3 ai
 clear c8 ag d2 d1 b1 l ah d3 a1 cc b3 ai C J b2 da c9
 rw[show bo x.txn=bx from fe.out]
 go_wp2_with fail
 refine zC gx ?_
 go_upto_region 13 with fail
 generalize w8.setCell ⟨bx,2,none⟩ (.int .u64 pv)=w9 at *
 go_wp2_with fail
 refine fg.mono ?_
 rintro e wa ⟨va,rfl,aj,dc⟩
 obtain⟨pd,qd,rfl,-,-⟩:=aj.done
 have M:=fh.step dc (by simp[qab,qd3])
 have n5:=M.at 5 rfl
 have y5:=M.fz 5
 have ak:Step wa B (wa.setCell ⟨bx,5,none⟩ (.slice pd l1.length qd)) B (fun t=>t=qab x.txn):=(Step.refl wa B (fun t=>t=qab x.txn)).set (o:=5) M.tag rfl _
 have cd:Own (wa.setCell ⟨bx,5,none⟩ (.slice pd l1.length qd)) B bx (qab x.txn) 108 [.int .u32 x.txn,.int .u64 lsn,.int .u64 pv,.int .u8 x.state,.int .u64 x.start,.slice pd l1.length qd]:=M.set 5 _
 have ce:=aj.step ak (by simp[qab,qd3])
 have cf:=(h0.mono (T:=fun t=>t=qab x.txn\/t=qd3 x.txn) (fun _ h=>.inl h)).trans ((dc.mono (T:=fun t=>t=qab x.txn\/t=qd3 x.txn) (fun _ h=>.inr h)).trans (ak.mono (T:=fun t=>t=qab x.txn\/t=qd3 x.txn) (fun _ h=>.inl h)))
 obtain⟨fi,fj,cg⟩:=qan cd ce cf
 clear cd ce cf aj dc M ak c5 k2 k0 m2 z2
 go_wp2_with fail
 go_ret2
 have h4:∀y∈l1,y.2<=1000:=fun y hy=>fc y (by rw[aq.out];exact List.mem_append_left _ hy)
 have fk:l1.length<=1000:=by
  have:=db.out
  rw[<-ff.out,aq.out,Z6] at this
  omega
 have ht:=gy.qfz cg (x:=x.undone lsn pv l1) (y:={x with last:=lsn}) (Qge hx (x:={x with last:=lsn}) rfl) rfl (fun g hg=>hg) (by
  show qel _ _ (bo x.txn) _
  rw[fe.out]
  exact⟨⟨_,fi,fj⟩,fk,h4⟩)
 rw[Qgd X (show qa9.txn {x with last:=lsn}=(x.undone lsn pv l1).txn from rfl)] at ht
 have e1:=d.base
 have e2:=d.stream
 have h5:lsn=L.base+L.stream.length:=by rw[<-af.out,e1,e2]
 subst h5
 refine⟨rfl,B,H3,_,D3,F8,s8,Q,e0,?_,gs,ht,d.more _⟩
 refine((aa.mono (T:=qex) (fun _ h=>.inl h)).trans (f7.mono (T:=qex) Qr1)).trans ((gz.mono (T:=qex) (fun _ h=>.inl h)).trans (cg.mono (T:=qex) (fun g h=>.inr (.inl ?_))))
 rcases h with h|h <;> (subst h;simp[Qai,qab,qd3])
def qa9.at_ (x:qa9) (u:Nat):qa9:={x with undo:=u}
theorem qhr {t:Tag}(h:qa4 t):¬qbe t/\¬Qai t/\t≠qa2:=by
 obtain⟨a,b⟩:=t
 unfold qa4 at h
 dsimp only at h
 refine⟨fun q=>?_,fun q=>?_,fun q=>?_⟩
 ·rcases q with q|q|q
  ·rcases q with q|q|q|q|⟨i,q⟩ <;> (simp only[qcd,tFr,qbi,qdk,tPg,Prod.mk.injEq] at q;omega)
  ·rcases q with q|q|q <;> (simp only[qb1,qa5,qa6,Prod.mk.injEq] at q;omega)
  ·rcases q with q|q|q|q <;> (dsimp only at q;omega)
 ·unfold Qai at q;dsimp only at q;omega
 ·simp only[qa2,Prod.mk.injEq] at q;omega
theorem TW.read {w c:World}{τ b:qa1}{bm bl bp bf bd N:Nat}{bo:Nat->Nat}{X:List qa9}{next:Nat}{H:qaq}{L:qac}{D:Dev}{F:List Fr}{s:Ck.Clk.St}{cur:Nat->List Int}(h:TW w τ bm bl bp bf bd N bo X next H L D F s cur) (m:Step w τ c b qa4):TW c b bm bl bp bf bd N bo X next H L D F s cur :=
 ⟨h.pool.step m (fun g a=>⟨fun k=>(qhr a).1 (.inl k),fun k=>(qhr a).1 (.inr (.inl k)),fun k=>(qhr a).1 (.inr (.inr k)),(qhr a).2.2⟩),h.mgr.step m (fun g a d=>(qhr d).2.1 a),h.good,h.clock,h.hn,h.hbl⟩
def qbj (g:Tag):Prop:=qex g\/qa4 g
theorem Qke {w:World}{τ:qa1}{I:Ids}{bo:Nat->Nat}{X:List qa9}{next:Nat}{R:List qak}{V:qbd}{st:Nat}(h:TZ w τ I bo X next R V st) {x:qa9}(hx:x∈X) {r:qak}(hr:qdm R x.undo r) (hst:st<=1000000) (hN:I.N<=512) (hk:r.kind=2) (al:r.prev<x.undo) (hc:qed I.N r.change) (d:x.last<=1+(qae R).length) {l1:List (Nat×Nat)}{sz:Nat}(Y:x.ch=l1++[(x.undo,sz)]) (Z:∀y∈l1,y.1≠x.undo) (i:(qae R).length+Qak r.change<=I.S*127) :
 Calls Tryz.prog 45 #[.pointer (some ⟨I.bm,0,none⟩),.int .u32 x.txn] w fun e w'=>e = .returned (.tuple #[.bool true,.int .u16 0])/\∃a0,Step w τ w' a0 qbj/\TZ w' a0 I bo (qee X (x.undone (1+(qae R).length) r.prev l1)) next (R++[Qed r.change x r.prev]) (qjj V r.change.page r.change.slot r.change.before) (st+1):=by
 obtain⟨H,L,D,F,s,cur,h1,h2,h3,h4,h5⟩:=h.is
 have hlen:=h.len
 obtain⟨ba,ho,hp⟩:=h1.mgr.is
 have hxl:=h1.mgr.low x hx
 have hnx:=h1.mgr.nx
 obtain⟨kr,xr,q1,q2,q3,q4⟩:=hr.read h2
 have hrl:=hr.low
 have g:=Qg8 (h1.hbl▸h1.pool.log) h1.good.rise q1 q2 q3 q4
 have c0:=ho.at 0 rfl
 have c2:=ho.at 2 rfl
 have l:=hp.look x.txn oM
 rw[Qln hx] at l
 obtain⟨v,n,a1⟩:=(h1.mgr.ones x hx).is
 have x2:=n.at 2 rfl
 obtain⟨bx,o⟩:=gN (bo x.txn)
 rw[o] at l x2 n
 change _=Result.ok (Value.pointer (some ⟨bx,0,none⟩)) w at l
 obtain⟨H1,j,H3,H4,H5,p,an,Hk⟩:=qen h1 h2 h3 h4 h5 g o hk
 clear h1 h2 h3 h4 h5 hp ho g n a1 o h q1 q2 q3 q4 hr hk
 go_enter Tryz.func45,Tryz.ntmps45
 go_wp2_with fail
 refine p.mono ?_
 rintro e w1 ⟨u,τ1,rfl,hu,q⟩
 have a3:=H1.read q
 obtain⟨vb,va,vt,vp,n0,hu,⟨pb,cb,rfl,hb⟩,⟨pa,ca,rfl,ha⟩,z,B⟩:=hu
 obtain⟨pt,ct,rfl⟩:=z.val
 obtain⟨pp,cp,rfl⟩:=B.val
 subst hu
 obtain⟨nb,C⟩:=gN r.change.before.length
 obtain⟨na,E⟩:=gN r.change.after.length
 obtain⟨nt,a4⟩:=gN r.qbm.length
 obtain⟨np,a5⟩:=gN r.pages.length
 have b:=(zS w1 τ1).alloc (.cells #[.int .u8 r.kind,.int .u32 r.txn,.int .u64 r.prev,.int .u64 r.next,.int .u32 r.change.page,.int .u16 r.change.slot,.bool r.change.had,.bool r.change.has,.slice pb nb cb,.slice pa na ca,.slice pt nt ct,.slice pp np cp] 73) tTn
 have a:=Own.born w1 τ1 tTn 73 #[.int .u8 r.kind,.int .u32 r.txn,.int .u64 r.prev,.int .u64 r.next,.int .u32 r.change.page,.int .u16 r.change.slot,.bool r.change.had,.bool r.change.has,.slice pb nb cb,.slice pa na ca,.slice pt nt ct,.slice pp np cp]
 generalize τ1.put w1.heap.size tTn=a6 at *
 obtain⟨br,G⟩:=gN w1.heap.size
 rw[G] at a
 obtain⟨w2,J⟩:=gN (w1.alloc (.cells #[.int .u8 r.kind,.int .u32 r.txn,.int .u64 r.prev,.int .u64 r.next,.int .u32 r.change.page,.int .u16 r.change.slot,.bool r.change.had,.bool r.change.has,.slice pb nb cb,.slice pa na ca,.slice pt nt ct,.slice pp np cp] 73))
 rw[J] at a b
 have a7:=a3.nil b
 have k:Step w τ w2 a6 qbj:=(q.mono (T:=qbj) (fun _ h=>.inr h)).trans b.nz
 have j0:=a.at 0 rfl
 have a8:qjn w2 a6 (.agg #[.int .u8 r.kind,.int .u32 r.txn,.int .u64 r.prev,.int .u64 r.next,.int .u32 r.change.page,.int .u16 r.change.slot,.bool r.change.had,.bool r.change.has,.slice pb nb cb,.slice pa na ca,.slice pt nt ct,.slice pp np cp]) r:=⟨_,_,_,_,n0,rfl,⟨pb,cb,by rw[C],by rw[<-C];exact hb.step b id⟩,⟨pa,ca,by rw[E],by rw[<-E];exact ha.step b id⟩,by rw[<-a4];exact z.step b id,by rw[<-a5];exact B.step b id⟩
 have c:=Qwu a7 (by have:=H4.out;omega) hx hN (by rw[j.starts,Qbc];have:=Qfk R;omega) oM (by rw[j.base,j.stream];omega) a8 hc (H5 _ hc.page).1 (at_:=x.undo) oM al Y Z (by rw[j.stream,H3.out];exact i)
 rw[show bo x.txn=bx from an.out] at c
 have j1:=a.at 1 rfl
 have j2:=a.at 2 rfl
 have j3:=a.at 3 rfl
 have j4:=a.at 4 rfl
 have j5:=a.at 5 rfl
 have j6:=a.at 6 rfl
 have j7:=a.at 7 rfl
 have j8:=a.at 8 rfl
 have j9:=a.at 9 rfl
 have j10:=a.at 10 rfl
 have j11:=a.at 11 rfl
 rw[show ((r.kind:Nat):Int)=2 by rw[show r.kind=2 from Hk.out];rfl] at j0 c
 obtain⟨a9,aa,ap,aq,M,O⟩:=qcq c k J G hc d
 clear c k a b a7 J G hc Y Z i d hb ha z B q a3 a8
 rw[C,E,a4,a5]
 go_upto_region 6 with fail
 try rw[ap.out]
 try rw[aq.out]
 go_wp2_with fail
 refine a9.mono ?_
 rintro e w3 ⟨rfl,ar,H',L',D',F',s',Q,hst',U,ab,ht,ac⟩
 go_wp2_with fail
 go_ret2
 rw[j.base,j.stream] at ht
 have ad:(Qed r.change x r.prev).ok:=⟨M.turned.may (.inr rfl),by show (3:Nat)≠8;omega,by show x.txn<_;omega,by show x.last<_;have:=O.out;omega,by show r.prev<_;omega,by show r.change.page<_;have:=M.page;omega,by show r.change.slot<_;have:=M.slot;omega⟩
 refine⟨rfl,ar,aa.trans (U.mono (fun _ h=>.inl h)),⟨⟨H',L',D',F',s',_,ht,j.chg (fun _ hk=>H1.good.qjk j hk) ad ac M.page rfl ab.sound (by show _<18446744073709551616;omega),by rw[ac.strips];exact H3,by have:=H4.out;omega,?_⟩⟩⟩
 exact Qso H5 ab M.page M.slot M.b4 _ (by show _<18446744073709551616;omega)
theorem Qp6 {w:World}{τ:qa1}{I:Ids}{bo:Nat->Nat}{X:List qa9}{next:Nat}{R:List qak}{V:qbd}{st:Nat}(h:TZ w τ I bo X next R V st) {x:qa9}(E:x∈X) {r:qak}(hr:qdm R x.undo r) (hk:r.kind=3) (ab:r.next<x.undo) :
 Calls Tryz.prog 45 #[.pointer (some ⟨I.bm,0,none⟩),.int .u32 x.txn] w fun e w'=>e = .returned (.tuple #[.bool true,.int .u16 0])/\∃a2,Step w τ w' a2 qbj/\TZ w' a2 I bo (qee X (x.at_ r.next)) next R V st:=by
 obtain⟨H,L,D,F,s,cur,h1,h2,h3,h4,h5⟩:=h.is
 obtain⟨ba,ho,hp⟩:=h1.mgr.is
 have hxl:=h1.mgr.low x E
 have hnx:=h1.mgr.nx
 obtain⟨kr,xr,q1,q2,q3,q4⟩:=hr.read h2
 have c:=Qg8 (h1.hbl▸h1.pool.log) h1.good.rise q1 q2 q3 q4
 have c0:=ho.at 0 rfl
 have c2:=ho.at 2 rfl
 have G:=hp.look x.txn oM
 rw[Qln E] at G
 obtain⟨v,J,a3⟩:=(h1.mgr.ones x E).is
 have x2:=J.at 2 rfl
 obtain⟨bx,M⟩:=gN (bo x.txn)
 rw[M] at G x2 J
 change _=Result.ok (Value.pointer (some ⟨bx,0,none⟩)) w at G
 obtain⟨H1,H2,H3,H4,H5,O,a4,Hk⟩:=qen h1 h2 h3 h4 h5 c M hk
 clear h1 h2 h3 h4 h5 hp ho c J a3 M h q1 q2 q3 q4 hr hk
 go_enter Tryz.func45,Tryz.ntmps45
 go_wp2_with fail
 refine O.mono ?_
 rintro e w1 ⟨u,τ1,rfl,hu,U⟩
 have a6:=H1.read U
 obtain⟨vb,va,vt,vp,n0,hu,⟨pb,cb,rfl,hb⟩,⟨pa,ca,rfl,ha⟩,a7,a8⟩:=hu
 obtain⟨pt,ct,rfl⟩:=a7.val
 obtain⟨pp,cp,rfl⟩:=a8.val
 subst hu
 obtain⟨nb,ag⟩:=gN r.change.before.length
 obtain⟨na,ai⟩:=gN r.change.after.length
 obtain⟨nt,aj⟩:=gN r.qbm.length
 obtain⟨np,ak⟩:=gN r.pages.length
 have k:=(zS w1 τ1).alloc (.cells #[.int .u8 r.kind,.int .u32 r.txn,.int .u64 r.prev,.int .u64 r.next,.int .u32 r.change.page,.int .u16 r.change.slot,.bool r.change.had,.bool r.change.has,.slice pb nb cb,.slice pa na ca,.slice pt nt ct,.slice pp np cp] 73) tTn
 have d:=Own.born w1 τ1 tTn 73 #[.int .u8 r.kind,.int .u32 r.txn,.int .u64 r.prev,.int .u64 r.next,.int .u32 r.change.page,.int .u16 r.change.slot,.bool r.change.had,.bool r.change.has,.slice pb nb cb,.slice pa na ca,.slice pt nt ct,.slice pp np cp]
 generalize τ1.put w1.heap.size tTn=b at *
 obtain⟨br,Y⟩:=gN w1.heap.size
 rw[Y] at d
 obtain⟨w2,Z⟩:=gN (w1.alloc (.cells #[.int .u8 r.kind,.int .u32 r.txn,.int .u64 r.prev,.int .u64 r.next,.int .u32 r.change.page,.int .u16 r.change.slot,.bool r.change.had,.bool r.change.has,.slice pb nb cb,.slice pa na ca,.slice pt nt ct,.slice pp np cp] 73))
 rw[Z] at d k
 have i:=a6.nil k
 have n:Step w τ w2 b qbj:=(U.mono (T:=qbj) (fun _ h=>.inr h)).trans k.nz
 have j0:=d.at 0 rfl
 obtain⟨v2,a,j⟩:=(i.mgr.ones x E).is
 rw[show bo x.txn=bx from a4.out] at a
 obtain⟨al,am,rfl,-,-⟩:=j.done
 have p:=(i.mgr.ones x E).len
 have q:=(i.mgr.ones x E).size
 unfold qa9.cells at a
 try dsimp only at a
 have m2:=a.at 2 rfl
 have z2:=a.fz 2
 have l:Step w2 b (w2.setCell ⟨bx,2,none⟩ (.int .u64 r.next)) b (fun t=>t=qab x.txn):=(Step.refl w2 b (fun t=>t=qab x.txn)).set (o:=2) a.tag rfl _
 have z:Own (w2.setCell ⟨bx,2,none⟩ (.int .u64 r.next)) b bx (qab x.txn) 108 [.int .u32 x.txn,.int .u64 x.last,.int .u64 r.next,.int .u8 x.state,.int .u64 x.start,.slice al x.ch.length am]:=a.set 2 _
 have B:=j.step l (by simp[qab,qd3])
 have a9:=i.qfz l (x:=x.at_ r.next) (y:=x) E rfl (fun g hg=>.inl hg) (by
  show qel _ _ (bo x.txn) _
  rw[show bo x.txn=bx from a4.out]
  exact⟨⟨_,z,B⟩,p,q⟩)
 have C:=n.trans (l.mono (T:=qbj) (fun g h=>.inl (.inr (.inl (by subst h;simp[Qai,qab])))))
 have j3:=d.at 3 rfl
 have a0:=Qpy w2 r.next x.undo
 rw[if_pos ab] at a0
 rw[show ((r.kind:Nat):Int)=3 by rw[show r.kind=3 from Hk.out];rfl] at j0
 obtain⟨aa,an,ao,ap,aq⟩:=qbq C a9 Z Y a0
 clear C a9 d k i Z Y a0 n l z a j B p q hb ha a7 a8 U a6
 rw[ag,ai,aj,ak]
 go_upto_region 6 with fail
 try rw[ao.out]
 try rw[ap.out]
 go_wp2_with fail
 refine zC aq ?_
 go_wp2_with fail
 go_ret2
 exact⟨rfl,b,aa,⟨⟨H,L,D,F,s,cur,an,H2,H3,H4,H5⟩⟩⟩
theorem Qp7 {w:World}{τ:qa1}{I:Ids}{bo:Nat->Nat}{X:List qa9}{next:Nat}{R:List qak}{V:qbd}{st:Nat}(h:TZ w τ I bo X next R V st) {x:qa9}(E:x∈X) {r:qak}(hr:qdm R x.undo r) (hk:r.kind=1) :
 Calls Tryz.prog 45 #[.pointer (some ⟨I.bm,0,none⟩),.int .u32 x.txn] w fun e w'=>e = .returned (.tuple #[.bool false,.int .u16 0])/\∃a0,Step w τ w' a0 qbj/\TZ w' a0 I bo (qee X (x.at_ 0)) next R V st:=by
 obtain⟨H,L,D,F,s,cur,h1,h2,h3,h4,h5⟩:=h.is
 obtain⟨ba,ho,hp⟩:=h1.mgr.is
 have hxl:=h1.mgr.low x E
 have hnx:=h1.mgr.nx
 obtain⟨kr,xr,q1,q2,q3,q4⟩:=hr.read h2
 have c:=Qg8 (h1.hbl▸h1.pool.log) h1.good.rise q1 q2 q3 q4
 have c0:=ho.at 0 rfl
 have c2:=ho.at 2 rfl
 have G:=hp.look x.txn oM
 rw[Qln E] at G
 obtain⟨v,J,a1⟩:=(h1.mgr.ones x E).is
 have x2:=J.at 2 rfl
 obtain⟨bx,M⟩:=gN (bo x.txn)
 rw[M] at G x2 J
 change _=Result.ok (Value.pointer (some ⟨bx,0,none⟩)) w at G
 obtain⟨H1,H2,H3,H4,H5,O,a2,Hk⟩:=qen h1 h2 h3 h4 h5 c M hk
 clear h1 h2 h3 h4 h5 hp ho c J a1 M h q1 q2 q3 q4 hr hk
 go_enter Tryz.func45,Tryz.ntmps45
 go_wp2_with fail
 refine O.mono ?_
 rintro e w1 ⟨u,τ1,rfl,hu,U⟩
 have a4:=H1.read U
 obtain⟨vb,va,vt,vp,n0,hu,⟨pb,cb,rfl,hb⟩,⟨pa,ca,rfl,ha⟩,a5,a6⟩:=hu
 obtain⟨pt,ct,rfl⟩:=a5.val
 obtain⟨pp,cp,rfl⟩:=a6.val
 subst hu
 obtain⟨nb,ae⟩:=gN r.change.before.length
 obtain⟨na,ag⟩:=gN r.change.after.length
 obtain⟨nt,ah⟩:=gN r.qbm.length
 obtain⟨np,ai⟩:=gN r.pages.length
 have j:=(zS w1 τ1).alloc (.cells #[.int .u8 r.kind,.int .u32 r.txn,.int .u64 r.prev,.int .u64 r.next,.int .u32 r.change.page,.int .u16 r.change.slot,.bool r.change.had,.bool r.change.has,.slice pb nb cb,.slice pa na ca,.slice pt nt ct,.slice pp np cp] 73) tTn
 have k:=Own.born w1 τ1 tTn 73 #[.int .u8 r.kind,.int .u32 r.txn,.int .u64 r.prev,.int .u64 r.next,.int .u32 r.change.page,.int .u16 r.change.slot,.bool r.change.had,.bool r.change.has,.slice pb nb cb,.slice pa na ca,.slice pt nt ct,.slice pp np cp]
 generalize τ1.put w1.heap.size tTn=b at *
 obtain⟨br,Y⟩:=gN w1.heap.size
 rw[Y] at k
 obtain⟨w2,Z⟩:=gN (w1.alloc (.cells #[.int .u8 r.kind,.int .u32 r.txn,.int .u64 r.prev,.int .u64 r.next,.int .u32 r.change.page,.int .u16 r.change.slot,.bool r.change.had,.bool r.change.has,.slice pb nb cb,.slice pa na ca,.slice pt nt ct,.slice pp np cp] 73))
 rw[Z] at k j
 have d:=a4.nil j
 have n:Step w τ w2 b qbj:=(U.mono (T:=qbj) (fun _ h=>.inr h)).trans j.nz
 have j0:=k.at 0 rfl
 obtain⟨v2,a,i⟩:=(d.mgr.ones x E).is
 rw[show bo x.txn=bx from a2.out] at a
 obtain⟨aj,ak,rfl,-,-⟩:=i.done
 have p:=(d.mgr.ones x E).len
 have q:=(d.mgr.ones x E).size
 unfold qa9.cells at a
 try dsimp only at a
 have m2:=a.at 2 rfl
 have z2:=a.fz 2
 have l:Step w2 b (w2.setCell ⟨bx,2,none⟩ (.int .u64 0)) b (fun t=>t=qab x.txn):=(Step.refl w2 b (fun t=>t=qab x.txn)).set (o:=2) a.tag rfl _
 have z:Own (w2.setCell ⟨bx,2,none⟩ (.int .u64 0)) b bx (qab x.txn) 108 [.int .u32 x.txn,.int .u64 x.last,.int .u64 0,.int .u8 x.state,.int .u64 x.start,.slice aj x.ch.length ak]:=a.set 2 _
 have B:=i.step l (by simp[qab,qd3])
 have a8:=d.qfz l (x:=x.at_ 0) (y:=x) E rfl (fun g hg=>.inl hg) (by
  show qel _ _ (bo x.txn) _
  rw[show bo x.txn=bx from a2.out]
  exact⟨⟨_,z,B⟩,p,q⟩)
 have C:=n.trans (l.mono (T:=qbj) (fun g h=>.inl (.inr (.inl (by subst h;simp[Qai,qab])))))
 rw[show ((r.kind:Nat):Int)=1 by rw[show r.kind=1 from Hk.out];rfl] at j0
 obtain⟨a9,al,am,an⟩:=qb9 C a8 Z Y
 clear C a8 k j d Z Y n l z a i B p q hb ha a5 a6 U a4
 rw[ae,ag,ah,ai]
 go_upto_region 6 with fail
 try rw[am.out]
 try rw[an.out]
 go_wp2_with fail
 go_ret2
 exact⟨rfl,b,a9,⟨⟨H,L,D,F,s,cur,al,H2,H3,H4,H5⟩⟩⟩
end Go.Proofs.YtociicnopccppaaGreat
namespace Go.Proofs.YtociicnopccppaaGreat
open Go.RowKit Go.Maps
def qcx (X:List qa9) (k:Nat):List qa9:=X.filter (fun y=>decide (y.txn≠k))
theorem Qpt {X:List qa9}{k:Nat}{y:qa9}:y∈qcx X k↔y∈X/\y.txn≠k:=by
 unfold qcx
 rw[List.mem_filter]
 simp
theorem Qpu (X:List qa9) (k:Nat):qa9.ids (qcx X k)=(qa9.ids X).filter (fun j=>decide (j≠k)):=by
 unfold qa9.ids qcx
 rw[List.filter_map]
 rfl
theorem Qv0 (bo:Nat->Nat) (X:List qa9) (k:Nat):fOf bo (qcx X k)=qeu (fOf bo X) k none:=by
 funext j
 unfold fOf qeu
 rw[Qpu]
 by_cases e:j=k
 ·rw[if_pos e,if_neg (fun h=>by
   have:=(List.mem_filter.1 h).2
   simp[e] at this)]
 ·rw[if_neg e]
  show _=if j∈qa9.ids X then some (bo j) else none
  by_cases a:j∈qa9.ids X
  ·rw[if_pos a,if_pos (List.mem_filter.2 ⟨a,by simpa using e⟩)]
  ·rw[if_neg a,if_neg (fun h=>a (List.mem_filter.1 h).1)]
theorem Qtw (X:List qa9) (x:qa9):qcx (qee X x) x.txn=qcx X x.txn:=by
 induction X with
 | nil=>rfl
 | cons z X ih =>
   unfold qcx qee at *
   rw[X0,List.filter_cons,List.filter_cons,ih]
   by_cases e:z.txn=x.txn
   ·rw[if_pos e];simp[e]
   ·rw[if_neg e]
theorem Jkx {X:List qa9}(hn:(qa9.ids X).Nodup) {x:qa9}(b:x∈X):qci (qcx X x.txn)+x.need=qci X:=by
 induction X with
 | nil=>cases b
 | cons z X ih =>
   have a:z.txn ∉ qa9.ids X/\(qa9.ids X).Nodup:=List.nodup_cons.1 hn
   rcases List.mem_cons.1 b with rfl|b
   ·have h1:qcx (x::X) x.txn=X:=by
     unfold qcx
     rw[List.filter_cons,if_neg sM]
     refine List.filter_eq_self.2 (fun y c=>?_)
     have:y.txn≠x.txn:=fun e=>a.1 (by rw[<-e];exact List.mem_map.2 ⟨y,c,rfl⟩)
     simpa using this
    rw[h1]
    show qci X+x.need=x.need+qci X
    omega
   ·have d:z.txn≠x.txn:=fun e=>a.1 (by rw[e];exact List.mem_map.2 ⟨x,b,rfl⟩)
    have h1:qcx (z::X) x.txn=z::qcx X x.txn:=by
     unfold qcx
     rw[List.filter_cons,if_pos (by simpa using d)]
    rw[h1]
    have:=ih a.2 b
    show z.need+qci (qcx X x.txn)+x.need=z.need+qci X
    omega
theorem qbr.drop {w i:World}{τ e:qa1}{S:Tag->Prop}{bm bl bp:Nat}{bo:Nat->Nat}{X:List qa9}{next:Nat}(h:qbr w τ bm bl bp bo X next) (k:Nat) {j:Nat}(o:Own i e bm qe4 105 [.pointer (some ⟨bl,0,none⟩),.pointer (some ⟨bp,0,none⟩),.map (some j),.int .u32 next]) (p:qg9 i e j qc8 1000 (qeu (fOf bo X) k none)) (m:Step w τ i e S) (r:∀g,S g->g=qc8\/g=qab k\/¬Qai g):qbr i e bm bl bp bo (qcx X k) next:=by
 refine⟨⟨j,o,by rw[Qv0];exact p⟩,fun x l=>?_,?_,fun x l=>h.low x (Qpt.1 l).1,h.nx,Y3 (List.length_filter_le _ _) h.many⟩
 ·obtain⟨n,hx2⟩:=Qpt.1 l
  have no:∀g,Qai g->g≠qc8->g≠qab k->¬S g:=fun g a b c d=>by
   rcases r g d with q|q|q
   ·exact b q
   ·exact c q
   ·exact q a
  exact(h.ones x n).step m (no _ (by simp[Qai,qab]) (by simp[qab,qc8]) (by simp[qab];omega)) (no _ (by simp[Qai,qd3]) (by simp[qd3,qc8]) (by simp[qd3,qab]))
 ·rw[Qpu]
  exact h.nodup.filter _
def Qb6 (k:Nat) (x:qa9):qak:=⟨k,x.txn,x.last,0,noChange,[],[]⟩
theorem Qgg {k:Nat}(x:qa9) (a:k=4\/k=5\/k=6):(encR (Qb6 k x)).length=27:=by
 rw[Qbh]
 rcases a with rfl|rfl|rfl <;> rfl
theorem Qgf {k:Nat}(x:qa9) (a:k=4\/k=5\/k=6):qes (Qb6 k x)=true:=by
 rcases a with rfl|rfl|rfl <;> rfl
theorem Qky {k:Nat}{x:qa9}(a:k=4\/k=5\/k=6) (h1:x.txn<4294967296) (h2:x.last<18446744073709551616):(Qb6 k x).ok :=
 ⟨Qgf x a,by show k≠8;omega,h1,h2,by show 0<18446744073709551616;omega,by show 0<4294967296;omega,by show 0<65536;omega⟩
theorem Qym (w:World) (τ:qa1) {k:Nat}(a:k<256):qh1 w τ (.agg #[.int .u8 k,.int .u32 0,.int .u64 0,.int .u64 0,.int .u32 0,.int .u16 0,.bool false,.bool false,.slice none 0 0,.slice none 0 0,.slice none 0 0,.slice none 0 0]) ⟨k,0,0,0,noChange,[],[]⟩ :=
 ⟨⟨none,0,none,0,none,0,none,0,qay,qay,0,rfl,Bytes.empty _ _ _,Bytes.empty _ _ _,NS.nil _ _ _ _ _ _ _,NS.nil _ _ _ _ _ _ _,by simp[WrT,qay,tWr,tWb],by simp[WrT,qay,tWr,tWb]⟩,a,by show 0<4294967296;omega,by show 0<18446744073709551616;omega,by show 0<18446744073709551616;omega,by show 0<4294967296;omega,by show 0<65536;omega⟩
theorem Jah {w:World}{τ:qa1}{bm bl bp bf bd N:Nat}{bo:Nat->Nat}{X:List qa9}{next:Nat}{H:qaq}{L:qac}{D:Dev}{F:List Fr}{s:Ck.Clk.St}{cur:Nat->List Int}(h:TW w τ bm bl bp bf bd N bo X next H L D F s cur) (c:L.starts.length<=100000) {x:qa9}(O:x∈X) (n:x.last<18446744073709551616) (hcap:L.stream.length+27<=L.strips*127) :
 Calls Tryz.prog 46 #[.pointer (some ⟨bm,0,none⟩),.int .u32 x.txn] w fun e w'=>e = .returned (.int .u16 0)/\∃z,Step w τ w' z qex/\TW w' z bm bl bp bf bd N bo (qcx X x.txn) next H (L.more (encR (Qb6 6 x))) D F s cur:=by
 obtain⟨ba,R,U⟩:=h.mgr.is
 have hxl:=h.mgr.low x O
 have hnx:=h.mgr.nx
 have c2:=R.at 2 rfl
 have B:=U.look x.txn oM
 rw[Qln O] at B
 change _=Result.ok (Value.pointer (some ⟨bo x.txn,0,none⟩)) w at B
 have j:qaw w τ bl bd L:=h.hbl▸h.pool.log
 have a:qak.own ⟨6,0,0,0,noChange,[],[]⟩ x=Qb6 6 x:=rfl
 have b:=Qgg x (k:=6) oM
 have o:=Qe2 h.mgr j O c (Qym w τ (k:=6) oM) (Qgf x (k:=6) oM) (by rw[a,b];omega) (by show (6:Nat)≠8;omega) n 0 (by rw[a,b];omega)
 rw[a] at o
 obtain⟨Hp,Ho,Y,C,l⟩:=qbq U R o h b
 clear U R o h j a b
 go_enter Tryz.func46,Tryz.ntmps46
 go_wp2_with fail
 refine Y.mono ?_
 rintro e w1 ⟨rfl,τ1,E,Z,d⟩
 have p:=Ho.step d (by simp[qai,qe4,qb1,qa5,qa6,qab])
 have G:=Hp.step d (by simp[qai,qc8,qb1,qa5,qa6,qab])
 have d2:=p.at 2 rfl
 obtain⟨w2,hrun,I,r⟩:=G.drop x.txn oM 0
 have J:=p.step r (by simp[qe4,qc8])
 obtain⟨a0,a1,a2,a3,M⟩:=qbq d E J I r
 clear p G d E J I r Z
 go_wp2_with fail
 go_ret
 have y:=(a0.mono (T:=fun g=>qai g\/g=qab x.txn\/g=qc8) (fun g h=>h.imp id .inl)).trans (M.mono (T:=fun g=>qai g\/g=qab x.txn\/g=qc8) (fun g h=>.inr (.inr h)))
 have a4:∀g,qai g->¬Qai g:=fun g i=>(Qi3 (.inr (.inl i))).1
 have a5:=C.mgr.drop x.txn a2 a3 y (fun g i=>by
  rcases i with q|q|q
  ·exact .inr (.inr (a4 g q))
  ·exact .inr (.inl q)
  ·exact .inl q)
 have a6:=a1.step M (fun g i q=>by subst q;rcases i with h|h|h <;> simp[qb1,qa5,qa6,qc8] at h)
 have a7:=C.logged y (fun g i=>by
  rcases i with q|q|q
  ·exact .inl q
  ·exact .inr (by subst q;simp[Qai,qab])
  ·exact .inr (by subst q;simp[Qai,qc8])) a6 (by rw[l.out];omega) (by rw[l.out];omega) a5
 refine⟨rfl,τ1,y.mono (fun g i=>?_),a7⟩
 rcases i with q|q|q
 ·exact .inl (.inr (.inl q))
 ·exact .inr (.inl (by subst q;simp[Qai,qab]))
 ·exact .inr (.inl (by subst q;simp[Qai,qc8]))
theorem Jag {w:World}{τ:qa1}{I:Ids}{bo:Nat->Nat}{X:List qa9}{next:Nat}{R:List qak}{V:qbd}{st:Nat}(h:TZ w τ I bo X next R V st) {x:qa9}(i:x∈X) (hlast:x.last<=1+(qae R).length) (b:(qae R).length+27<=I.S*127) :
 Calls Tryz.prog 46 #[.pointer (some ⟨I.bm,0,none⟩),.int .u32 x.txn] w fun e c=>e = .returned (.int .u16 0)/\∃a,Step w τ c a qbj/\TZ c a I bo (qcx X x.txn) next (R++[Qb6 6 x]) V st:=by
 obtain⟨H,L,D,F,s,cur,h1,h2,j,k,l⟩:=h.is
 have hlen:=h.len
 have hrl:=Qfk R
 have hxl:=h1.mgr.low x i
 have hnx:=h1.mgr.nx
 refine(Jah h1 (by rw[h2.starts,Qbc];omega) i oM (by rw[h2.stream,j];exact b)).mono ?_
 rintro e c ⟨rfl,a,d,g⟩
 exact⟨rfl,a,d.mono (fun _ h=>.inl h),⟨⟨H,_,D,F,s,cur,g,h2.more (Qky oM oM oM) (qas.refl _),j,k,l⟩⟩⟩
theorem TZ.view {w:World}{τ:qa1}{I:Ids}{bo:Nat->Nat}{X:List qa9}{next:Nat}{R:List qak}{V U:qbd}{st:Nat}(h:TZ w τ I bo X next R V st) (hv:∀p t,V p t=U p t):TZ w τ I bo X next R U st:=by
 obtain⟨H,L,D,F,s,cur,h1,h2,b,c,a⟩:=h.is
 exact⟨⟨H,L,D,F,s,cur,h1,h2,b,c,fun n hn=>⟨(a n hn).1,fun t=>((a n hn).2 t).trans (hv n t)⟩⟩⟩
theorem TW.wrote {w i:World}{τ a:qa1}{S:Tag->Prop}{bm bl bp bf bd N:Nat}{bo:Nat->Nat}{X:List qa9}{next:Nat}{H:qaq}{L:qac}{D:Dev}{F:List Fr}{s:Ck.Clk.St}{cur:Nat->List Int}(h:TW w τ bm bl bp bf bd N bo X next H L D F s cur) (m:Step w τ i a S) {x y:qa9}(k:∀g,S g->qai g\/g=qab x.txn\/g=qd3 x.txn) {b:List Int}(hl:qaw i a bl bd (L.more b)) (l:0<b.length) (c:L.stream.length+b.length<=127*L.strips) (n:y∈X) (e:y.txn=x.txn) (o:qel i a (bo x.txn) x):TW i a bm bl bp bf bd N bo (qee X x) next H (L.more b) D F s cur:=by
 have j:∀g,qai g->¬Qai g:=fun g d=>(Qi3 (.inr (.inl d))).1
 refine h.logged m (fun g d=>?_) hl l c (h.mgr.qfz m n e (fun g d p=>(k g p).elim (fun q=>absurd d (j g q)) id) o)
 rcases k g d with q|q|q
 ·exact .inl q
 ·exact .inr (by subst q;simp[Qai,qab])
 ·exact .inr (by subst q;simp[Qai,qd3])
def Qfu (w:World) (b o:Nat):Nat:=match w.cell? ⟨b,o,none⟩ with
 | some (.int _ n)=>n.toNat
 | _=>0
theorem Qfe {w:World}{b o n:Nat}{k:IntKind}(h:w.cell? ⟨b,o,none⟩=some (.int k (n:Int))):Qfu w b o=n:=by
 unfold Qfu
 rw[h]
 exact Int.toNat_natCast n
theorem TZ.qgr {w:World}{τ:qa1}{I:Ids}{bo:Nat->Nat}{X:List qa9}{next:Nat}{R:List qak}{V:qbd}{st:Nat}(h:TZ w τ I bo X next R V st) {x:qa9}(a:x∈X):w.cell? ⟨bo x.txn,2,none⟩=some (.int .u64 x.undo):=by
 obtain⟨v,b,-⟩:=(h.mgr.ones x a).is
 exact b.at 2 rfl
structure AbI (w:World) (τ:qa1) (I:Ids) (bo:Nat->Nat) (X:List qa9) (next:Nat) (R:List qak) (V:qbd) (st:Nat) (x:qa9) (l:List (Nat×qa7)) (wr:World) (τr:qa1) (T:List qak) (y:qa9) (l':List (Nat×qa7)) (V':qbd) (st':Nat):Prop where
 step:Step w τ wr τr qbj
 tz:TZ wr τr I bo (qee X y) next (R++T) V' st'
 txn:y.txn=x.txn
 trail:Trail (R++T) y.undo l'
 ch:y.ch=qh0 l'
 ok:∀z∈l',qed I.N z.2
 last:y.last<=1+(qae (R++T)).length
 room:(qae (R++T)).length+Qbf l'<=(qae R).length+27+Qbf l
 view:∀p t,qj6 V' l' p t=qj6 V l p t
 st:st'+l'.length<=st+l.length
 kinds:∀q∈T,(q.kind=3\/q.kind=5)/\q.txn=x.txn
def Jbd (w:World) (τ:qa1) (I:Ids) (bo:Nat->Nat) (X:List qa9) (next:Nat) (R:List qak) (V:qbd) (st:Nat) (x:qa9) (l:List (Nat×qa7)) (e:Ending) (w':World):Prop :=
 e = .returned (.int .u16 0)/\∃τ' T,Step w τ w' τ' qbj/\TZ w' τ' I bo (qcx X x.txn) next (R++T) (qj6 V l) (st+l.length)/\(qae (R++T)).length<=(qae R).length+54+Qbf l/\∃T' q,T=T'++[q]/\(∀q∈T',(q.kind=3\/q.kind=5)/\q.txn=x.txn)/\q.kind=6/\q.txn=x.txn
theorem Qb0 (R:List qak) (r:qak):(qae (R++[r])).length=(qae R).length+(encR r).length:=by rw[Qmo,Z6]
theorem AbI.chg {w wr j:World}{τ g a:qa1}{I:Ids}{bo:Nat->Nat}{X:List qa9}{next:Nat}{R:List qak}{V:qbd}{st:Nat}{x:qa9}{l:List (Nat×qa7)}{T:List qak}{y:qa9}{c:List (Nat×qa7)}{k:qbd}{b:Nat}{r:qak}(h:AbI w τ I bo X next R V st x l wr g T y ((y.undo,r.change)::c) k b) (hp:r.prev<y.undo) (p:Trail (R++T) r.prev c)
 (s:Step wr g j a qbj) (i:TZ j a I bo (qee (qee X y) (y.undone (1+(qae (R++T)).length) r.prev (qh0 c))) next (R++T++[Qed r.change y r.prev]) (qjj k r.change.page r.change.slot r.change.before) (b+1)) :
 AbI w τ I bo X next R V st x l j a (T++[Qed r.change y r.prev]) (y.undone (1+(qae (R++T)).length) r.prev (qh0 c)) c (qjj k r.change.page r.change.slot r.change.before) (b+1):=by
 have hl:=Qif r.change y r.prev
 have d:=Qb0 (R++T) (Qed r.change y r.prev)
 rw[hl] at d
 rw[Y9] at i d
 rw[Qgd X (show y.txn=(y.undone (1+(qae (R++T)).length) r.prev (qh0 c)).txn from rfl)] at i
 have o:=h.room
 rw[Qcy] at o
 have hsz:36<=Qak r.change:=by unfold Qak;omega
 have n:=h.st
 rw[Y4] at n
 refine⟨h.step.trans s,i,h.txn,?_,rfl,fun z i=>h.ok z (Y2 _ i),?_,?_,h.view,oM,fun q d=>(List.mem_append.1 d).elim (h.kinds q) (fun e=>by rw[Y8 e];exact⟨.inl rfl,h.txn⟩)⟩
 ·have:=p.app [Qed r.change y r.prev]
  rw[Y9] at this
  exact this
 ·show 1+(qae (R++T)).length<=_
  rw[d];omega
 ·dsimp only at o
  rw[d];omega
theorem Qww {w:World}{τ:qa1}{I:Ids}{bo:Nat->Nat}{X:List qa9}{next:Nat}{R:List qak}{V:qbd}{st:Nat}(h:TZ w τ I bo X next R V st) {x:qa9}(hx:x∈X) (hs:x.state=1) {l:List (Nat×qa7)}(ht:Trail R x.undo l) (ao:x.ch=qh0 l) (ap:∀z∈l,qed I.N z.2) (hlast:x.last<=1+(qae R).length) (hcap:(qae R).length+54+Qbf l<=I.S*127) (hst:st+l.length<=1000000) (hN:I.N<=512) :
 Calls Tryz.prog 12 #[.pointer (some ⟨I.bm,0,none⟩),.int .u32 x.txn] w (Jbd w τ I bo X next R V st x l):=by
 obtain⟨H,L,D,F,s,cur,h1,h2,h3,h4,h5⟩:=h.is
 have hlen:=h.len
 have hrl:=Qfk R
 have hxl:=h1.mgr.low x hx
 have hnx:=h1.mgr.nx
 have E:=Qju h1.mgr hx hs x.txn rfl oM
 have ad:qaw w τ I.bl I.bd L:=h1.hbl▸h1.pool.log
 have M:qak.own ⟨5,0,0,0,noChange,[],[]⟩ x=Qb6 5 x:=rfl
 have O:=Qgg x (k:=5) oM
 have a7:=Qe2 h1.mgr ad hx (by rw[h2.starts,Qbc];omega) (Qym w τ (k:=5) oM) (Qgf x (k:=5) oM) (by rw[M,O];omega) (by show (5:Nat)≠8;omega) (oM) 0 (by rw[M,O,h2.stream,h3];omega)
 rw[M] at a7
 obtain⟨bx,ah⟩:=gN (bo x.txn)
 rw[ah] at a7 E
 obtain⟨H1,H2,H3,H4,H5,bc,Z,Hr,be,bf,Ht,a8⟩:=qds h1 h2 h3 h4 h5 a7 O E ap ao ht ah
 clear h1 h2 h3 h4 h5 a7 h ad M O E ap ao ht ah
 go_enter Tryz.func12,Tryz.ntmps12
 go_wp2_with fail
 refine Hr.mono ?_
 rintro e w1 ⟨rfl,rfl⟩
 go_wp2_with fail
 refine bc.mono ?_
 rintro e w1 ⟨rfl,τ1,aq,a9,ar⟩
 obtain⟨v,G,a0⟩:=a9.is
 unfold qa9.cells at G
 dsimp only at G a0
 have e3:=G.at 3 rfl
 have z3:=G.fz 3
 have aa:Step w1 τ1 (w1.setCell ⟨bx,3,none⟩ (.int .u8 3)) τ1 (fun t=>t=qab x.txn):=(Step.refl w1 τ1 (fun t=>t=qab x.txn)).set (o:=3) G.tag rfl _
 have af:=G.set 3 (.int .u8 3)
 have ag:=a0.step aa (by simp[qab,qd3])
 have av:qel (w1.setCell ⟨bx,3,none⟩ (.int .u8 3)) τ1 bx {x with last:=L.base+L.stream.length,state:=3}:=⟨⟨v,af,ag⟩,a9.len,a9.size⟩
 have aw:=aq.step aa (fun g hg q=>by subst q;rcases hg with h|h|h <;> simp[qb1,qa5,qa6,qab] at h)
 have a1:=ar.trans (aa.mono (T:=fun t=>qai t\/t=qab x.txn) (fun _ h=>.inr h))
 have ay:=H1.wrote a1 (x:={x with last:=L.base+L.stream.length,state:=3}) (y:=x) (fun g hg=>hg.imp id .inl) aw (by rw[Z.out];omega) (by rw[Z.out,H2.stream,H3.out];omega) hx rfl (by rw[a8.out];exact av)
 have az:TZ (w1.setCell ⟨bx,3,none⟩ (.int .u8 3)) τ1 I bo (qee X {x with last:=L.base+L.stream.length,state:=3}) next (R++[Qb6 5 x]) V st:=⟨⟨H,_,D,F,s,cur,ay,H2.more (Qky oM oM oM) (qas.refl _),H3,H4,H5⟩⟩
 have b0:AbI w τ I bo X next R V st x l (w1.setCell ⟨bx,3,none⟩ (.int .u8 3)) τ1 [Qb6 5 x] {x with last:=L.base+L.stream.length,state:=3} l V st:=by
  have hq:=Qb0 R (Qb6 5 x)
  rw[Z.out] at hq
  refine⟨a1.mono (fun g hg=>.inl ?_),az,rfl,Ht.mono _,bf,be,?_,by rw[hq];omega,fun _ _=>rfl,Z0 _,fun q hq=>by rw[Y8 hq];exact⟨.inr rfl,rfl⟩⟩
  ·rcases hg with q|q
   ·exact .inl (.inr (.inl q))
   ·exact .inr (.inl (by subst q;simp[Qai,qab]))
  ·show L.base+L.stream.length<=_
   rw[hq,H2.base,H2.stream];omega
 have bg:=Z2 b0
 clear b0 aq a9 ar G a0 aa af ag av aw a1 ay az
 go_wp2_with fail
 generalize w1.setCell ⟨bx,3,none⟩ (.int .u8 3)=w2 at *
 go_loopw [4] (fun a wr=>a = .int .u16 0/\∃b1 T y l' V' ai,AbI w τ I bo X next R V st x l wr b1 T y l' V' ai) (fun _ wr=>Qfu wr bx 2)
 case atStart=>exact⟨rfl,τ1,_,_,_,_,_,bg⟩
 case round =>
  obtain⟨rfl,b1,T,y,l',V',ai,hi⟩:=hrel
  have hy:=Qge hx (x:=y) hi.txn.symm
  have i:=hi.txn
  have c:=hi.tz.qgr hy
  rw[i,show bo x.txn=bx from a8.out] at c
  have n:Qfu wr bx 2=y.undo:=Qfe c
  rcases hi.trail.inv with ⟨r,E,hk,rfl⟩|⟨r,l2,E,hk,hp,a2,rfl⟩|⟨r,E,hk,hp,a2⟩
  ·have b:=Qp7 hi.tz hy E hk
   rw[i] at b
   obtain⟨p,j,B,Hr,U⟩:=qbq hi i b E n
   clear hi hy i b E n c
   go_wp2_with fail
   refine B.mono ?_
   rintro e w3 ⟨rfl,a3,C,d⟩
   rw[Qgd X (show y.txn=(y.at_ 0).txn from rfl)] at d
   have hq:=p.room
   have a4:=Jag d (Qge hx (x:=y.at_ 0) j.symm) p.last (by
    have h0:Qbf ([]:List (Nat×qa7))=0:=rfl
    rw[h0] at hq;omega)
   rw[show (y.at_ 0).txn=x.txn from j.out] at a4
   obtain⟨b4,bj,Hq⟩:=qan a4 C hq
   clear a4 C d hq
   go_wp2_with fail
   refine b4.mono ?_
   rintro e w4 ⟨rfl,bk,bn,b5⟩
   go_wp2_with fail
   go_ret
   have b6:=Qtw X (y.at_ 0)
   rw[show (y.at_ 0).txn=x.txn from j.out] at b6
   rw[b6,Y9] at b5
   have b7:=Qb0 (R++T) (Qb6 6 (y.at_ 0))
   rw[Qgg _ oM,Y9] at b7
   have h0:Qbf ([]:List (Nat×qa7))=0:=rfl
   have bp:=Hq.out
   rw[h0] at bp
   have a5:=p.st
   rw[List.length_nil] at a5
   exact⟨rfl,bk,T++[Qb6 6 (y.at_ 0)],(p.step.trans bj).trans bn,(b5.view p.view).le oM,by rw[b7];omega,T,Qb6 6 (y.at_ 0),rfl,p.kinds,rfl,j⟩
  ·have a5:=hi.st
   rw[Y4] at a5
   have b8:=hi.room
   rw[Qcy] at b8
   dsimp only at b8
   have b:=Qke hi.tz hy E oM hN hk hp (hi.ok (y.undo,r.change) sM) hi.last (l1:=qh0 l2) (sz:=Qak r.change) (by rw[hi.ch,Qh9]) (fun z hz=>by
    obtain⟨u,hu,rfl⟩:=Qj1 hz
    have:=hi.trail.tail u hu
    show u.1≠y.undo
    dsimp only at this
    omega) oM
   rw[i] at b
   obtain⟨p,j,B,Hr,U,ak⟩:=qcq hi i b E n a2
   clear hi hy i b E n a2 c
   go_wp2_with fail
   refine B.mono ?_
   rintro e w3 ⟨rfl,a3,C,d⟩
   have Y:=p.chg hp ak C d
   have J:=Y.tz.qgr (Qge hx (x:=y.undone (1+(qae (R++T)).length) r.prev (qh0 l2)) j.symm)
   rw[show (y.undone (1+(qae (R++T)).length) r.prev (qh0 l2)).txn=x.txn from j.out,show bo x.txn=bx from a8.out] at J
   have a6:Qfu w3 bx 2=r.prev:=Qfe J
   obtain⟨al,am⟩:=qaj Y a6
   clear Y a6 J C d
   go_wp2_with fail
   go_round
   case rel=>exact⟨rfl,a3,_,_,_,_,_,al⟩
   case measure=>rw[am.out,U.out];exact hp
  ·have b:=Qp6 hi.tz hy E hk hp
   rw[i] at b
   obtain⟨p,j,B,Hr,U,ak⟩:=qcq hi i b E n a2
   clear hi hy i b E n a2 c
   go_wp2_with fail
   refine B.mono ?_
   rintro e w3 ⟨rfl,a3,C,d⟩
   rw[Qgd X (show y.txn=(y.at_ r.next).txn from rfl)] at d
   have Y:AbI w τ I bo X next R V st x l w3 a3 T (y.at_ r.next) l' V' ai:=⟨p.step.trans C,d,p.txn,ak,p.ch,p.ok,p.last,p.room,p.view,p.st,p.kinds⟩
   have J:=d.qgr (Qge hx (x:=y.at_ r.next) j.symm)
   rw[show (y.at_ r.next).txn=x.txn from j.out,show bo x.txn=bx from a8.out] at J
   have a6:Qfu w3 bx 2=r.next:=Qfe J
   obtain⟨al,am⟩:=qaj Y a6
   clear Y a6 J C d
   go_wp2_with fail
   go_round
   case rel=>exact⟨rfl,a3,_,_,_,_,_,al⟩
   case measure=>rw[am.out,U.out];exact hp
theorem Good.flush {N st:Nat}{L:qac}{D:Dev}{F:List Fr}{cur:Nat->List Int}(h:Good N st L D F cur) (k:Nat):Good N st (flL L k) (flD L D k) F cur:=by
 obtain⟨c,j,l,i,o⟩:=Qjz L k
 have d:=(Qlm L k).1
 have a:=Qyt L D k
 have b:=fun n=>Qxy h.rise h.calm h.cap h.f0 k n
 refine⟨Qsl h.calm k,by rw[a.1];exact h.f1,by rw[a.2,i,o];exact h.f0,by rw[j,i];exact h.cap,Qz0 h.rise h.lasts k,Qxx h.rise k,by rw[c];exact h.base,fun n hn=>?_,fun n hn=>?_,h.frame,h.none,h.one,by rw[b];exact h.spare,h.qgv.fl h.rise h.calm.left h.f0 h.cap k⟩
 ·obtain⟨p,q,e⟩:=h.page n hn
  refine⟨p,q,?_⟩
  rcases e with e|⟨x,r,g⟩
  ·exact .inl e
  ·exact .inr ⟨x,by rw[l];exact r,by rw[c];exact g⟩
 ·obtain⟨Q,s,w⟩:=h.home n hn
  exact⟨Q,s.flush (Z0 _) c d (b n),w⟩
theorem Jco {t:Tag}(h:qbc t):¬qb3 t/\¬Qai t:=by
 refine⟨fun q=>?_,fun q=>(Qi3 (.inr h)).1 q⟩
 rcases h with h|h
 ·exact Qbo h q
 ·exact Qbg q |>.1 h
theorem Jcl {w:World}{τ:qa1}{bm bl bp bf bd N:Nat}{bo:Nat->Nat}{X:List qa9}{next:Nat}{H:qaq}{L:qac}{D:Dev}{F:List Fr}{s:Ck.Clk.St}{cur:Nat->List Int}(h:TW w τ bm bl bp bf bd N bo X next H L D F s cur) (lsn:Nat) (d:lsn<18446744073709551616) :
 Calls Tryz.prog 16 #[.pointer (some ⟨bl,0,none⟩),.int .u64 lsn] w fun e i=>e = .returned (.tuple #[])/\∃a k fl,L.AtR lsn k fl/\Step w τ i a qbc/\TW i a bm bl bp bf bd N bo X next H (flL L (k+(if fl=true then 1 else 0))) (flD L D (k+(if fl=true then 1 else 0))) F s cur:=by
 have c:qaw w τ bl bd L:=h.hbl▸h.pool.log
 refine(Qor c h.pool.dev h.good.rise h.good.cap h.good.f0 (h.good.calm.lim 700000) lsn d).mono ?_
 rintro e i ⟨rfl,k,fl,j,a,l,n,b⟩
 exact⟨rfl,a,k,fl,j,b,⟨⟨h.pool.pool.step b (fun g o p=>(Jco p).1 o),by rw[h.hbl];exact l,n⟩,h.mgr.step b (fun g o p=>(Jco p).2 o),h.good.flush _,h.clock,h.hn,h.hbl⟩⟩
structure TZl (w:World) (τ:qa1) (I:Ids) (bo:Nat->Nat) (X:List qa9) (next:Nat) (R:List qak) (V:qbd) (st lo:Nat):Prop where
 is:∃H L D F s cur,TW w τ I.bm I.bl I.bp I.bf I.bd I.N bo X next H L D F s cur/\qca I.N cur L R/\L.strips=I.S/\H.st<=st/\(∀n,n<I.N->Small (cur n)/\∀t,qb7 (cur n) t=V n t)/\lo<L.base+L.lasts
theorem TZl.tz {w:World}{τ:qa1}{I:Ids}{bo:Nat->Nat}{X:List qa9}{next:Nat}{R:List qak}{V:qbd}{st lo:Nat}(h:TZl w τ I bo X next R V st lo):TZ w τ I bo X next R V st:=by
 obtain⟨H,L,D,F,s,cur,h1,h2,a,b,c,-⟩:=h.is
 exact⟨⟨H,L,D,F,s,cur,h1,h2,a,b,c⟩⟩
theorem Jcj {w:World}{τ:qa1}{I:Ids}{bo:Nat->Nat}{X:List qa9}{next:Nat}{R:List qak}{V:qbd}{st:Nat}(h:TZ w τ I bo X next R V st) {x:qa9}(M:x∈X) (hs:x.state=1) (hlast:x.last<=1+(qae R).length) (hcap:(qae R).length+54<=I.S*127) :
 Calls Tryz.prog 34 #[.pointer (some ⟨I.bm,0,none⟩),.int .u32 x.txn] w fun e w'=>e = .returned (.int .u16 0)/\∃O,Step w τ w' O qbj/\TZl w' O I bo (qcx X x.txn) next (R++[Qb6 4 x]++[Qb6 6 {x with last:=1+(qae R).length}]) V st (1+(qae R).length):=by
 obtain⟨H,L,D,F,s,cur,h1,h2,h3,h4,h5⟩:=h.is
 have hlen:=h.len
 have hrl:=Qfk R
 have hxl:=h1.mgr.low x M
 have hnx:=h1.mgr.nx
 have hr:=Qju h1.mgr M hs x.txn rfl oM
 have B:qaw w τ I.bl I.bd L:=h1.hbl▸h1.pool.log
 have b:qak.own ⟨4,0,0,0,noChange,[],[]⟩ x=Qb6 4 x:=rfl
 have c:=Qgg x (k:=4) oM
 have r:=Qe2 h1.mgr B M (by rw[h2.starts,Qbc];omega) (Qym w τ (k:=4) oM) (Qgf x (k:=4) oM) (by rw[b,c];omega) (by show (4:Nat)≠8;omega) (oM) 0 (by rw[b,c,h2.stream,h3];omega)
 rw[b] at r
 obtain⟨lsn,d⟩:=gN (L.base+L.stream.length)
 rw[d] at r
 obtain⟨ba,ho,-⟩:=h1.mgr.is
 obtain⟨H1,J,H3,H4,H5,ab,i,Hr,j,Ho⟩:=qhe h1 h2 h3 h4 h5 r c hr d ho
 clear h1 h2 h3 h4 h5 r h B b c hr d ho
 go_enter Tryz.func34,Tryz.ntmps34
 go_wp2_with fail
 refine Hr.mono ?_
 rintro e w1 ⟨rfl,rfl⟩
 go_wp2_with fail
 refine ab.mono ?_
 rintro e w1 ⟨rfl,τ1,U,Y,z⟩
 have C:=H1.wrote z (x:={x with last:=lsn}) (y:=x) (fun g hg=>hg.imp id .inl) U (by rw[i.out];omega) (by rw[i.out,J.stream,H3.out];omega) M rfl Y
 have l:lsn<18446744073709551616:=by rw[<-j.out,J.base,J.stream];omega
 have Z:=Jcl C lsn l
 have a0:=Ho.step z (by simp[qai,qe4,qb1,qa5,qa6,qab])
 have d0:=a0.at 0 rfl
 obtain⟨ac,ad,ae⟩:=qan C z Z
 clear C z Z a0 U Y
 go_wp2_with fail
 refine ae.mono ?_
 rintro e w2 ⟨rfl,τ2,k,fl,a1,a2,a3⟩
 have a:qca I.N cur (L.more (encR (Qb6 4 x))) (R++[Qb6 4 x]):=J.more (Qky oM oM oM) (qas.refl _)
 have n:=Qtr ac.good.rise a1 ⟨L.stream.length,by show _∈L.starts++[L.stream.length];simp,by show lsn=L.base+L.stream.length;exact j.symm⟩
 have hrl2:=Qfk (R++[Qb6 4 x])
 have hq:=Qb0 R (Qb6 4 x)
 rw[i.out] at hq
 obtain⟨e1,e2,e3,e4,e5⟩:=Qjz (L.more (encR (Qb6 4 x))) (k+(if fl=true then 1 else 0))
 have o:qca I.N cur (flL (L.more (encR (Qb6 4 x))) (k+(if fl=true then 1 else 0))) (R++[Qb6 4 x]):=a.same (qas.flush _ _)
 have p:=Jah a3 (by rw[e3,a.starts,Qbc];omega) (Qge M (x:={x with last:=lsn}) rfl) l (by rw[e2,e4,a.stream,hq];show _<=L.strips*127;rw[H3.out];omega)
 rw[show (qa9.txn {x with last:=lsn})=x.txn from rfl] at p
 obtain⟨a4,E,G,ah,a5,a6⟩:=qcq p o n a2 e1 e4
 clear p o n a2 hq e1 e4 a3 a1 a e2 e3 e5
 go_wp2_with fail
 refine a4.mono ?_
 rintro e w3 ⟨rfl,ai,aj,a7⟩
 go_wp2_with fail
 go_ret
 have a8:=Qtw X {x with last:=lsn}
 rw[show (qa9.txn {x with last:=lsn})=x.txn from rfl] at a8
 rw[a8] at a7
 have ak:lsn=1+(qae R).length:=by rw[<-j.out,J.base,J.stream]
 subst ak
 refine⟨rfl,ai,?_,⟨⟨H,_,_,F,s,cur,a7,E.more (Qky oM (by show x.txn<_;omega) l) (qas.refl _),?_,H4,H5,?_⟩⟩⟩
 ·refine((ad.mono (T:=qbj) (fun g h=>.inl ?_)).trans (ah.mono (T:=qbj) (fun g h=>.inl (.inl (.inr h))))).trans (aj.mono (fun _ h=>.inl h))
  rcases h with q|q
  ·exact .inl (.inr (.inl q))
  ·exact .inr (.inl (by subst q;simp[Qai,qab]))
 ·show (flL _ _).strips=_
  rw[a6.out];exact H3
 ·show _<(flL _ _).base+(flL _ _).lasts
  rw[a5.out]
  exact G
theorem Jht {F:List Fr}{s:Ck.Clk.St}(h:Clock F s) {i:Nat}{f:Fr}(d:F[i]?=some f) (a:Nat):Clock (F.set i {f with first:=a}) s:=by
 have b:=(Z4 d).1
 refine⟨by rw[Y1];exact h.n,h.h,h.n64,fun j g e=>?_,h.p⟩
 rcases qce b e with ⟨rfl,rfl⟩|⟨_,c⟩
 ·exact h.t _ f d
 ·exact h.t j g c
def Jl8 (w:World) (τ:qa1) (bm bl bp bf bd N:Nat) (bo:Nat->Nat) (X:List qa9) (next:Nat) (H:qaq) (L:qac) (F:List Fr) (s:Ck.Clk.St) (cur:Nat->List Int) (n:Nat) (e:Ending) (w':World):Prop :=
 (e = .returned (.bool false)/\w=w'/\∀(i:Nat) (f:Fr),F[i]?=some f->f.has n=true->f.first=0) \/
 ∃τ' H' L' D' i f,e = .returned (.bool true)/\F[i]?=some f/\f.has n=true/\TW w' τ' bm bl bp bf bd N bo X next H' L' D' (F.set i {f with first:=0}) s cur/\qas L L'/\H'.st=H.st+1/\Step w τ w' τ' qbe
theorem Jkr {w:World}{τ:qa1}{bm bl bp bf bd N:Nat}{bo:Nat->Nat}{X:List qa9}{next:Nat}{H:qaq}{L:qac}{D:Dev}{F:List Fr}{s:Ck.Clk.St}{cur:Nat->List Int}(h1:TW w τ bm bl bp bf bd N bo X next H L D F s cur) (hst:H.st<=1000000) (n:Nat) (d:n<4294967296) :
 Calls Tryz.prog 37 #[.pointer (some ⟨bp,0,none⟩),.int .u32 n] w (Jl8 w τ bm bl bp bf bd N bo X next H L F s cur n):=by
 have o:=h1.pool
 have c:=h1.good
 cases p:Qaq F n with
 | none =>
   refine zC (Jaa o.pool n d p) ?_
   refine .inl ⟨rfl,rfl,fun i f a hh=>?_⟩
   have:=(Qa6 o.pool.one n i).2 ⟨f,a,hh⟩
   rw[p] at this;cases this
 | some i =>
   obtain⟨f,a,hh⟩:=(Qa6 o.pool.one n i).1 p
   by_cases h0:f.first=0
   ·refine zC (Qyy o.pool n d p a h0) ?_
    refine .inl ⟨rfl,rfl,fun j g h z=>?_⟩
    have I:=o.pool.one j i n g f h a z hh
    subst I
    rw[a] at h
    cases h
    exact h0
   ·obtain⟨b,P,k,l⟩:=Qd7.1 hh
    have q:0<f.first:=oM
    obtain⟨B,J,_⟩:=c.frame i f b P a k
    have hn:n<N:=by rw[<-l];exact B
    have r:Sound P:=by rw[J,l];exact(c.page n hn).1
    refine(Qyx o c.rise c.cap c.f0 (by rw[c.f1,h1.hn];omega) (c.calm.lim _) oM n d p a k (by rw[l,h1.hn];exact hn) q rfl (Qtd r)).mono ?_
    rintro e w' ⟨rfl,kk,fl,C,E,x,y⟩
    obtain⟨G,-,-⟩:=c.write a k q E
    rw[h1.hn] at x
    exact .inr ⟨C,_,_,_,i,f,rfl,a,hh,⟨x,h1.mgr.step y (fun t M O=>(Qi3 O).1 M),G,Jht h1.clock a 0,rfl,h1.hbl⟩,qas.flush L _,rfl,y⟩
def Jiy (w:World) (τ:qa1) (I:Ids) (bo:Nat->Nat) (X:List qa9) (next:Nat) (R:List qak) (V:qbd) (st:Nat) (e:Ending) (w':World):Prop :=
 ∃(v:Bool) (τ':qa1),e = .returned (.bool v)/\Step w τ w' τ' qbj/\TZ w' τ' I bo X next R V (st+1)
theorem Jh9 {w:World}{τ:qa1}{I:Ids}{bo:Nat->Nat}{X:List qa9}{next:Nat}{R:List qak}{V:qbd}{st:Nat}(h:TZ w τ I bo X next R V st) (hst:st<=1000000) (n:Nat) (b:n<4294967296) :
 Calls Tryz.prog 37 #[.pointer (some ⟨I.bp,0,none⟩),.int .u32 n] w (Jiy w τ I bo X next R V st):=by
 have g:=h
 obtain⟨H,L,D,F,s,cur,h1,h2,j,h4,k⟩:=h.is
 refine(Jkr h1 oM n b).mono ?_
 rintro e w' (⟨rfl,rfl,-⟩|⟨c,l,o,p,i,f,rfl,-,-,q,a,hst',d⟩)
 ·exact⟨false,τ,rfl,Step.refl _ _ _,g.le oM⟩
 ·exact⟨true,c,rfl,d.mono (fun _ h=>.inl (.inl h)),⟨⟨l,o,p,_,s,cur,q,h2.same a,a.strips.trans j,oM,k⟩⟩⟩
def qdy (F:List Fr) (l:List (Nat×Nat)):Prop:=∀(i:Nat) (f:Fr),F[i]?=some f->0<f.first->(f.n,f.first)∈l
theorem Jeb (F:List Fr):qdy F (Qyu F):=fun i f a h0=>by
 unfold Qyu Qfs
 rw[List.take_length]
 exact List.mem_map.2 ⟨f,List.mem_filter.2 ⟨List.mem_of_getElem? a,decide_eq_true h0⟩,rfl⟩
theorem Jfv {N st:Nat}{L:qac}{D:Dev}{F:List Fr}{cur:Nat->List Int}(g:Good N st L D F cur):∀x∈Qyu F,x.1<N:=fun x c=>by
 unfold Qyu Qfs at c
 rw[List.take_length] at c
 obtain⟨f,h,rfl⟩:=List.mem_map.1 c
 obtain⟨d,e⟩:=List.mem_filter.1 h
 obtain⟨i,hi,j⟩:=List.mem_iff_getElem.1 d
 have a:F[i]?=some f:=by rw[Z3 hi,j]
 have h0:0<f.first:=of_decide_eq_true e
 cases b:f.pg with
 | none =>
   have:=g.none i f a b
   rw[this] at h0
   exact absurd h0 (by show ¬0<0;omega)
 | some x=>exact(g.frame i f x.1 x.2 a b).1
theorem qdy.next {N st:Nat}{L:qac}{D:Dev}{F:List Fr}{cur:Nat->List Int}(c:Good N st L D F cur) {x:Nat×Nat}{l:List (Nat×Nat)}(h:qdy F (x::l)) (d:∀(i:Nat) (f:Fr),F[i]?=some f->f.has x.1=true->f.first=0):qdy F l:=fun i f b h0=>by
 rcases List.mem_cons.1 (h i f b h0) with e|e
 ·exfalso
  cases a:f.pg with
  | none =>
    have:=c.none i f b a
    rw[this] at h0
    exact absurd h0 (by show ¬0<0;omega)
  | some y =>
    have:=d i f b (Qd7.2 ⟨y.1,y.2,a,by rw[<-e]⟩)
    omega
 ·exact e
theorem qdy.set {F:List Fr}{l:List (Nat×Nat)}(h:qdy F l) {i:Nat}{f:Fr}(b:F[i]?=some f):qdy (F.set i {f with first:=0}) l:=fun j g c h0=>by
 rcases qce (Z4 b).1 c with ⟨rfl,rfl⟩|⟨_,a⟩
 ·exact absurd h0 (by show ¬0<0;omega)
 ·exact h j g a h0
theorem Jed {F:List Fr}(a:qcn F) {i n:Nat}{f:Fr}(d:F[i]?=some f) (hh:f.has n=true) (j:Nat) (g:Fr) (e:(F.set i {f with first:=0})[j]?=some g) (b:g.has n=true):g.first=0:=by
 rcases qce (Z4 d).1 e with ⟨rfl,rfl⟩|⟨h,c⟩
 ·rfl
 ·exact absurd (a j i n g f c d b hh) h
theorem Jfd:¬qbe qch:=by
 rintro(h|h|h)
 ·rcases h with h|h|h|h|⟨i,h⟩ <;> simp[qch,qcd,tFr,qbi,qdk,tPg] at h
 ·rcases h with h|h|h <;> simp[qch,qb1,qa5,qa6] at h
 ·rcases h with h|h|h|h <;> simp[qch] at h
theorem Jea {α:Type}{l:List α}{r:Nat}(h:r<l.length):l.drop r=l[r]::l.drop (r+1):=(List.drop_eq_getElem_cons h)
def TwAll (w:World) (τ:qa1) (bm bl bp bf bd N:Nat) (bo:Nat->Nat) (X:List qa9) (next:Nat) (H:qaq) (L:qac) (s:Ck.Clk.St) (cur:Nat->List Int) (w':World):Prop :=
 ∃τ' H' L' D' F',TW w' τ' bm bl bp bf bd N bo X next H' L' D' F' s cur/\qas L L'/\H'.st<=H.st+64/\(∀(i:Nat) (f:Fr),F'[i]?=some f->f.first=0)/\Step w τ w' τ' qbe
theorem Jkd {w:World}{τ:qa1}{bm bl bp bf bd N:Nat}{bo:Nat->Nat}{X:List qa9}{next:Nat}{H:qaq}{L:qac}{D:Dev}{F:List Fr}{s:Ck.Clk.St}{cur:Nat->List Int}(ha:TW w τ bm bl bp bf bd N bo X next H L D F s cur) (h:H.st+64<=1000000) (hN:N<=512) :
 Calls Tryz.prog 14 #[.pointer (some ⟨bp,0,none⟩)] w fun e w'=>e = .returned (.tuple #[])/\TwAll w τ bm bl bp bf bd N bo X next H L s cur w':=by
 have hk:=ha.pool.pool.k1
 have z:=Jaz ha.pool.pool (Jdy F.length oM)
 obtain⟨Ha,B⟩:=qaj ha z
 clear ha z
 go_enter Tryz.func14,Tryz.ntmps14
 go_wp2_with fail
 refine B.mono ?_
 rintro e w1 ⟨v,τ1,l,rfl,a,-,J,M⟩
 obtain⟨p,c,rfl⟩:=J.val
 have hlen:l.length<=64:=by
  have h1:=a.length_eq
  have h2:=Qg6 F F.length
  have h3:(Qyu F).length=(Qfs F F.length).length:=rfl
  omega
 have a1:∀x∈l,x.1<N:=fun x hx=>Jfv Ha.good x (a.mem_iff.1 hx)
 have a2:qdy F (l.drop 0):=fun i f hf h0=>a.mem_iff.2 (Jeb F i f hf h0)
 have a3:=Ha.nil M
 have C:=M.nz (T:=qbe)
 have E:ND 0 w1 τ1 qch (.slice p l.length c) l:=⟨J.buf,fun _ _=>Z9 _⟩
 generalize a4:l.length=ll at *
 obtain⟨O,aq,ar,a5,a6,av⟩:=qcq a4 a1 a3 C E a2
 clear a4 a1 a3 C E a2 Ha B M a J
 go_wp2_with fail
 go_loopw [7] (fun v wr=>∃(r:Nat) (d:qa1) (Hr:qaq) (Lr:qac) (Dr:Dev) (g:List Fr),r<=ll/\v = .int .i64 r/\TW wr d bm bl bp bf bd N bo X next Hr Lr Dr g s cur/\qas L Lr/\Hr.st<=H.st+r/\qdy g (l.drop r)/\ND 0 wr d qch (.slice p ll c) l/\Step w τ wr d qbe) (fun v _=>ll-(intOf v).toNat)
 case atStart=>exact⟨0,τ1,_,_,_,_,Z9 _,rfl,ar,qas.refl _,Z0 _,av,a6,a5⟩
 case round =>
  obtain⟨r,d,Hr,Lr,Dr,g,hr,rfl,hA,R,hs3,hD,hN,h⟩:=hrel
  by_cases ax:r<ll
  ·have G:r<l.length:=by rw[O.out];exact ax
   obtain⟨p',c',hv,-,a8⟩:=hN.read
   obtain⟨b,hp,r0,r1⟩:=a8 r G
   rw[O.out] at hv
   cases hv
   subst hp
   obtain⟨x,hx⟩:=gN (l[r])
   have U:=Jea G
   rw[hx] at r0 r1 U
   have ay:x.1<N:=aq x (by rw[<-hx];exact List.getElem_mem _)
   obtain⟨n,y⟩:=x
   simp only at r0 r1 ay
   have hq:Step wr d (wr.alloc (.cells #[.int .u32 n,.int .u64 y] 84)) d nil:=(zS wr d).alloc' _
   have Y:=hA.nil hq
   have a9:=hN.step hq id
   have j:=h.trans hq.nz
   have aa:=Jkr Y oM n oM
   have hri:(r:Int)<ll:=oM
   rw[U] at hD
   obtain⟨HD,ab⟩:=qaj hD a9
   have k:=Z2 j
   obtain⟨az,Z⟩:=qaj aa Y
   clear hD a9 j aa Y U hN h a8 hq hA
   go_wp2_with fail
   refine az.mono ?_
   rintro e w3 (⟨rfl,rfl,q⟩|⟨b0,H3,L3,D3,i,f,rfl,ac,b1,hT,ad,hh,ae⟩)
   ·have o:=HD.next Z.good q
    have a0:=Z2 o
    clear o
    go_wp2_with fail
    go_round
    case rel=>exact⟨r+1,d,_,_,_,_,oM,sM,Z,R,oM,a0,ab,k⟩
    case measure=>simp[intOf];omega
   ·have o:qdy (g.set i {f with first:=0}) (l.drop (r+1)):=(HD.set ac).next hT.good (Jed Z.pool.pool.one ac b1)
    have af:=ab.step ae Jfd
    have I:=k.trans ae
    obtain⟨a0,b3,ag,HT,b4⟩:=qbq o af I hT ad
    clear o af I hT ad
    go_wp2_with fail
    go_round
    case rel=>exact⟨r+1,b0,H3,L3,D3,_,oM,sM,HT,R.trans b4,oM,a0,b3,ag⟩
    case measure=>simp[intOf];omega
  ·obtain rfl:r=ll:=oM
   rw[List.drop_eq_nil_of_le (by rw[O.out];exact Z0 _)] at hD
   have q:∀(i:Nat) (f:Fr),g[i]?=some f->f.first=0:=fun i f hf=>by
    by_cases h0:f.first=0
    ·exact h0
    ·exact absurd (hD i f hf oM) sM
   obtain⟨HA,b5,b6⟩:=qan hA q h
   clear hA q h
   go_wp2_with fail
   go_end0
   exact⟨rfl,d,Hr,Lr,Dr,g,HA,R,oM,b5,b6⟩
