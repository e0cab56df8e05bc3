/-
 The log: Append of a record.
-/
import Derived.Test.YtemacanaihaldaaGreatMEncB
set_option maxRecDepth 100000
set_option maxHeartbeats 4000000
set_option linter.all false
namespace Go.Proofs.YtemacanaihaldaaGreat
open Go.RowKit
theorem Qi0 {w:World}{τ:Tags}{bl bd:Nat}{L:LogM}(hl:LogAt w τ bl bd L) (hns:L.starts.length<=100000) {v:Value}{r:RecP}(hv:RecI w τ v r) (a8:mayB r=true) (de:(encR r).length<=60000) (aa:r.kind=8->TabC r) (C:Nat) (hcap:L.stream.length+(encR r).length+C<=L.strips*127) :
 Calls Tryz.prog 80 #[.pointer (some ⟨bl,0,none⟩),v,.int .u64 (C:Int)] w fun e w'=>e = .returned (.tuple #[.int .u64 ((L.base+L.stream.length:Nat):Int),.int .u16 0])/\∃bc,LogAt w' bc bl bd (L.more (encR r))/\Step w τ w' bc LogTag:=by
 have hbase:=hl.ok.base
 have hstr:=hl.ok.strips
 have bf:=hl.ok
 have hB:=hl.isB
 have bg:=(by obtain⟨_,_,_,_,_,_,_,_,_,_,_,_,h1,h2,_⟩:=hv.is;exact Qsm h1.isB h2.isB:IsB (encR r))
 have hr27:0<(encR r).length:=by rw[Qbh r];omega
 obtain⟨qb,kb,qa,ka,qt,kt,qp,kp,gt,gp,n0,bh,-⟩:=hv.is
 have p:=fun (W:World) (T:Tags) (m:Step w τ W T nil)=>Qiq (hv.step m) a8 de aa
 rw[bh] at p ⊢
 clear bh hv a8 aa
 generalize bi:(encR r).length=rl at *
 generalize encR r=rb at *
 obtain⟨kd,tx,pv,nx,⟨pg,sl,hd,hs,be,af⟩,ts,ps⟩:=r
 dsimp only at *
 generalize be.length=lb at *
 generalize af.length=la at *
 generalize ts.length=lt at *
 generalize ps.length=lp at *
 have l:=(Step.refl w τ nil).alloc' (.cells #[.int .u8 (kd:Int),.int .u32 (tx:Int),.int .u64 (pv:Int),.int .u64 (nx:Int),.int .u32 (pg:Int),.int .u16 (sl:Int),.bool hd,.bool hs,.slice qb lb kb,.slice qa la ka,.slice qt lt kt,.slice qp lp kp] 127)
 have bj:=hl.step l (fun _ _ h=>h)
 have p:=p _ _ l
 obtain⟨bk,ax,bm,HB,Z,df,q⟩:=hid7 p l bj hB bi bg bf
 clear p l bj hB bi bg bf hl
 go_enter Tryz.func80,Tryz.ntmps80
 go_wp2_with fail
 generalize hW0:w.alloc (.cells #[.int .u8 (kd:Int),.int .u32 (tx:Int),.int .u64 (pv:Int),.int .u64 (nx:Int),.int .u32 (pg:Int),.int .u16 (sl:Int),.bool hd,.bool hs,.slice qb lb kb,.slice qa la ka,.slice qt lt kt,.slice qp lp kp] 127)=W0 at *
 refine bk.out.mono ?_
 rintro e w1 ⟨u1,τ1,rfl,x,ay⟩
 have D:=bm.out.step ay (fun _ _ h=>h)
 have ab:=ax.out.trans ay
 obtain⟨b1,cap1,ys1,rfl,-,-,-,-,-⟩:=x.row (by rw[Z.out];omega)
 rw[Z.out] at x ⊢
 have ac:=x.bytes
 have E:=Qnj (D.step (Step.refl w1 τ1 nil).drew (fun _ _ h=>h))
 obtain⟨vs,vt,b2,F,G⟩:=D.is
 obtain⟨ps,cs,rfl⟩:=F.len
 obtain⟨pt,ct,rfl⟩:=G.len
 have c7:=b2.drew.at 7 (v:=.slice ps L.stream.length cs) rfl
 have ad:=Ql3 (D.step (Step.refl w1 τ1 nil).drew (fun _ _ h=>h))
 have bn:L.base+L.stream.length=L.base+L.stream.length:=rfl
 generalize bo:L.base+L.stream.length=en at *
 generalize hR:L.strips*127=R at *
 have hR3:R<=300000:=by omega
 have hRw:=Qam R (by omega)
 have hRn:¬(R:Int)<0:=by omega
 have hokl:=q.out.stream
 have hcap':¬(R:Int)-(C:Int)<(L.stream.length:Int)+(rl:Int):=by omega
 have bp:∀vs vt,(Qa8 L bd vs vt)[7]?=some vs:=fun _ _=>rfl
 have bq:∀vs vt,(Qa8 L bd vs vt)[8]?=some vt:=fun _ _=>rfl
 have I:∀vs vt a b,((Qa8 L bd vs vt).set 8 b).set 7 a=Qa8 (L.more rb) bd a b:=fun _ _ _ _=>rfl
 have i:(L.more rb).stream=L.stream++rb:=rfl
 have s:(L.more rb).starts=L.starts++[L.stream.length]:=rfl
 have hlst:=bm.out.ok.strips
 have ae:(L.more rb).ok:=⟨q.out.stamp,q.out.base,q.out.check,q.out.area,q.out.strips,q.out.slot,by rw[i,Z6,Z.out];omega,by rw[s,Z6,List.length_singleton];omega,by rw[i,Z6];exact Y3 q.out.lasts (Nat.le_add_right _ _)⟩
 have br:IsB (L.more rb).stream:=by rw[i];exact HB.out.append df.out
 obtain⟨ag,ah,J,bs,ai,aj,bv,M,b3,b4,b5,b6⟩:=hid12 ab ac E b2 F G ad bp bq I i s
 obtain⟨bw,dh,HR,Hl1⟩:=hid4 ae br hR D
 clear ab ac E b2 F G ad bp bq I i s ae br hR D bn ay x
 generalize b7:L.stream.length=sn at *
 go_wp2_with fail
 have di:decide ((R:Int)<(C:Int))=false:=by simp;omega
 have hd1n:decide (R<C)=false:=by simp;omega
 have dj:IntKind.i64.wrap (C:Int)=(C:Int):=Qbr C (by omega)
 have dk:IntKind.i64.wrap ((R:Int)-(C:Int))=(R:Int)-(C:Int):=Qd6 (by omega) (by omega)
 have bz:IntKind.i64.wrap (R:Int)=(R:Int):=Qbr R (by omega)
 have dl:decide ((R:Int)-(C:Int)<(sn:Int)+(rl:Int))=false:=by simp;omega
 have dm:IntKind.i64.wrap ((sn:Int)+(rl:Int))=(sn:Int)+(rl:Int):=Qd6 (by omega) (by omega)
 refine Qaf (S:=fun w':World=>w'.cell? ⟨bl,7,none⟩=some (.slice ps sn cs)) (by kernel_rfl) ?_
 have c4:w1.drew.cell? ⟨bl,7,none⟩=some (.slice ps sn cs):=c7
 refine tk0 [0,1] ?_
 iterate 2
  refine tks (v:=?_) rfl (Or.inl ⟨by rfl,?_⟩) (by assumption) ?_
  rotate_left
  ·intro w d;(try dsimp only at d);go_simp
   all_goals with_reducible rfl
  try simp only[Act.put,lz1,lz2,lz3]
 refine tk9 ?_
 try simp only[lz4,lz5,lz6,lz1,lz2,lz3]
 refine tk1 2 rfl fun K j=>?_
 go_simp
 go_at_call 89
 refine J.out.mono ?_
 rintro e w2 ⟨rfl,rfl⟩
 refine j.out _ _ (fun _=>c7) ?_
 clear j K
 refine tk0 [3,4,5] ?_
 iterate 3
  refine tks (v:=?_) rfl (Or.inl ⟨by rfl,?_⟩) (by assumption) ?_
  rotate_left
  ·intro w d;(try dsimp only at d);go_simp
   all_goals with_reducible rfl
  try simp only[Act.put,lz1,lz2,lz3]
 refine tk9 ?_
 try simp only[lz4,lz5,lz6,lz1,lz2,lz3]
 refine tk0 [6,7,8,9] ?_
 iterate 4
  refine tks (v:=?_) rfl (Or.inl ⟨by rfl,?_⟩) (by assumption) ?_
  rotate_left
  ·intro w d;(try dsimp only at d);go_simp
   all_goals with_reducible rfl
  try simp only[Act.put,lz1,lz2,lz3]
 refine tk9 ?_
 try simp only[lz4,lz5,lz6,lz1,lz2,lz3]
 refine tk0 [10,11,12,13] ?_
 iterate 4
  refine tks (v:=?_) rfl (Or.inl ⟨by rfl,?_⟩) (by assumption) ?_
  rotate_left
  ·intro w d;(try dsimp only at d);go_simp
   all_goals with_reducible rfl
  try simp only[Act.put,lz1,lz2,lz3]
 refine tk9 ?_
 try simp only[lz4,lz5,lz6,lz1,lz2,lz3]
 refine tk0 [14,16,17] ?_
 iterate 3
  refine tks (v:=?_) rfl (Or.inl ⟨by rfl,?_⟩) (by assumption) ?_
  rotate_left
  ·intro w d;(try dsimp only at d);go_simp
   all_goals with_reducible rfl
  try simp only[Act.put,lz1,lz2,lz3]
 refine tk9 ?_
 try simp only[lz4,lz5,lz6,lz1,lz2,lz3]
 refine tk1 15 rfl fun K j=>?_
 go_simp
 go_at_call 89
 refine J.out.mono ?_
 rintro e w2 ⟨rfl,rfl⟩
 refine j.out _ _ (fun _=>c7) ?_
 clear j K
 try simp only[lz4,lz5,lz6,lz1,lz2,lz3]
 refine tk0 [18,19,20] ?_
 iterate 3
  refine tks (v:=?_) rfl (Or.inl ⟨by rfl,?_⟩) (by assumption) ?_
  rotate_left
  ·intro w d;(try dsimp only at d);go_simp
   all_goals with_reducible rfl
  try simp only[Act.put,lz1,lz2,lz3]
 refine tk9 ?_
 refine Qad (by kernel_rfl) ?_ _
 go_wp2_with fail
 refine bv.out.mono ?_
 rintro e w2 ⟨rfl,c9⟩
 have k:=(Step.refl w1 τ1 nil).drew.trans c9
 have z:=(bs.out.step k (fun h=>h)).drew
 have ak:=(ai.out.step k (fun h=>h)).drew
 have al:=(aj.out.step k (fun h=>h)).drew
 have am:=(ah.out.step k (fun h=>h)).drew
 have an:=(ag.out.trans k).drew
 have hlt:=z.lt
 generalize ca:L.starts.length=nt at *
 have c8:=z.at 8 (v:=.slice pt nt ct) (b3.out _ _)
 have cb:=z.at 7 (v:=.slice ps sn cs) (M.out _ _)
 have cc:Ints w2.drew τ1 Qag (.slice pt nt ct) L.starts:=by unfold Ints;rw[ca];exact al
 have a1:=z.alloc (.cells #[.int .i64 (sn:Int)] 3)
 have dn:=a1.at 8 (v:=.slice pt nt ct) (b3.out _ _)
 have dp:=a1.at 7 (v:=.slice ps sn cs) (M.out _ _)
 have c4:w2.drew.cell? ⟨bl,8,none⟩=some (.slice pt nt ct)/\w2.drew.cell? ⟨bl,7,none⟩=some (.slice ps sn cs):=⟨c8,cb⟩
 obtain⟨dq,cd,ce,cf,dr,HoA⟩:=hid6 z ak am an cc a1
 clear z ak am an cc a1 c7 c8 cb c9 k al ag ah bs ai aj di dl dm dj dk bz
 go_wp2_with fail
 refine Qaf (S:=fun w':World=>w'.cell? ⟨bl,8,none⟩=some (.slice pt nt ct)/\w'.cell? ⟨bl,7,none⟩=some (.slice ps sn cs)) (by kernel_rfl) ?_
 refine tk0 [0,1,2,3,4,5,6,7,8,9] ?_
 iterate 10
  refine tks (v:=?_) rfl (Or.inl ⟨by rfl,?_⟩) (by assumption) ?_
  rotate_left
  ·intro w d;(try dsimp only at d);go_simp
   all_goals with_reducible rfl
  try simp only[Act.put,lz1,lz2,lz3]
 refine tk9 ?_
 clear c4
 refine tk1 10 rfl fun K j=>?_
 go_simp
 refine j.out _ _ (fun _=>⟨dn,dp⟩) ?_
 clear j K
 refine tk1 11 rfl fun K j=>?_
 refine Qfx dr.out sn rfl (by rw[ca];omega) rfl rfl _ _ rfl rfl rfl ?_
 intro v3 w3 N b9 O
 obtain⟨p3,c3,rfl,-,-⟩:=b9.read
 have B:=dq.out.step O (by decide)
 have d8:=B.at 8 (v:=.slice pt nt ct) (b3.out _ _)
 have d7:=B.at 7 (v:=.slice ps sn cs) (M.out _ _)
 have z8:=B.fz 8
 have cg:=B.set 8 (.slice p3 (L.starts++[sn]).length c3)
 have U:Step w3 N (w3.setCell ⟨bl,8,none⟩ (.slice p3 (L.starts++[sn]).length c3)) N (fun t=>t=tLog):=(Step.refl w3 N (fun t=>t=tLog)).set (o:=8) B.tag rfl _
 have ch:=b9.step U (by decide)
 have ci:=(cd.out.step O (by decide)).step U (by decide)
 have ao:=(ce.out.step O (by decide)).step U (by decide)
 have ap:=((cf.out.mono (T:=LogTag) (fun _ h=>h.elim)).trans (O.mono (T:=LogTag) (fun _ h=>.inr (.inr h)))).trans (U.mono (T:=LogTag) (fun _ h=>.inl h))
 obtain⟨cj,ds,dt,ck,cm⟩:=hid5 cg ch ci ao ap
 clear cg ch ci ao ap O b9 B U
 generalize (L.starts++[sn]).length=nt2 at *
 refine j.out _ _ (fun _=>⟨d8,d7⟩) ?_
 clear j K
 refine tk1 12 rfl fun K j=>?_
 go_simp
 refine j.out _ _ (fun _=>⟨d8,d7⟩) ?_
 clear j K
 refine tk1 13 rfl fun K j=>?_
 go_simp
 refine j.out _ _ (fun _=>⟨d8,d7⟩) ?_
 clear j K
 refine tk1 14 rfl fun K j=>?_
 go_simp
 refine j.out _ _ (fun h=>absurd h (by decide +kernel)) ?_
 clear j K
 refine Qad (by kernel_rfl) ?_ _
 have e7:=cj.out.at 7 (v:=.slice ps sn cs) (by rw[List.getElem?_set_ne (by omega)];exact M.out _ _)
 have X:=Qpi (show Buf _ N Qah 5 1 (.slice ps sn cs) L.stream.length (u8s L.stream) by rw[b7];exact dt.out) HB.out
 rw[show w_z (w3.setCell ⟨bl,8,none⟩ (.slice p3 nt2 c3))=w_z (w3.setCell ⟨bl,8,none⟩ (.slice p3 nt2 c3)) from rfl] at X
 have aq:L.stream.length+rb.length<=100000000000:=by rw[Z.out,b7];omega
 have ar:=Qyk (w3.setCell ⟨bl,8,none⟩ (.slice p3 nt2 c3)) N LogTag
 obtain⟨cn,co,cp⟩:=hid3 X aq ar
 clear X aq ar d7 d8 z8
 generalize hw4:w3.setCell ⟨bl,8,none⟩ (.slice p3 nt2 c3)=w4 at *
 go_wp2_with (at_builtin;refine Qal cp.out cn.out ck.out co.out rfl _ _ rfl rfl rfl ?_;intro v5 w5 a6 cq dw y;obtain⟨p5,c5,rfl⟩:=cq.val;generalize (L.stream++rb).length=nsl at *;have Y:=cj.out.step y (by decide);have cr:=ds.out.step y (by decide);have f7:=Y.at 7 (v:=.slice ps sn cs) (by rw[List.getElem?_set_ne (by omega)];exact M.out _ _);have z7:=Y.fz 7;have cv:=Y.set 7 (.slice p5 nsl c5);have a7:Step w5 a6 (w5.setCell ⟨bl,7,none⟩ (.slice p5 nsl c5)) a6 (fun t=>t=tLog):=(Step.refl w5 a6 (fun t=>t=tLog)).set (o:=7) Y.tag rfl _;have cw:=cr.step a7 (by decide);have cx:=cq.step a7 (by decide);have av:=(cm.out.trans (y.mono (T:=LogTag) (fun _ h=>.inr (.inl h)))).trans (a7.mono (T:=LogTag) (fun _ h=>.inl h));obtain⟨dx,dy,dz,cy⟩:=hid4 cv cw cx av;clear cv cw cx av;clear dw y Y cr a7)
 go_ret2
 have cz:=dx.out
 rw[b4.out] at cz
 refine⟨by first|rfl|(rw[b7,bo];rfl)|(rw[<-bo];rfl),a6,⟨⟨_,_,cz,?_,?_⟩,dh.out,bw.out⟩,cy.out⟩
 ·rw[b5.out];exact dz.out.buf
 ·rw[b6.out];exact dy.out
def tRr:Tag:=(205,0)
def tRx:Tag:=(206,0)
def RT (t:Tag):Prop:=ReadTag t\/t=tRx\/t=tRr
theorem RecV.step {w j:World}{τ i:Tags}{S:Tag->Prop}{v:Value}{r:RecP}(h:RecV w τ v r) (m:Step w τ j i S) (h1:¬S tData) (h2:¬S tTx) (k:¬S tPx):RecV j i v r:=by
 obtain⟨l,o,p,q,n0,e,a,b,c,d⟩:=h
 exact⟨l,o,p,q,n0,e,a.step m h1,b.step m h1,c.step m h2,d.step m k⟩
theorem LogM.AtR.at {L:LogM}(m:L.Rise) {k:Nat}(hk:k<L.starts.length) {j:Nat}{f:Bool}(e:L.AtR (L.base+L.starts.getD k 0) j f):j=k/\f=true:=by
 have b:∀i,(hi:i<L.starts.length)->L.starts.getD i 0=L.starts[i]:=fun i hi=>by rw[Z5,Z3 hi];rfl
 have hlow:=m.low (L.starts.getD k 0) (by rw[b k hk];exact List.getElem_mem _)
 have d:=e.within (Nat.le_add_right _ _) (by omega)
 rw[Nat.add_sub_cancel_left] at d
 have l:j=k:=by
  rcases Nat.lt_trichotomy j k with h|h|h
  ·have h1:=d.hi j (Z0 _) (by omega)
   have h2:=m.rise j k h hk
   omega
  ·exact h
  ·have:=d.lo k h;omega
 subst l
 exact⟨rfl,by rw[d.is];exact decide_eq_true ⟨hk,rfl⟩⟩
theorem Qg8 {w:World}{τ:Tags}{bl bd:Nat}{L:LogM}(hl:LogAt w τ bl bd L) (hr:L.Rise) {k:Nat}(hk:k<L.starts.length) {x lsn:Nat}(hx:L.starts.getD k 0=x) (br:L.base+x=lsn) {r:RecP}{n:Nat}(ab:Qd1 (L.stream.drop x)=some (r,n)) :
 Calls Tryz.prog 143 #[.pointer (some ⟨bl,0,none⟩),.int .u64 (lsn:Int)] w fun e w'=>∃v bv,e = .returned (.tuple #[v,.int .u64 ((lsn+n:Nat):Int),.int .u16 0])/\RecV w' bv v r/\Step w τ w' bv ReadTag:=by
 have hbase:=hl.ok.base
 have hstr:=hl.ok.stream
 have dj:x∈L.starts:=by rw[<-hx,Z5,Z3 hk];exact List.getElem_mem _
 have bw:=hr.low x dj
 have dk:=Qtf ab
 have hn6:n<=1000000:=by have:=dk.2;rw[List.length_drop] at this;omega
 have b8:=(Step.refl w τ nil).alloc (.cells #[.int .u8 0,.int .u32 0,.int .u64 0,.int .u64 0,.int .u32 0,.int .u16 0,.bool false,.bool false,.slice none 0 0,.slice none 0 0,.slice none 0 0,.slice none 0 0] 127) tRr
 have b9:=Own.born w τ tRr 127 #[.int .u8 0,.int .u32 0,.int .u64 0,.int .u64 0,.int .u32 0,.int .u16 0,.bool false,.bool false,.slice none 0 0,.slice none 0 0,.slice none 0 0,.slice none 0 0]
 have ba:=hl.step b8 (fun _ _ h=>h)
 generalize b0:τ.put w.heap.size tRr=τ1 at *
 have a8:=Qos ba hr lsn (by omega)
 have b1:=fun j f (h:L.AtR lsn j f)=>LogM.AtR.at hr hk (by rw[hx,br];exact h)
 obtain⟨p,bb⟩:∃p,w.heap.size=p:=⟨_,rfl⟩
 rw[bb] at b9
 obtain⟨cc,cd,Hl,dl,ce,Hx,dm,dn,z,Hτ1⟩:=hid10 a8 b1 hl ba ab hx b8 b9 bb b0
 clear a8 b1 hl ba ab hx b8 b9 bb b0
 go_enter Tryz.func143,Tryz.ntmps143
 go_wp2_with fail
 rw[z.out]
 generalize w.alloc (.cells #[.int .u8 0,.int .u32 0,.int .u64 0,.int .u64 0,.int .u32 0,.int .u16 0,.bool false,.bool false,.slice none 0 0,.slice none 0 0,.slice none 0 0,.slice none 0 0] 127)=W0 at *
 refine cc.out.mono ?_
 rintro e I ⟨⟨j,f,rfl,a8⟩,U⟩
 obtain⟨rfl,rfl⟩:=cd.out j f a8
 have an:=dl.out.step U (fun _ _ h=>h)
 have ac:=dn.out.step U (fun h=>h)
 have b2:=dm.out.trans U
 obtain⟨vs,vt,ao,b3,cf⟩:=an.is
 have bc:=Buf.bytes b3 an.isB
 obtain⟨cg,⟨rfl,he⟩|⟨bs,cs,ys,rfl,ch,hc1,hc2,hc3⟩⟩:=b3
 ·omega
 obtain⟨be,⟨rfl,he⟩|⟨bt,ct,zs,rfl,ap,aq,hd2,hd3⟩⟩:=cf
 ·omega
 have ar:(i64s L.starts++zs)[j]?=some (.int .i64 (x:Int)):=by
  have dp:j<(i64s L.starts).length:=by rw[be];omega
  have e:=Hx.out
  rw[Z5,Z3 hk] at e
  rw[Y5 dp]
  unfold i64s
  rw[List.getElem?_map,Z3 hk]
  simp only[Option.map_some]
  rw[<-e];rfl
 have dq:=ap.at j ar
 have a6:=bc.sub x L.stream.length (cs-x) (by omega) (Z0 _) (by omega) (by omega)
 rw[Nat.zero_add,List.take_of_length_le (by rw[List.length_drop];exact Z0 _)] at a6
 have ci:(L.stream.drop x).length=L.stream.length-x:=List.length_drop
 have ad:=fun (W:World) (T:Tags) (m:Step I τ1 W T nil)=>Qt0 (a6.step m (fun h=>h)) (by rw[ci];omega) (by simp[ReadTag,Qah]) (by decide) (by decide)
 rw[ce.out] at ad
 have av:∀W T,Step I τ1 W T RT->W.cell? ⟨bl,7,none⟩=some (.slice (some ⟨bs,0,none⟩) L.stream.length cs)/\W.cell? ⟨bl,8,none⟩=some (.slice (some ⟨bt,0,none⟩) L.starts.length ct)/\W.cell? ⟨bt,j,none⟩=some (.int .i64 (x:Int)):=fun W T m =>
  ⟨(ao.step m (by simp[RT,ReadTag,tLog,tRx,tRr])).at 7 rfl,(ao.step m (by simp[RT,ReadTag,tLog,tRx,tRr])).at 8 rfl,(ap.step m (by simp[RT,ReadTag,Qag,tRx,tRr])).at j ar⟩
 have aw:=(Step.refl I τ1 nil).drew
 have ae:Step I τ1 I.drew τ1 ReadTag:=aw.mono (fun _ h=>h.elim)
 have hS0:=av _ _ (ae.mono (fun _ h=>.inl h))
 generalize hsn:L.stream.length=sn at *
 generalize hnt:L.starts.length=nt at *
 have hxs:x<sn:=bw
 have n1:¬cs=x:=by omega
 have n2:¬x=cs:=by omega
 have n3:(x:Int)<=(sn:Int):=by omega
 have n4:(sn:Int)<=(cs:Int):=by omega
 have n5:(j:Int)<(nt:Int):=by omega
 have n6:x<=cs:=by omega
 have n7:(x:Int)<=(cs:Int):=by omega
 have n8:((sn:Int)-(x:Int))=((sn-x:Nat):Int):=by omega
 have cj:∀W T,Step I τ1 W T ReadTag->Own W T p tRr 127 [.int .u8 0,.int .u32 0,.int .u64 0,.int .u64 0,.int .u32 0,.int .u16 0,.bool false,.bool false,.slice none 0 0,.slice none 0 0,.slice none 0 0,.slice none 0 0]:=fun W T m=>ac.step m (by simp[ReadTag,tRr])
 have aq:Step I τ1 (I.drew.alloc (.cells #[.int .u8 0,.int .u32 0,.int .u64 0,.int .u64 0,.int .u32 0,.int .u16 0,.bool false,.bool false,.slice none 0 0,.slice none 0 0,.slice none 0 0,.slice none 0 0] 127)) (τ1.put I.drew.heap.size tRx) nil:=aw.alloc _ _
 have af:Step I τ1 (I.drew.alloc (.cells #[.int .u8 0,.int .u32 0,.int .u64 0,.int .u64 0,.int .u32 0,.int .u16 0,.bool false,.bool false,.slice none 0 0,.slice none 0 0,.slice none 0 0,.slice none 0 0] 127)) (τ1.put I.drew.heap.size tRx) ReadTag:=aq.mono (fun _ h=>h.elim)
 have ck:Own (I.drew.alloc (.cells #[.int .u8 0,.int .u32 0,.int .u64 0,.int .u64 0,.int .u32 0,.int .u16 0,.bool false,.bool false,.slice none 0 0,.slice none 0 0,.slice none 0 0,.slice none 0 0] 127)) (τ1.put I.drew.heap.size tRx) I.heap.size tRx 127 [.int .u8 0,.int .u32 0,.int .u64 0,.int .u64 0,.int .u32 0,.int .u16 0,.bool false,.bool false,.slice none 0 0,.slice none 0 0,.slice none 0 0,.slice none 0 0]:=Own.born I.drew τ1 tRx 127 #[.int .u8 0,.int .u32 0,.int .u64 0,.int .u64 0,.int .u32 0,.int .u16 0,.bool false,.bool false,.slice none 0 0,.slice none 0 0,.slice none 0 0,.slice none 0 0]
 generalize τ1.put I.drew.heap.size tRx=τB at *
 have dr:=av _ _ (af.mono (fun _ h=>.inl h))
 have hA:=ad _ _ aw
 have hB:=ad _ _ aq
 obtain⟨Hl1,Hoz1,a7,Ho1,Hot,Hos,Hby,cc,ax,Hsub,Hdc,cm⟩:=hid12 an ac b2 ao ap ch bc a8 av a6 ad ae
 obtain⟨cn,co,HA,HB,Hx1,Hx2,Hxj,ds⟩:=hid8 af cj hA hB cg be ar ck
 clear an ac b2 ao ap ch bc a8 av a6 ad ae af cj hA hB cg be ar ck aw aq U dq ci
 go_wp2_with fail
 refine Qaf (S:=fun w':World=>w'.cell? ⟨bl,7,none⟩=some (.slice (some ⟨bs,0,none⟩) sn cs)/\w'.cell? ⟨bl,8,none⟩=some (.slice (some ⟨bt,0,none⟩) nt ct)/\w'.cell? ⟨bt,j,none⟩=some (.int .i64 (x:Int))) (by kernel_rfl) ?_
 refine tk0 [0,1,2,3,4,5,6,7,8,9,10,11] ?_
 iterate 12
  refine tks (v:=?_) rfl (Or.inl ⟨by rfl,?_⟩) (by assumption) ?_
  rotate_left
  ·intro w ag;(try dsimp only at ag);go_simp
   all_goals with_reducible rfl
  try simp only[Act.put,lz1,lz2,lz3]
 refine tk9 ?_
 try simp only[lz4,lz5,lz6,lz1,lz2,lz3]
 refine Qss (i:=12) (j:=17) (by decide +kernel) rfl rfl (fun K G=>?h1) (fun K G=>?h2)
 case' h1 =>
  go_simp
  go_at_call 56
  refine HA.out.mono ?_
  rintro e w2 ⟨ah,ai,⟨h,_⟩|⟨y,m,v,bf,rfl,hv⟩⟩
  ·cases h
  cases bf
  have ay:=cm.out.trans ai
  have cq:=ax.out _ _ (ay.mono (fun _ h=>.inl h))
  have X:=Own.born w2 ah tRx 127 #[.int .u8 0,.int .u32 0,.int .u64 0,.int .u64 0,.int .u32 0,.int .u16 0,.bool false,.bool false,.slice none 0 0,.slice none 0 0,.slice none 0 0,.slice none 0 0]
  have aj:Step w2 ah (w2.alloc (.cells #[.int .u8 0,.int .u32 0,.int .u64 0,.int .u64 0,.int .u32 0,.int .u16 0,.bool false,.bool false,.slice none 0 0,.slice none 0 0,.slice none 0 0,.slice none 0 0] 127)) (ah.put w2.heap.size tRx) nil:=(Step.refl w2 ah nil).alloc (.cells #[.int .u8 0,.int .u32 0,.int .u64 0,.int .u64 0,.int .u32 0,.int .u16 0,.bool false,.bool false,.slice none 0 0,.slice none 0 0,.slice none 0 0,.slice none 0 0] 127) tRx
  generalize ah.put w2.heap.size tRx=B at *
  have dt:=hv.step aj (fun h=>h) (fun h=>h) (fun h=>h)
  have E:=ay.trans (aj.mono (fun _ h=>h.elim))
  have ak:=co.out _ _ E
  have az:=ax.out _ _ (E.mono (fun _ h=>.inl h))
  have N:=(a7.out.mono (T:=ReadTag) (fun _ h=>h.elim)).trans E
  obtain⟨vb,va,vt,vp,q0,rfl,J,M,Y,Z⟩:=dt
  obtain⟨pb,cb,rfl,J⟩:=J
  obtain⟨pa,ca,rfl,M⟩:=M
  obtain⟨O,q,rfl⟩:=Y.val
  obtain⟨R,cp,rfl⟩:=Z.val
  obtain⟨bx,a1⟩:∃bx,w2.heap.size=bx:=⟨_,rfl⟩
  have C:w.heap.size<=bx:=by rw[<-a1];exact(a7.out.mono (T:=ReadTag) (fun _ h=>h.elim)).trans ay |>.size
  rw[a1] at X
  obtain⟨d,bg,al,bh,bi,bj,bk,bm⟩:=hid8 X ak N J M Y Z E
  clear X ak N J M Y Z E ai ay aj hv
  refine G.out _ _ (fun _=>cq) ?_
  clear G K
  refine tk0 [13,14,15,16] ?_
  iterate 4
   refine tks (v:=?_) rfl (Or.inl ⟨by rfl,?_⟩) (by assumption) ?_
   rotate_left
   ·intro w ag;(try dsimp only at ag);go_simp
    all_goals with_reducible rfl
   try simp only[Act.put,lz1,lz2,lz3]
  refine tk9 ?_
  try simp only[lz4,lz5,lz6,lz1,lz2,lz3]
  refine tk1 17 rfl fun K G=>?_
  go_simp
  refine G.out _ _ (fun _=>az) ?_
  clear G K cq
  generalize w2.alloc (.cells #[.int .u8 0,.int .u32 0,.int .u64 0,.int .u64 0,.int .u32 0,.int .u16 0,.bool false,.bool false,.slice none 0 0,.slice none 0 0,.slice none 0 0,.slice none 0 0] 127)=w3 at *
  try rw[a1]
 case' h2 =>
  go_simp
  refine G.out _ _ (fun _=>dr) ?_
  clear G K
  refine tk1 12 rfl fun K G=>?_
  go_simp
  go_at_call 56
  refine HB.out.mono ?_
  rintro e w3 ⟨B,aa,⟨h,_⟩|⟨y,m,v,bf,rfl,hv⟩⟩
  ·cases h
  cases bf
  have E:=cn.out.trans aa
  have az:=ax.out _ _ (E.mono (fun _ h=>.inl h))
  have X:=ds.out.step aa (by simp[ReadTag,tRx])
  have ak:=co.out _ _ E
  have N:=(a7.out.mono (T:=ReadTag) (fun _ h=>h.elim)).trans E
  obtain⟨vb,va,vt,vp,q0,rfl,J,M,Y,Z⟩:=hv
  obtain⟨pb,cb,rfl,J⟩:=J
  obtain⟨pa,ca,rfl,M⟩:=M
  obtain⟨O,q,rfl⟩:=Y.val
  obtain⟨R,cp,rfl⟩:=Z.val
  obtain⟨bx,a1⟩:∃bx,I.heap.size=bx:=⟨_,rfl⟩
  have C:w.heap.size<=bx:=by rw[<-a1];exact a7.out.size
  rw[a1] at X
  obtain⟨d,bg,al,bh,bi,bj,bk,bm⟩:=hid8 X ak N J M Y Z E
  clear X ak N J M Y Z E aa
  refine G.out _ _ (fun _=>az) ?_
  clear G K
  refine tk0 [13,14,15,16] ?_
  iterate 4
   refine tks (v:=?_) rfl (Or.inl ⟨by rfl,?_⟩) (by assumption) ?_
   rotate_left
   ·intro w ag;(try dsimp only at ag);go_simp
    all_goals with_reducible rfl
   try simp only[Act.put,lz1,lz2,lz3]
  refine tk9 ?_
  try simp only[lz4,lz5,lz6,lz1,lz2,lz3]
  try rw[a1]
 all_goals (
  have c0:=d.out.at 0 (v:=.int .u8 0) rfl
  have z0:=d.out.fz 0
  have c1:=d.out.at 1 (v:=.int .u32 0) rfl
  have z1:=d.out.fz 1
  have c2:=d.out.at 2 (v:=.int .u64 0) rfl
  have z2:=d.out.fz 2
  have c3:=d.out.at 3 (v:=.int .u64 0) rfl
  have z3:=d.out.fz 3
  have c4:=d.out.at 4 (v:=.int .u32 0) rfl
  have z4:=d.out.fz 4
  have c5:=d.out.at 5 (v:=.int .u16 0) rfl
  have z5:=d.out.fz 5
  have c6:=d.out.at 6 (v:=.bool false) rfl
  have z6:=d.out.fz 6
  have c7:=d.out.at 7 (v:=.bool false) rfl
  have z7:=d.out.fz 7
  have c8:=d.out.at 8 (v:=.slice none 0 0) rfl
  have z8:=d.out.fz 8
  have c9:=d.out.at 9 (v:=.slice none 0 0) rfl
  have z9:=d.out.fz 9
  have bn:=d.out.at 10 (v:=.slice none 0 0) rfl
  have dy:=d.out.fz 10
  have bo:=d.out.at 11 (v:=.slice none 0 0) rfl
  have dz:=d.out.fz 11
  refine tk1 18 rfl fun K G=>?_
  go_simp
  have cr:Own ((((((((((((w3.setCell ⟨bx,0,none⟩ (.int .u8 (r.kind:Int))).setCell ⟨bx,1,none⟩ (.int .u32 (r.txn:Int))).setCell ⟨bx,2,none⟩ (.int .u64 (r.prev:Int))).setCell ⟨bx,3,none⟩ (.int .u64 (r.next:Int))).setCell ⟨bx,4,none⟩ (.int .u32 (r.change.page:Int))).setCell ⟨bx,5,none⟩ (.int .u16 (r.change.slot:Int))).setCell ⟨bx,6,none⟩ (.bool r.change.had)).setCell ⟨bx,7,none⟩ (.bool r.change.has)).setCell ⟨bx,8,none⟩ (.slice pb r.change.before.length cb)).setCell ⟨bx,9,none⟩ (.slice pa r.change.after.length ca)).setCell ⟨bx,10,none⟩ (.slice O r.txns.length q)).setCell ⟨bx,11,none⟩ (.slice R r.pages.length cp)) B bx tRx 127 [.int .u8 (r.kind:Int),.int .u32 (r.txn:Int),.int .u64 (r.prev:Int),.int .u64 (r.next:Int),.int .u32 (r.change.page:Int),.int .u16 (r.change.slot:Int),.bool r.change.had,.bool r.change.has,.slice pb r.change.before.length cb,.slice pa r.change.after.length ca,.slice O r.txns.length q,.slice R r.pages.length cp]:=((((((((((((d.out.set 0 (.int .u8 (r.kind:Int))).set 1 (.int .u32 (r.txn:Int))).set 2 (.int .u64 (r.prev:Int))).set 3 (.int .u64 (r.next:Int))).set 4 (.int .u32 (r.change.page:Int))).set 5 (.int .u16 (r.change.slot:Int))).set 6 (.bool r.change.had)).set 7 (.bool r.change.has)).set 8 (.slice pb r.change.before.length cb)).set 9 (.slice pa r.change.after.length ca)).set 10 (.slice O r.txns.length q)).set 11 (.slice R r.pages.length cp))
  have F:Step w3 B ((((((((((((w3.setCell ⟨bx,0,none⟩ (.int .u8 (r.kind:Int))).setCell ⟨bx,1,none⟩ (.int .u32 (r.txn:Int))).setCell ⟨bx,2,none⟩ (.int .u64 (r.prev:Int))).setCell ⟨bx,3,none⟩ (.int .u64 (r.next:Int))).setCell ⟨bx,4,none⟩ (.int .u32 (r.change.page:Int))).setCell ⟨bx,5,none⟩ (.int .u16 (r.change.slot:Int))).setCell ⟨bx,6,none⟩ (.bool r.change.had)).setCell ⟨bx,7,none⟩ (.bool r.change.has)).setCell ⟨bx,8,none⟩ (.slice pb r.change.before.length cb)).setCell ⟨bx,9,none⟩ (.slice pa r.change.after.length ca)).setCell ⟨bx,10,none⟩ (.slice O r.txns.length q)).setCell ⟨bx,11,none⟩ (.slice R r.pages.length cp)) B (fun t=>t=tRx):=(((((((((((((Step.refl w3 B (fun t=>t=tRx)).set (o:=0) d.out.tag rfl _).set (o:=1) d.out.tag rfl _).set (o:=2) d.out.tag rfl _).set (o:=3) d.out.tag rfl _).set (o:=4) d.out.tag rfl _).set (o:=5) d.out.tag rfl _).set (o:=6) d.out.tag rfl _).set (o:=7) d.out.tag rfl _).set (o:=8) d.out.tag rfl _).set (o:=9) d.out.tag rfl _).set (o:=10) d.out.tag rfl _).set (o:=11) d.out.tag rfl _)
  have b6:Step w τ ((((((((((((w3.setCell ⟨bx,0,none⟩ (.int .u8 (r.kind:Int))).setCell ⟨bx,1,none⟩ (.int .u32 (r.txn:Int))).setCell ⟨bx,2,none⟩ (.int .u64 (r.prev:Int))).setCell ⟨bx,3,none⟩ (.int .u64 (r.next:Int))).setCell ⟨bx,4,none⟩ (.int .u32 (r.change.page:Int))).setCell ⟨bx,5,none⟩ (.int .u16 (r.change.slot:Int))).setCell ⟨bx,6,none⟩ (.bool r.change.had)).setCell ⟨bx,7,none⟩ (.bool r.change.has)).setCell ⟨bx,8,none⟩ (.slice pb r.change.before.length cb)).setCell ⟨bx,9,none⟩ (.slice pa r.change.after.length ca)).setCell ⟨bx,10,none⟩ (.slice O r.txns.length q)).setCell ⟨bx,11,none⟩ (.slice R r.pages.length cp)) B ReadTag:=((((((((((((al.out.setNew (b:=bx) (o:=0) C _).setNew (b:=bx) (o:=1) C _).setNew (b:=bx) (o:=2) C _).setNew (b:=bx) (o:=3) C _).setNew (b:=bx) (o:=4) C _).setNew (b:=bx) (o:=5) C _).setNew (b:=bx) (o:=6) C _).setNew (b:=bx) (o:=7) C _).setNew (b:=bx) (o:=8) C _).setNew (b:=bx) (o:=9) C _).setNew (b:=bx) (o:=10) C _).setNew (b:=bx) (o:=11) C _)
  have cv:Step I τ1 ((((((((((((w3.setCell ⟨bx,0,none⟩ (.int .u8 (r.kind:Int))).setCell ⟨bx,1,none⟩ (.int .u32 (r.txn:Int))).setCell ⟨bx,2,none⟩ (.int .u64 (r.prev:Int))).setCell ⟨bx,3,none⟩ (.int .u64 (r.next:Int))).setCell ⟨bx,4,none⟩ (.int .u32 (r.change.page:Int))).setCell ⟨bx,5,none⟩ (.int .u16 (r.change.slot:Int))).setCell ⟨bx,6,none⟩ (.bool r.change.had)).setCell ⟨bx,7,none⟩ (.bool r.change.has)).setCell ⟨bx,8,none⟩ (.slice pb r.change.before.length cb)).setCell ⟨bx,9,none⟩ (.slice pa r.change.after.length ca)).setCell ⟨bx,10,none⟩ (.slice O r.txns.length q)).setCell ⟨bx,11,none⟩ (.slice R r.pages.length cp)) B RT:=(bm.out.mono (fun _ h=>.inl h)).trans (F.mono (fun _ h=>.inr (.inl h)))
  have bp:=ax.out _ _ cv
  have cw:=bg.out.step F (by decide)
  have cx:=bh.out.step F (by decide)
  have cy:=bi.out.step F (by decide)
  have cz:=bj.out.step F (by decide)
  have da:=bk.out.step F (by decide)
  obtain⟨D,db,l,e0,e1,e2,e3⟩:=hid7 cr b6 cw cx cy cz da
  clear cr b6 cw cx cy cz da
  refine G.out _ _ (fun _=>bp) ?_
  clear G K F cv d bg al bh bi bj bk bm c0 z0 c1 z1 c2 z2 c3 z3 c4 z4 c5 z5 c6 z6 c7 z7 c8 z8 c9 z9 bn dy bo dz az
  generalize ((((((((((((w3.setCell ⟨bx,0,none⟩ (.int .u8 (r.kind:Int))).setCell ⟨bx,1,none⟩ (.int .u32 (r.txn:Int))).setCell ⟨bx,2,none⟩ (.int .u64 (r.prev:Int))).setCell ⟨bx,3,none⟩ (.int .u64 (r.next:Int))).setCell ⟨bx,4,none⟩ (.int .u32 (r.change.page:Int))).setCell ⟨bx,5,none⟩ (.int .u16 (r.change.slot:Int))).setCell ⟨bx,6,none⟩ (.bool r.change.had)).setCell ⟨bx,7,none⟩ (.bool r.change.has)).setCell ⟨bx,8,none⟩ (.slice pb r.change.before.length cb)).setCell ⟨bx,9,none⟩ (.slice pa r.change.after.length ca)).setCell ⟨bx,10,none⟩ (.slice O r.txns.length q)).setCell ⟨bx,11,none⟩ (.slice R r.pages.length cp))=w4 at *
  refine tk1 19 rfl fun K G=>?_
  go_simp
  refine G.out _ _ (fun _=>bp) ?_
  clear G K
  refine tk1 20 rfl fun K G=>?_
  go_simp
  refine G.out _ _ (fun h=>absurd h (by decide +kernel)) ?_
  clear G K
  refine Qad (by kernel_rfl) ?_ _
  have c0:=D.out.at 0 (v:=.int .u8 (r.kind:Int)) rfl
  have c1:=D.out.at 1 (v:=.int .u32 (r.txn:Int)) rfl
  have c2:=D.out.at 2 (v:=.int .u64 (r.prev:Int)) rfl
  have c3:=D.out.at 3 (v:=.int .u64 (r.next:Int)) rfl
  have c4:=D.out.at 4 (v:=.int .u32 (r.change.page:Int)) rfl
  have c5:=D.out.at 5 (v:=.int .u16 (r.change.slot:Int)) rfl
  have c6:=D.out.at 6 (v:=.bool r.change.had) rfl
  have c7:=D.out.at 7 (v:=.bool r.change.has) rfl
  have c8:=D.out.at 8 (v:=.slice pb r.change.before.length cb) rfl
  have c9:=D.out.at 9 (v:=.slice pa r.change.after.length ca) rfl
  have bn:=D.out.at 10 (v:=.slice O r.txns.length q) rfl
  have bo:=D.out.at 11 (v:=.slice R r.pages.length cp) rfl
  have hwn:=Qam n (by omega)
  have hwa:IntKind.u64.wrap ((lsn:Int)+(n:Int))=(lsn:Int)+(n:Int):=by
   have:=Qer (a:=lsn) (b:=n) (by omega)
   rw[X3] at this
   exact this
  have dc:((lsn+n:Nat):Int)=(lsn:Int)+(n:Int):=X3 ..
  have d0:=l.out.at 0 (v:=.int .u8 0) rfl
  have y0:=l.out.fz 0
  have d1:=l.out.at 1 (v:=.int .u32 0) rfl
  have y1:=l.out.fz 1
  have d2:=l.out.at 2 (v:=.int .u64 0) rfl
  have y2:=l.out.fz 2
  have d3:=l.out.at 3 (v:=.int .u64 0) rfl
  have y3:=l.out.fz 3
  have d4:=l.out.at 4 (v:=.int .u32 0) rfl
  have y4:=l.out.fz 4
  have d5:=l.out.at 5 (v:=.int .u16 0) rfl
  have y5:=l.out.fz 5
  have d6:=l.out.at 6 (v:=.bool false) rfl
  have y6:=l.out.fz 6
  have d7:=l.out.at 7 (v:=.bool false) rfl
  have y7:=l.out.fz 7
  have d8:=l.out.at 8 (v:=.slice none 0 0) rfl
  have y8:=l.out.fz 8
  have d9:=l.out.at 9 (v:=.slice none 0 0) rfl
  have y9:=l.out.fz 9
  have d10:=l.out.at 10 (v:=.slice none 0 0) rfl
  have e4:=l.out.fz 10
  have d11:=l.out.at 11 (v:=.slice none 0 0) rfl
  have e5:=l.out.fz 11
  clear bp
  go_wp2_with fail
  have s:Own ((((((((((((w4.setCell ⟨p,0,none⟩ (.int .u8 (r.kind:Int))).setCell ⟨p,1,none⟩ (.int .u32 (r.txn:Int))).setCell ⟨p,2,none⟩ (.int .u64 (r.prev:Int))).setCell ⟨p,3,none⟩ (.int .u64 (r.next:Int))).setCell ⟨p,4,none⟩ (.int .u32 (r.change.page:Int))).setCell ⟨p,5,none⟩ (.int .u16 (r.change.slot:Int))).setCell ⟨p,6,none⟩ (.bool r.change.had)).setCell ⟨p,7,none⟩ (.bool r.change.has)).setCell ⟨p,8,none⟩ (.slice pb r.change.before.length cb)).setCell ⟨p,9,none⟩ (.slice pa r.change.after.length ca)).setCell ⟨p,10,none⟩ (.slice O r.txns.length q)).setCell ⟨p,11,none⟩ (.slice R r.pages.length cp)) B p tRr 127 [.int .u8 (r.kind:Int),.int .u32 (r.txn:Int),.int .u64 (r.prev:Int),.int .u64 (r.next:Int),.int .u32 (r.change.page:Int),.int .u16 (r.change.slot:Int),.bool r.change.had,.bool r.change.has,.slice pb r.change.before.length cb,.slice pa r.change.after.length ca,.slice O r.txns.length q,.slice R r.pages.length cp]:=((((((((((((l.out.set 0 (.int .u8 (r.kind:Int))).set 1 (.int .u32 (r.txn:Int))).set 2 (.int .u64 (r.prev:Int))).set 3 (.int .u64 (r.next:Int))).set 4 (.int .u32 (r.change.page:Int))).set 5 (.int .u16 (r.change.slot:Int))).set 6 (.bool r.change.had)).set 7 (.bool r.change.has)).set 8 (.slice pb r.change.before.length cb)).set 9 (.slice pa r.change.after.length ca)).set 10 (.slice O r.txns.length q)).set 11 (.slice R r.pages.length cp))
  have am:Step w4 B ((((((((((((w4.setCell ⟨p,0,none⟩ (.int .u8 (r.kind:Int))).setCell ⟨p,1,none⟩ (.int .u32 (r.txn:Int))).setCell ⟨p,2,none⟩ (.int .u64 (r.prev:Int))).setCell ⟨p,3,none⟩ (.int .u64 (r.next:Int))).setCell ⟨p,4,none⟩ (.int .u32 (r.change.page:Int))).setCell ⟨p,5,none⟩ (.int .u16 (r.change.slot:Int))).setCell ⟨p,6,none⟩ (.bool r.change.had)).setCell ⟨p,7,none⟩ (.bool r.change.has)).setCell ⟨p,8,none⟩ (.slice pb r.change.before.length cb)).setCell ⟨p,9,none⟩ (.slice pa r.change.after.length ca)).setCell ⟨p,10,none⟩ (.slice O r.txns.length q)).setCell ⟨p,11,none⟩ (.slice R r.pages.length cp)) B (fun t=>t=tRr):=(((((((((((((Step.refl w4 B (fun t=>t=tRr)).set (o:=0) l.out.tag rfl _).set (o:=1) l.out.tag rfl _).set (o:=2) l.out.tag rfl _).set (o:=3) l.out.tag rfl _).set (o:=4) l.out.tag rfl _).set (o:=5) l.out.tag rfl _).set (o:=6) l.out.tag rfl _).set (o:=7) l.out.tag rfl _).set (o:=8) l.out.tag rfl _).set (o:=9) l.out.tag rfl _).set (o:=10) l.out.tag rfl _).set (o:=11) l.out.tag rfl _)
  have b7:Step w τ ((((((((((((w4.setCell ⟨p,0,none⟩ (.int .u8 (r.kind:Int))).setCell ⟨p,1,none⟩ (.int .u32 (r.txn:Int))).setCell ⟨p,2,none⟩ (.int .u64 (r.prev:Int))).setCell ⟨p,3,none⟩ (.int .u64 (r.next:Int))).setCell ⟨p,4,none⟩ (.int .u32 (r.change.page:Int))).setCell ⟨p,5,none⟩ (.int .u16 (r.change.slot:Int))).setCell ⟨p,6,none⟩ (.bool r.change.had)).setCell ⟨p,7,none⟩ (.bool r.change.has)).setCell ⟨p,8,none⟩ (.slice pb r.change.before.length cb)).setCell ⟨p,9,none⟩ (.slice pa r.change.after.length ca)).setCell ⟨p,10,none⟩ (.slice O r.txns.length q)).setCell ⟨p,11,none⟩ (.slice R r.pages.length cp)) B ReadTag:=((((((((((((db.out.setNew (b:=p) (o:=0) (by rw[<-z.out];exact Z0 _) _).setNew (b:=p) (o:=1) (by rw[<-z.out];exact Z0 _) _).setNew (b:=p) (o:=2) (by rw[<-z.out];exact Z0 _) _).setNew (b:=p) (o:=3) (by rw[<-z.out];exact Z0 _) _).setNew (b:=p) (o:=4) (by rw[<-z.out];exact Z0 _) _).setNew (b:=p) (o:=5) (by rw[<-z.out];exact Z0 _) _).setNew (b:=p) (o:=6) (by rw[<-z.out];exact Z0 _) _).setNew (b:=p) (o:=7) (by rw[<-z.out];exact Z0 _) _).setNew (b:=p) (o:=8) (by rw[<-z.out];exact Z0 _) _).setNew (b:=p) (o:=9) (by rw[<-z.out];exact Z0 _) _).setNew (b:=p) (o:=10) (by rw[<-z.out];exact Z0 _) _).setNew (b:=p) (o:=11) (by rw[<-z.out];exact Z0 _) _)
  have U:=e0.out.step am (by decide)
  have ai:=e1.out.step am (by decide)
  have aa:=e2.out.step am (by decide)
  have dd:=e3.out.step am (by decide)
  clear am c0 d0 y0 c1 d1 y1 c2 d2 y2 c3 d3 y3 c4 d4 y4 c5 d5 y5 c6 d6 y6 c7 d7 y7 c8 d8 y8 c9 d9 y9 bn d10 e4 bo d11 e5
  generalize ((((((((((((w4.setCell ⟨p,0,none⟩ (.int .u8 (r.kind:Int))).setCell ⟨p,1,none⟩ (.int .u32 (r.txn:Int))).setCell ⟨p,2,none⟩ (.int .u64 (r.prev:Int))).setCell ⟨p,3,none⟩ (.int .u64 (r.next:Int))).setCell ⟨p,4,none⟩ (.int .u32 (r.change.page:Int))).setCell ⟨p,5,none⟩ (.int .u16 (r.change.slot:Int))).setCell ⟨p,6,none⟩ (.bool r.change.had)).setCell ⟨p,7,none⟩ (.bool r.change.has)).setCell ⟨p,8,none⟩ (.slice pb r.change.before.length cb)).setCell ⟨p,9,none⟩ (.slice pa r.change.after.length ca)).setCell ⟨p,10,none⟩ (.slice O r.txns.length q)).setCell ⟨p,11,none⟩ (.slice R r.pages.length cp))=w5 at *
  have f0:=s.at 0 (v:=.int .u8 (r.kind:Int)) rfl
  have f1:=s.at 1 (v:=.int .u32 (r.txn:Int)) rfl
  have f2:=s.at 2 (v:=.int .u64 (r.prev:Int)) rfl
  have f3:=s.at 3 (v:=.int .u64 (r.next:Int)) rfl
  have f4:=s.at 4 (v:=.int .u32 (r.change.page:Int)) rfl
  have f5:=s.at 5 (v:=.int .u16 (r.change.slot:Int)) rfl
  have f6:=s.at 6 (v:=.bool r.change.had) rfl
  have f7:=s.at 7 (v:=.bool r.change.has) rfl
  have f8:=s.at 8 (v:=.slice pb r.change.before.length cb) rfl
  have f9:=s.at 9 (v:=.slice pa r.change.after.length ca) rfl
  have f10:=s.at 10 (v:=.slice O r.txns.length q) rfl
  have f11:=s.at 11 (v:=.slice R r.pages.length cp) rfl
  obtain⟨Hz5,de,e6,e7,e8,e9⟩:=hid6 s b7 U ai aa dd
  clear s b7 U ai aa dd
  refine bodyPost_ret (by simp[results,Tryz.results143,go_sem,f0,f1,f2,f3,f4,f5,f6,f7,f8,f9,f10,f11];try rfl) rfl ?_
  exact⟨_,B,by rw[dc],⟨_,_,_,_,_,rfl,⟨_,_,rfl,e6.out⟩,⟨_,_,rfl,e7.out⟩,e8.out,e9.out⟩,de.out⟩)
