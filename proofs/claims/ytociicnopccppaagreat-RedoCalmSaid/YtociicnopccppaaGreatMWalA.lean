/-
 The log: Append of a record.
-/
import Derived.Test.YtociicnopccppaaGreatMEncB
set_option maxRecDepth 100000
set_option maxHeartbeats 4000000
set_option linter.all false
namespace Go.Proofs.YtociicnopccppaaGreat
variable {L:qac}{bd bl:Nat}{w:World}{τ:qa1}
open Go.RowKit
theorem Qi0(hl:qaw w τ bl bd L) (hns:L.starts.length<=100000) {v:Value}{r:qak}(hv:qh1 w τ v r) (a1:qes r=true) (cv:(encR r).length<=60000) (a2:r.kind=8->TabC r) (U:Nat) (hcap:L.stream.length+(encR r).length+U<=L.strips*127) :
 Calls Tryz.prog 85 #[.pointer (some ⟨bl,0,none⟩),v,.int .u64 U] w fun e w'=>e = .returned (.tuple #[.int .u64 ((L.base+L.stream.length:Nat):Int),.int .u16 0])/\∃b5,qaw w' b5 bl bd (L.more (encR r))/\Step w τ w' b5 qai:=by
 have hstr:=hl.ok.strips
 have b6:=hl.ok
 have hB:=hl.isB
 have b7:=(by obtain⟨_,_,_,_,_,_,_,_,_,_,_,_,h1,h2,_⟩:=hv.is;exact Qsm h1.isB h2.isB:IsB (encR r))
 have hr27:0<(encR r).length:=by rw[Qbh r];omega
 obtain⟨qb,kb,qa,ka,qt,kt,qp,kp,gt,gp,n0,b8,-⟩:=hv.is
 have l:=fun (W:World) (T:qa1) (m:Step w τ W T nil)=>Qiq (hv.step m) a1 cv a2
 rw[b8] at l ⊢
 clear b8 hv a1 a2
 generalize b9:(encR r).length=rl at *
 generalize encR r=rb at *
 obtain⟨kd,tx,pv,nx,⟨pg,sl,hd,hs,be,af⟩,ts,ps⟩:=r
 dsimp only at *
 generalize be.length=lb at *
 generalize af.length=la at *
 generalize ts.length=lt at *
 generalize ps.length=lp at *
 have k:=(zS w τ).alloc' (.cells (rR kd tx pv nx pg sl hd hs (.slice qb lb kb) (.slice qa la ka) (.slice qt lt kt) (.slice qp lp kp)) 73)
 have ba:=hl.step k zN
 have l:=l _ _ k
 obtain⟨bb,am,cw,HB,X,cx,n⟩:=qdr l k ba hB b9 b7 b6
 clear l k ba hB b9 b7 b6 hl
 go_enter Tryz.func85,Tryz.ntmps85
 go_wp2_with fail
 generalize hW0:w.alloc (.cells (rR kd tx pv nx pg sl hd hs (.slice qb lb kb) (.slice qa la ka) (.slice qt lt kt) (.slice qp lp kp)) 73)=W0 at *
 refine bb.mono ?_
 rintro e w1 ⟨u1,τ1,rfl,q,an⟩
 have Y:=cw.step an zN
 have a3:=am.trans an
 obtain⟨b1,cap1,ys1,rfl,-,-,-,-,-⟩:=q.row (by rw[X.out];omega)
 rw[X.out] at q ⊢
 have a4:=q.bytes
 have y:=Qnj (Y.step (zS w1 τ1).drew (fun _ _ h=>h))
 obtain⟨vs,vt,aq,z,B⟩:=Y.is
 obtain⟨ps,cs,rfl⟩:=z.len
 obtain⟨pt,ct,rfl⟩:=B.len
 have c7:=aq.drew.at 7 rfl
 have a5:=Ql3 (Y.step (zS w1 τ1).drew (fun _ _ h=>h))
 generalize bc:L.base+L.stream.length=en at *
 generalize hR:L.strips*127=R at *
 have hR3:R<=300000:=oM
 have hRw:=Qam R oM
 have hokl:=n.stream
 have hcap':¬(R:Int)-U<(L.stream.length:Int)+rl:=oM
 have bf:∀vs vt,(Qa8 L bd vs vt)[7]?=some vs:=fun _ _=>rfl
 have bg:∀vs vt,(Qa8 L bd vs vt)[8]?=some vt:=fun _ _=>rfl
 have C:∀vs vt a b,((Qa8 L bd vs vt).set 8 b).set 7 a=Qa8 (L.more rb) bd a b:=fun _ _ _ _=>rfl
 have d:(L.more rb).stream=L.stream++rb:=rfl
 have p:(L.more rb).starts=L.starts++[L.stream.length]:=rfl
 have a6:(L.more rb).ok:=⟨n.stamp,n.base,n.check,n.qc0,n.strips,n.slot,by rw[d,Z6,X.out];omega,by rw[p,Z6,List.length_singleton];omega,by rw[d,Z6];exact Y3 n.lasts (Nat.le_add_right _ _)⟩
 have bh:IsB (L.more rb).stream:=by rw[d];exact HB.append cx
 obtain⟨a7,a8,D,bi,a9,aa,bj,E,ar,av,aw,ax⟩:=qds a3 a4 y aq z B a5 bf bg C d p
 obtain⟨bk,cy⟩:=qaj a6 bh
 clear a3 a4 y aq z B a5 bf bg C d p a6 bh hR Y an q
 generalize ay:L.stream.length=sn at *
 go_wp2_with fail
 have hd1n:decide (R<U)=false:=by simp;omega
 have cz:IntKind.i64.wrap (U:Int)=U:=Qbr U oM
 have d0:IntKind.i64.wrap ((R:Int)-U)=(R:Int)-U:=Qd6 oM oM
 have bm:IntKind.i64.wrap (R:Int)=R:=Qbr R oM
 have d1:decide ((R:Int)-U<(sn:Int)+rl)=false:=by simp;omega
 have d2:IntKind.i64.wrap ((sn:Int)+rl)=(sn:Int)+rl:=Qd6 oM oM
 refine Qaf (S:=fun w':World=>w'.cell? ⟨bl,7,none⟩=some (.slice ps sn cs)) kR ?_
 have bn:w1.drew.cell? ⟨bl,7,none⟩=some (.slice ps sn cs):=c7
 refine tk0 [0,1] ?_
 iterate 2
  refine tkv (v:=?_) ?_ ?_
  rotate_left
  ·intro w c;(try dsimp only at c);go_simp
   all_goals with_reducible rfl
  try simp only[Act.put,lz1,lz2,lz3]
 refine tk9 ?_
 try simp only[lz4,lz5,lz6,lz1,lz2,lz3]
 refine Qst (i:=2) dK rfl (fun K g=>?_)
 go_simp
 go_at_call 140
 refine D.mono ?_
 rintro e w2 ⟨rfl,rfl⟩
 refine g.out _ _ (fun _=>c7) ?_
 clear g K
 refine tk0 [3,4,5] ?_
 iterate 3
  refine tkv (v:=?_) ?_ ?_
  rotate_left
  ·intro w c;(try dsimp only at c);go_simp
   all_goals with_reducible rfl
  try simp only[Act.put,lz1,lz2,lz3]
 refine tk9 ?_
 try simp only[lz4,lz5,lz6,lz1,lz2,lz3]
 refine tk0 [6,7,8,9] ?_
 iterate 4
  refine tkv (v:=?_) ?_ ?_
  rotate_left
  ·intro w c;(try dsimp only at c);go_simp
   all_goals with_reducible rfl
  try simp only[Act.put,lz1,lz2,lz3]
 refine tk9 ?_
 try simp only[lz4,lz5,lz6,lz1,lz2,lz3]
 refine tk0 [10,11,12,13] ?_
 iterate 4
  refine tkv (v:=?_) ?_ ?_
  rotate_left
  ·intro w c;(try dsimp only at c);go_simp
   all_goals with_reducible rfl
  try simp only[Act.put,lz1,lz2,lz3]
 refine tk9 ?_
 try simp only[lz4,lz5,lz6,lz1,lz2,lz3]
 refine tk0 [14,16,17] ?_
 iterate 3
  refine tkv (v:=?_) ?_ ?_
  rotate_left
  ·intro w c;(try dsimp only at c);go_simp
   all_goals with_reducible rfl
  try simp only[Act.put,lz1,lz2,lz3]
 refine tk9 ?_
 try simp only[lz4,lz5,lz6,lz1,lz2,lz3]
 refine Qst (i:=15) dK rfl (fun K g=>?_)
 go_simp
 go_at_call 140
 refine D.mono ?_
 rintro e w2 ⟨rfl,rfl⟩
 refine g.out _ _ (fun _=>c7) ?_
 clear g K
 try simp only[lz4,lz5,lz6,lz1,lz2,lz3]
 refine tk0 [18,19,20] ?_
 iterate 3
  refine tkv (v:=?_) ?_ ?_
  rotate_left
  ·intro w c;(try dsimp only at c);go_simp
   all_goals with_reducible rfl
  try simp only[Act.put,lz1,lz2,lz3]
 refine tk9 ?_
 refine Qad kR ?_ _
 go_wp2_with fail
 refine bj.mono ?_
 rintro e w2 ⟨rfl,bp⟩
 have j:=(zS w1 τ1).drew.trans bp
 have F:=(bi.step j id).drew
 have ab:=(a9.step j id).drew
 have ac:=(aa.step j id).drew
 have ad:=(a8.step j id).drew
 have ae:=(a7.trans j).drew
 generalize bq:L.starts.length=nt at *
 have c8:=F.at 8 (v:=.slice pt nt ct) (ar _ _)
 have br:=F.at 7 (v:=.slice ps sn cs) (E _ _)
 have bs:Ints w2.drew τ1 qa6 (.slice pt nt ct) L.starts:=by unfold Ints;rw[bq];exact ac
 have az:=F.alloc (.cells #[.int .i64 sn] 3)
 have d3:=az.at 8 (v:=.slice pt nt ct) (ar _ _)
 have d4:=az.at 7 (v:=.slice ps sn cs) (E _ _)
 have bn:w2.drew.cell? ⟨bl,8,none⟩=some (.slice pt nt ct)/\w2.drew.cell? ⟨bl,7,none⟩=some (.slice ps sn cs):=⟨c8,br⟩
 obtain⟨d5,bv,bw,bz,d6⟩:=qbq F ab ad ae bs
 clear F ab ad ae bs az c7 c8 br bp j ac a7 a8 bi a9 aa d1 d2 cz d0 bm
 go_wp2_with fail
 refine Qaf (S:=fun w':World=>w'.cell? ⟨bl,8,none⟩=some (.slice pt nt ct)/\w'.cell? ⟨bl,7,none⟩=some (.slice ps sn cs)) kR ?_
 refine tk0 [0,1,2,3,4,5,6,7,8,9] ?_
 iterate 10
  refine tkv (v:=?_) ?_ ?_
  rotate_left
  ·intro w c;(try dsimp only at c);go_simp
   all_goals with_reducible rfl
  try simp only[Act.put,lz1,lz2,lz3]
 refine tk9 ?_
 clear bn
 refine Qst (i:=10) dK rfl (fun K g=>?_)
 go_simp
 refine g.out _ _ (fun _=>⟨d3,d4⟩) ?_
 clear g K
 refine Qst (i:=11) dK rfl (fun K g=>?_)
 refine Qfx d6 sn rfl (by rw[bq];omega) rfl rfl _ _ rfl rfl rfl ?_
 intro v3 w3 G b2 I
 obtain⟨p3,c3,rfl,-,-⟩:=b2.read
 have x:=d5.step I dC
 have d8:=x.at 8 (v:=.slice pt nt ct) (ar _ _)
 have d7:=x.at 7 (v:=.slice ps sn cs) (E _ _)
 have z8:=x.fz 8
 have c4:=x.set 8 (.slice p3 (L.starts++[sn]).length c3)
 have J:Step w3 G (w3.setCell ⟨bl,8,none⟩ (.slice p3 (L.starts++[sn]).length c3)) G (fun t=>t=qb1):=(Step.refl w3 G (fun t=>t=qb1)).set (o:=8) x.tag rfl _
 have c6:=b2.step J dC
 have c9:=(bv.step I dC).step J dC
 have ag:=(bw.step I dC).step J dC
 have ah:=((bz.nz (T:=qai)).trans (I.mono (T:=qai) (fun _ h=>.inr (.inr h)))).trans (J.mono (T:=qai) (fun _ h=>.inl h))
 obtain⟨ca,d9,da,cb,cc⟩:=qbq c4 c6 c9 ag ah
 clear c4 c6 c9 ag ah I b2 x J
 generalize (L.starts++[sn]).length=nt2 at *
 refine g.out _ _ (fun _=>⟨d8,d7⟩) ?_
 clear g K
 refine Qst (i:=12) dK rfl (fun K g=>?_)
 go_simp
 refine g.out _ _ (fun _=>⟨d8,d7⟩) ?_
 clear g K
 refine Qst (i:=13) dK rfl (fun K g=>?_)
 go_simp
 refine g.out _ _ (fun _=>⟨d8,d7⟩) ?_
 clear g K
 refine Qst (i:=14) dK rfl (fun K g=>?_)
 go_simp
 refine g.out _ _ (fun h=>absurd h dK) ?_
 clear g K
 refine Qad kR ?_ _
 have e7:=ca.at 7 (v:=.slice ps sn cs) (by rw[List.getElem?_set_ne oM];exact E _ _)
 have M:=Qpi (show Buf _ G qa5 5 1 (.slice ps sn cs) L.stream.length (u8s L.stream) by rw[ay];exact da) HB
 rw[show w_z (w3.setCell ⟨bl,8,none⟩ (.slice p3 nt2 c3))=w_z (w3.setCell ⟨bl,8,none⟩ (.slice p3 nt2 c3)) from rfl] at M
 have ai:L.stream.length+rb.length<=100000000000:=by rw[X.out,ay];omega
 have aj:=Qyk (w3.setCell ⟨bl,8,none⟩ (.slice p3 nt2 c3)) G qai
 obtain⟨cd,ce,cf⟩:=qan M ai aj
 clear M ai aj d7 d8 z8
 generalize hw4:w3.setCell ⟨bl,8,none⟩ (.slice p3 nt2 c3)=w4 at *
 go_wp2_with (at_builtin;refine Qal cf cd cb ce rfl _ _ rfl rfl rfl ?_;intro v5 w5 Z cg dc s;obtain⟨p5,c5,rfl⟩:=cg.val;generalize (L.stream++rb).length=nsl at *;have O:=ca.step s dC;have ch:=d9.step s dC;have f7:=O.at 7 (v:=.slice ps sn cs) (by rw[List.getElem?_set_ne oM];exact E _ _);have z7:=O.fz 7;have ci:=O.set 7 (.slice p5 nsl c5);have a0:Step w5 Z (w5.setCell ⟨bl,7,none⟩ (.slice p5 nsl c5)) Z (fun t=>t=qb1):=(Step.refl w5 Z (fun t=>t=qb1)).set (o:=7) O.tag rfl _;have cj:=ch.step a0 dC;have ck:=cg.step a0 dC;have ak:=(cc.trans (s.mono (T:=qai) (fun _ h=>.inr (.inl h)))).trans (a0.mono (T:=qai) (fun _ h=>.inl h));obtain⟨dd,de,df,cm⟩:=qb9 ci cj ck ak;clear ci cj ck ak;clear dc s O ch a0)
 go_ret2
 have cn:=dd.out
 rw[av.out] at cn
 refine⟨by first|rfl|(rw[ay,bc];rfl)|(rw[<-bc];rfl),Z,⟨⟨_,_,cn,?_,?_⟩,cy,bk⟩,cm⟩
 ·rw[aw.out];exact df.buf
 ·rw[ax.out];exact de
def qgd:Tag:=(210,0)
def qak.own (r:qak) (x:qa9):qak:={r with txn:=x.txn,prev:=x.last}
theorem Qe2 {bm bp:Nat} {bo:Nat->Nat} {X:List qa9} {next:Nat}(hm:qbr w τ bm bl bp bo X next) (hl:qaw w τ bl bd L) {x:qa9}(hx:x∈X) (hn:L.starts.length<=100000) {v:Value}{r:qak}(hv:qh1 w τ v r) (l:qes r=true) (bj:(encR (r.own x)).length<=60000) (n:r.kind≠8) (al:x.last<18446744073709551616) (sp:Nat) (av:L.stream.length+(encR (r.own x)).length+sp<=L.strips*127) :
 Calls Tryz.prog 44 #[.pointer (some ⟨bm,0,none⟩),.pointer (some ⟨bo x.txn,0,none⟩),v,.int .u64 sp] w fun e w'=>e = .returned (.tuple #[.int .u64 ((L.base+L.stream.length:Nat):Int),.int .u16 0])/\∃am,qaw w' am bl bd (L.more (encR (r.own x)))/\qel w' am (bo x.txn) {x with last:=L.base+L.stream.length}/\Step w τ w' am (fun t=>qai t\/t=qab x.txn):=by
 have s:qes (r.own x)=true:=l
 have y:(r.own x).kind=8->TabC (r.own x):=fun h=>absurd h n
 obtain⟨F,kb,G,I,J,M,O,R,gt,gp,n0,rfl,hb,ha,ht,hp,bq,bs⟩:=hv.is
 have hlow:=hm.low x hx
 have hnx:=hm.nx
 obtain⟨va,aw,ax⟩:=(hm.ones x hx).is
 obtain⟨ba,q,-⟩:=hm.is
 have bv:=(hm.ones x hx).len
 have bw:=(hm.ones x hx).size
 have a3:=fun (W:World) (T:qa1) (m:Step w τ W T nil)=>by
  have hl:=hl.step m zN
  have hv:qh1 W T (.agg (rR r.kind x.txn x.last r.next r.change.page r.change.slot r.change.had r.change.has (.slice F r.change.before.length kb) (.slice G r.change.after.length I) (.slice J r.qbm.length M) (.slice O r.pages.length R))) (r.own x):=⟨⟨F,kb,G,I,J,M,O,R,gt,gp,n0,rfl,hb.step m id,ha.step m id,ht.step m id,hp.step m id,bq,bs⟩,hv.kind,by show x.txn<_;omega,al,hv.next,hv.page,hv.slot⟩
  have l:=s
  have n:=y
  exact Qi0 hl oM hv l bj n sp av
 generalize hE:encR (r.own x)=E at *
 have a4:∀(W:World) (T:qa1) (lsn:Nat),Own W T (bo x.txn) (qab x.txn) 108 (({x with last:=lsn}:qa9).cells va)->NS 214 2 Qa0 0 W T (qd3 x.txn) va x.ch->qel W T (bo x.txn) {x with last:=lsn}:=fun W T lsn h1 h2=>⟨⟨va,h1,h2⟩,bv,bw⟩
 have ay:∀lsn:Nat,(x.cells va).set 1 (.int .u64 lsn)=({x with last:=lsn}:qa9).cells va:=fun _=>rfl
 have z:=(zS w τ).alloc (.cells (rR r.kind r.txn r.prev r.next r.change.page r.change.slot r.change.had r.change.has (.slice F r.change.before.length kb) (.slice G r.change.after.length I) (.slice J r.qbm.length M) (.slice O r.pages.length R)) 73) qgd
 have a:=Own.born w τ qgd 73 (rR r.kind r.txn r.prev r.next r.change.page r.change.slot r.change.had r.change.has (.slice F r.change.before.length kb) (.slice G r.change.after.length I) (.slice J r.qbm.length M) (.slice O r.pages.length R))
 have an:(x.cells va)[0]?=some (.int .u32 x.txn):=rfl
 have U:(x.cells va)[1]?=some (.int .u64 x.last):=rfl
 generalize x.cells va=XC at *
 clear hv hb ha ht hp l s y n hE
 obtain⟨kd,tx,pv,nx,⟨pg,sl,hd,hs,be,af⟩,ts,ps⟩:=r
 dsimp only at *
 generalize be.length=lb at *
 generalize af.length=la at *
 generalize ts.length=lt at *
 generalize ps.length=lp at *
 obtain⟨br,bz⟩:=gN w.heap.size
 have b0:w.heap.size<=br:=oM
 generalize hT:τ.put w.heap.size qgd=T1 at *
 rw[bz] at a
 generalize b1:w.alloc (.cells (rR kd tx pv nx pg sl hd hs (.slice F lb kb) (.slice G la I) (.slice J lt M) (.slice O lp R)) 73)=W1 at *
 have c:=aw.step z id
 have a5:=q.step z id
 have a6:=ax.step z id
 generalize c3:x.txn=tn at *
 generalize c4:x.last=la0 at *
 generalize bo tn=b at *
 have b2:b≠br:=c.ne a (by simp[qab,qgd])
 have ao:W1.drew.cell? ⟨b,0,none⟩=some (.int .u32 tn)/\W1.drew.cell? ⟨b,1,none⟩=some (.int .u64 la0):=⟨c.drew.at 0 an,c.drew.at 1 U⟩
 have c1:=a.at 1 rfl
 have z1:=a.fz 1
 have c2:=a.at 2 rfl
 have z2:=a.fz 2
 have a7:Own _ T1 br qgd 73 [.int .u8 kd,.int .u32 tn,.int .u64 la0,.int .u64 nx,.int .u32 pg,.int .u16 sl,.bool hd,.bool hs,.slice F lb kb,.slice G la I,.slice J lt M,.slice O lp R]:=((a.set 1 (.int .u32 tn)).set 2 (.int .u64 la0)).drew
 have Y:Step W1 T1 (((W1.setCell ⟨br,1,none⟩ (.int .u32 tn)).setCell ⟨br,2,none⟩ (.int .u64 la0)).drew) T1 (fun t=>t=qgd):=(((Step.refl W1 T1 (fun t=>t=qgd)).set (o:=1) a.tag rfl _).set (o:=2) a.tag rfl _).drew
 have a8:Step w τ (((W1.setCell ⟨br,1,none⟩ (.int .u32 tn)).setCell ⟨br,2,none⟩ (.int .u64 la0)).drew) T1 nil:=((z.qa3 (b:=br) (o:=1) b0 _).qa3 (b:=br) (o:=2) b0 _).drew
 have hA:(W1.drew.setCell ⟨br,1,none⟩ (.int .u32 tn)).cell? ⟨b,0,none⟩=some (.int .u32 tn)/\(W1.drew.setCell ⟨br,1,none⟩ (.int .u32 tn)).cell? ⟨b,1,none⟩=some (.int .u64 la0):=⟨(c.drew.qd1 (p:=⟨br,1,none⟩) b2 _).at 0 an,(c.drew.qd1 (p:=⟨br,1,none⟩) b2 _).at 1 U⟩
 have a9:=c.step Y (by simp[qab,qgd])
 have aa:=a5.step Y (by simp[qe4,qgd])
 have ab:=a6.step Y (by simp[qd3,qgd])
 obtain⟨b3,b4,c5,ac,ad,HA,b5,ae,b6,c7,c8⟩:=qg6 a3 a4 ay a7 a8 hA a9 aa ab b1 U
 clear a3 a4 ay a c a5 a6 a7 Y a8 hA a9 aa ab z hT b1 an U c3 c4 aw q ax
 go_enter Tryz.func44,Tryz.ntmps44
 go_wp2_with fail
 try rw[c7.out]
 refine Qaf (S:=fun W:World=>W.cell? ⟨b,0,none⟩=some (.int .u32 tn)/\W.cell? ⟨b,1,none⟩=some (.int .u64 la0)) kR ?_
 refine tk0 [0,1,2,3,4,5,6,7,8,9,10] ?_
 iterate 11
  refine tkv (v:=?_) ?_ ?_
  rotate_left
  ·intro w B;(try dsimp only at B);go_simp
   all_goals with_reducible rfl
  try simp only[Act.put,lz1,lz2,lz3]
 refine tk9 ?_
 try simp only[lz4,lz5,lz6,lz1,lz2,lz3]
 refine Qst (i:=11) dK rfl (fun K d=>?_)
 go_simp
 refine d.out _ _ (fun _=>HA) ?_
 clear d K ao
 have ao:=HA.out
 refine Qst (i:=12) dK rfl (fun K d=>?_)
 go_simp
 refine d.out _ _ (fun _=>HA) ?_
 clear d K ao
 refine Qst (i:=13) dK rfl (fun K d=>?_)
 go_simp
 refine d.out _ _ (fun h=>absurd h dK) ?_
 clear d K c1 z1 c2 z2
 refine Qad kR ?_ _
 generalize ((W1.setCell ⟨br,1,none⟩ (.int .u32 tn)).setCell ⟨br,2,none⟩ (.int .u64 la0)).drew=W2 at *
 have k:Step W2 T1 W2.drew T1 nil:=(zS W2 T1).drew
 have b7:=b3 W2.drew T1 (ad.trans k)
 have c9:W2.drew.cell? ⟨bm,0,none⟩=some (.pointer (some ⟨bl,0,none⟩))/\W2.drew.cell? ⟨br,0,none⟩=some (.int .u8 kd)/\W2.drew.cell? ⟨br,1,none⟩=some (.int .u32 tn)/\W2.drew.cell? ⟨br,2,none⟩=some (.int .u64 la0)/\W2.drew.cell? ⟨br,3,none⟩=some (.int .u64 nx)/\W2.drew.cell? ⟨br,4,none⟩=some (.int .u32 pg)/\W2.drew.cell? ⟨br,5,none⟩=some (.int .u16 sl)/\W2.drew.cell? ⟨br,6,none⟩=some (.bool hd)/\W2.drew.cell? ⟨br,7,none⟩=some (.bool hs)/\W2.drew.cell? ⟨br,8,none⟩=some (.slice F lb kb)/\W2.drew.cell? ⟨br,9,none⟩=some (.slice G la I)/\W2.drew.cell? ⟨br,10,none⟩=some (.slice J lt M)/\W2.drew.cell? ⟨br,11,none⟩=some (.slice O lp R):=by
  have q:=ae.step k id
  have a:=ac.step k id
  exact⟨q.at 0 rfl,a.at 0 rfl,a.at 1 rfl,a.at 2 rfl,a.at 3 rfl,a.at 4 rfl,a.at 5 rfl,a.at 6 rfl,a.at 7 rfl,a.at 8 rfl,a.at 9 rfl,a.at 10 rfl,a.at 11 rfl⟩
 have b8:∀W T (S:Tag->Prop),Step W2.drew T1 W T S->¬S qe4->¬S qgd->W.cell? ⟨bm,0,none⟩=some (.pointer (some ⟨bl,0,none⟩))/\W.cell? ⟨br,0,none⟩=some (.int .u8 kd)/\W.cell? ⟨br,1,none⟩=some (.int .u32 tn)/\W.cell? ⟨br,2,none⟩=some (.int .u64 la0)/\W.cell? ⟨br,3,none⟩=some (.int .u64 nx)/\W.cell? ⟨br,4,none⟩=some (.int .u32 pg)/\W.cell? ⟨br,5,none⟩=some (.int .u16 sl)/\W.cell? ⟨br,6,none⟩=some (.bool hd)/\W.cell? ⟨br,7,none⟩=some (.bool hs)/\W.cell? ⟨br,8,none⟩=some (.slice F lb kb)/\W.cell? ⟨br,9,none⟩=some (.slice G la I)/\W.cell? ⟨br,10,none⟩=some (.slice J lt M)/\W.cell? ⟨br,11,none⟩=some (.slice O lp R):=fun W T S m a1 a2=>by
  have q:=(ae.step k id).step m a1
  have a:=(ac.step k id).step m a2
  exact⟨q.at 0 rfl,a.at 0 rfl,a.at 1 rfl,a.at 2 rfl,a.at 3 rfl,a.at 4 rfl,a.at 5 rfl,a.at 6 rfl,a.at 7 rfl,a.at 8 rfl,a.at 9 rfl,a.at 10 rfl,a.at 11 rfl⟩
 obtain⟨ca,cb,cc⟩:=qan b7 b8 k
 clear b7 b8 k
 go_wp2_with fail
 refine Qaf (S:=fun W:World=>W.cell? ⟨bm,0,none⟩=some (.pointer (some ⟨bl,0,none⟩))/\W.cell? ⟨br,0,none⟩=some (.int .u8 kd)/\W.cell? ⟨br,1,none⟩=some (.int .u32 tn)/\W.cell? ⟨br,2,none⟩=some (.int .u64 la0)/\W.cell? ⟨br,3,none⟩=some (.int .u64 nx)/\W.cell? ⟨br,4,none⟩=some (.int .u32 pg)/\W.cell? ⟨br,5,none⟩=some (.int .u16 sl)/\W.cell? ⟨br,6,none⟩=some (.bool hd)/\W.cell? ⟨br,7,none⟩=some (.bool hs)/\W.cell? ⟨br,8,none⟩=some (.slice F lb kb)/\W.cell? ⟨br,9,none⟩=some (.slice G la I)/\W.cell? ⟨br,10,none⟩=some (.slice J lt M)/\W.cell? ⟨br,11,none⟩=some (.slice O lp R)) kR ?_
 refine tk0 [0,1,2,3,4,5] ?_
 iterate 6
  refine tkv (v:=?_) ?_ ?_
  rotate_left
  ·intro w B;(try dsimp only at B);go_simp
   all_goals with_reducible rfl
  try simp only[Act.put,lz1,lz2,lz3]
 refine tk9 ?_
 try simp only[lz4,lz5,lz6,lz1,lz2,lz3]
 refine Qst (i:=6) dK rfl (fun K d=>?_)
 go_simp
 go_at_call 85
 refine ca.mono ?_
 rintro e w3 ⟨rfl,T3,b9,ap⟩
 have aq:=cb _ _ _ ap (by simp[qai,qe4,qb1,qa5,qa6]) (by simp[qai,qgd,qb1,qa5,qa6])
 have Z:=cc.nz (T:=qai) |>.trans ap
 have j:=b5.step Z (by simp[qai,qab,qb1,qa5,qa6])
 have ag:=b6.step Z (by simp[qai,qd3,qb1,qa5,qa6])
 have ah:=(ad.nz (T:=qai)).trans Z
 obtain⟨lsn,C⟩:=gN (L.base+L.stream.length)
 rw[C]
 have c1:=j.at 1 c8
 have z1:=j.fz 1
 have D:=j.set 1 (.int .u64 lsn)
 have a0:Step w3 T3 (w3.setCell ⟨b,1,none⟩ (.int .u64 lsn)) T3 (fun t=>t=qab tn):=(Step.refl w3 T3 (fun t=>t=qab tn)).set (o:=1) j.tag rfl _
 have bb:=b9.step a0 (fun g hg e=>by subst e;rcases hg with h|h|h <;> simp[qab,qb1,qa5,qa6] at h)
 have ai:=ag.step a0 (by simp[qd3,qab])
 have aj:=(ah.mono (T:=fun t=>qai t\/t=qab tn) (fun _ h=>.inl h)).trans (a0.mono (fun _ h=>.inr h))
 rw[c5.out] at D
 obtain⟨ce,bc,bf,bg,ak⟩:=qbq bb D ai aj C
 clear bb D ai aj C ap Z j ag ah a0 b9
 refine d.out _ _ (fun _=>aq) ?_
 clear d K
 refine tk0 [7,8,9] ?_
 iterate 3
  refine tkv (v:=?_) ?_ ?_
  rotate_left
  ·intro w B;(try dsimp only at B);go_simp
   all_goals with_reducible rfl
  try simp only[Act.put,lz1,lz2,lz3]
 refine tk9 ?_
 try simp only[lz4,lz5,lz6,lz1,lz2,lz3]
 refine Qst (i:=10) dK rfl (fun K d=>?_)
 go_simp
 refine d.out _ _ (fun _=>aq) ?_
 clear d K
 refine Qst (i:=11) dK rfl (fun K d=>?_)
 go_simp
 refine d.out _ _ (fun h=>absurd h dK) ?_
 clear d K c9 aq
 refine Qad kR ?_ _
 go_wp2_with fail
 go_ret2
 exact⟨by rw[ak.out];rfl,T3,ce,by rw[ak.out];exact b4 _ _ _ bc bf,bg⟩
theorem Qg9 {bm bp:Nat} {bo:Nat->Nat} {X:List qa9} {next:Nat}(hm:qbr w τ bm bl bp bo X next) (hl:qaw w τ bl bd L) {x:qa9}(hx:x∈X) (hn:L.starts.length<=100000) {v:Value}{r:qak}(hv:qh1 w τ v r) (j:qes r=true) (ao:(encR (r.own x)).length<=60000) (k:r.kind≠8) (a4:x.last<18446744073709551616) (sp:Nat) (ap:sp<18446744073709551616) (aa:¬L.stream.length+(encR (r.own x)).length+sp<=L.strips*127) :
 Calls Tryz.prog 44 #[.pointer (some ⟨bm,0,none⟩),.pointer (some ⟨bo x.txn,0,none⟩),v,.int .u64 sp] w fun e w'=>e = .returned (.tuple #[.int .u64 0,.int .u16 80])/\∃aq,Step w τ w' aq nil:=by
 have n:qes (r.own x)=true:=j
 have q:(r.own x).kind=8->TabC (r.own x):=fun h=>absurd h k
 obtain⟨y,kb,z,B,C,D,F,G,gt,gp,n0,rfl,hb,ha,ht,hp,ar,av⟩:=hv.is
 have hlow:=hm.low x hx
 have hnx:=hm.nx
 obtain⟨va,ab,aw⟩:=(hm.ones x hx).is
 obtain⟨ba,l,-⟩:=hm.is
 have J:=fun (W:World) (T:qa1) (m:Step w τ W T nil)=>by
  have hl:=hl.step m zN
  have hv:qh1 W T (.agg (rR r.kind x.txn x.last r.next r.change.page r.change.slot r.change.had r.change.has (.slice y r.change.before.length kb) (.slice z r.change.after.length B) (.slice C r.qbm.length D) (.slice F r.pages.length G))) (r.own x):=⟨⟨y,kb,z,B,C,D,F,G,gt,gp,n0,rfl,hb.step m id,ha.step m id,ht.step m id,hp.step m id,ar,av⟩,hv.kind,by show x.txn<_;omega,a4,hv.next,hv.page,hv.slot⟩
  have j:=n
  have k:=q
  exact Qg1 hl oM hv j ao k sp ap aa
 generalize hE:encR (r.own x)=E at *
 have I:=(zS w τ).alloc (.cells (rR r.kind r.txn r.prev r.next r.change.page r.change.slot r.change.had r.change.has (.slice y r.change.before.length kb) (.slice z r.change.after.length B) (.slice C r.qbm.length D) (.slice F r.pages.length G)) 73) qgd
 have a:=Own.born w τ qgd 73 (rR r.kind r.txn r.prev r.next r.change.page r.change.slot r.change.had r.change.has (.slice y r.change.before.length kb) (.slice z r.change.after.length B) (.slice C r.qbm.length D) (.slice F r.pages.length G))
 have a5:(x.cells va)[0]?=some (.int .u32 x.txn):=rfl
 have a6:(x.cells va)[1]?=some (.int .u64 x.last):=rfl
 generalize x.cells va=XC at *
 clear hv hb ha ht hp j n q k hE
 obtain⟨kd,tx,pv,nx,⟨pg,sl,hd,hs,be,af⟩,ts,ps⟩:=r
 dsimp only at *
 generalize be.length=lb at *
 generalize af.length=la at *
 generalize ts.length=lt at *
 generalize ps.length=lp at *
 obtain⟨br,ax⟩:=gN w.heap.size
 have ad:w.heap.size<=br:=oM
 generalize hT:τ.put w.heap.size qgd=T1 at *
 rw[ax] at a
 generalize ae:w.alloc (.cells (rR kd tx pv nx pg sl hd hs (.slice y lb kb) (.slice z la B) (.slice C lt D) (.slice F lp G)) 73)=W1 at *
 have c:=ab.step I id
 have M:=l.step I id
 generalize ay:x.txn=tn at *
 generalize az:x.last=la0 at *
 generalize bo tn=b at *
 have ag:b≠br:=c.ne a (by simp[qab,qgd])
 have a7:W1.drew.cell? ⟨b,0,none⟩=some (.int .u32 tn)/\W1.drew.cell? ⟨b,1,none⟩=some (.int .u64 la0):=⟨c.drew.at 0 a5,c.drew.at 1 a6⟩
 have c1:=a.at 1 rfl
 have z1:=a.fz 1
 have c2:=a.at 2 rfl
 have z2:=a.fz 2
 have O:Own _ T1 br qgd 73 [.int .u8 kd,.int .u32 tn,.int .u64 la0,.int .u64 nx,.int .u32 pg,.int .u16 sl,.bool hd,.bool hs,.slice y lb kb,.slice z la B,.slice C lt D,.slice F lp G]:=((a.set 1 (.int .u32 tn)).set 2 (.int .u64 la0)).drew
 have ah:Step W1 T1 (((W1.setCell ⟨br,1,none⟩ (.int .u32 tn)).setCell ⟨br,2,none⟩ (.int .u64 la0)).drew) T1 (fun t=>t=qgd):=(((Step.refl W1 T1 (fun t=>t=qgd)).set (o:=1) a.tag rfl _).set (o:=2) a.tag rfl _).drew
 have R:Step w τ (((W1.setCell ⟨br,1,none⟩ (.int .u32 tn)).setCell ⟨br,2,none⟩ (.int .u64 la0)).drew) T1 nil:=((I.qa3 (b:=br) (o:=1) ad _).qa3 (b:=br) (o:=2) ad _).drew
 have hA:(W1.drew.setCell ⟨br,1,none⟩ (.int .u32 tn)).cell? ⟨b,0,none⟩=some (.int .u32 tn)/\(W1.drew.setCell ⟨br,1,none⟩ (.int .u32 tn)).cell? ⟨b,1,none⟩=some (.int .u64 la0):=⟨(c.drew.qd1 (p:=⟨br,1,none⟩) ag _).at 0 a5,(c.drew.qd1 (p:=⟨br,1,none⟩) ag _).at 1 a6⟩
 have U:=M.step ah (by simp[qe4,qgd])
 obtain⟨ai,Y,Z,HA,a0,b1⟩:=qcq J O R hA U ae
 clear J a c M O ah R hA U I hT ae a5 a6 ay az ab l aw
 go_enter Tryz.func44,Tryz.ntmps44
 go_wp2_with fail
 try rw[b1.out]
 refine Qaf (S:=fun W:World=>W.cell? ⟨b,0,none⟩=some (.int .u32 tn)/\W.cell? ⟨b,1,none⟩=some (.int .u64 la0)) kR ?_
 refine tk0 [0,1,2,3,4,5,6,7,8,9,10] ?_
 iterate 11
  refine tkv (v:=?_) ?_ ?_
  rotate_left
  ·intro w s;(try dsimp only at s);go_simp
   all_goals with_reducible rfl
  try simp only[Act.put,lz1,lz2,lz3]
 refine tk9 ?_
 try simp only[lz4,lz5,lz6,lz1,lz2,lz3]
 refine Qst (i:=11) dK rfl (fun K d=>?_)
 go_simp
 refine d.out _ _ (fun _=>HA) ?_
 clear d K a7
 have a7:=HA.out
 refine Qst (i:=12) dK rfl (fun K d=>?_)
 go_simp
 refine d.out _ _ (fun _=>HA) ?_
 clear d K a7
 refine Qst (i:=13) dK rfl (fun K d=>?_)
 go_simp
 refine d.out _ _ (fun h=>absurd h dK) ?_
 clear d K c1 z1 c2 z2
 refine Qad kR ?_ _
 generalize ((W1.setCell ⟨br,1,none⟩ (.int .u32 tn)).setCell ⟨br,2,none⟩ (.int .u64 la0)).drew=W2 at *
 have g:Step W2 T1 W2.drew T1 nil:=(zS W2 T1).drew
 have aj:=ai W2.drew T1 (Z.trans g)
 have b2:W2.drew.cell? ⟨bm,0,none⟩=some (.pointer (some ⟨bl,0,none⟩))/\W2.drew.cell? ⟨br,0,none⟩=some (.int .u8 kd)/\W2.drew.cell? ⟨br,1,none⟩=some (.int .u32 tn)/\W2.drew.cell? ⟨br,2,none⟩=some (.int .u64 la0)/\W2.drew.cell? ⟨br,3,none⟩=some (.int .u64 nx)/\W2.drew.cell? ⟨br,4,none⟩=some (.int .u32 pg)/\W2.drew.cell? ⟨br,5,none⟩=some (.int .u16 sl)/\W2.drew.cell? ⟨br,6,none⟩=some (.bool hd)/\W2.drew.cell? ⟨br,7,none⟩=some (.bool hs)/\W2.drew.cell? ⟨br,8,none⟩=some (.slice y lb kb)/\W2.drew.cell? ⟨br,9,none⟩=some (.slice z la B)/\W2.drew.cell? ⟨br,10,none⟩=some (.slice C lt D)/\W2.drew.cell? ⟨br,11,none⟩=some (.slice F lp G):=by
  have l:=a0.step g id
  have a:=Y.step g id
  exact⟨l.at 0 rfl,a.at 0 rfl,a.at 1 rfl,a.at 2 rfl,a.at 3 rfl,a.at 4 rfl,a.at 5 rfl,a.at 6 rfl,a.at 7 rfl,a.at 8 rfl,a.at 9 rfl,a.at 10 rfl,a.at 11 rfl⟩
 have ak:∀W T (S:Tag->Prop),Step W2.drew T1 W T S->¬S qe4->¬S qgd->W.cell? ⟨bm,0,none⟩=some (.pointer (some ⟨bl,0,none⟩))/\W.cell? ⟨br,0,none⟩=some (.int .u8 kd)/\W.cell? ⟨br,1,none⟩=some (.int .u32 tn)/\W.cell? ⟨br,2,none⟩=some (.int .u64 la0)/\W.cell? ⟨br,3,none⟩=some (.int .u64 nx)/\W.cell? ⟨br,4,none⟩=some (.int .u32 pg)/\W.cell? ⟨br,5,none⟩=some (.int .u16 sl)/\W.cell? ⟨br,6,none⟩=some (.bool hd)/\W.cell? ⟨br,7,none⟩=some (.bool hs)/\W.cell? ⟨br,8,none⟩=some (.slice y lb kb)/\W.cell? ⟨br,9,none⟩=some (.slice z la B)/\W.cell? ⟨br,10,none⟩=some (.slice C lt D)/\W.cell? ⟨br,11,none⟩=some (.slice F lp G):=fun W T S m a1 a2=>by
  have l:=(a0.step g id).step m a1
  have a:=(Y.step g id).step m a2
  exact⟨l.at 0 rfl,a.at 0 rfl,a.at 1 rfl,a.at 2 rfl,a.at 3 rfl,a.at 4 rfl,a.at 5 rfl,a.at 6 rfl,a.at 7 rfl,a.at 8 rfl,a.at 9 rfl,a.at 10 rfl,a.at 11 rfl⟩
 obtain⟨b3,b4,b5⟩:=qan aj ak g
 clear aj ak g
 go_wp2_with fail
 refine Qaf (S:=fun W:World=>W.cell? ⟨bm,0,none⟩=some (.pointer (some ⟨bl,0,none⟩))/\W.cell? ⟨br,0,none⟩=some (.int .u8 kd)/\W.cell? ⟨br,1,none⟩=some (.int .u32 tn)/\W.cell? ⟨br,2,none⟩=some (.int .u64 la0)/\W.cell? ⟨br,3,none⟩=some (.int .u64 nx)/\W.cell? ⟨br,4,none⟩=some (.int .u32 pg)/\W.cell? ⟨br,5,none⟩=some (.int .u16 sl)/\W.cell? ⟨br,6,none⟩=some (.bool hd)/\W.cell? ⟨br,7,none⟩=some (.bool hs)/\W.cell? ⟨br,8,none⟩=some (.slice y lb kb)/\W.cell? ⟨br,9,none⟩=some (.slice z la B)/\W.cell? ⟨br,10,none⟩=some (.slice C lt D)/\W.cell? ⟨br,11,none⟩=some (.slice F lp G)) kR ?_
 refine tk0 [0,1,2,3,4,5] ?_
 iterate 6
  refine tkv (v:=?_) ?_ ?_
  rotate_left
  ·intro w s;(try dsimp only at s);go_simp
   all_goals with_reducible rfl
  try simp only[Act.put,lz1,lz2,lz3]
 refine tk9 ?_
 try simp only[lz4,lz5,lz6,lz1,lz2,lz3]
 refine Qst (i:=6) dK rfl (fun K d=>?_)
 go_simp
 go_at_call 85
 refine b3.mono ?_
 rintro e w3 ⟨rfl,T3,a8⟩
 have a9:=b4 _ _ _ a8 id id
 have a3:=(Z.trans b5).trans a8
 have al:=Z2 a3
 clear a3 a8
 refine d.out _ _ (fun _=>a9) ?_
 clear d K
 refine tk0 [7,8,9] ?_
 iterate 3
  refine tkv (v:=?_) ?_ ?_
  rotate_left
  ·intro w s;(try dsimp only at s);go_simp
   all_goals with_reducible rfl
  try simp only[Act.put,lz1,lz2,lz3]
 refine tk9 ?_
 try simp only[lz4,lz5,lz6,lz1,lz2,lz3]
 refine Qst (i:=10) dK rfl (fun K d=>?_)
 go_simp
 refine d.out _ _ (fun _=>a9) ?_
 clear d K
 refine Qst (i:=11) dK rfl (fun K d=>?_)
 go_simp
 refine d.out _ _ (fun h=>absurd h dK) ?_
 clear d K b2 a9
 refine Qad kR ?_ _
 go_wp2_with fail
 go_ret2
 exact⟨rfl,T3,al⟩
def tRr:Tag:=(205,0)
def tRx:Tag:=(206,0)
def RT (t:Tag):Prop:=qa4 t\/t=tRx\/t=tRr
theorem qjn.step {i:World} {g:qa1} {S:Tag->Prop} {v:Value} {r:qak}(h:qjn w τ v r) (m:Step w τ i g S) (h1:¬S qa2) (h2:¬S tTx) (j:¬S tPx):qjn i g v r:=by
 obtain⟨vb,va,k,l,n0,e,a,b,c,d⟩:=h
 exact⟨vb,va,k,l,n0,e,a.step m h1,b.step m h1,c.step m h2,d.step m j⟩
theorem qac.AtR.at(g:L.qfh) {k:Nat}(c:k<L.starts.length) {j:Nat}{f:Bool}(d:L.AtR (L.base+L.starts.getD k 0) j f):j=k/\f=true:=by
 have a:∀i,(hi:i<L.starts.length)->L.starts.getD i 0=L.starts[i]:=fun i hi=>by rw[Z5,Z3 hi];rfl
 have hlow:=g.low (L.starts.getD k 0) (by rw[a k c];exact List.getElem_mem _)
 have b:=d.within (Nat.le_add_right _ _) oM
 rw[Nat.add_sub_cancel_left] at b
 have e:j=k:=by
  rcases Nat.lt_trichotomy j k with h|h|h
  ·have h1:=b.hi j (Z0 _) oM
   have h2:=g.rise j k h c
   omega
  ·exact h
  ·have:=b.lo k h;omega
 subst e
 exact⟨rfl,by rw[b.is];exact decide_eq_true ⟨c,rfl⟩⟩
theorem Qg8(hl:qaw w τ bl bd L) (hr:L.qfh) {k:Nat}(hk:k<L.starts.length) {x lsn:Nat}(hx:L.starts.getD k 0=x) (be:L.base+x=lsn) {r:qak}{n:Nat}(a3:Qd1 (L.stream.drop x)=some (r,n)) :
 Calls Tryz.prog 65 #[.pointer (some ⟨bl,0,none⟩),.int .u64 lsn] w fun e w'=>∃v bf,e = .returned (.tuple #[v,.int .u64 ((lsn+n:Nat):Int),.int .u16 0])/\qjn w' bf v r/\Step w τ w' bf qa4:=by
 have hbase:=hl.ok.base
 have hstr:=hl.ok.stream
 have cy:x∈L.starts:=by rw[<-hx,Z5,Z3 hk];exact List.getElem_mem _
 have hlow:=hr.low x cy
 have cz:=Qtf a3
 have hn6:n<=1000000:=by have:=cz.2;rw[List.length_drop] at this;omega
 have av:=(zS w τ).alloc (.cells zR 73) tRr
 have aw:=Own.born w τ tRr 73 zR
 have ax:=hl.step av zN
 generalize bg:τ.put w.heap.size tRr=τ1 at *
 have Z:=Qos ax hr lsn oM
 have al:=fun j f (h:L.AtR lsn j f)=>qac.AtR.at hr hk (by rw[hx,be];exact h)
 obtain⟨g,ay⟩:=gN w.heap.size
 rw[ay] at aw
 obtain⟨bh,bi,da,bj,Hx,db,dc,l⟩:=qen Z al ax a3 hx av aw ay
 clear Z al hl ax a3 hx av aw ay bg
 go_enter Tryz.func65,Tryz.ntmps65
 go_wp2_with fail
 rw[l.out]
 generalize w.alloc (.cells zR 73)=W0 at *
 refine bh.mono ?_
 rintro e F ⟨⟨j,f,rfl,Z⟩,M⟩
 obtain⟨rfl,rfl⟩:=bi j f Z
 have az:=da.step M zN
 have am:=dc.step M id
 have an:=db.trans M
 obtain⟨vs,vt,b0,ao,bk⟩:=az.is
 have bm:=Buf.bytes ao az.isB
 obtain⟨dd,⟨rfl,he⟩|⟨bs,cs,ys,rfl,de,hc1,hc2,hc3⟩⟩:=ao
 ·omega
 obtain⟨bn,⟨rfl,he⟩|⟨bt,ct,zs,rfl,bo,ae,hd2,hd3⟩⟩:=bk
 ·omega
 have bp:(qhm L.starts++zs)[j]?=some (.int .i64 x):=by
  have df:j<(qhm L.starts).length:=by rw[bn];omega
  have e:=Hx.out
  rw[Z5,Z3 hk] at e
  rw[Y5 df]
  unfold qhm
  rw[List.getElem?_map,Z3 hk]
  simp only[Option.map_some]
  rw[<-e];rfl
 have a4:=bm.sub x L.stream.length (cs-x) oM (Z0 _) oM oM
 rw[Nat.zero_add,List.take_of_length_le (by rw[List.length_drop];exact Z0 _)] at a4
 have bq:(L.stream.drop x).length=L.stream.length-x:=List.length_drop
 have af:=fun (W:World) (T:qa1) (m:Step F τ1 W T nil)=>Qt0 (a4.step m id) (by rw[bq];omega) (by simp[qa4,qa5]) dC dC
 rw[bj.out] at af
 have ag:∀W T,Step F τ1 W T RT->W.cell? ⟨bl,7,none⟩=some (.slice (some ⟨bs,0,none⟩) L.stream.length cs)/\W.cell? ⟨bl,8,none⟩=some (.slice (some ⟨bt,0,none⟩) L.starts.length ct)/\W.cell? ⟨bt,j,none⟩=some (.int .i64 x):=fun W T m =>
  ⟨(b0.step m (by simp[RT,qa4,qb1,tRx,tRr])).at 7 rfl,(b0.step m (by simp[RT,qa4,qb1,tRx,tRr])).at 8 rfl,(bo.step m (by simp[RT,qa4,qa6,tRx,tRr])).at j bp⟩
 have ah:=(zS F τ1).drew
 have a5:Step F τ1 F.drew τ1 qa4:=ah.nz
 have hS0:=ag _ _ (a5.mono (fun _ h=>.inl h))
 generalize hsn:L.stream.length=sn at *
 generalize hnt:L.starts.length=nt at *
 have n1:¬cs=x:=oM
 have n2:¬x=cs:=oM
 have n3:(x:Int)<=sn:=oM
 have n5:(j:Int)<nt:=oM
 have n6:x<=cs:=oM
 have n8:((sn:Int)-x)=((sn-x:Nat):Int):=oM
 have br:∀W T,Step F τ1 W T qa4->Own W T g tRr 73 [.int .u8 0,.int .u32 0,.int .u64 0,.int .u64 0,.int .u32 0,.int .u16 0,.bool false,.bool false,.slice none 0 0,.slice none 0 0,.slice none 0 0,.slice none 0 0]:=fun W T m=>am.step m (by simp[qa4,tRr])
 have ae:Step F τ1 (F.drew.alloc (.cells zR 73)) (τ1.put F.drew.heap.size tRx) nil:=ah.alloc _ _
 have a6:Step F τ1 (F.drew.alloc (.cells zR 73)) (τ1.put F.drew.heap.size tRx) qa4:=ae.nz
 have bv:Own (F.drew.alloc (.cells zR 73)) (τ1.put F.drew.heap.size tRx) F.heap.size tRx 73 [.int .u8 0,.int .u32 0,.int .u64 0,.int .u64 0,.int .u32 0,.int .u16 0,.bool false,.bool false,.slice none 0 0,.slice none 0 0,.slice none 0 0,.slice none 0 0]:=Own.born F.drew τ1 tRx 73 zR
 generalize τ1.put F.drew.heap.size tRx=τB at *
 have dh:=ag _ _ (a6.mono (fun _ h=>.inl h))
 have hA:=af _ _ ah
 have hB:=af _ _ ae
 obtain⟨Y,bh,ai,bw,cc,cd,HA,HB,di⟩:=qgw an Z ag a5 a6 br hA hB bv
 clear az am an b0 bo de bm Z ag a4 af a5 a6 br hA hB dd bn bp bv ah ae M bq
 go_wp2_with fail
 refine Qaf (S:=fun w':World=>w'.cell? ⟨bl,7,none⟩=some (.slice (some ⟨bs,0,none⟩) sn cs)/\w'.cell? ⟨bl,8,none⟩=some (.slice (some ⟨bt,0,none⟩) nt ct)/\w'.cell? ⟨bt,j,none⟩=some (.int .i64 x)) kR ?_
 refine tk0 [0,1,2,3,4,5,6,7,8,9,10,11] ?_
 iterate 12
  refine tkv (v:=?_) ?_ ?_
  rotate_left
  ·intro w a7;(try dsimp only at a7);go_simp
   all_goals with_reducible rfl
  try simp only[Act.put,lz1,lz2,lz3]
 refine tk9 ?_
 try simp only[lz4,lz5,lz6,lz1,lz2,lz3]
 refine Qss (i:=12) (j:=17) dK rfl rfl (fun K E=>?h1) (fun K E=>?h2)
 case' h1 =>
  go_simp
  go_at_call 70
  refine HA.mono ?_
  rintro e w2 ⟨a8,a9,⟨h,_⟩|⟨y,m,v,b1,rfl,hv⟩⟩
  ·cases h
  cases b1
  have aj:=bw.trans a9
  have ce:=ai _ _ (aj.mono (fun _ h=>.inl h))
  have O:=Own.born w2 a8 tRx 73 zR
  have aa:Step w2 a8 (w2.alloc (.cells zR 73)) (a8.put w2.heap.size tRx) nil:=(zS w2 a8).alloc (.cells zR 73) tRx
  generalize a8.put w2.heap.size tRx=p at *
  have dj:=hv.step aa id id id
  have C:=aj.trans (aa.nz)
  have ab:=cd _ _ C
  have ak:=ai _ _ (C.mono (fun _ h=>.inl h))
  have J:=(Y.nz (T:=qa4)).trans C
  obtain⟨vb,va,vt,vp,q0,rfl,G,I,R,U⟩:=dj
  obtain⟨pb,cb,rfl,G⟩:=G
  obtain⟨pa,ca,rfl,I⟩:=I
  obtain⟨pt,z,rfl⟩:=R.val
  obtain⟨pp,cp,rfl⟩:=U.val
  obtain⟨bx,X⟩:=gN w2.heap.size
  have q:w.heap.size<=bx:=by rw[<-X];exact(Y.nz (T:=qa4)).trans aj |>.size
  rw[X] at O
  obtain⟨c,b2,ac,b3,b4,b5,b6,b7⟩:=qen O ab J G I R U C
  clear O ab J G I R U C a9 aj aa hv
  refine E.out _ _ (fun _=>ce) ?_
  clear E K
  refine tk0 [13,14,15,16] ?_
  iterate 4
   refine tkv (v:=?_) ?_ ?_
   rotate_left
   ·intro w a7;(try dsimp only at a7);go_simp
    all_goals with_reducible rfl
   try simp only[Act.put,lz1,lz2,lz3]
  refine tk9 ?_
  try simp only[lz4,lz5,lz6,lz1,lz2,lz3]
  refine Qst (i:=17) dK rfl (fun K E=>?_)
  go_simp
  refine E.out _ _ (fun _=>ak) ?_
  clear E K ce
  generalize w2.alloc (.cells zR 73)=w3 at *
  try rw[X]
 case' h2 =>
  go_simp
  refine E.out _ _ (fun _=>dh) ?_
  clear E K
  refine Qst (i:=12) dK rfl (fun K E=>?_)
  go_simp
  go_at_call 70
  refine HB.mono ?_
  rintro e w3 ⟨p,a0,⟨h,_⟩|⟨y,m,v,b1,rfl,hv⟩⟩
  ·cases h
  cases b1
  have C:=cc.trans a0
  have ak:=ai _ _ (C.mono (fun _ h=>.inl h))
  have O:=di.step a0 (by simp[qa4,tRx])
  have ab:=cd _ _ C
  have J:=(Y.nz (T:=qa4)).trans C
  obtain⟨vb,va,vt,vp,q0,rfl,G,I,R,U⟩:=hv
  obtain⟨pb,cb,rfl,G⟩:=G
  obtain⟨pa,ca,rfl,I⟩:=I
  obtain⟨pt,z,rfl⟩:=R.val
  obtain⟨pp,cp,rfl⟩:=U.val
  obtain⟨bx,X⟩:=gN F.heap.size
  have q:w.heap.size<=bx:=by rw[<-X];exact Y.size
  rw[X] at O
  obtain⟨c,b2,ac,b3,b4,b5,b6,b7⟩:=qen O ab J G I R U C
  clear O ab J G I R U C a0
  refine E.out _ _ (fun _=>ak) ?_
  clear E K
  refine tk0 [13,14,15,16] ?_
  iterate 4
   refine tkv (v:=?_) ?_ ?_
   rotate_left
   ·intro w a7;(try dsimp only at a7);go_simp
    all_goals with_reducible rfl
   try simp only[Act.put,lz1,lz2,lz3]
  refine tk9 ?_
  try simp only[lz4,lz5,lz6,lz1,lz2,lz3]
  try rw[X]
 all_goals (
  have c0:=c.at 0 rfl
  have z0:=c.fz 0
  have c1:=c.at 1 rfl
  have z1:=c.fz 1
  have c2:=c.at 2 rfl
  have z2:=c.fz 2
  have c3:=c.at 3 rfl
  have z3:=c.fz 3
  have c4:=c.at 4 rfl
  have z4:=c.fz 4
  have c5:=c.at 5 rfl
  have z5:=c.fz 5
  have c6:=c.at 6 rfl
  have z6:=c.fz 6
  have c7:=c.at 7 rfl
  have z7:=c.fz 7
  have c8:=c.at 8 rfl
  have z8:=c.fz 8
  have c9:=c.at 9 rfl
  have z9:=c.fz 9
  have b9:=c.at 10 rfl
  have dn:=c.fz 10
  have ba:=c.at 11 rfl
  have dp:=c.fz 11
  refine Qst (i:=18) dK rfl (fun K E=>?_)
  go_simp
  have cf:Own _ p bx tRx 73 [.int .u8 r.kind,.int .u32 r.txn,.int .u64 r.prev,.int .u64 r.next,.int .u32 r.change.page,.int .u16 r.change.slot,.bool r.change.had,.bool r.change.has,.slice pb r.change.before.length cb,.slice pa r.change.after.length ca,.slice pt r.qbm.length z,.slice pp r.pages.length cp]:=((((((((((((c.set 0 (.int .u8 r.kind)).set 1 (.int .u32 r.txn)).set 2 (.int .u64 r.prev)).set 3 (.int .u64 r.next)).set 4 (.int .u32 r.change.page)).set 5 (.int .u16 r.change.slot)).set 6 (.bool r.change.had)).set 7 (.bool r.change.has)).set 8 (.slice pb r.change.before.length cb)).set 9 (.slice pa r.change.after.length ca)).set 10 (.slice pt r.qbm.length z)).set 11 (.slice pp r.pages.length cp))
  have D:Step w3 p ((((((((((((w3.setCell ⟨bx,0,none⟩ (.int .u8 r.kind)).setCell ⟨bx,1,none⟩ (.int .u32 r.txn)).setCell ⟨bx,2,none⟩ (.int .u64 r.prev)).setCell ⟨bx,3,none⟩ (.int .u64 r.next)).setCell ⟨bx,4,none⟩ (.int .u32 r.change.page)).setCell ⟨bx,5,none⟩ (.int .u16 r.change.slot)).setCell ⟨bx,6,none⟩ (.bool r.change.had)).setCell ⟨bx,7,none⟩ (.bool r.change.has)).setCell ⟨bx,8,none⟩ (.slice pb r.change.before.length cb)).setCell ⟨bx,9,none⟩ (.slice pa r.change.after.length ca)).setCell ⟨bx,10,none⟩ (.slice pt r.qbm.length z)).setCell ⟨bx,11,none⟩ (.slice pp r.pages.length cp)) p (fun t=>t=tRx):=(((((((((((((Step.refl w3 p (fun t=>t=tRx)).set (o:=0) c.tag rfl _).set (o:=1) c.tag rfl _).set (o:=2) c.tag rfl _).set (o:=3) c.tag rfl _).set (o:=4) c.tag rfl _).set (o:=5) c.tag rfl _).set (o:=6) c.tag rfl _).set (o:=7) c.tag rfl _).set (o:=8) c.tag rfl _).set (o:=9) c.tag rfl _).set (o:=10) c.tag rfl _).set (o:=11) c.tag rfl _)
  have aq:Step w τ ((((((((((((w3.setCell ⟨bx,0,none⟩ (.int .u8 r.kind)).setCell ⟨bx,1,none⟩ (.int .u32 r.txn)).setCell ⟨bx,2,none⟩ (.int .u64 r.prev)).setCell ⟨bx,3,none⟩ (.int .u64 r.next)).setCell ⟨bx,4,none⟩ (.int .u32 r.change.page)).setCell ⟨bx,5,none⟩ (.int .u16 r.change.slot)).setCell ⟨bx,6,none⟩ (.bool r.change.had)).setCell ⟨bx,7,none⟩ (.bool r.change.has)).setCell ⟨bx,8,none⟩ (.slice pb r.change.before.length cb)).setCell ⟨bx,9,none⟩ (.slice pa r.change.after.length ca)).setCell ⟨bx,10,none⟩ (.slice pt r.qbm.length z)).setCell ⟨bx,11,none⟩ (.slice pp r.pages.length cp)) p qa4:=((((((((((((ac.qa3 (b:=bx) (o:=0) q _).qa3 (b:=bx) (o:=1) q _).qa3 (b:=bx) (o:=2) q _).qa3 (b:=bx) (o:=3) q _).qa3 (b:=bx) (o:=4) q _).qa3 (b:=bx) (o:=5) q _).qa3 (b:=bx) (o:=6) q _).qa3 (b:=bx) (o:=7) q _).qa3 (b:=bx) (o:=8) q _).qa3 (b:=bx) (o:=9) q _).qa3 (b:=bx) (o:=10) q _).qa3 (b:=bx) (o:=11) q _)
  have cg:Step F τ1 ((((((((((((w3.setCell ⟨bx,0,none⟩ (.int .u8 r.kind)).setCell ⟨bx,1,none⟩ (.int .u32 r.txn)).setCell ⟨bx,2,none⟩ (.int .u64 r.prev)).setCell ⟨bx,3,none⟩ (.int .u64 r.next)).setCell ⟨bx,4,none⟩ (.int .u32 r.change.page)).setCell ⟨bx,5,none⟩ (.int .u16 r.change.slot)).setCell ⟨bx,6,none⟩ (.bool r.change.had)).setCell ⟨bx,7,none⟩ (.bool r.change.has)).setCell ⟨bx,8,none⟩ (.slice pb r.change.before.length cb)).setCell ⟨bx,9,none⟩ (.slice pa r.change.after.length ca)).setCell ⟨bx,10,none⟩ (.slice pt r.qbm.length z)).setCell ⟨bx,11,none⟩ (.slice pp r.pages.length cp)) p RT:=(b7.mono (fun _ h=>.inl h)).trans (D.mono (fun _ h=>.inr (.inl h)))
  have bb:=ai _ _ cg
  have ch:=b2.step D dC
  have ci:=b3.step D dC
  have cj:=b4.step D dC
  have ck:=b5.step D dC
  have cm:=b6.step D dC
  obtain⟨B,cn,d,dq,dr,ds,dt⟩:=qdr cf aq ch ci cj ck cm
  clear cf aq ch ci cj ck cm
  refine E.out _ _ (fun _=>bb) ?_
  clear E K D cg c b2 ac b3 b4 b5 b6 b7 c0 z0 c1 z1 c2 z2 c3 z3 c4 z4 c5 z5 c6 z6 c7 z7 c8 z8 c9 z9 b9 dn ba dp ak
  generalize ((((((((((((w3.setCell ⟨bx,0,none⟩ (.int .u8 r.kind)).setCell ⟨bx,1,none⟩ (.int .u32 r.txn)).setCell ⟨bx,2,none⟩ (.int .u64 r.prev)).setCell ⟨bx,3,none⟩ (.int .u64 r.next)).setCell ⟨bx,4,none⟩ (.int .u32 r.change.page)).setCell ⟨bx,5,none⟩ (.int .u16 r.change.slot)).setCell ⟨bx,6,none⟩ (.bool r.change.had)).setCell ⟨bx,7,none⟩ (.bool r.change.has)).setCell ⟨bx,8,none⟩ (.slice pb r.change.before.length cb)).setCell ⟨bx,9,none⟩ (.slice pa r.change.after.length ca)).setCell ⟨bx,10,none⟩ (.slice pt r.qbm.length z)).setCell ⟨bx,11,none⟩ (.slice pp r.pages.length cp))=w4 at *
  refine Qst (i:=19) dK rfl (fun K E=>?_)
  go_simp
  refine E.out _ _ (fun _=>bb) ?_
  clear E K
  refine Qst (i:=20) dK rfl (fun K E=>?_)
  go_simp
  refine E.out _ _ (fun h=>absurd h dK) ?_
  clear E K
  refine Qad kR ?_ _
  have c0:=B.at 0 rfl
  have c1:=B.at 1 rfl
  have c2:=B.at 2 rfl
  have c3:=B.at 3 rfl
  have c4:=B.at 4 rfl
  have c5:=B.at 5 rfl
  have c6:=B.at 6 rfl
  have c7:=B.at 7 rfl
  have c8:=B.at 8 rfl
  have c9:=B.at 9 rfl
  have b9:=B.at 10 rfl
  have ba:=B.at 11 rfl
  have hwn:=Qam n oM
  have hwa:IntKind.u64.wrap ((lsn:Int)+n)=(lsn:Int)+n:=by
   have:=Qer (a:=lsn) (b:=n) oM
   rw[X1] at this
   exact this
  have co:((lsn+n:Nat):Int)=(lsn:Int)+n:=X1 ..
  have d0:=d.at 0 rfl
  have y0:=d.fz 0
  have d1:=d.at 1 rfl
  have y1:=d.fz 1
  have d2:=d.at 2 rfl
  have y2:=d.fz 2
  have d3:=d.at 3 rfl
  have y3:=d.fz 3
  have d4:=d.at 4 rfl
  have y4:=d.fz 4
  have d5:=d.at 5 rfl
  have y5:=d.fz 5
  have d6:=d.at 6 rfl
  have y6:=d.fz 6
  have d7:=d.at 7 rfl
  have y7:=d.fz 7
  have d8:=d.at 8 rfl
  have y8:=d.fz 8
  have d9:=d.at 9 rfl
  have y9:=d.fz 9
  have dv:=d.at 10 rfl
  have dw:=d.fz 10
  have dx:=d.at 11 rfl
  have dy:=d.fz 11
  clear bb
  go_wp2_with fail
  have s:Own _ p g tRr 73 [.int .u8 r.kind,.int .u32 r.txn,.int .u64 r.prev,.int .u64 r.next,.int .u32 r.change.page,.int .u16 r.change.slot,.bool r.change.had,.bool r.change.has,.slice pb r.change.before.length cb,.slice pa r.change.after.length ca,.slice pt r.qbm.length z,.slice pp r.pages.length cp]:=((((((((((((d.set 0 (.int .u8 r.kind)).set 1 (.int .u32 r.txn)).set 2 (.int .u64 r.prev)).set 3 (.int .u64 r.next)).set 4 (.int .u32 r.change.page)).set 5 (.int .u16 r.change.slot)).set 6 (.bool r.change.had)).set 7 (.bool r.change.has)).set 8 (.slice pb r.change.before.length cb)).set 9 (.slice pa r.change.after.length ca)).set 10 (.slice pt r.qbm.length z)).set 11 (.slice pp r.pages.length cp))
  have ad:Step w4 p ((((((((((((w4.setCell ⟨g,0,none⟩ (.int .u8 r.kind)).setCell ⟨g,1,none⟩ (.int .u32 r.txn)).setCell ⟨g,2,none⟩ (.int .u64 r.prev)).setCell ⟨g,3,none⟩ (.int .u64 r.next)).setCell ⟨g,4,none⟩ (.int .u32 r.change.page)).setCell ⟨g,5,none⟩ (.int .u16 r.change.slot)).setCell ⟨g,6,none⟩ (.bool r.change.had)).setCell ⟨g,7,none⟩ (.bool r.change.has)).setCell ⟨g,8,none⟩ (.slice pb r.change.before.length cb)).setCell ⟨g,9,none⟩ (.slice pa r.change.after.length ca)).setCell ⟨g,10,none⟩ (.slice pt r.qbm.length z)).setCell ⟨g,11,none⟩ (.slice pp r.pages.length cp)) p (fun t=>t=tRr):=(((((((((((((Step.refl w4 p (fun t=>t=tRr)).set (o:=0) d.tag rfl _).set (o:=1) d.tag rfl _).set (o:=2) d.tag rfl _).set (o:=3) d.tag rfl _).set (o:=4) d.tag rfl _).set (o:=5) d.tag rfl _).set (o:=6) d.tag rfl _).set (o:=7) d.tag rfl _).set (o:=8) d.tag rfl _).set (o:=9) d.tag rfl _).set (o:=10) d.tag rfl _).set (o:=11) d.tag rfl _)
  have ar:Step w τ ((((((((((((w4.setCell ⟨g,0,none⟩ (.int .u8 r.kind)).setCell ⟨g,1,none⟩ (.int .u32 r.txn)).setCell ⟨g,2,none⟩ (.int .u64 r.prev)).setCell ⟨g,3,none⟩ (.int .u64 r.next)).setCell ⟨g,4,none⟩ (.int .u32 r.change.page)).setCell ⟨g,5,none⟩ (.int .u16 r.change.slot)).setCell ⟨g,6,none⟩ (.bool r.change.had)).setCell ⟨g,7,none⟩ (.bool r.change.has)).setCell ⟨g,8,none⟩ (.slice pb r.change.before.length cb)).setCell ⟨g,9,none⟩ (.slice pa r.change.after.length ca)).setCell ⟨g,10,none⟩ (.slice pt r.qbm.length z)).setCell ⟨g,11,none⟩ (.slice pp r.pages.length cp)) p qa4:=((((((((((((cn.qa3 (b:=g) (o:=0) (by rw[<-l.out];exact Z0 _) _).qa3 (b:=g) (o:=1) (by rw[<-l.out];exact Z0 _) _).qa3 (b:=g) (o:=2) (by rw[<-l.out];exact Z0 _) _).qa3 (b:=g) (o:=3) (by rw[<-l.out];exact Z0 _) _).qa3 (b:=g) (o:=4) (by rw[<-l.out];exact Z0 _) _).qa3 (b:=g) (o:=5) (by rw[<-l.out];exact Z0 _) _).qa3 (b:=g) (o:=6) (by rw[<-l.out];exact Z0 _) _).qa3 (b:=g) (o:=7) (by rw[<-l.out];exact Z0 _) _).qa3 (b:=g) (o:=8) (by rw[<-l.out];exact Z0 _) _).qa3 (b:=g) (o:=9) (by rw[<-l.out];exact Z0 _) _).qa3 (b:=g) (o:=10) (by rw[<-l.out];exact Z0 _) _).qa3 (b:=g) (o:=11) (by rw[<-l.out];exact Z0 _) _)
  have M:=dq.step ad dC
  have a9:=dr.step ad dC
  have a0:=ds.step ad dC
  have cq:=dt.step ad dC
  clear ad c0 d0 y0 c1 d1 y1 c2 d2 y2 c3 d3 y3 c4 d4 y4 c5 d5 y5 c6 d6 y6 c7 d7 y7 c8 d8 y8 c9 d9 y9 b9 dv dw ba dx dy
  generalize ((((((((((((w4.setCell ⟨g,0,none⟩ (.int .u8 r.kind)).setCell ⟨g,1,none⟩ (.int .u32 r.txn)).setCell ⟨g,2,none⟩ (.int .u64 r.prev)).setCell ⟨g,3,none⟩ (.int .u64 r.next)).setCell ⟨g,4,none⟩ (.int .u32 r.change.page)).setCell ⟨g,5,none⟩ (.int .u16 r.change.slot)).setCell ⟨g,6,none⟩ (.bool r.change.had)).setCell ⟨g,7,none⟩ (.bool r.change.has)).setCell ⟨g,8,none⟩ (.slice pb r.change.before.length cb)).setCell ⟨g,9,none⟩ (.slice pa r.change.after.length ca)).setCell ⟨g,10,none⟩ (.slice pt r.qbm.length z)).setCell ⟨g,11,none⟩ (.slice pp r.pages.length cp))=w5 at *
  have f0:=s.at 0 rfl
  have f1:=s.at 1 rfl
  have f2:=s.at 2 rfl
  have f3:=s.at 3 rfl
  have f4:=s.at 4 rfl
  have f5:=s.at 5 rfl
  have f6:=s.at 6 rfl
  have f7:=s.at 7 rfl
  have f8:=s.at 8 rfl
  have f9:=s.at 9 rfl
  have dz:=s.at 10 rfl
  have e0:=s.at 11 rfl
  obtain⟨cr,e1,e2,e3,e4⟩:=qbq ar M a9 a0 cq
  clear s ar M a9 a0 cq
  refine bodyPost_ret (by simp[results,Tryz.results65,go_sem,f0,f1,f2,f3,f4,f5,f6,f7,f8,f9,dz,e0];try rfl) rfl ?_
  exact⟨_,p,by rw[co],⟨_,_,_,_,_,rfl,⟨_,_,rfl,e1⟩,⟨_,_,rfl,e2⟩,e3,e4⟩,cr⟩)
