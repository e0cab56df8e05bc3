/-
 Transactions: write: a record of one goes to the log.
-/
import Derived.Test.YtemacanaihaldaaGreatMTxA
import Derived.Test.YtemacanaihaldaaGreatMWalA
set_option maxRecDepth 100000
set_option maxHeartbeats 4000000
set_option linter.all false
namespace Go.Proofs.YtemacanaihaldaaGreat
open Go.RowKit
def tWr2:Tag:=(210,0)
def RecP.own (r:RecP) (x:OneP):RecP:={r with txn:=x.txn,prev:=x.last}
theorem Qe2 {w:World}{τ:Tags}{bm bl bd bp:Nat}{bo:Nat->Nat}{X:List OneP}{next:Nat}{L:LogM}(hm:MgrAt w τ bm bl bp bo X next) (hl:LogAt w τ bl bd L) {x:OneP}(hx:x∈X) (hn:L.starts.length<=100000) {v:Value}{r:RecP}(hv:RecI w τ v r) (y:mayB r=true) (c8:(encR (r.own x)).length<=60000) (z:r.kind≠8) (az:x.last<18446744073709551616) (sp:Nat) (b6:L.stream.length+(encR (r.own x)).length+sp<=L.strips*127) :
 Calls Tryz.prog 82 #[.pointer (some ⟨bm,0,none⟩),.pointer (some ⟨bo x.txn,0,none⟩),v,.int .u64 (sp:Int)] w fun e w'=>e = .returned (.tuple #[.int .u64 ((L.base+L.stream.length:Nat):Int),.int .u16 0])/\∃b0,LogAt w' b0 bl bd (L.more (encR (r.own x)))/\OneAt w' b0 (bo x.txn) {x with last:=L.base+L.stream.length}/\Step w τ w' b0 (fun t=>LogTag t\/t=tOneT x.txn):=by
 have D:mayB (r.own x)=true:=y
 have F:(r.own x).kind=8->TabC (r.own x):=fun h=>absurd h z
 have hbase:=hl.ok.base
 have hstr:=hl.ok.stream
 obtain⟨R,kb,U,Y,Z,kt,qp,kp,gt,gp,n0,rfl,hb,ha,ht,hp,cb,cc⟩:=hv.is
 have hlow:=hm.low x hx
 have hnx:=hm.nx
 obtain⟨va,b7,b8⟩:=(hm.ones x hx).is
 obtain⟨ba,B,-⟩:=hm.is
 have cd:=(hm.ones x hx).len
 have ce:=(hm.ones x hx).size
 have ah:=fun (W:World) (T:Tags) (m:Step w τ W T nil)=>by
  have hl:=hl.step m (fun _ _ h=>h)
  have hv:RecI W T (.agg #[.int .u8 (r.kind:Int),.int .u32 (x.txn:Int),.int .u64 (x.last:Int),.int .u64 (r.next:Int),.int .u32 (r.change.page:Int),.int .u16 (r.change.slot:Int),.bool r.change.had,.bool r.change.has,.slice R r.change.before.length kb,.slice U r.change.after.length Y,.slice Z r.txns.length kt,.slice qp r.pages.length kp]) (r.own x):=⟨⟨R,kb,U,Y,Z,kt,qp,kp,gt,gp,n0,rfl,hb.step m (fun h=>h),ha.step m (fun h=>h),ht.step m (fun h=>h),hp.step m (fun h=>h),cb,cc⟩,hv.kind,by show x.txn<_;omega,az,hv.next,hv.page,hv.slot⟩
  have y:=D
  have z:=F
  exact Qi0 hl (by omega) hv y c8 z sp b6
 have heq:(r.own x)=r.own x:=rfl
 generalize hE:encR (r.own x)=E at *
 have ai:∀(W:World) (T:Tags) (lsn:Nat),Own W T (bo x.txn) (tOneT x.txn) 176 (({x with last:=lsn}:OneP).cells va)->NS 270 2 Qa0 0 W T (tChg x.txn) va x.ch->OneAt W T (bo x.txn) {x with last:=lsn}:=fun W T lsn h1 h2=>⟨⟨va,h1,h2⟩,cd,ce⟩
 have b9:∀lsn:Nat,(x.cells va).set 1 (.int .u64 (lsn:Int))=({x with last:=lsn}:OneP).cells va:=fun _=>rfl
 have C:=(Step.refl w τ nil).alloc (.cells #[.int .u8 (r.kind:Int),.int .u32 (r.txn:Int),.int .u64 (r.prev:Int),.int .u64 (r.next:Int),.int .u32 (r.change.page:Int),.int .u16 (r.change.slot:Int),.bool r.change.had,.bool r.change.has,.slice R r.change.before.length kb,.slice U r.change.after.length Y,.slice Z r.txns.length kt,.slice qp r.pages.length kp] 127) tWr2
 have d:=Own.born w τ tWr2 127 #[.int .u8 (r.kind:Int),.int .u32 (r.txn:Int),.int .u64 (r.prev:Int),.int .u64 (r.next:Int),.int .u32 (r.change.page:Int),.int .u16 (r.change.slot:Int),.bool r.change.had,.bool r.change.has,.slice R r.change.before.length kb,.slice U r.change.after.length Y,.slice Z r.txns.length kt,.slice qp r.pages.length kp]
 have hw:IntKind.u64.wrap 0=0:=by rfl
 have aa:(x.cells va)[0]?=some (.int .u32 (x.txn:Int)):=rfl
 have ab:(x.cells va)[1]?=some (.int .u64 (x.last:Int)):=rfl
 generalize x.cells va=XC at *
 clear hv hb ha ht hp heq y D F z hE
 obtain⟨kd,tx,pv,nx,⟨pg,sl,hd,hs,be,af⟩,ts,ps⟩:=r
 dsimp only at *
 generalize be.length=lb at *
 generalize af.length=la at *
 generalize ts.length=lt at *
 generalize ps.length=lp at *
 obtain⟨br,cf⟩:∃br,w.heap.size=br:=⟨_,rfl⟩
 have bc:w.heap.size<=br:=by omega
 generalize hT:τ.put w.heap.size tWr2=T1 at *
 rw[cf] at d
 generalize bf:w.alloc (.cells #[.int .u8 (kd:Int),.int .u32 (tx:Int),.int .u64 (pv:Int),.int .u64 (nx:Int),.int .u32 (pg:Int),.int .u16 (sl:Int),.bool hd,.bool hs,.slice R lb kb,.slice U la Y,.slice Z lt kt,.slice qp lp kp] 127)=W1 at *
 have i:=b7.step C (fun h=>h)
 have G:=B.step C (fun h=>h)
 have I:=b8.step C (fun h=>h)
 generalize bg:x.txn=k at *
 generalize bh:x.last=j at *
 generalize bo k=b at *
 have bi:b≠br:=i.ne d (by simp[tOneT,tWr2])
 have b1:W1.drew.cell? ⟨b,0,none⟩=some (.int .u32 (k:Int))/\W1.drew.cell? ⟨b,1,none⟩=some (.int .u64 (j:Int)):=⟨i.drew.at 0 aa,i.drew.at 1 ab⟩
 have c1:=d.at 1 (v:=.int .u32 (tx:Int)) rfl
 have z1:=d.fz 1
 have c2:=d.at 2 (v:=.int .u64 (pv:Int)) rfl
 have z2:=d.fz 2
 have aj:Own (((W1.setCell ⟨br,1,none⟩ (.int .u32 (k:Int))).setCell ⟨br,2,none⟩ (.int .u64 (j:Int))).drew) T1 br tWr2 127 [.int .u8 (kd:Int),.int .u32 (k:Int),.int .u64 (j:Int),.int .u64 (nx:Int),.int .u32 (pg:Int),.int .u16 (sl:Int),.bool hd,.bool hs,.slice R lb kb,.slice U la Y,.slice Z lt kt,.slice qp lp kp]:=((d.set 1 (.int .u32 (k:Int))).set 2 (.int .u64 (j:Int))).drew
 have J:Step W1 T1 (((W1.setCell ⟨br,1,none⟩ (.int .u32 (k:Int))).setCell ⟨br,2,none⟩ (.int .u64 (j:Int))).drew) T1 (fun t=>t=tWr2):=(((Step.refl W1 T1 (fun t=>t=tWr2)).set (o:=1) d.tag rfl _).set (o:=2) d.tag rfl _).drew
 have ak:Step w τ (((W1.setCell ⟨br,1,none⟩ (.int .u32 (k:Int))).setCell ⟨br,2,none⟩ (.int .u64 (j:Int))).drew) T1 nil:=((C.setNew (b:=br) (o:=1) bc _).setNew (b:=br) (o:=2) bc _).drew
 have hA:(W1.drew.setCell ⟨br,1,none⟩ (.int .u32 (k:Int))).cell? ⟨b,0,none⟩=some (.int .u32 (k:Int))/\(W1.drew.setCell ⟨br,1,none⟩ (.int .u32 (k:Int))).cell? ⟨b,1,none⟩=some (.int .u64 (j:Int)):=⟨(i.drew.set_ne (p:=⟨br,1,none⟩) bi _).at 0 aa,(i.drew.set_ne (p:=⟨br,1,none⟩) bi _).at 1 ab⟩
 have al:=i.step J (by simp[tOneT,tWr2])
 have am:=G.step J (by simp[tMgr,tWr2])
 have an:=I.step J (by simp[tChg,tWr2])
 obtain⟨bj,bk,cg,Hor,Hox1,Hom1,Hch1,ao,Hqr,ap,HA,bn⟩:=hid12 ah ai b9 d i G I aj J ak hA al
 obtain⟨aq,bq,Hs1,HT,cj,Ho0,ck,Htn,Hla⟩:=hid9 am an C hT bf aa ab bg bh
 clear ah ai b9 d i G I aj J ak hA al am an C hT bf aa ab bg bh b7 B b8
 go_enter Tryz.func82,Tryz.ntmps82
 go_wp2_with fail
 try rw[cj.out]
 refine Qaf (S:=fun W:World=>W.cell? ⟨b,0,none⟩=some (.int .u32 (k:Int))/\W.cell? ⟨b,1,none⟩=some (.int .u64 (j:Int))) (by kernel_rfl) ?_
 refine tk0 [0,1,2,3,4,5,6,7,8,9,10] ?_
 iterate 11
  refine tks (v:=?_) rfl (Or.inl ⟨by rfl,?_⟩) (by assumption) ?_
  rotate_left
  ·intro w M;(try dsimp only at M);go_simp
   all_goals with_reducible rfl
  try simp only[Act.put,lz1,lz2,lz3]
 refine tk9 ?_
 try simp only[lz4,lz5,lz6,lz1,lz2,lz3]
 refine tk1 11 rfl fun K l=>?_
 go_simp
 refine l.out _ _ (fun _=>HA.out) ?_
 clear l K b1
 have b1:=HA.out
 refine tk1 12 rfl fun K l=>?_
 go_simp
 refine l.out _ _ (fun _=>HA.out) ?_
 clear l K b1
 refine tk1 13 rfl fun K l=>?_
 go_simp
 refine l.out _ _ (fun h=>absurd h (by decide +kernel)) ?_
 clear l K c1 z1 c2 z2
 refine Qad (by kernel_rfl) ?_ _
 generalize ((W1.setCell ⟨br,1,none⟩ (.int .u32 (k:Int))).setCell ⟨br,2,none⟩ (.int .u64 (j:Int))).drew=W2 at *
 have s:Step W2 T1 W2.drew T1 nil:=(Step.refl W2 T1 nil).drew
 have bs:=bj.out W2.drew T1 (ap.out.trans s)
 have cm:W2.drew.cell? ⟨bm,0,none⟩=some (.pointer (some ⟨bl,0,none⟩))/\W2.drew.cell? ⟨br,0,none⟩=some (.int .u8 (kd:Int))/\W2.drew.cell? ⟨br,1,none⟩=some (.int .u32 (k:Int))/\W2.drew.cell? ⟨br,2,none⟩=some (.int .u64 (j:Int))/\W2.drew.cell? ⟨br,3,none⟩=some (.int .u64 (nx:Int))/\W2.drew.cell? ⟨br,4,none⟩=some (.int .u32 (pg:Int))/\W2.drew.cell? ⟨br,5,none⟩=some (.int .u16 (sl:Int))/\W2.drew.cell? ⟨br,6,none⟩=some (.bool hd)/\W2.drew.cell? ⟨br,7,none⟩=some (.bool hs)/\W2.drew.cell? ⟨br,8,none⟩=some (.slice R lb kb)/\W2.drew.cell? ⟨br,9,none⟩=some (.slice U la Y)/\W2.drew.cell? ⟨br,10,none⟩=some (.slice Z lt kt)/\W2.drew.cell? ⟨br,11,none⟩=some (.slice qp lp kp):=by
  have B:=aq.out.step s (fun h=>h)
  have d:=ao.out.step s (fun h=>h)
  exact⟨B.at 0 rfl,d.at 0 rfl,d.at 1 rfl,d.at 2 rfl,d.at 3 rfl,d.at 4 rfl,d.at 5 rfl,d.at 6 rfl,d.at 7 rfl,d.at 8 rfl,d.at 9 rfl,d.at 10 rfl,d.at 11 rfl⟩
 have bv:∀W T (S:Tag->Prop),Step W2.drew T1 W T S->¬S tMgr->¬S tWr2->W.cell? ⟨bm,0,none⟩=some (.pointer (some ⟨bl,0,none⟩))/\W.cell? ⟨br,0,none⟩=some (.int .u8 (kd:Int))/\W.cell? ⟨br,1,none⟩=some (.int .u32 (k:Int))/\W.cell? ⟨br,2,none⟩=some (.int .u64 (j:Int))/\W.cell? ⟨br,3,none⟩=some (.int .u64 (nx:Int))/\W.cell? ⟨br,4,none⟩=some (.int .u32 (pg:Int))/\W.cell? ⟨br,5,none⟩=some (.int .u16 (sl:Int))/\W.cell? ⟨br,6,none⟩=some (.bool hd)/\W.cell? ⟨br,7,none⟩=some (.bool hs)/\W.cell? ⟨br,8,none⟩=some (.slice R lb kb)/\W.cell? ⟨br,9,none⟩=some (.slice U la Y)/\W.cell? ⟨br,10,none⟩=some (.slice Z lt kt)/\W.cell? ⟨br,11,none⟩=some (.slice qp lp kp):=fun W T S m a1 a2=>by
  have B:=(aq.out.step s (fun h=>h)).step m a1
  have d:=(ao.out.step s (fun h=>h)).step m a2
  exact⟨B.at 0 rfl,d.at 0 rfl,d.at 1 rfl,d.at 2 rfl,d.at 3 rfl,d.at 4 rfl,d.at 5 rfl,d.at 6 rfl,d.at 7 rfl,d.at 8 rfl,d.at 9 rfl,d.at 10 rfl,d.at 11 rfl⟩
 obtain⟨cn,co,cp⟩:=hid3 bs bv s
 clear bs bv s
 go_wp2_with fail
 refine Qaf (S:=fun W:World=>W.cell? ⟨bm,0,none⟩=some (.pointer (some ⟨bl,0,none⟩))/\W.cell? ⟨br,0,none⟩=some (.int .u8 (kd:Int))/\W.cell? ⟨br,1,none⟩=some (.int .u32 (k:Int))/\W.cell? ⟨br,2,none⟩=some (.int .u64 (j:Int))/\W.cell? ⟨br,3,none⟩=some (.int .u64 (nx:Int))/\W.cell? ⟨br,4,none⟩=some (.int .u32 (pg:Int))/\W.cell? ⟨br,5,none⟩=some (.int .u16 (sl:Int))/\W.cell? ⟨br,6,none⟩=some (.bool hd)/\W.cell? ⟨br,7,none⟩=some (.bool hs)/\W.cell? ⟨br,8,none⟩=some (.slice R lb kb)/\W.cell? ⟨br,9,none⟩=some (.slice U la Y)/\W.cell? ⟨br,10,none⟩=some (.slice Z lt kt)/\W.cell? ⟨br,11,none⟩=some (.slice qp lp kp)) (by kernel_rfl) ?_
 refine tk0 [0,1,2,3,4,5] ?_
 iterate 6
  refine tks (v:=?_) rfl (Or.inl ⟨by rfl,?_⟩) (by assumption) ?_
  rotate_left
  ·intro w M;(try dsimp only at M);go_simp
   all_goals with_reducible rfl
  try simp only[Act.put,lz1,lz2,lz3]
 refine tk9 ?_
 try simp only[lz4,lz5,lz6,lz1,lz2,lz3]
 refine tk1 6 rfl fun K l=>?_
 go_simp
 go_at_call 80
 refine cn.out.mono ?_
 rintro e w3 ⟨rfl,T3,bw,b2⟩
 have b3:=co.out _ _ _ b2 (by simp[LogTag,tMgr,tLog,Qah,Qag]) (by simp[LogTag,tWr2,tLog,Qah,Qag])
 have ac:=cp.out.mono (T:=LogTag) (fun _ h=>h.elim) |>.trans b2
 have q:=bn.out.step ac (by simp[LogTag,tOneT,tLog,Qah,Qag])
 have ar:=bq.out.step ac (by simp[LogTag,tChg,tLog,Qah,Qag])
 have av:=(ap.out.mono (T:=LogTag) (fun _ h=>h.elim)).trans ac
 obtain⟨lsn,N⟩:∃lsn,L.base+L.stream.length=lsn:=⟨_,rfl⟩
 rw[N]
 have c1:=q.at 1 ck.out
 have z1:=q.fz 1
 have O:=q.set 1 (.int .u64 (lsn:Int))
 have ad:Step w3 T3 (w3.setCell ⟨b,1,none⟩ (.int .u64 (lsn:Int))) T3 (fun t=>t=tOneT k):=(Step.refl w3 T3 (fun t=>t=tOneT k)).set (o:=1) q.tag rfl _
 have bz:=bw.step ad (fun g hg e=>by subst e;rcases hg with h|h|h <;> simp[tOneT,tLog,Qah,Qag] at h)
 have aw:=ar.step ad (by simp[tChg,tOneT])
 have ax:=(av.mono (T:=fun t=>LogTag t\/t=tOneT k) (fun _ h=>.inl h)).trans (ad.mono (fun _ h=>.inr h))
 rw[cg.out] at O
 obtain⟨cr,c3,c4,c5,ay⟩:=hid5 bz O aw ax N
 clear bz O aw ax N b2 ac q ar av ad bw
 refine l.out _ _ (fun _=>b3) ?_
 clear l K
 refine tk0 [7,8,9] ?_
 iterate 3
  refine tks (v:=?_) rfl (Or.inl ⟨by rfl,?_⟩) (by assumption) ?_
  rotate_left
  ·intro w M;(try dsimp only at M);go_simp
   all_goals with_reducible rfl
  try simp only[Act.put,lz1,lz2,lz3]
 refine tk9 ?_
 try simp only[lz4,lz5,lz6,lz1,lz2,lz3]
 refine tk1 10 rfl fun K l=>?_
 go_simp
 refine l.out _ _ (fun _=>b3) ?_
 clear l K
 refine tk1 11 rfl fun K l=>?_
 go_simp
 refine l.out _ _ (fun h=>absurd h (by decide +kernel)) ?_
 clear l K cm b3
 refine Qad (by kernel_rfl) ?_ _
 go_wp2_with fail
 go_ret2
 exact⟨by rw[ay.out];rfl,T3,cr.out,by rw[ay.out];exact bk.out _ _ _ c3.out c4.out,c5.out⟩
theorem Qg9 {w:World}{τ:Tags}{bm bl bd bp:Nat}{bo:Nat->Nat}{X:List OneP}{next:Nat}{L:LogM}(hm:MgrAt w τ bm bl bp bo X next) (hl:LogAt w τ bl bd L) {x:OneP}(hx:x∈X) (hn:L.starts.length<=100000) {v:Value}{r:RecP}(hv:RecI w τ v r) (s:mayB r=true) (bf:(encR (r.own x)).length<=60000) (y:r.kind≠8) (an:x.last<18446744073709551616) (sp:Nat) (bg:sp<18446744073709551616) (aw:¬L.stream.length+(encR (r.own x)).length+sp<=L.strips*127) :
 Calls Tryz.prog 82 #[.pointer (some ⟨bm,0,none⟩),.pointer (some ⟨bo x.txn,0,none⟩),v,.int .u64 (sp:Int)] w fun e w'=>e = .returned (.tuple #[.int .u64 0,.int .u16 80])/\∃bh,Step w τ w' bh nil:=by
 have C:mayB (r.own x)=true:=s
 have D:(r.own x).kind=8->TabC (r.own x):=fun h=>absurd h y
 have hbase:=hl.ok.base
 have hstr:=hl.ok.stream
 obtain⟨M,kb,N,O,R,U,Y,Z,gt,gp,n0,rfl,hb,ha,ht,hp,bi,bj⟩:=hv.is
 have hlow:=hm.low x hx
 have hnx:=hm.nx
 obtain⟨va,ax,ay⟩:=(hm.ones x hx).is
 obtain⟨ba,z,-⟩:=hm.is
 have bk:=(hm.ones x hx).len
 have bn:=(hm.ones x hx).size
 have ab:=fun (W:World) (T:Tags) (m:Step w τ W T nil)=>by
  have hl:=hl.step m (fun _ _ h=>h)
  have hv:RecI W T (.agg #[.int .u8 (r.kind:Int),.int .u32 (x.txn:Int),.int .u64 (x.last:Int),.int .u64 (r.next:Int),.int .u32 (r.change.page:Int),.int .u16 (r.change.slot:Int),.bool r.change.had,.bool r.change.has,.slice M r.change.before.length kb,.slice N r.change.after.length O,.slice R r.txns.length U,.slice Y r.pages.length Z]) (r.own x):=⟨⟨M,kb,N,O,R,U,Y,Z,gt,gp,n0,rfl,hb.step m (fun h=>h),ha.step m (fun h=>h),ht.step m (fun h=>h),hp.step m (fun h=>h),bi,bj⟩,hv.kind,by show x.txn<_;omega,an,hv.next,hv.page,hv.slot⟩
  have s:=C
  have y:=D
  exact Qg1 hl (by omega) hv s bf y sp bg aw
 have heq:(r.own x)=r.own x:=rfl
 generalize hE:encR (r.own x)=E at *
 have ac:∀(W:World) (T:Tags) (lsn:Nat),Own W T (bo x.txn) (tOneT x.txn) 176 (({x with last:=lsn}:OneP).cells va)->NS 270 2 Qa0 0 W T (tChg x.txn) va x.ch->OneAt W T (bo x.txn) {x with last:=lsn}:=fun W T lsn h1 h2=>⟨⟨va,h1,h2⟩,bk,bn⟩
 have az:∀lsn:Nat,(x.cells va).set 1 (.int .u64 (lsn:Int))=({x with last:=lsn}:OneP).cells va:=fun _=>rfl
 have B:=(Step.refl w τ nil).alloc (.cells #[.int .u8 (r.kind:Int),.int .u32 (r.txn:Int),.int .u64 (r.prev:Int),.int .u64 (r.next:Int),.int .u32 (r.change.page:Int),.int .u16 (r.change.slot:Int),.bool r.change.had,.bool r.change.has,.slice M r.change.before.length kb,.slice N r.change.after.length O,.slice R r.txns.length U,.slice Y r.pages.length Z] 127) tWr2
 have d:=Own.born w τ tWr2 127 #[.int .u8 (r.kind:Int),.int .u32 (r.txn:Int),.int .u64 (r.prev:Int),.int .u64 (r.next:Int),.int .u32 (r.change.page:Int),.int .u16 (r.change.slot:Int),.bool r.change.had,.bool r.change.has,.slice M r.change.before.length kb,.slice N r.change.after.length O,.slice R r.txns.length U,.slice Y r.pages.length Z]
 have hw:IntKind.u64.wrap 0=0:=by rfl
 have a6:(x.cells va)[0]?=some (.int .u32 (x.txn:Int)):=rfl
 have a7:(x.cells va)[1]?=some (.int .u64 (x.last:Int)):=rfl
 generalize x.cells va=XC at *
 clear hv hb ha ht hp heq s C D y hE
 obtain⟨kd,tx,pv,nx,⟨pg,sl,hd,hs,be,af⟩,ts,ps⟩:=r
 dsimp only at *
 generalize be.length=lb at *
 generalize af.length=la at *
 generalize ts.length=lt at *
 generalize ps.length=lp at *
 obtain⟨br,bq⟩:∃br,w.heap.size=br:=⟨_,rfl⟩
 have b1:w.heap.size<=br:=by omega
 generalize hT:τ.put w.heap.size tWr2=T1 at *
 rw[bq] at d
 generalize b2:w.alloc (.cells #[.int .u8 (kd:Int),.int .u32 (tx:Int),.int .u64 (pv:Int),.int .u64 (nx:Int),.int .u32 (pg:Int),.int .u16 (sl:Int),.bool hd,.bool hs,.slice M lb kb,.slice N la O,.slice R lt U,.slice Y lp Z] 127)=W1 at *
 have i:=ax.step B (fun h=>h)
 have F:=z.step B (fun h=>h)
 have G:=ay.step B (fun h=>h)
 generalize b3:x.txn=l at *
 generalize b4:x.last=j at *
 generalize bo l=b at *
 have b5:b≠br:=i.ne d (by simp[tOneT,tWr2])
 have ao:W1.drew.cell? ⟨b,0,none⟩=some (.int .u32 (l:Int))/\W1.drew.cell? ⟨b,1,none⟩=some (.int .u64 (j:Int)):=⟨i.drew.at 0 a6,i.drew.at 1 a7⟩
 have c1:=d.at 1 (v:=.int .u32 (tx:Int)) rfl
 have z1:=d.fz 1
 have c2:=d.at 2 (v:=.int .u64 (pv:Int)) rfl
 have z2:=d.fz 2
 have ad:Own (((W1.setCell ⟨br,1,none⟩ (.int .u32 (l:Int))).setCell ⟨br,2,none⟩ (.int .u64 (j:Int))).drew) T1 br tWr2 127 [.int .u8 (kd:Int),.int .u32 (l:Int),.int .u64 (j:Int),.int .u64 (nx:Int),.int .u32 (pg:Int),.int .u16 (sl:Int),.bool hd,.bool hs,.slice M lb kb,.slice N la O,.slice R lt U,.slice Y lp Z]:=((d.set 1 (.int .u32 (l:Int))).set 2 (.int .u64 (j:Int))).drew
 have I:Step W1 T1 (((W1.setCell ⟨br,1,none⟩ (.int .u32 (l:Int))).setCell ⟨br,2,none⟩ (.int .u64 (j:Int))).drew) T1 (fun t=>t=tWr2):=(((Step.refl W1 T1 (fun t=>t=tWr2)).set (o:=1) d.tag rfl _).set (o:=2) d.tag rfl _).drew
 have ae:Step w τ (((W1.setCell ⟨br,1,none⟩ (.int .u32 (l:Int))).setCell ⟨br,2,none⟩ (.int .u64 (j:Int))).drew) T1 nil:=((B.setNew (b:=br) (o:=1) b1 _).setNew (b:=br) (o:=2) b1 _).drew
 have hA:(W1.drew.setCell ⟨br,1,none⟩ (.int .u32 (l:Int))).cell? ⟨b,0,none⟩=some (.int .u32 (l:Int))/\(W1.drew.setCell ⟨br,1,none⟩ (.int .u32 (l:Int))).cell? ⟨b,1,none⟩=some (.int .u64 (j:Int)):=⟨(i.drew.set_ne (p:=⟨br,1,none⟩) b5 _).at 0 a6,(i.drew.set_ne (p:=⟨br,1,none⟩) b5 _).at 1 a7⟩
 have ag:=i.step I (by simp[tOneT,tWr2])
 have ah:=F.step I (by simp[tMgr,tWr2])
 have ai:=G.step I (by simp[tChg,tWr2])
 obtain⟨b6,Hfin,Hfc,Hor,Hox1,Hom1,Hch1,aj,Hqr,ak,HA,Hox2⟩:=hid12 ab ac az d i F G ad I ae hA ag
 obtain⟨al,Hch2,Hs1,HT,bv,Ho0,Ho1,Htn,Hla⟩:=hid9 ah ai B hT b2 a6 a7 b3 b4
 clear ab ac az d i F G ad I ae hA ag ah ai B hT b2 a6 a7 b3 b4 ax z ay
 go_enter Tryz.func82,Tryz.ntmps82
 go_wp2_with fail
 try rw[bv.out]
 refine Qaf (S:=fun W:World=>W.cell? ⟨b,0,none⟩=some (.int .u32 (l:Int))/\W.cell? ⟨b,1,none⟩=some (.int .u64 (j:Int))) (by kernel_rfl) ?_
 refine tk0 [0,1,2,3,4,5,6,7,8,9,10] ?_
 iterate 11
  refine tks (v:=?_) rfl (Or.inl ⟨by rfl,?_⟩) (by assumption) ?_
  rotate_left
  ·intro w J;(try dsimp only at J);go_simp
   all_goals with_reducible rfl
  try simp only[Act.put,lz1,lz2,lz3]
 refine tk9 ?_
 try simp only[lz4,lz5,lz6,lz1,lz2,lz3]
 refine tk1 11 rfl fun K k=>?_
 go_simp
 refine k.out _ _ (fun _=>HA.out) ?_
 clear k K ao
 have ao:=HA.out
 refine tk1 12 rfl fun K k=>?_
 go_simp
 refine k.out _ _ (fun _=>HA.out) ?_
 clear k K ao
 refine tk1 13 rfl fun K k=>?_
 go_simp
 refine k.out _ _ (fun h=>absurd h (by decide +kernel)) ?_
 clear k K c1 z1 c2 z2
 refine Qad (by kernel_rfl) ?_ _
 generalize ((W1.setCell ⟨br,1,none⟩ (.int .u32 (l:Int))).setCell ⟨br,2,none⟩ (.int .u64 (j:Int))).drew=W2 at *
 have q:Step W2 T1 W2.drew T1 nil:=(Step.refl W2 T1 nil).drew
 have b7:=b6.out W2.drew T1 (ak.out.trans q)
 have bw:W2.drew.cell? ⟨bm,0,none⟩=some (.pointer (some ⟨bl,0,none⟩))/\W2.drew.cell? ⟨br,0,none⟩=some (.int .u8 (kd:Int))/\W2.drew.cell? ⟨br,1,none⟩=some (.int .u32 (l:Int))/\W2.drew.cell? ⟨br,2,none⟩=some (.int .u64 (j:Int))/\W2.drew.cell? ⟨br,3,none⟩=some (.int .u64 (nx:Int))/\W2.drew.cell? ⟨br,4,none⟩=some (.int .u32 (pg:Int))/\W2.drew.cell? ⟨br,5,none⟩=some (.int .u16 (sl:Int))/\W2.drew.cell? ⟨br,6,none⟩=some (.bool hd)/\W2.drew.cell? ⟨br,7,none⟩=some (.bool hs)/\W2.drew.cell? ⟨br,8,none⟩=some (.slice M lb kb)/\W2.drew.cell? ⟨br,9,none⟩=some (.slice N la O)/\W2.drew.cell? ⟨br,10,none⟩=some (.slice R lt U)/\W2.drew.cell? ⟨br,11,none⟩=some (.slice Y lp Z):=by
  have z:=al.out.step q (fun h=>h)
  have d:=aj.out.step q (fun h=>h)
  exact⟨z.at 0 rfl,d.at 0 rfl,d.at 1 rfl,d.at 2 rfl,d.at 3 rfl,d.at 4 rfl,d.at 5 rfl,d.at 6 rfl,d.at 7 rfl,d.at 8 rfl,d.at 9 rfl,d.at 10 rfl,d.at 11 rfl⟩
 have b8:∀W T (S:Tag->Prop),Step W2.drew T1 W T S->¬S tMgr->¬S tWr2->W.cell? ⟨bm,0,none⟩=some (.pointer (some ⟨bl,0,none⟩))/\W.cell? ⟨br,0,none⟩=some (.int .u8 (kd:Int))/\W.cell? ⟨br,1,none⟩=some (.int .u32 (l:Int))/\W.cell? ⟨br,2,none⟩=some (.int .u64 (j:Int))/\W.cell? ⟨br,3,none⟩=some (.int .u64 (nx:Int))/\W.cell? ⟨br,4,none⟩=some (.int .u32 (pg:Int))/\W.cell? ⟨br,5,none⟩=some (.int .u16 (sl:Int))/\W.cell? ⟨br,6,none⟩=some (.bool hd)/\W.cell? ⟨br,7,none⟩=some (.bool hs)/\W.cell? ⟨br,8,none⟩=some (.slice M lb kb)/\W.cell? ⟨br,9,none⟩=some (.slice N la O)/\W.cell? ⟨br,10,none⟩=some (.slice R lt U)/\W.cell? ⟨br,11,none⟩=some (.slice Y lp Z):=fun W T S m a1 a2=>by
  have z:=(al.out.step q (fun h=>h)).step m a1
  have d:=(aj.out.step q (fun h=>h)).step m a2
  exact⟨z.at 0 rfl,d.at 0 rfl,d.at 1 rfl,d.at 2 rfl,d.at 3 rfl,d.at 4 rfl,d.at 5 rfl,d.at 6 rfl,d.at 7 rfl,d.at 8 rfl,d.at 9 rfl,d.at 10 rfl,d.at 11 rfl⟩
 obtain⟨bz,c3,c4⟩:=hid3 b7 b8 q
 clear b7 b8 q
 go_wp2_with fail
 refine Qaf (S:=fun W:World=>W.cell? ⟨bm,0,none⟩=some (.pointer (some ⟨bl,0,none⟩))/\W.cell? ⟨br,0,none⟩=some (.int .u8 (kd:Int))/\W.cell? ⟨br,1,none⟩=some (.int .u32 (l:Int))/\W.cell? ⟨br,2,none⟩=some (.int .u64 (j:Int))/\W.cell? ⟨br,3,none⟩=some (.int .u64 (nx:Int))/\W.cell? ⟨br,4,none⟩=some (.int .u32 (pg:Int))/\W.cell? ⟨br,5,none⟩=some (.int .u16 (sl:Int))/\W.cell? ⟨br,6,none⟩=some (.bool hd)/\W.cell? ⟨br,7,none⟩=some (.bool hs)/\W.cell? ⟨br,8,none⟩=some (.slice M lb kb)/\W.cell? ⟨br,9,none⟩=some (.slice N la O)/\W.cell? ⟨br,10,none⟩=some (.slice R lt U)/\W.cell? ⟨br,11,none⟩=some (.slice Y lp Z)) (by kernel_rfl) ?_
 refine tk0 [0,1,2,3,4,5] ?_
 iterate 6
  refine tks (v:=?_) rfl (Or.inl ⟨by rfl,?_⟩) (by assumption) ?_
  rotate_left
  ·intro w J;(try dsimp only at J);go_simp
   all_goals with_reducible rfl
  try simp only[Act.put,lz1,lz2,lz3]
 refine tk9 ?_
 try simp only[lz4,lz5,lz6,lz1,lz2,lz3]
 refine tk1 6 rfl fun K k=>?_
 go_simp
 go_at_call 80
 refine bz.out.mono ?_
 rintro e w3 ⟨rfl,T3,ap⟩
 have aq:=c3.out _ _ _ ap (fun h=>h) (fun h=>h)
 have am:=(ak.out.trans c4.out).trans ap
 have b9:=Z2 am
 clear am ap
 refine k.out _ _ (fun _=>aq) ?_
 clear k K
 refine tk0 [7,8,9] ?_
 iterate 3
  refine tks (v:=?_) rfl (Or.inl ⟨by rfl,?_⟩) (by assumption) ?_
  rotate_left
  ·intro w J;(try dsimp only at J);go_simp
   all_goals with_reducible rfl
  try simp only[Act.put,lz1,lz2,lz3]
 refine tk9 ?_
 try simp only[lz4,lz5,lz6,lz1,lz2,lz3]
 refine tk1 10 rfl fun K k=>?_
 go_simp
 refine k.out _ _ (fun _=>aq) ?_
 clear k K
 refine tk1 11 rfl fun K k=>?_
 go_simp
 refine k.out _ _ (fun h=>absurd h (by decide +kernel)) ?_
 clear k K bw aq
 refine Qad (by kernel_rfl) ?_ _
 go_wp2_with fail
 go_ret2
 exact⟨rfl,T3,b9.out⟩
