/-
 Transactions: write: a record of one goes to the log.
-/
import Derived.Test.YtjgacceifcnedaaGreatMTxA
import Derived.Test.YtjgacceifcnedaaGreatMWalA
import Derived.Test.YtjgacceifcnedaaGreatMEncB
set_option maxRecDepth 100000
set_option maxHeartbeats 4000000
set_option linter.all false
namespace Go.Proofs.YtjgacceifcnedaaGreat
open Go.RowKit
def tWr2:Tag:=(210,0)
def RecP.own (r:RecP) (x:OneP):RecP:={r with txn:=x.txn,prev:=x.last}
theorem Qe2 {w:World}{τ:Tags}{bm bl bd bp:Nat}{bo:Nat→Nat}{X:List OneP}{next:Nat}{L:LogM}(hm:MgrAt w τ bm bl bp bo X next) (hl:LogAt w τ bl bd L) {x:OneP}(hx:x∈X) (hn:L.starts.length≤100000) {v:Value}{r:RecP}(hv:RecI w τ v r) (hmay:mayB r=true) (hsz:(encR (r.own x)).length≤60000) (htab:r.kind≠8) (hlast:x.last<18446744073709551616) (sp:Nat) (hcap:L.stream.length+(encR (r.own x)).length+sp≤L.strips*127) :
 Calls Tryz.prog 41 #[.pointer (some ⟨bm,0,none⟩),.pointer (some ⟨bo x.txn,0,none⟩),v,.int .u64 (sp:Int)] w fun e w'=>e = .returned (.tuple #[.int .u64 ((L.base+L.stream.length:Nat):Int),.int .u16 0])∧∃τ',LogAt w' τ' bl bd (L.more (encR (r.own x)))∧OneAt w' τ' (bo x.txn) {x with last:=L.base+L.stream.length}∧Step w τ w' τ' (fun t=>LogTag t∨t=tOneT x.txn):=by
 have hmay':mayB (r.own x)=true:=hmay
 have htab':(r.own x).kind=8→TabC (r.own x):=fun h=>absurd h htab
 have hbase:=hl.ok.base
 have hstr:=hl.ok.stream
 obtain⟨qb,kb,qa,ka,qt,kt,qp,kp,gt,gp,n0,rfl,hb,ha,ht,hp,hg1,hg2⟩:=hv.is
 have hlow:=hm.low x hx
 have hnx:=hm.nx
 obtain⟨va,hox,hch⟩:=(hm.ones x hx).is
 obtain⟨ba,hom,-⟩:=hm.is
 have hxl:=(hm.ones x hx).len
 have hxs:=(hm.ones x hx).size
 have happ:=fun (W:World) (T:Tags) (m:Step w τ W T nil)=>by
  have hl:=hl.step m (fun _ _ h=>h)
  have hv:RecI W T (.agg #[.int .u8 (r.kind:Int),.int .u32 (x.txn:Int),.int .u64 (x.last:Int),.int .u64 (r.next:Int),.int .u32 (r.change.page:Int),.int .u16 (r.change.slot:Int),.bool r.change.had,.bool r.change.has,.slice qb r.change.before.length kb,.slice qa r.change.after.length ka,.slice qt r.txns.length kt,.slice qp r.pages.length kp]) (r.own x):=⟨⟨qb,kb,qa,ka,qt,kt,qp,kp,gt,gp,n0,rfl,hb.step m (fun h=>h),ha.step m (fun h=>h),ht.step m (fun h=>h),hp.step m (fun h=>h),hg1,hg2⟩,hv.kind,by show x.txn<_;omega,hlast,hv.next,hv.page,hv.slot⟩
  have hmay:=hmay'
  have htab:=htab'
  exact Qi0 hl (by omega) hv hmay hsz htab sp hcap
 have heq:(r.own x)=r.own x:=rfl
 generalize hE:encR (r.own x)=E at *
 have hfin:∀(W:World) (T:Tags) (lsn:Nat),Own W T (bo x.txn) (tOneT x.txn) 103 (({x with last:=lsn}:OneP).cells va)→NS 111 2 Qa0 0 W T (tChg x.txn) va x.ch→OneAt W T (bo x.txn) {x with last:=lsn}:=fun W T lsn h1 h2=>⟨⟨va,h1,h2⟩,hxl,hxs⟩
 have hfc:∀lsn:Nat,(x.cells va).set 1 (.int .u64 (lsn:Int))=({x with last:=lsn}:OneP).cells va:=fun _=>rfl
 have hs1:=(Step.refl w τ nil).alloc (.cells #[.int .u8 (r.kind:Int),.int .u32 (r.txn:Int),.int .u64 (r.prev:Int),.int .u64 (r.next:Int),.int .u32 (r.change.page:Int),.int .u16 (r.change.slot:Int),.bool r.change.had,.bool r.change.has,.slice qb r.change.before.length kb,.slice qa r.change.after.length ka,.slice qt r.txns.length kt,.slice qp r.pages.length kp] 58) tWr2
 have hor:=Own.born w τ tWr2 58 #[.int .u8 (r.kind:Int),.int .u32 (r.txn:Int),.int .u64 (r.prev:Int),.int .u64 (r.next:Int),.int .u32 (r.change.page:Int),.int .u16 (r.change.slot:Int),.bool r.change.had,.bool r.change.has,.slice qb r.change.before.length kb,.slice qa r.change.after.length ka,.slice qt r.txns.length kt,.slice qp r.pages.length kp]
 have hw:IntKind.u64.wrap 0=0:=by rfl
 have ho0:(x.cells va)[0]?=some (.int .u32 (x.txn:Int)):=rfl
 have ho1:(x.cells va)[1]?=some (.int .u64 (x.last:Int)):=rfl
 generalize x.cells va=XC at *
 clear hv hb ha ht hp heq hmay hmay' htab' htab hE
 obtain⟨kd,tx,pv,nx,⟨pg,sl,hd,hs,be,af⟩,ts,ps⟩:=r
 dsimp only at *
 generalize be.length=lb at *
 generalize af.length=la at *
 generalize ts.length=lt at *
 generalize ps.length=lp at *
 obtain⟨br,hbr⟩:∃br,w.heap.size=br:=⟨_,rfl⟩
 have hlr:w.heap.size≤br:=by omega
 generalize hT:τ.put w.heap.size tWr2=T1 at *
 rw[hbr] at hor
 generalize hW1:w.alloc (.cells #[.int .u8 (kd:Int),.int .u32 (tx:Int),.int .u64 (pv:Int),.int .u64 (nx:Int),.int .u32 (pg:Int),.int .u16 (sl:Int),.bool hd,.bool hs,.slice qb lb kb,.slice qa la ka,.slice qt lt kt,.slice qp lp kp] 58)=W1 at *
 have hox1:=hox.step hs1 (fun h=>h)
 have hom1:=hom.step hs1 (fun h=>h)
 have hch1:=hch.step hs1 (fun h=>h)
 generalize htn:x.txn=tn at *
 generalize hla:x.last=la0 at *
 generalize bo tn=b at *
 have hne:b≠br:=hox1.ne hor (by simp[tOneT,tWr2])
 have hS1:W1.drew.cell? ⟨b,0,none⟩=some (.int .u32 (tn:Int))∧W1.drew.cell? ⟨b,1,none⟩=some (.int .u64 (la0:Int)):=⟨hox1.drew.at 0 ho0,hox1.drew.at 1 ho1⟩
 have c1:=hor.at 1 (v:=.int .u32 (tx:Int)) rfl
 have z1:=hor.fz 1
 have c2:=hor.at 2 (v:=.int .u64 (pv:Int)) rfl
 have z2:=hor.fz 2
 have hor2:Own (((W1.setCell ⟨br,1,none⟩ (.int .u32 (tn:Int))).setCell ⟨br,2,none⟩ (.int .u64 (la0:Int))).drew) T1 br tWr2 58 [.int .u8 (kd:Int),.int .u32 (tn:Int),.int .u64 (la0:Int),.int .u64 (nx:Int),.int .u32 (pg:Int),.int .u16 (sl:Int),.bool hd,.bool hs,.slice qb lb kb,.slice qa la ka,.slice qt lt kt,.slice qp lp kp]:=((hor.set 1 (.int .u32 (tn:Int))).set 2 (.int .u64 (la0:Int))).drew
 have hqr:Step W1 T1 (((W1.setCell ⟨br,1,none⟩ (.int .u32 (tn:Int))).setCell ⟨br,2,none⟩ (.int .u64 (la0:Int))).drew) T1 (fun t=>t=tWr2):=(((Step.refl W1 T1 (fun t=>t=tWr2)).set (o:=1) hor.tag rfl _).set (o:=2) hor.tag rfl _).drew
 have hst2:Step w τ (((W1.setCell ⟨br,1,none⟩ (.int .u32 (tn:Int))).setCell ⟨br,2,none⟩ (.int .u64 (la0:Int))).drew) T1 nil:=((hs1.setNew (b:=br) (o:=1) hlr _).setNew (b:=br) (o:=2) hlr _).drew
 have hA:(W1.drew.setCell ⟨br,1,none⟩ (.int .u32 (tn:Int))).cell? ⟨b,0,none⟩=some (.int .u32 (tn:Int))∧(W1.drew.setCell ⟨br,1,none⟩ (.int .u32 (tn:Int))).cell? ⟨b,1,none⟩=some (.int .u64 (la0:Int)):=⟨(hox1.drew.set_ne (p:=⟨br,1,none⟩) hne _).at 0 ho0,(hox1.drew.set_ne (p:=⟨br,1,none⟩) hne _).at 1 ho1⟩
 have hox2:=hox1.step hqr (by simp[tOneT,tWr2])
 have hom2:=hom1.step hqr (by simp[tMgr,tWr2])
 have hch2:=hch1.step hqr (by simp[tChg,tWr2])
 obtain⟨Happ,Hfin,Hfc,Hor,Hox1,Hom1,Hch1,Hor2,Hqr,Hst2,HA,Hox2⟩:=hid12 happ hfin hfc hor hox1 hom1 hch1 hor2 hqr hst2 hA hox2
 obtain⟨Hom2,Hch2,Hs1,HT,HW1,Ho0,Ho1,Htn,Hla⟩:=hid9 hom2 hch2 hs1 hT hW1 ho0 ho1 htn hla
 clear happ hfin hfc hor hox1 hom1 hch1 hor2 hqr hst2 hA hox2 hom2 hch2 hs1 hT hW1 ho0 ho1 htn hla hox hom hch
 go_enter Tryz.func41,Tryz.ntmps41
 go_wp2_with fail
 try rw[HW1.out]
 refine Qaf (S:=fun W:World=>W.cell? ⟨b,0,none⟩=some (.int .u32 (tn:Int))∧W.cell? ⟨b,1,none⟩=some (.int .u64 (la0:Int))) (by kernel_rfl) ?_
 refine tk0 [0,1,2,3,4,5,6,7,8,9,10] ?_
 iterate 11
  refine tks (v:=?_) rfl (Or.inl ⟨by rfl,?_⟩) (by assumption) ?_
  rotate_left
  ·intro w hSw;(try dsimp only at hSw);go_simp
   all_goals with_reducible rfl
  try simp only[Act.put,lz1,lz2,lz3]
 refine tk9 ?_
 try simp only[lz4,lz5,lz6,lz1,lz2,lz3]
 refine tk1 11 rfl fun K hK=>?_
 go_simp
 refine hK.out _ _ (fun _=>HA.out) ?_
 clear hK K hS1
 have hS1:=HA.out
 refine tk1 12 rfl fun K hK=>?_
 go_simp
 refine hK.out _ _ (fun _=>HA.out) ?_
 clear hK K hS1
 refine tk1 13 rfl fun K hK=>?_
 go_simp
 refine hK.out _ _ (fun h=>absurd h (by decide +kernel)) ?_
 clear hK K c1 z1 c2 z2
 refine Qad (by kernel_rfl) ?_ _
 generalize ((W1.setCell ⟨br,1,none⟩ (.int .u32 (tn:Int))).setCell ⟨br,2,none⟩ (.int .u64 (la0:Int))).drew=W2 at *
 have hd2:Step W2 T1 W2.drew T1 nil:=(Step.refl W2 T1 nil).drew
 have hap:=Happ.out W2.drew T1 (Hst2.out.trans hd2)
 have hS2:W2.drew.cell? ⟨bm,0,none⟩=some (.pointer (some ⟨bl,0,none⟩))∧W2.drew.cell? ⟨br,0,none⟩=some (.int .u8 (kd:Int))∧W2.drew.cell? ⟨br,1,none⟩=some (.int .u32 (tn:Int))∧W2.drew.cell? ⟨br,2,none⟩=some (.int .u64 (la0:Int))∧W2.drew.cell? ⟨br,3,none⟩=some (.int .u64 (nx:Int))∧W2.drew.cell? ⟨br,4,none⟩=some (.int .u32 (pg:Int))∧W2.drew.cell? ⟨br,5,none⟩=some (.int .u16 (sl:Int))∧W2.drew.cell? ⟨br,6,none⟩=some (.bool hd)∧W2.drew.cell? ⟨br,7,none⟩=some (.bool hs)∧W2.drew.cell? ⟨br,8,none⟩=some (.slice qb lb kb)∧W2.drew.cell? ⟨br,9,none⟩=some (.slice qa la ka)∧W2.drew.cell? ⟨br,10,none⟩=some (.slice qt lt kt)∧W2.drew.cell? ⟨br,11,none⟩=some (.slice qp lp kp):=by
  have hom:=Hom2.out.step hd2 (fun h=>h)
  have hor:=Hor2.out.step hd2 (fun h=>h)
  exact⟨hom.at 0 rfl,hor.at 0 rfl,hor.at 1 rfl,hor.at 2 rfl,hor.at 3 rfl,hor.at 4 rfl,hor.at 5 rfl,hor.at 6 rfl,hor.at 7 rfl,hor.at 8 rfl,hor.at 9 rfl,hor.at 10 rfl,hor.at 11 rfl⟩
 have hk2:∀W T (S:Tag→Prop),Step W2.drew T1 W T S→¬S tMgr→¬S tWr2→W.cell? ⟨bm,0,none⟩=some (.pointer (some ⟨bl,0,none⟩))∧W.cell? ⟨br,0,none⟩=some (.int .u8 (kd:Int))∧W.cell? ⟨br,1,none⟩=some (.int .u32 (tn:Int))∧W.cell? ⟨br,2,none⟩=some (.int .u64 (la0:Int))∧W.cell? ⟨br,3,none⟩=some (.int .u64 (nx:Int))∧W.cell? ⟨br,4,none⟩=some (.int .u32 (pg:Int))∧W.cell? ⟨br,5,none⟩=some (.int .u16 (sl:Int))∧W.cell? ⟨br,6,none⟩=some (.bool hd)∧W.cell? ⟨br,7,none⟩=some (.bool hs)∧W.cell? ⟨br,8,none⟩=some (.slice qb lb kb)∧W.cell? ⟨br,9,none⟩=some (.slice qa la ka)∧W.cell? ⟨br,10,none⟩=some (.slice qt lt kt)∧W.cell? ⟨br,11,none⟩=some (.slice qp lp kp):=fun W T S m a1 a2=>by
  have hom:=(Hom2.out.step hd2 (fun h=>h)).step m a1
  have hor:=(Hor2.out.step hd2 (fun h=>h)).step m a2
  exact⟨hom.at 0 rfl,hor.at 0 rfl,hor.at 1 rfl,hor.at 2 rfl,hor.at 3 rfl,hor.at 4 rfl,hor.at 5 rfl,hor.at 6 rfl,hor.at 7 rfl,hor.at 8 rfl,hor.at 9 rfl,hor.at 10 rfl,hor.at 11 rfl⟩
 obtain⟨Hap,Hk2,Hd2⟩:=hid3 hap hk2 hd2
 clear hap hk2 hd2
 go_wp2_with fail
 refine Qaf (S:=fun W:World=>W.cell? ⟨bm,0,none⟩=some (.pointer (some ⟨bl,0,none⟩))∧W.cell? ⟨br,0,none⟩=some (.int .u8 (kd:Int))∧W.cell? ⟨br,1,none⟩=some (.int .u32 (tn:Int))∧W.cell? ⟨br,2,none⟩=some (.int .u64 (la0:Int))∧W.cell? ⟨br,3,none⟩=some (.int .u64 (nx:Int))∧W.cell? ⟨br,4,none⟩=some (.int .u32 (pg:Int))∧W.cell? ⟨br,5,none⟩=some (.int .u16 (sl:Int))∧W.cell? ⟨br,6,none⟩=some (.bool hd)∧W.cell? ⟨br,7,none⟩=some (.bool hs)∧W.cell? ⟨br,8,none⟩=some (.slice qb lb kb)∧W.cell? ⟨br,9,none⟩=some (.slice qa la ka)∧W.cell? ⟨br,10,none⟩=some (.slice qt lt kt)∧W.cell? ⟨br,11,none⟩=some (.slice qp lp kp)) (by kernel_rfl) ?_
 refine tk0 [0,1,2,3,4,5] ?_
 iterate 6
  refine tks (v:=?_) rfl (Or.inl ⟨by rfl,?_⟩) (by assumption) ?_
  rotate_left
  ·intro w hSw;(try dsimp only at hSw);go_simp
   all_goals with_reducible rfl
  try simp only[Act.put,lz1,lz2,lz3]
 refine tk9 ?_
 try simp only[lz4,lz5,lz6,lz1,lz2,lz3]
 refine tk1 6 rfl fun K hK=>?_
 go_simp
 go_at_call 37
 refine Hap.out.mono ?_
 rintro e w3 ⟨rfl,T3,hl3,hs3⟩
 have hS3:=Hk2.out _ _ _ hs3 (by simp[LogTag,tMgr,tLog,Qah,Qag]) (by simp[LogTag,tWr2,tLog,Qah,Qag])
 have hq3:=Hd2.out.mono (T:=LogTag) (fun _ h=>h.elim) |>.trans hs3
 have hox3:=Hox2.out.step hq3 (by simp[LogTag,tOneT,tLog,Qah,Qag])
 have hch3:=Hch2.out.step hq3 (by simp[LogTag,tChg,tLog,Qah,Qag])
 have hst3:=(Hst2.out.mono (T:=LogTag) (fun _ h=>h.elim)).trans hq3
 obtain⟨lsn,hlsn⟩:∃lsn,L.base+L.stream.length=lsn:=⟨_,rfl⟩
 rw[hlsn]
 have c1:=hox3.at 1 Ho1.out
 have z1:=hox3.fz 1
 have hox4:=hox3.set 1 (.int .u64 (lsn:Int))
 have hq4:Step w3 T3 (w3.setCell ⟨b,1,none⟩ (.int .u64 (lsn:Int))) T3 (fun t=>t=tOneT tn):=(Step.refl w3 T3 (fun t=>t=tOneT tn)).set (o:=1) hox3.tag rfl _
 have hl4:=hl3.step hq4 (fun g hg e=>by subst e;rcases hg with h|h|h <;> simp[tOneT,tLog,Qah,Qag] at h)
 have hch4:=hch3.step hq4 (by simp[tChg,tOneT])
 have hst4:=(hst3.mono (T:=fun t=>LogTag t∨t=tOneT tn) (fun _ h=>.inl h)).trans (hq4.mono (fun _ h=>.inr h))
 rw[Hfc.out] at hox4
 obtain⟨Hl4,Hox4,Hch4,Hst4,Hlsn⟩:=hid5 hl4 hox4 hch4 hst4 hlsn
 clear hl4 hox4 hch4 hst4 hlsn hs3 hq3 hox3 hch3 hst3 hq4 hl3
 refine hK.out _ _ (fun _=>hS3) ?_
 clear hK K
 refine tk0 [7,8,9] ?_
 iterate 3
  refine tks (v:=?_) rfl (Or.inl ⟨by rfl,?_⟩) (by assumption) ?_
  rotate_left
  ·intro w hSw;(try dsimp only at hSw);go_simp
   all_goals with_reducible rfl
  try simp only[Act.put,lz1,lz2,lz3]
 refine tk9 ?_
 try simp only[lz4,lz5,lz6,lz1,lz2,lz3]
 refine tk1 10 rfl fun K hK=>?_
 go_simp
 refine hK.out _ _ (fun _=>hS3) ?_
 clear hK K
 refine tk1 11 rfl fun K hK=>?_
 go_simp
 refine hK.out _ _ (fun h=>absurd h (by decide +kernel)) ?_
 clear hK K hS2 hS3
 refine Qad (by kernel_rfl) ?_ _
 go_wp2_with fail
 go_ret2
 exact⟨by rw[Hlsn.out];rfl,T3,Hl4.out,by rw[Hlsn.out];exact Hfin.out _ _ _ Hox4.out Hch4.out,Hst4.out⟩
theorem Qg9 {w:World}{τ:Tags}{bm bl bd bp:Nat}{bo:Nat→Nat}{X:List OneP}{next:Nat}{L:LogM}(hm:MgrAt w τ bm bl bp bo X next) (hl:LogAt w τ bl bd L) {x:OneP}(hx:x∈X) (hn:L.starts.length≤100000) {v:Value}{r:RecP}(hv:RecI w τ v r) (hmay:mayB r=true) (hsz:(encR (r.own x)).length≤60000) (htab:r.kind≠8) (hlast:x.last<18446744073709551616) (sp:Nat) (hsp:sp<18446744073709551616) (hcap:¬L.stream.length+(encR (r.own x)).length+sp≤L.strips*127) :
 Calls Tryz.prog 41 #[.pointer (some ⟨bm,0,none⟩),.pointer (some ⟨bo x.txn,0,none⟩),v,.int .u64 (sp:Int)] w fun e w'=>e = .returned (.tuple #[.int .u64 0,.int .u16 80])∧∃τ',Step w τ w' τ' nil:=by
 have hmay':mayB (r.own x)=true:=hmay
 have htab':(r.own x).kind=8→TabC (r.own x):=fun h=>absurd h htab
 have hbase:=hl.ok.base
 have hstr:=hl.ok.stream
 obtain⟨qb,kb,qa,ka,qt,kt,qp,kp,gt,gp,n0,rfl,hb,ha,ht,hp,hg1,hg2⟩:=hv.is
 have hlow:=hm.low x hx
 have hnx:=hm.nx
 obtain⟨va,hox,hch⟩:=(hm.ones x hx).is
 obtain⟨ba,hom,-⟩:=hm.is
 have hxl:=(hm.ones x hx).len
 have hxs:=(hm.ones x hx).size
 have happ:=fun (W:World) (T:Tags) (m:Step w τ W T nil)=>by
  have hl:=hl.step m (fun _ _ h=>h)
  have hv:RecI W T (.agg #[.int .u8 (r.kind:Int),.int .u32 (x.txn:Int),.int .u64 (x.last:Int),.int .u64 (r.next:Int),.int .u32 (r.change.page:Int),.int .u16 (r.change.slot:Int),.bool r.change.had,.bool r.change.has,.slice qb r.change.before.length kb,.slice qa r.change.after.length ka,.slice qt r.txns.length kt,.slice qp r.pages.length kp]) (r.own x):=⟨⟨qb,kb,qa,ka,qt,kt,qp,kp,gt,gp,n0,rfl,hb.step m (fun h=>h),ha.step m (fun h=>h),ht.step m (fun h=>h),hp.step m (fun h=>h),hg1,hg2⟩,hv.kind,by show x.txn<_;omega,hlast,hv.next,hv.page,hv.slot⟩
  have hmay:=hmay'
  have htab:=htab'
  exact Qg1 hl (by omega) hv hmay hsz htab sp hsp hcap
 have heq:(r.own x)=r.own x:=rfl
 generalize hE:encR (r.own x)=E at *
 have hfin:∀(W:World) (T:Tags) (lsn:Nat),Own W T (bo x.txn) (tOneT x.txn) 103 (({x with last:=lsn}:OneP).cells va)→NS 111 2 Qa0 0 W T (tChg x.txn) va x.ch→OneAt W T (bo x.txn) {x with last:=lsn}:=fun W T lsn h1 h2=>⟨⟨va,h1,h2⟩,hxl,hxs⟩
 have hfc:∀lsn:Nat,(x.cells va).set 1 (.int .u64 (lsn:Int))=({x with last:=lsn}:OneP).cells va:=fun _=>rfl
 have hs1:=(Step.refl w τ nil).alloc (.cells #[.int .u8 (r.kind:Int),.int .u32 (r.txn:Int),.int .u64 (r.prev:Int),.int .u64 (r.next:Int),.int .u32 (r.change.page:Int),.int .u16 (r.change.slot:Int),.bool r.change.had,.bool r.change.has,.slice qb r.change.before.length kb,.slice qa r.change.after.length ka,.slice qt r.txns.length kt,.slice qp r.pages.length kp] 58) tWr2
 have hor:=Own.born w τ tWr2 58 #[.int .u8 (r.kind:Int),.int .u32 (r.txn:Int),.int .u64 (r.prev:Int),.int .u64 (r.next:Int),.int .u32 (r.change.page:Int),.int .u16 (r.change.slot:Int),.bool r.change.had,.bool r.change.has,.slice qb r.change.before.length kb,.slice qa r.change.after.length ka,.slice qt r.txns.length kt,.slice qp r.pages.length kp]
 have hw:IntKind.u64.wrap 0=0:=by rfl
 have ho0:(x.cells va)[0]?=some (.int .u32 (x.txn:Int)):=rfl
 have ho1:(x.cells va)[1]?=some (.int .u64 (x.last:Int)):=rfl
 generalize x.cells va=XC at *
 clear hv hb ha ht hp heq hmay hmay' htab' htab hE
 obtain⟨kd,tx,pv,nx,⟨pg,sl,hd,hs,be,af⟩,ts,ps⟩:=r
 dsimp only at *
 generalize be.length=lb at *
 generalize af.length=la at *
 generalize ts.length=lt at *
 generalize ps.length=lp at *
 obtain⟨br,hbr⟩:∃br,w.heap.size=br:=⟨_,rfl⟩
 have hlr:w.heap.size≤br:=by omega
 generalize hT:τ.put w.heap.size tWr2=T1 at *
 rw[hbr] at hor
 generalize hW1:w.alloc (.cells #[.int .u8 (kd:Int),.int .u32 (tx:Int),.int .u64 (pv:Int),.int .u64 (nx:Int),.int .u32 (pg:Int),.int .u16 (sl:Int),.bool hd,.bool hs,.slice qb lb kb,.slice qa la ka,.slice qt lt kt,.slice qp lp kp] 58)=W1 at *
 have hox1:=hox.step hs1 (fun h=>h)
 have hom1:=hom.step hs1 (fun h=>h)
 have hch1:=hch.step hs1 (fun h=>h)
 generalize htn:x.txn=tn at *
 generalize hla:x.last=la0 at *
 generalize bo tn=b at *
 have hne:b≠br:=hox1.ne hor (by simp[tOneT,tWr2])
 have hS1:W1.drew.cell? ⟨b,0,none⟩=some (.int .u32 (tn:Int))∧W1.drew.cell? ⟨b,1,none⟩=some (.int .u64 (la0:Int)):=⟨hox1.drew.at 0 ho0,hox1.drew.at 1 ho1⟩
 have c1:=hor.at 1 (v:=.int .u32 (tx:Int)) rfl
 have z1:=hor.fz 1
 have c2:=hor.at 2 (v:=.int .u64 (pv:Int)) rfl
 have z2:=hor.fz 2
 have hor2:Own (((W1.setCell ⟨br,1,none⟩ (.int .u32 (tn:Int))).setCell ⟨br,2,none⟩ (.int .u64 (la0:Int))).drew) T1 br tWr2 58 [.int .u8 (kd:Int),.int .u32 (tn:Int),.int .u64 (la0:Int),.int .u64 (nx:Int),.int .u32 (pg:Int),.int .u16 (sl:Int),.bool hd,.bool hs,.slice qb lb kb,.slice qa la ka,.slice qt lt kt,.slice qp lp kp]:=((hor.set 1 (.int .u32 (tn:Int))).set 2 (.int .u64 (la0:Int))).drew
 have hqr:Step W1 T1 (((W1.setCell ⟨br,1,none⟩ (.int .u32 (tn:Int))).setCell ⟨br,2,none⟩ (.int .u64 (la0:Int))).drew) T1 (fun t=>t=tWr2):=(((Step.refl W1 T1 (fun t=>t=tWr2)).set (o:=1) hor.tag rfl _).set (o:=2) hor.tag rfl _).drew
 have hst2:Step w τ (((W1.setCell ⟨br,1,none⟩ (.int .u32 (tn:Int))).setCell ⟨br,2,none⟩ (.int .u64 (la0:Int))).drew) T1 nil:=((hs1.setNew (b:=br) (o:=1) hlr _).setNew (b:=br) (o:=2) hlr _).drew
 have hA:(W1.drew.setCell ⟨br,1,none⟩ (.int .u32 (tn:Int))).cell? ⟨b,0,none⟩=some (.int .u32 (tn:Int))∧(W1.drew.setCell ⟨br,1,none⟩ (.int .u32 (tn:Int))).cell? ⟨b,1,none⟩=some (.int .u64 (la0:Int)):=⟨(hox1.drew.set_ne (p:=⟨br,1,none⟩) hne _).at 0 ho0,(hox1.drew.set_ne (p:=⟨br,1,none⟩) hne _).at 1 ho1⟩
 have hox2:=hox1.step hqr (by simp[tOneT,tWr2])
 have hom2:=hom1.step hqr (by simp[tMgr,tWr2])
 have hch2:=hch1.step hqr (by simp[tChg,tWr2])
 obtain⟨Happ,Hfin,Hfc,Hor,Hox1,Hom1,Hch1,Hor2,Hqr,Hst2,HA,Hox2⟩:=hid12 happ hfin hfc hor hox1 hom1 hch1 hor2 hqr hst2 hA hox2
 obtain⟨Hom2,Hch2,Hs1,HT,HW1,Ho0,Ho1,Htn,Hla⟩:=hid9 hom2 hch2 hs1 hT hW1 ho0 ho1 htn hla
 clear happ hfin hfc hor hox1 hom1 hch1 hor2 hqr hst2 hA hox2 hom2 hch2 hs1 hT hW1 ho0 ho1 htn hla hox hom hch
 go_enter Tryz.func41,Tryz.ntmps41
 go_wp2_with fail
 try rw[HW1.out]
 refine Qaf (S:=fun W:World=>W.cell? ⟨b,0,none⟩=some (.int .u32 (tn:Int))∧W.cell? ⟨b,1,none⟩=some (.int .u64 (la0:Int))) (by kernel_rfl) ?_
 refine tk0 [0,1,2,3,4,5,6,7,8,9,10] ?_
 iterate 11
  refine tks (v:=?_) rfl (Or.inl ⟨by rfl,?_⟩) (by assumption) ?_
  rotate_left
  ·intro w hSw;(try dsimp only at hSw);go_simp
   all_goals with_reducible rfl
  try simp only[Act.put,lz1,lz2,lz3]
 refine tk9 ?_
 try simp only[lz4,lz5,lz6,lz1,lz2,lz3]
 refine tk1 11 rfl fun K hK=>?_
 go_simp
 refine hK.out _ _ (fun _=>HA.out) ?_
 clear hK K hS1
 have hS1:=HA.out
 refine tk1 12 rfl fun K hK=>?_
 go_simp
 refine hK.out _ _ (fun _=>HA.out) ?_
 clear hK K hS1
 refine tk1 13 rfl fun K hK=>?_
 go_simp
 refine hK.out _ _ (fun h=>absurd h (by decide +kernel)) ?_
 clear hK K c1 z1 c2 z2
 refine Qad (by kernel_rfl) ?_ _
 generalize ((W1.setCell ⟨br,1,none⟩ (.int .u32 (tn:Int))).setCell ⟨br,2,none⟩ (.int .u64 (la0:Int))).drew=W2 at *
 have hd2:Step W2 T1 W2.drew T1 nil:=(Step.refl W2 T1 nil).drew
 have hap:=Happ.out W2.drew T1 (Hst2.out.trans hd2)
 have hS2:W2.drew.cell? ⟨bm,0,none⟩=some (.pointer (some ⟨bl,0,none⟩))∧W2.drew.cell? ⟨br,0,none⟩=some (.int .u8 (kd:Int))∧W2.drew.cell? ⟨br,1,none⟩=some (.int .u32 (tn:Int))∧W2.drew.cell? ⟨br,2,none⟩=some (.int .u64 (la0:Int))∧W2.drew.cell? ⟨br,3,none⟩=some (.int .u64 (nx:Int))∧W2.drew.cell? ⟨br,4,none⟩=some (.int .u32 (pg:Int))∧W2.drew.cell? ⟨br,5,none⟩=some (.int .u16 (sl:Int))∧W2.drew.cell? ⟨br,6,none⟩=some (.bool hd)∧W2.drew.cell? ⟨br,7,none⟩=some (.bool hs)∧W2.drew.cell? ⟨br,8,none⟩=some (.slice qb lb kb)∧W2.drew.cell? ⟨br,9,none⟩=some (.slice qa la ka)∧W2.drew.cell? ⟨br,10,none⟩=some (.slice qt lt kt)∧W2.drew.cell? ⟨br,11,none⟩=some (.slice qp lp kp):=by
  have hom:=Hom2.out.step hd2 (fun h=>h)
  have hor:=Hor2.out.step hd2 (fun h=>h)
  exact⟨hom.at 0 rfl,hor.at 0 rfl,hor.at 1 rfl,hor.at 2 rfl,hor.at 3 rfl,hor.at 4 rfl,hor.at 5 rfl,hor.at 6 rfl,hor.at 7 rfl,hor.at 8 rfl,hor.at 9 rfl,hor.at 10 rfl,hor.at 11 rfl⟩
 have hk2:∀W T (S:Tag→Prop),Step W2.drew T1 W T S→¬S tMgr→¬S tWr2→W.cell? ⟨bm,0,none⟩=some (.pointer (some ⟨bl,0,none⟩))∧W.cell? ⟨br,0,none⟩=some (.int .u8 (kd:Int))∧W.cell? ⟨br,1,none⟩=some (.int .u32 (tn:Int))∧W.cell? ⟨br,2,none⟩=some (.int .u64 (la0:Int))∧W.cell? ⟨br,3,none⟩=some (.int .u64 (nx:Int))∧W.cell? ⟨br,4,none⟩=some (.int .u32 (pg:Int))∧W.cell? ⟨br,5,none⟩=some (.int .u16 (sl:Int))∧W.cell? ⟨br,6,none⟩=some (.bool hd)∧W.cell? ⟨br,7,none⟩=some (.bool hs)∧W.cell? ⟨br,8,none⟩=some (.slice qb lb kb)∧W.cell? ⟨br,9,none⟩=some (.slice qa la ka)∧W.cell? ⟨br,10,none⟩=some (.slice qt lt kt)∧W.cell? ⟨br,11,none⟩=some (.slice qp lp kp):=fun W T S m a1 a2=>by
  have hom:=(Hom2.out.step hd2 (fun h=>h)).step m a1
  have hor:=(Hor2.out.step hd2 (fun h=>h)).step m a2
  exact⟨hom.at 0 rfl,hor.at 0 rfl,hor.at 1 rfl,hor.at 2 rfl,hor.at 3 rfl,hor.at 4 rfl,hor.at 5 rfl,hor.at 6 rfl,hor.at 7 rfl,hor.at 8 rfl,hor.at 9 rfl,hor.at 10 rfl,hor.at 11 rfl⟩
 obtain⟨Hap,Hk2,Hd2⟩:=hid3 hap hk2 hd2
 clear hap hk2 hd2
 go_wp2_with fail
 refine Qaf (S:=fun W:World=>W.cell? ⟨bm,0,none⟩=some (.pointer (some ⟨bl,0,none⟩))∧W.cell? ⟨br,0,none⟩=some (.int .u8 (kd:Int))∧W.cell? ⟨br,1,none⟩=some (.int .u32 (tn:Int))∧W.cell? ⟨br,2,none⟩=some (.int .u64 (la0:Int))∧W.cell? ⟨br,3,none⟩=some (.int .u64 (nx:Int))∧W.cell? ⟨br,4,none⟩=some (.int .u32 (pg:Int))∧W.cell? ⟨br,5,none⟩=some (.int .u16 (sl:Int))∧W.cell? ⟨br,6,none⟩=some (.bool hd)∧W.cell? ⟨br,7,none⟩=some (.bool hs)∧W.cell? ⟨br,8,none⟩=some (.slice qb lb kb)∧W.cell? ⟨br,9,none⟩=some (.slice qa la ka)∧W.cell? ⟨br,10,none⟩=some (.slice qt lt kt)∧W.cell? ⟨br,11,none⟩=some (.slice qp lp kp)) (by kernel_rfl) ?_
 refine tk0 [0,1,2,3,4,5] ?_
 iterate 6
  refine tks (v:=?_) rfl (Or.inl ⟨by rfl,?_⟩) (by assumption) ?_
  rotate_left
  ·intro w hSw;(try dsimp only at hSw);go_simp
   all_goals with_reducible rfl
  try simp only[Act.put,lz1,lz2,lz3]
 refine tk9 ?_
 try simp only[lz4,lz5,lz6,lz1,lz2,lz3]
 refine tk1 6 rfl fun K hK=>?_
 go_simp
 go_at_call 37
 refine Hap.out.mono ?_
 rintro e w3 ⟨rfl,T3,hs3⟩
 have hS3:=Hk2.out _ _ _ hs3 (fun h=>h) (fun h=>h)
 have hst3:=(Hst2.out.trans Hd2.out).trans hs3
 have Hst3:=Lib.hid hst3
 clear hst3 hs3
 refine hK.out _ _ (fun _=>hS3) ?_
 clear hK K
 refine tk0 [7,8,9] ?_
 iterate 3
  refine tks (v:=?_) rfl (Or.inl ⟨by rfl,?_⟩) (by assumption) ?_
  rotate_left
  ·intro w hSw;(try dsimp only at hSw);go_simp
   all_goals with_reducible rfl
  try simp only[Act.put,lz1,lz2,lz3]
 refine tk9 ?_
 try simp only[lz4,lz5,lz6,lz1,lz2,lz3]
 refine tk1 10 rfl fun K hK=>?_
 go_simp
 refine hK.out _ _ (fun _=>hS3) ?_
 clear hK K
 refine tk1 11 rfl fun K hK=>?_
 go_simp
 refine hK.out _ _ (fun h=>absurd h (by decide +kernel)) ?_
 clear hK K hS2 hS3
 refine Qad (by kernel_rfl) ?_ _
 go_wp2_with fail
 go_ret2
 exact⟨rfl,T3,Hst3.out⟩
end Go.Proofs.YtjgacceifcnedaaGreat