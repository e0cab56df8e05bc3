/-
 Transactions: End.
-/
import Derived.Test.YtjgacceifcnedaaGreatMTxL
import Derived.Test.YtjgacceifcnedaaGreatMTxJ
import Derived.Test.YtjgacceifcnedaaGreatMTxA
set_option maxRecDepth 100000
set_option maxHeartbeats 4000000
set_option linter.all false
namespace Go.Proofs.YtjgacceifcnedaaGreat
variable {D:Dev}{I:Ids}{L:LogM}{N bl bm bp st:Nat}{R:List RecP}{V:SlotV}{w:World}{τ:Tags}
open Go.RowKit Go.Maps
def dropX (X:List OneP) (k:Nat):List OneP:=X.filter (fun y=>decide (y.txn≠k))
theorem Qpt {X:List OneP} {k:Nat} {y:OneP}:y∈dropX X k↔y∈X∧y.txn≠k:=by
 unfold dropX
 rw[List.mem_filter]
 simp
theorem Qpu (X:List OneP) (k:Nat):OneP.ids (dropX X k)=(OneP.ids X).filter (fun j=>decide (j≠k)):=by
 unfold OneP.ids dropX
 rw[List.filter_map]
 rfl
theorem Qv0 (bo:Nat→Nat) (X:List OneP) (k:Nat):fOf bo (dropX X k)=updO (fOf bo X) k none:=by
 funext j
 unfold fOf updO
 rw[Qpu]
 by_cases e:j=k
 ·rw[if_pos e,if_neg (fun h=>by
   have:=(List.mem_filter.1 h).2
   simp[e] at this)]
 ·rw[if_neg e]
  show _=if j∈OneP.ids X then some (bo j) else none
  by_cases hj:j∈OneP.ids X
  ·rw[if_pos hj,if_pos (List.mem_filter.2 ⟨hj,by simpa using e⟩)]
  ·rw[if_neg hj,if_neg (fun h=>hj (List.mem_filter.1 h).1)]
theorem Qtw (X:List OneP) (x:OneP):dropX (putX X x) x.txn=dropX X x.txn:=by
 induction X with
 | nil=>rfl
 | cons z X ih =>
   unfold dropX putX at *
   rw[List.map_cons,List.filter_cons,List.filter_cons,ih]
   by_cases e:z.txn=x.txn
   ·rw[if_pos e];simp[e]
   ·rw[if_neg e]
theorem MgrAt.drop {w':World} {τ':Tags} {S:Tag→Prop} {bo:Nat→Nat} {X:List OneP} {next:Nat}(h:MgrAt w τ bm bl bp bo X next) (k:Nat) {ba:Nat}(ho:Own w' τ' bm tMgr 98 [.pointer (some ⟨bl,0,none⟩),.pointer (some ⟨bp,0,none⟩),.map (some ba),.int .u32 (next:Int)]) (hp:PMap w' τ' ba tAllM 1000 (updO (fOf bo X) k none)) (m:Step w τ w' τ' S) (hS:∀g,S g→g=tAllM∨g=tOneT k∨¬Qai g):MgrAt w' τ' bm bl bp bo (dropX X k) next:=by
 refine⟨⟨ba,ho,by rw[Qv0];exact hp⟩,fun x hx=>?_,?_,fun x hx=>h.low x (Qpt.1 hx).1,h.nx,Nat.le_trans (List.length_filter_le _ _) h.many⟩
 ·obtain⟨hx1,hx2⟩:=Qpt.1 hx
  have no:∀g,Qai g→g≠tAllM→g≠tOneT k→¬S g:=fun g a b c d=>by
   rcases hS g d with q|q|q
   ·exact b q
   ·exact c q
   ·exact q a
  exact(h.ones x hx1).step m (no _ (by simp[Qai,tOneT]) (by simp[tOneT,tAllM]) (by simp[tOneT];omega)) (no _ (by simp[Qai,tChg]) (by simp[tChg,tAllM]) (by simp[tChg,tOneT]))
 ·rw[Qpu]
  exact h.nodup.filter _
def Qb6 (k:Nat) (x:OneP):RecP:=⟨k,x.txn,x.last,0,noChange,[],[]⟩
theorem Qgg {k:Nat}(x:OneP) (hk:k=4∨k=5∨k=6):(encR (Qb6 k x)).length=27:=by
 rw[Qbh]
 rcases hk with rfl|rfl|rfl <;> rfl
theorem Qgf {k:Nat}(x:OneP) (hk:k=4∨k=5∨k=6):mayB (Qb6 k x)=true:=by
 rcases hk with rfl|rfl|rfl <;> rfl
theorem Qky {k:Nat} {x:OneP}(hk:k=4∨k=5∨k=6) (h1:x.txn<4294967296) (h2:x.last<18446744073709551616):(Qb6 k x).ok :=
 ⟨Qgf x hk,by show k≠8;omega,h1,h2,by show 0<18446744073709551616;omega,by show 0<4294967296;omega,by show 0<65536;omega⟩
theorem Qym (w:World) (τ:Tags) {k:Nat}(hk:k<256):RecI w τ (.agg #[.int .u8 (k:Int),.int .u32 0,.int .u64 0,.int .u64 0,.int .u32 0,.int .u16 0,.bool false,.bool false,.slice none 0 0,.slice none 0 0,.slice none 0 0,.slice none 0 0]) ⟨k,0,0,0,noChange,[],[]⟩ :=
 ⟨⟨none,0,none,0,none,0,none,0,tBox,tBox,0,rfl,Bytes.empty _ _ _,Bytes.empty _ _ _,NS.nil _ _ _ _ _ _ _,NS.nil _ _ _ _ _ _ _,by simp[WrT,tBox,tWr,tWb],by simp[WrT,tBox,tWr,tWb]⟩,hk,by show 0<4294967296;omega,by show 0<18446744073709551616;omega,by show 0<18446744073709551616;omega,by show 0<4294967296;omega,by show 0<65536;omega⟩
theorem Jah {bf bd:Nat} {bo:Nat→Nat} {X:List OneP} {next:Nat} {H:PoolH} {F:List Fr} {s:Ck.Clk.St} {cur:Nat→List Int}(h:TW w τ bm bl bp bf bd N bo X next H L D F s cur) (hst100:L.starts.length≤100000) {x:OneP}(hx:x∈X) (hlast:x.last<18446744073709551616) (hcap:L.stream.length+27≤L.strips*127) :
 Calls Tryz.prog 45 #[.pointer (some ⟨bm,0,none⟩),.int .u32 (x.txn:Int)] w fun e w'=>e = .returned (.int .u16 0)∧∃τ',Step w τ w' τ' TxTag∧TW w' τ' bm bl bp bf bd N bo (dropX X x.txn) next H (L.more (encR (Qb6 6 x))) D F s cur:=by
 obtain⟨ba,ho,hp⟩:=h.mgr.is
 have hxl:=h.mgr.low x hx
 have hnx:=h.mgr.nx
 have c2:=ho.at 2 (v:=.map (some ba)) rfl
 have hlk:=hp.look x.txn (by omega)
 rw[Qln hx] at hlk
 change _=Result.ok (Value.pointer (some ⟨bo x.txn,0,none⟩)) w at hlk
 have hlog:LogAt w τ bl bd L:=h.hbl▸h.pool.log
 have hown:RecP.own ⟨6,0,0,0,noChange,[],[]⟩ x=Qb6 6 x:=rfl
 have hl27:=Qgg x (k:=6) (by omega)
 have hwr:=Qe2 h.mgr hlog hx hst100 (Qym w τ (k:=6) (by omega)) (Qgf x (k:=6) (by omega)) (by rw[hown,hl27];omega) (by show (6:Nat)≠8;omega) hlast 0 (by rw[hown,hl27];omega)
 rw[hown] at hwr
 obtain⟨Hp,Ho,Hwr,H_h,Hlog,Hown,Hl27⟩:=hid7 hp ho hwr h hlog hown hl27
 clear hp ho hwr h hlog hown hl27
 go_enter Tryz.func45,Tryz.ntmps45
 go_wp2_with fail
 refine Hwr.out.mono ?_
 rintro e w1 ⟨rfl,τ1,hl1,hx1,hs1⟩
 have ho1:=Ho.out.step hs1 (by simp[LogTag,tMgr,tLog,Qah,Qag,tOneT])
 have hp1:=Hp.out.step hs1 (by simp[LogTag,tAllM,tLog,Qah,Qag,tOneT])
 have d2:=ho1.at 2 (v:=.map (some ba)) rfl
 obtain⟨w2,hrun,hp2,hs2⟩:=hp1.drop x.txn (by omega) 0
 have ho2:=ho1.step hs2 (by simp[tMgr,tAllM])
 obtain⟨Ho1,Hp1,Hs1,Hl1,Ho2,Hp2,Hs2⟩:=hid7 ho1 hp1 hs1 hl1 ho2 hp2 hs2
 clear ho1 hp1 hs1 hl1 ho2 hp2 hs2 hx1
 go_wp2_with fail
 go_ret
 have hst:=(Hs1.out.mono (T:=fun g=>LogTag g∨g=tOneT x.txn∨g=tAllM) (fun g h=>h.imp id .inl)).trans (Hs2.out.mono (T:=fun g=>LogTag g∨g=tOneT x.txn∨g=tAllM) (fun g h=>.inr (.inr h)))
 have hlm:∀g,LogTag g→¬Qai g:=fun g hg=>(Qi3 (.inr (.inl hg))).1
 have hmg:=H_h.out.mgr.drop x.txn Ho2.out Hp2.out hst (fun g hg=>by
  rcases hg with q|q|q
  ·exact .inr (.inr (hlm g q))
  ·exact .inr (.inl q)
  ·exact .inl q)
 have hlg:=Hl1.out.step Hs2.out (fun g hg q=>by subst q;rcases hg with h|h|h <;> simp[tLog,Qah,Qag,tAllM] at h)
 have hw2:=H_h.out.logged hst (fun g hg=>by
  rcases hg with q|q|q
  ·exact .inl q
  ·exact .inr (by subst q;simp[Qai,tOneT])
  ·exact .inr (by subst q;simp[Qai,tAllM])) hlg (by rw[Hl27.out];omega) (by rw[Hl27.out];omega) hmg
 refine⟨rfl,τ1,hst.mono (fun g hg=>?_),hw2⟩
 rcases hg with q|q|q
 ·exact .inl (.inr (.inl q))
 ·exact .inr (.inl (by subst q;simp[Qai,tOneT]))
 ·exact .inr (.inl (by subst q;simp[Qai,tAllM]))
theorem Jag {bo:Nat→Nat} {X:List OneP} {next:Nat}(h:TZ w τ I bo X next R V st) {x:OneP}(hx:x∈X) (hlast:x.last≤1+(recsB R).length) (hcap:(recsB R).length+27≤I.S*127) :
 Calls Tryz.prog 45 #[.pointer (some ⟨I.bm,0,none⟩),.int .u32 (x.txn:Int)] w fun e w'=>e = .returned (.int .u16 0)∧∃τ',Step w τ w' τ' TyTag∧TZ w' τ' I bo (dropX X x.txn) next (R++[Qb6 6 x]) V st:=by
 obtain⟨H,L,D,F,s,cur,h1,h2,h3,h4,h5⟩:=h.is
 have hlen:=h.len
 have hrl:=Qfk R
 have hxl:=h1.mgr.low x hx
 have hnx:=h1.mgr.nx
 refine(Jah h1 (by rw[h2.starts,Qbc];omega) hx (by omega) (by rw[h2.stream,h3];exact hcap)).mono ?_
 rintro e w' ⟨rfl,τ',hs',hw'⟩
 exact⟨rfl,τ',hs'.mono (fun _ h=>.inl h),⟨⟨H,_,D,F,s,cur,hw',h2.more (Qky (by omega) (by omega) (by omega)) (SameLog.refl _),h3,h4,h5⟩⟩⟩
theorem TZ.view {bo:Nat→Nat} {X:List OneP} {next:Nat} {U:SlotV}(h:TZ w τ I bo X next R V st) (hv:∀p t,V p t=U p t):TZ w τ I bo X next R U st:=by
 obtain⟨H,L,D,F,s,cur,h1,h2,h3,h4,h5⟩:=h.is
 exact⟨⟨H,L,D,F,s,cur,h1,h2,h3,h4,fun n hn=>⟨(h5 n hn).1,fun t=>((h5 n hn).2 t).trans (hv n t)⟩⟩⟩
theorem TW.wrote {w':World} {τ':Tags} {S:Tag→Prop} {bf bd:Nat} {bo:Nat→Nat} {X:List OneP} {next:Nat} {H:PoolH} {F:List Fr} {s:Ck.Clk.St} {cur:Nat→List Int}(h:TW w τ bm bl bp bf bd N bo X next H L D F s cur) (m:Step w τ w' τ' S) {x y:OneP}(hS:∀g,S g→LogTag g∨g=tOneT x.txn∨g=tChg x.txn) {b:List Int}(hl:LogAt w' τ' bl bd (L.more b)) (hb:0<b.length) (hcap:L.stream.length+b.length≤127*L.strips) (hy:y∈X) (e:y.txn=x.txn) (hx:OneAt w' τ' (bo x.txn) x):TW w' τ' bm bl bp bf bd N bo (putX X x) next H (L.more b) D F s cur:=by
 have hlm:∀g,LogTag g→¬Qai g:=fun g hg=>(Qi3 (.inr (.inl hg))).1
 refine h.logged m (fun g hg=>?_) hl hb hcap (h.mgr.setOne m hy e (fun g hg hs=>(hS g hs).elim (fun q=>absurd hg (hlm g q)) id) hx)
 rcases hS g hg with q|q|q
 ·exact .inl q
 ·exact .inr (by subst q;simp[Qai,tOneT])
 ·exact .inr (by subst q;simp[Qai,tChg])
def Qfu (w:World) (b o:Nat):Nat:=match w.cell? ⟨b,o,none⟩ with
 | some (.int _ n)=>n.toNat
 | _=>0
theorem Qfe {b o n:Nat} {k:IntKind}(h:w.cell? ⟨b,o,none⟩=some (.int k (n:Int))):Qfu w b o=n:=by
 unfold Qfu
 rw[h]
 exact Int.toNat_natCast n
theorem TZ.undoCell {bo:Nat→Nat} {X:List OneP} {next:Nat}(h:TZ w τ I bo X next R V st) {x:OneP}(hx:x∈X):w.cell? ⟨bo x.txn,2,none⟩=some (.int .u64 (x.undo:Int)):=by
 obtain⟨v,ho,-⟩:=(h.mgr.ones x hx).is
 exact ho.at 2 rfl
structure AbI (w:World) (τ:Tags) (I:Ids) (bo:Nat→Nat) (X:List OneP) (next:Nat) (R:List RecP) (V:SlotV) (st:Nat) (x:OneP) (l:List (Nat×ChangeP)) (wr:World) (τr:Tags) (T:List RecP) (y:OneP) (l':List (Nat×ChangeP)) (V':SlotV) (st':Nat):Prop where
 step:Step w τ wr τr TyTag
 tz:TZ wr τr I bo (putX X y) next (R++T) V' st'
 txn:y.txn=x.txn
 trail:Trail (R++T) y.undo l'
 ch:y.ch=chOf l'
 ok:∀z∈l',ChgOk I.N z.2
 last:y.last≤1+(recsB (R++T)).length
 room:(recsB (R++T)).length+Qbf l'≤(recsB R).length+27+Qbf l
 view:∀p t,undoV V' l' p t=undoV V l p t
 st:st'+l'.length≤st+l.length
def Jbd (w:World) (τ:Tags) (I:Ids) (bo:Nat→Nat) (X:List OneP) (next:Nat) (R:List RecP) (V:SlotV) (st:Nat) (x:OneP) (l:List (Nat×ChangeP)) (e:Ending) (w':World):Prop :=
 e = .returned (.int .u16 0)∧∃τ' T,Step w τ w' τ' TyTag∧TZ w' τ' I bo (dropX X x.txn) next (R++T) (undoV V l) (st+l.length)∧(recsB (R++T)).length≤(recsB R).length+54+Qbf l
theorem Qb0 (R:List RecP) (r:RecP):(recsB (R++[r])).length=(recsB R).length+(encR r).length:=by rw[Qmo,List.length_append]
theorem AbI.chg {wr w2:World} {τr τ2:Tags} {bo:Nat→Nat} {X:List OneP} {next:Nat} {x:OneP} {l:List (Nat×ChangeP)} {T:List RecP} {y:OneP} {l':List (Nat×ChangeP)} {V':SlotV} {st':Nat} {r:RecP}(h:AbI w τ I bo X next R V st x l wr τr T y ((y.undo,r.change)::l') V' st') (hp:r.prev<y.undo) (ht:Trail (R++T) r.prev l')
 (hs:Step wr τr w2 τ2 TyTag) (hz:TZ w2 τ2 I bo (putX (putX X y) (y.undone (1+(recsB (R++T)).length) r.prev (chOf l'))) next (R++T++[Qed r.change y r.prev]) (putV V' r.change.page r.change.slot r.change.before) (st'+1)) :
 AbI w τ I bo X next R V st x l w2 τ2 (T++[Qed r.change y r.prev]) (y.undone (1+(recsB (R++T)).length) r.prev (chOf l')) l' (putV V' r.change.page r.change.slot r.change.before) (st'+1):=by
 have hl:=Qif r.change y r.prev
 have hq:=Qb0 (R++T) (Qed r.change y r.prev)
 rw[hl] at hq
 rw[List.append_assoc] at hz hq
 rw[Qgd X (show y.txn=(y.undone (1+(recsB (R++T)).length) r.prev (chOf l')).txn from rfl)] at hz
 have hr:=h.room
 rw[Qcy] at hr
 have hsz:36≤Qak r.change:=by unfold Qak;omega
 have hst:=h.st
 rw[List.length_cons] at hst
 refine⟨h.step.trans hs,hz,h.txn,?_,rfl,fun z hz=>h.ok z (List.mem_cons_of_mem _ hz),?_,?_,h.view,by omega⟩
 ·have:=ht.app [Qed r.change y r.prev]
  rw[List.append_assoc] at this
  exact this
 ·show 1+(recsB (R++T)).length≤_
  rw[hq];omega
 ·dsimp only at hr
  rw[hq];omega
theorem Qww {bo:Nat→Nat} {X:List OneP} {next:Nat}(h:TZ w τ I bo X next R V st) {x:OneP}(hx:x∈X) (hs:x.state=1) {l:List (Nat×ChangeP)}(ht:Trail R x.undo l) (hch:x.ch=chOf l) (hok:∀z∈l,ChgOk I.N z.2) (hlast:x.last≤1+(recsB R).length) (hcap:(recsB R).length+54+Qbf l≤I.S*127) (hst:st+l.length≤1000000) (hN:I.N≤512) :
 Calls Tryz.prog 14 #[.pointer (some ⟨I.bm,0,none⟩),.int .u32 (x.txn:Int)] w (Jbd w τ I bo X next R V st x l):=by
 obtain⟨H,L,D,F,s,cur,h1,h2,h3,h4,h5⟩:=h.is
 have hlen:=h.len
 have hrl:=Qfk R
 have hxl:=h1.mgr.low x hx
 have hnx:=h1.mgr.nx
 have hr:=Qju h1.mgr hx hs x.txn rfl (by omega)
 have hlog:LogAt w τ I.bl I.bd L:=h1.hbl▸h1.pool.log
 have hown:RecP.own ⟨5,0,0,0,noChange,[],[]⟩ x=Qb6 5 x:=rfl
 have hl27:=Qgg x (k:=5) (by omega)
 have hwr:=Qe2 h1.mgr hlog hx (by rw[h2.starts,Qbc];omega) (Qym w τ (k:=5) (by omega)) (Qgf x (k:=5) (by omega)) (by rw[hown,hl27];omega) (by show (5:Nat)≠8;omega) (by omega) 0 (by rw[hown,hl27,h2.stream,h3];omega)
 rw[hown] at hwr
 obtain⟨bx,hbx⟩:∃bx,bo x.txn=bx:=⟨_,rfl⟩
 rw[hbx] at hwr hr
 obtain⟨H1,H2,H3,H4,H5,Hwr,H_h,Hlog,Hown,Hl27,Hr,Hok⟩:=hid12 h1 h2 h3 h4 h5 hwr h hlog hown hl27 hr hok
 obtain⟨Hch,Ht,Hbx⟩:=hid3 hch ht hbx
 clear h1 h2 h3 h4 h5 hwr h hlog hown hl27 hr hok hch ht hbx
 go_enter Tryz.func14,Tryz.ntmps14
 go_wp2_with fail
 refine Hr.out.mono ?_
 rintro e w1 ⟨rfl,rfl⟩
 go_wp2_with fail
 refine Hwr.out.mono ?_
 rintro e w1 ⟨rfl,τ1,hl1,hx1,hs1⟩
 obtain⟨v,hox,hnx1⟩:=hx1.is
 unfold OneP.cells at hox
 dsimp only at hox hnx1
 have e3:=hox.at 3 (v:=.int .u8 (x.state:Int)) rfl
 have z3:=hox.fz 3
 have hq2:Step w1 τ1 (w1.setCell ⟨bx,3,none⟩ (.int .u8 3)) τ1 (fun t=>t=tOneT x.txn):=(Step.refl w1 τ1 (fun t=>t=tOneT x.txn)).set (o:=3) hox.tag rfl _
 have hox2:=hox.set 3 (.int .u8 3)
 have hnx2:=hnx1.step hq2 (by simp[tOneT,tChg])
 have hx2:OneAt (w1.setCell ⟨bx,3,none⟩ (.int .u8 3)) τ1 bx {x with last:=L.base+L.stream.length,state:=3}:=⟨⟨v,hox2,hnx2⟩,hx1.len,hx1.size⟩
 have hl2:=hl1.step hq2 (fun g hg q=>by subst q;rcases hg with h|h|h <;> simp[tLog,Qah,Qag,tOneT] at h)
 have hst2:=hs1.trans (hq2.mono (T:=fun t=>LogTag t∨t=tOneT x.txn) (fun _ h=>.inr h))
 have hw2:=H1.out.wrote hst2 (x:={x with last:=L.base+L.stream.length,state:=3}) (y:=x) (fun g hg=>hg.imp id .inl) hl2 (by rw[Hl27.out];omega) (by rw[Hl27.out,H2.out.stream,H3.out];omega) hx rfl (by rw[Hbx.out];exact hx2)
 have hz2:TZ (w1.setCell ⟨bx,3,none⟩ (.int .u8 3)) τ1 I bo (putX X {x with last:=L.base+L.stream.length,state:=3}) next (R++[Qb6 5 x]) V st:=⟨⟨H,_,D,F,s,cur,hw2,H2.out.more (Qky (by omega) (by omega) (by omega)) (SameLog.refl _),H3.out,H4.out,H5.out⟩⟩
 have hi2:AbI w τ I bo X next R V st x l (w1.setCell ⟨bx,3,none⟩ (.int .u8 3)) τ1 [Qb6 5 x] {x with last:=L.base+L.stream.length,state:=3} l V st:=by
  have hq:=Qb0 R (Qb6 5 x)
  rw[Hl27.out] at hq
  refine⟨hst2.mono (fun g hg=>.inl ?_),hz2,rfl,Ht.out.mono _,Hch.out,Hok.out,?_,by rw[hq];omega,fun _ _=>rfl,Nat.le_refl _⟩
  ·rcases hg with q|q
   ·exact .inl (.inr (.inl q))
   ·exact .inr (.inl (by subst q;simp[Qai,tOneT]))
  ·show L.base+L.stream.length≤_
   rw[hq,H2.out.base,H2.out.stream];omega
 have Hi2:=Lib.hid hi2
 clear hi2 hl1 hx1 hs1 hox hnx1 hq2 hox2 hnx2 hx2 hl2 hst2 hw2 hz2
 go_wp2_with fail
 generalize w1.setCell ⟨bx,3,none⟩ (.int .u8 3)=w2 at *
 go_loopw [4] (fun a wr=>a = .int .u16 0∧∃τr T y l' V' st',AbI w τ I bo X next R V st x l wr τr T y l' V' st') (fun _ wr=>Qfu wr bx 2)
 case atStart=>exact⟨rfl,τ1,_,_,_,_,_,Hi2.out⟩
 case round =>
  obtain⟨rfl,τr,T,y,l',V',st',hi⟩:=hrel
  have hy:=Qge hx (x:=y) hi.txn.symm
  have hyt:=hi.txn
  have hcell:=hi.tz.undoCell hy
  rw[hyt,show bo x.txn=bx from Hbx.out] at hcell
  have hmes:Qfu wr bx 2=y.undo:=Qfe hcell
  rcases hi.trail.inv with ⟨r,hr,hk,rfl⟩|⟨r,l2,hr,hk,hp,ht2,rfl⟩|⟨r,hr,hk,hp,ht2⟩
  ·have hund:=Qp7 hi.tz hy hr hk
   rw[hyt] at hund
   obtain⟨Hi,Hy,Hyt,Hund,Hr,Hmes⟩:=hid6 hi hy hyt hund hr hmes
   clear hi hy hyt hund hr hmes hcell
   go_wp2_with fail
   refine Hund.out.mono ?_
   rintro e w3 ⟨rfl,τ3,hs3,hz3⟩
   rw[Qgd X (show y.txn=(y.at_ 0).txn from rfl)] at hz3
   have hq:=Hi.out.room
   have hend:=Jag hz3 (Qge hx (x:=y.at_ 0) Hyt.out.symm) Hi.out.last (by
    have h0:Qbf ([]:List (Nat×ChangeP))=0:=rfl
    rw[h0] at hq;omega)
   rw[show (y.at_ 0).txn=x.txn from Hyt.out] at hend
   obtain⟨Hend,Hs3,Hz3,Hq⟩:=hid4 hend hs3 hz3 hq
   clear hend hs3 hz3 hq
   go_wp2_with fail
   refine Hend.out.mono ?_
   rintro e w4 ⟨rfl,τ4,hs4,hz4⟩
   go_wp2_with fail
   go_ret
   have hdx:=Qtw X (y.at_ 0)
   rw[show (y.at_ 0).txn=x.txn from Hyt.out] at hdx
   rw[hdx,List.append_assoc] at hz4
   have hl6:=Qb0 (R++T) (Qb6 6 (y.at_ 0))
   rw[Qgg _ (by omega),List.append_assoc] at hl6
   have h0:Qbf ([]:List (Nat×ChangeP))=0:=rfl
   have hqq:=Hq.out
   rw[h0] at hqq
   have hst':=Hi.out.st
   rw[List.length_nil] at hst'
   exact⟨rfl,τ4,T++[Qb6 6 (y.at_ 0)],(Hi.out.step.trans Hs3.out).trans hs4,(hz4.view Hi.out.view).le (by omega),by rw[hl6];omega⟩
  ·have hst':=hi.st
   rw[List.length_cons] at hst'
   have hro:=hi.room
   rw[Qcy] at hro
   dsimp only at hro
   have hund:=Qke hi.tz hy hr (by omega) hN hk hp (hi.ok (y.undo,r.change) (by simp)) hi.last (l1:=chOf l2) (sz:=Qak r.change) (by rw[hi.ch,Qh9]) (fun z hz=>by
    obtain⟨u,hu,rfl⟩:=Qj1 hz
    have:=hi.trail.tail u hu
    show u.1≠y.undo
    dsimp only at this
    omega) (by omega)
   rw[hyt] at hund
   obtain⟨Hi,Hy,Hyt,Hund,Hr,Hmes,Ht2⟩:=hid7 hi hy hyt hund hr hmes ht2
   clear hi hy hyt hund hr hmes ht2 hcell
   go_wp2_with fail
   refine Hund.out.mono ?_
   rintro e w3 ⟨rfl,τ3,hs3,hz3⟩
   have hi3:=Hi.out.chg hp Ht2.out hs3 hz3
   have hc3:=hi3.tz.undoCell (Qge hx (x:=y.undone (1+(recsB (R++T)).length) r.prev (chOf l2)) Hyt.out.symm)
   rw[show (y.undone (1+(recsB (R++T)).length) r.prev (chOf l2)).txn=x.txn from Hyt.out,show bo x.txn=bx from Hbx.out] at hc3
   have hm3:Qfu w3 bx 2=r.prev:=Qfe hc3
   obtain⟨Hi3,Hm3⟩:=hid2 hi3 hm3
   clear hi3 hm3 hc3 hs3 hz3
   go_wp2_with fail
   go_round
   case rel=>exact⟨rfl,τ3,_,_,_,_,_,Hi3.out⟩
   case measure=>rw[Hm3.out,Hmes.out];exact hp
  ·have hund:=Qp6 hi.tz hy hr hk hp
   rw[hyt] at hund
   obtain⟨Hi,Hy,Hyt,Hund,Hr,Hmes,Ht2⟩:=hid7 hi hy hyt hund hr hmes ht2
   clear hi hy hyt hund hr hmes ht2 hcell
   go_wp2_with fail
   refine Hund.out.mono ?_
   rintro e w3 ⟨rfl,τ3,hs3,hz3⟩
   rw[Qgd X (show y.txn=(y.at_ r.next).txn from rfl)] at hz3
   have hi3:AbI w τ I bo X next R V st x l w3 τ3 T (y.at_ r.next) l' V' st':=⟨Hi.out.step.trans hs3,hz3,Hi.out.txn,Ht2.out,Hi.out.ch,Hi.out.ok,Hi.out.last,Hi.out.room,Hi.out.view,Hi.out.st⟩
   have hc3:=hz3.undoCell (Qge hx (x:=y.at_ r.next) Hyt.out.symm)
   rw[show (y.at_ r.next).txn=x.txn from Hyt.out,show bo x.txn=bx from Hbx.out] at hc3
   have hm3:Qfu w3 bx 2=r.next:=Qfe hc3
   obtain⟨Hi3,Hm3⟩:=hid2 hi3 hm3
   clear hi3 hm3 hc3 hs3 hz3
   go_wp2_with fail
   go_round
   case rel=>exact⟨rfl,τ3,_,_,_,_,_,Hi3.out⟩
   case measure=>rw[Hm3.out,Hmes.out];exact hp
def Marks (x:OneP) (m:Nat):Prop:=(x.ch.any (fun y=>decide (y.1=m))=true)∨(m=x.start∧m≠0)
theorem Qmy {bo:Nat→Nat} {X:List OneP} {next:Nat}(h:MgrAt w τ bm bl bp bo X next) {x:OneP}(hx:x∈X) (hs:x.state=1) (m:Nat) (hm:Marks x m):Calls Tryz.prog 40 #[.pointer (some ⟨bm,0,none⟩),.int .u32 (x.txn:Int),.int .u64 (m:Int)] w fun e w'=>e = .returned (.tuple #[.pointer (some ⟨bo x.txn,0,none⟩),.int .u16 0])∧∃τ',Step w τ w' τ' nil:=by
 have hxl:=h.low x hx
 have hnx:=h.nx
 have hal:=(Step.refl w τ nil).alloc (.cells #[.int .u64 (m:Int)] 34) tTn
 have hoa:=Own.born w τ tTn 34 #[.int .u64 (m:Int)]
 obtain⟨bq,hbq⟩:∃bq,w.heap.size=bq:=⟨_,rfl⟩
 generalize τ.put w.heap.size tTn=τ1 at *
 rw[hbq] at hoa
 generalize hW1:w.alloc (.cells #[.int .u64 (m:Int)] 34)=W1 at *
 have h1:=h.nil hal
 have hr:=Qju h1 hx hs x.txn rfl (by omega)
 obtain⟨v,hox,hch⟩:=(h1.ones x hx).is
 obtain⟨bx,hbx⟩:∃bx,bo x.txn=bx:=⟨_,rfl⟩
 rw[hbx] at hr hox ⊢
 have hin:=Qtx (F := 81) (bc:=bq) (p:=fun y=>decide (y.1=m)) hch (.inl rfl) (fun W s=>Qq4 ((hoa.step s (fun h=>h)).at 0 rfl))
 obtain⟨pv,cv,rfl,-,-⟩:=hch.done
 have c5:=hox.at 5 (v:=.slice pv x.ch.length cv) rfl
 obtain⟨B,hB⟩:∃B,x.ch.any (fun y=>decide (y.1=m))=B:=⟨_,rfl⟩
 rw[hB] at hin
 obtain⟨nch,hnch⟩:∃nch,x.ch.length=nch:=⟨_,rfl⟩
 rw[hnch] at hin c5
 have e0:=hoa.at 0 (v:=.int .u64 (m:Int)) rfl
 obtain⟨H_h,H1,Hal,Hoa,Hr,Hin,Hox,Hch,HB,HW1,Hbq,Hnch⟩:=hid12 h h1 hal hoa hr hin hox hch hB hW1 hbq hnch
 clear h h1 hal hoa hr hin hox hch hB hW1 hbq hnch
 go_enter Tryz.func40,Tryz.ntmps40
 go_wp2_with fail
 try rw[HW1.out]
 refine Hr.out.mono ?_
 rintro e w' ⟨rfl,rfl⟩
 go_wp2_with fail
 try rw[Hbq.out]
 refine Hin.out.mono ?_
 rintro e w2 ⟨rfl,hs2⟩
 have hoa2:=Hoa.out.step hs2 (fun h=>h)
 have f0:=(hoa2.step (Step.refl w2 τ1 nil).drew (fun h=>h)).at 0 (v:=.int .u64 (m:Int)) rfl
 have hox2:=(Hox.out.step hs2 (fun h=>h))
 have hst2:=Hal.out.trans hs2
 have f1:=(hox2.step (Step.refl w2 τ1 nil).drew (fun h=>h)).at 4 (v:=.int .u64 (x.start:Int)) rfl
 have g0:=hoa2.at 0 (v:=.int .u64 (m:Int)) rfl
 have g1:=hox2.at 4 (v:=.int .u64 (x.start:Int)) rfl
 cases B with
 | true =>
   obtain⟨Hst2,Hoa2,Hox2⟩:=hid3 hst2 hoa2 hox2
   clear hst2 hoa2 hox2 hs2
   go_wp2_with fail
   go_quiet (fail)
   go_wp2_with fail
   go_ret2
   exact⟨rfl,τ1,Hst2.out.drews _⟩
 | false =>
   have hms:m=x.start∧m≠0:=by
    rcases hm with h|h
    ·rw[HB.out] at h;cases h
    ·exact h
   obtain⟨e1,e2⟩:=hms
   rw[←e1] at f1 g1
   have e3:((m:Int)==0)=false:=beq_eq_false_iff_ne.2 (by omega)
   obtain⟨Hst2,Hoa2,Hox2⟩:=hid3 hst2 hoa2 hox2
   clear hst2 hoa2 hox2 hs2
   go_wp2_with fail
   go_quiet (fail)
   go_wp2_with fail
   go_ret2
   exact⟨rfl,τ1,Hst2.out.drews _⟩
structure BackI (w:World) (τ:Tags) (I:Ids) (bo:Nat→Nat) (X:List OneP) (next:Nat) (R:List RecP) (V:SlotV) (st:Nat) (x:OneP) (l k:List (Nat×ChangeP)) (m:Nat) (wr:World) (τr:Tags) (T:List RecP) (y:OneP) (l':List (Nat×ChangeP)) (V':SlotV) (st':Nat):Prop where
 step:Step w τ wr τr TyTag
 tz:TZ wr τr I bo (putX X y) next (R++T) V' st'
 txn:y.txn=x.txn
 state:y.state=x.state
 start:y.start=x.start
 run:RunC (R++T) y.undo l' m
 ch:y.ch=chOf (l'++k)
 ok:∀z∈l',ChgOk I.N z.2
 last:y.last≤1+(recsB (R++T)).length
 room:(recsB (R++T)).length+Qbf l'=(recsB R).length+Qbf l
 view:∀p t,undoV V' l' p t=undoV V l p t
 st:st'+l'.length≤st+l.length
def BackD (w:World) (τ:Tags) (I:Ids) (bo:Nat→Nat) (X:List OneP) (next:Nat) (R:List RecP) (V:SlotV) (st:Nat) (x:OneP) (l k:List (Nat×ChangeP)) (m:Nat) (e:Ending) (w':World):Prop :=
 e = .returned (.int .u16 0)∧∃τ' T y V' st',BackI w τ I bo X next R V st x l k m w' τ' T y [] V' st'
theorem BackI.chg {wr w2:World} {τr τ2:Tags} {bo:Nat→Nat} {X:List OneP} {next:Nat} {x:OneP} {l k:List (Nat×ChangeP)} {m:Nat} {T:List RecP} {y:OneP} {l':List (Nat×ChangeP)} {V':SlotV} {st':Nat} {r:RecP}(h:BackI w τ I bo X next R V st x l k m wr τr T y ((y.undo,r.change)::l') V' st') (ht:RunC (R++T) r.prev l' m)
 (hs:Step wr τr w2 τ2 TyTag) (hz:TZ w2 τ2 I bo (putX (putX X y) (y.undone (1+(recsB (R++T)).length) r.prev (chOf (l'++k)))) next (R++T++[Qed r.change y r.prev]) (putV V' r.change.page r.change.slot r.change.before) (st'+1)) :
 BackI w τ I bo X next R V st x l k m w2 τ2 (T++[Qed r.change y r.prev]) (y.undone (1+(recsB (R++T)).length) r.prev (chOf (l'++k))) l' (putV V' r.change.page r.change.slot r.change.before) (st'+1):=by
 have hl:=Qif r.change y r.prev
 have hq:=Qb0 (R++T) (Qed r.change y r.prev)
 rw[hl] at hq
 rw[List.append_assoc] at hz hq
 rw[Qgd X (show y.txn=(y.undone (1+(recsB (R++T)).length) r.prev (chOf (l'++k))).txn from rfl)] at hz
 have hr:=h.room
 rw[Qcy] at hr
 have hst:=h.st
 rw[List.length_cons] at hst
 refine⟨h.step.trans hs,hz,h.txn,h.state,h.start,?_,rfl,fun z hz=>h.ok z (List.mem_cons_of_mem _ hz),?_,?_,h.view,by omega⟩
 ·have:=ht.app [Qed r.change y r.prev]
  rw[List.append_assoc] at this
  exact this
 ·show 1+(recsB (R++T)).length≤_
  rw[hq];omega
 ·dsimp only at hr
  rw[hq];omega
theorem Qy3 {bo:Nat→Nat} {X:List OneP} {next:Nat}(h:TZ w τ I bo X next R V st) {x:OneP}(hx:x∈X) (hs:x.state=1) {l k:List (Nat×ChangeP)}{m:Nat}(hr:RunC R x.undo l m) (hch:x.ch=chOf (l++k)) (hk:∀z∈k,z.1≤m) (hok:∀z∈l,ChgOk I.N z.2) (hm:Marks x m) (hlast:x.last≤1+(recsB R).length) (hcap:(recsB R).length+Qbf l≤I.S*127) (hst:st+l.length≤1000000) (hN:I.N≤512) :
 Calls Tryz.prog 16 #[.pointer (some ⟨I.bm,0,none⟩),.int .u32 (x.txn:Int),.int .u64 (m:Int)] w (BackD w τ I bo X next R V st x l k m):=by
 have hma:=Qmy h.mgr hx hs m hm
 obtain⟨bx,hbx⟩:∃bx,bo x.txn=bx:=⟨_,rfl⟩
 rw[hbx] at hma
 obtain⟨H_h,Hr,Hok,Hch,Hk,Hbx,Hma⟩:=hid7 h hr hok hch hk hbx hma
 clear h hr hok hch hk hbx hma
 go_enter Tryz.func16,Tryz.ntmps16
 go_wp2_with fail
 refine Hma.out.mono ?_
 rintro e w1 ⟨rfl,τ1,hs1⟩
 have hz1:=H_h.out.nil hs1
 have hput:putX X x=X:=by
  have h1:∀u∈X,(fun y:OneP=>if y.txn=x.txn then x else y) u=id u:=fun u hu=>by
   by_cases e:u.txn=x.txn
   ·show (if u.txn=x.txn then x else u)=u
    rw[if_pos e]
    have hn:=H_h.out.mgr.nodup
    have a1:=Qrg hn hx
    have a2:=Qrg hn hu
    rw[e] at a2
    rw[a1] at a2
    exact Option.some.inj a2
   ·exact if_neg e
  unfold putX
  rw[List.map_congr_left h1,List.map_id]
 have hi1:BackI w τ I bo X next R V st x l k m w1 τ1 [] x l V st:=by
  refine⟨hs1.mono (fun _ h=>h.elim),by rw[List.append_nil,hput];exact hz1,rfl,rfl,rfl,by rw[List.append_nil];exact Hr.out,Hch.out,Hok.out,by rw[List.append_nil];exact hlast,by rw[List.append_nil],fun _ _=>rfl,Nat.le_refl _⟩
 have Hi1:=Lib.hid hi1
 clear hi1 hs1 hz1 hput
 go_wp2_with fail
 go_loopw [8] (fun a wr=>a = .int .u16 0∧∃τr T y l' V' st',BackI w τ I bo X next R V st x l k m wr τr T y l' V' st') (fun _ wr=>Qfu wr bx 2)
 case atStart=>exact⟨rfl,τ1,_,_,_,_,_,Hi1.out⟩
 case round =>
  obtain⟨rfl,τr,T,y,l',V',st',hi⟩:=hrel
  have hy:=Qge hx (x:=y) hi.txn.symm
  have hyt:=hi.txn
  have hcell:=hi.tz.undoCell hy
  rw[hyt,show bo x.txn=bx from Hbx.out] at hcell
  have hmes:Qfu wr bx 2=y.undo:=Qfe hcell
  rcases hi.run.inv with ⟨rfl,hum⟩|⟨r,l2,hr,hk2,hp,ht2,rfl⟩
  ·have hg:decide ((m:Int)<(y.undo:Int))=false:=decide_eq_false (by omega)
   have hg':¬m<y.undo:=by omega
   obtain⟨Hi,Hy,Hyt,Hmes,Hum⟩:=hid5 hi hy hyt hmes hum
   clear hi hy hyt hmes hum
   go_wp2_with fail
   go_ret
   exact⟨rfl,τr,T,y,V',st',Hi.out⟩
  ·have hg:m<y.undo:=(hi.run.pos _ (List.mem_cons_self ..)).1
   have hst':=hi.st
   rw[List.length_cons] at hst'
   have hro:=hi.room
   rw[Qcy] at hro
   dsimp only at hro
   have hund:=Qke hi.tz hy hr (by omega) hN hk2 hp (hi.ok (y.undo,r.change) (by simp)) hi.last (l1:=chOf (l2++k)) (sz:=Qak r.change) (by rw[hi.ch,List.cons_append,Qh9]) (fun z hz=>by
    obtain⟨u,hu,rfl⟩:=Qj1 hz
    show u.1≠y.undo
    rcases List.mem_append.1 hu with hu|hu
    ·have:=(ht2.pos u hu).2
     omega
    ·have:=Hk.out u hu
     omega) (by omega)
   rw[hyt] at hund
   have hg2:(m:Int)<(y.undo:Int):=by omega
   obtain⟨Hi,Hy,Hyt,Hund,Hr,Hmes,Ht2⟩:=hid7 hi hy hyt hund hr hmes ht2
   clear hi hy hyt hund hr hmes ht2
   go_wp2_with fail
   refine Hund.out.mono ?_
   rintro e w3 ⟨rfl,τ3,hs3,hz3⟩
   have hi3:=Hi.out.chg Ht2.out hs3 hz3
   have hc3:=hi3.tz.undoCell (Qge hx (x:=y.undone (1+(recsB (R++T)).length) r.prev (chOf (l2++k))) Hyt.out.symm)
   rw[show (y.undone (1+(recsB (R++T)).length) r.prev (chOf (l2++k))).txn=x.txn from Hyt.out,show bo x.txn=bx from Hbx.out] at hc3
   have hm3:Qfu w3 bx 2=r.prev:=Qfe hc3
   obtain⟨Hi3,Hm3⟩:=hid2 hi3 hm3
   clear hi3 hm3 hc3 hs3 hz3
   go_wp2_with fail
   go_round
   case rel=>exact⟨rfl,τ3,_,_,_,_,_,Hi3.out⟩
   case measure=>rw[Hm3.out,Hmes.out];exact hp
theorem Good.flush {F:List Fr} {cur:Nat→List Int}(h:Good N st L D F cur) (k:Nat):Good N st (flL L k) (flD L D k) F cur:=by
 obtain⟨e1,e2,e3,e4,e5⟩:=Qjz L k
 have hla:=(Qlm L k).1
 have hfd:=Qyt L D k
 have hho:=fun n=>Qxy h.rise h.calm h.cap h.f0 k n
 refine⟨Qsl h.calm k,by rw[hfd.1];exact h.f1,by rw[hfd.2,e4,e5];exact h.f0,by rw[e2,e4];exact h.cap,Qz0 h.rise h.lasts k,Qxx h.rise k,by rw[e1];exact h.base,fun n hn=>?_,fun n hn=>?_,h.frame,h.none,h.one,by rw[hho];exact h.spare⟩
 ·obtain⟨p1,p2,p3⟩:=h.page n hn
  refine⟨p1,p2,?_⟩
  rcases p3 with p3|⟨x,hx,hxe⟩
  ·exact .inl p3
  ·exact .inr ⟨x,by rw[e3];exact hx,by rw[e1];exact hxe⟩
 ·obtain⟨Q,hQ,hq⟩:=h.home n hn
  exact⟨Q,hQ.flush (Nat.le_refl _) e1 hla (hho n),hq⟩
theorem Jco {t:Tag}(h:WalTag t):¬PoolTag t∧¬Qai t:=by
 refine⟨fun q=>?_,fun q=>(Qi3 (.inr h)).1 q⟩
 rcases h with h|h
 ·exact Qbo h q
 ·exact Qbg q |>.1 h
theorem Jcl {bf bd:Nat} {bo:Nat→Nat} {X:List OneP} {next:Nat} {H:PoolH} {F:List Fr} {s:Ck.Clk.St} {cur:Nat→List Int}(h:TW w τ bm bl bp bf bd N bo X next H L D F s cur) (lsn:Nat) (h64:lsn<18446744073709551616) :
 Calls Tryz.prog 48 #[.pointer (some ⟨bl,0,none⟩),.int .u64 (lsn:Int)] w fun e w'=>e = .returned (.tuple #[])∧∃τ' k fl,L.AtR lsn k fl∧Step w τ w' τ' WalTag∧TW w' τ' bm bl bp bf bd N bo X next H (flL L (k+(if fl=true then 1 else 0))) (flD L D (k+(if fl=true then 1 else 0))) F s cur:=by
 have hlog:LogAt w τ bl bd L:=h.hbl▸h.pool.log
 refine(Qor hlog h.pool.dev h.good.rise h.good.cap h.good.f0 (h.good.calm.lim 700000) lsn h64).mono ?_
 rintro e w' ⟨rfl,k,fl,hat,τ',hl',hd',hs'⟩
 exact⟨rfl,τ',k,fl,hat,hs',⟨⟨h.pool.pool.step hs' (fun g hg hS=>(Jco hS).1 hg),by rw[h.hbl];exact hl',hd'⟩,h.mgr.step hs' (fun g hg hS=>(Jco hS).2 hg),h.good.flush _,h.clock,h.hn,h.hbl⟩⟩
structure TZl (w:World) (τ:Tags) (I:Ids) (bo:Nat→Nat) (X:List OneP) (next:Nat) (R:List RecP) (V:SlotV) (st lo:Nat):Prop where
 is:∃H L D F s cur,TW w τ I.bm I.bl I.bp I.bf I.bd I.N bo X next H L D F s cur∧LogIs L R∧L.strips=I.S∧H.st≤st∧(∀n,n<I.N→Small (cur n)∧∀t,pData (cur n) t=V n t)∧lo<L.base+L.lasts
theorem TZl.tz {bo:Nat→Nat} {X:List OneP} {next:Nat} {lo:Nat}(h:TZl w τ I bo X next R V st lo):TZ w τ I bo X next R V st:=by
 obtain⟨H,L,D,F,s,cur,h1,h2,h3,h4,h5,-⟩:=h.is
 exact⟨⟨H,L,D,F,s,cur,h1,h2,h3,h4,h5⟩⟩
theorem Jcj {bo:Nat→Nat} {X:List OneP} {next:Nat}(h:TZ w τ I bo X next R V st) {x:OneP}(hx:x∈X) (hs:x.state=1) (hlast:x.last≤1+(recsB R).length) (hcap:(recsB R).length+54≤I.S*127) :
 Calls Tryz.prog 19 #[.pointer (some ⟨I.bm,0,none⟩),.int .u32 (x.txn:Int)] w fun e w'=>e = .returned (.int .u16 0)∧∃τ',Step w τ w' τ' TyTag∧TZl w' τ' I bo (dropX X x.txn) next (R++[Qb6 4 x]++[Qb6 6 {x with last:=1+(recsB R).length}]) V st (1+(recsB R).length):=by
 obtain⟨H,L,D,F,s,cur,h1,h2,h3,h4,h5⟩:=h.is
 have hlen:=h.len
 have hrl:=Qfk R
 have hxl:=h1.mgr.low x hx
 have hnx:=h1.mgr.nx
 have hr:=Qju h1.mgr hx hs x.txn rfl (by omega)
 have hlog:LogAt w τ I.bl I.bd L:=h1.hbl▸h1.pool.log
 have hown:RecP.own ⟨4,0,0,0,noChange,[],[]⟩ x=Qb6 4 x:=rfl
 have hl27:=Qgg x (k:=4) (by omega)
 have hwr:=Qe2 h1.mgr hlog hx (by rw[h2.starts,Qbc];omega) (Qym w τ (k:=4) (by omega)) (Qgf x (k:=4) (by omega)) (by rw[hown,hl27];omega) (by show (4:Nat)≠8;omega) (by omega) 0 (by rw[hown,hl27,h2.stream,h3];omega)
 rw[hown] at hwr
 obtain⟨lsn,hlsn⟩:∃lsn,L.base+L.stream.length=lsn:=⟨_,rfl⟩
 rw[hlsn] at hwr
 obtain⟨ba,ho,-⟩:=h1.mgr.is
 obtain⟨H1,H2,H3,H4,H5,Hwr,H_h,Hlog,Hown,Hl27,Hr,Hlsn⟩:=hid12 h1 h2 h3 h4 h5 hwr h hlog hown hl27 hr hlsn
 have Ho:=Lib.hid ho
 clear h1 h2 h3 h4 h5 hwr h hlog hown hl27 hr hlsn ho
 go_enter Tryz.func19,Tryz.ntmps19
 go_wp2_with fail
 refine Hr.out.mono ?_
 rintro e w1 ⟨rfl,rfl⟩
 go_wp2_with fail
 refine Hwr.out.mono ?_
 rintro e w1 ⟨rfl,τ1,hl1,hx1,hs1⟩
 have hw1:=H1.out.wrote hs1 (x:={x with last:=lsn}) (y:=x) (fun g hg=>hg.imp id .inl) hl1 (by rw[Hl27.out];omega) (by rw[Hl27.out,H2.out.stream,H3.out];omega) hx rfl hx1
 have hl64:lsn<18446744073709551616:=by rw[←Hlsn.out,H2.out.base,H2.out.stream];omega
 have hfl:=Jcl hw1 lsn hl64
 have ho1:=Ho.out.step hs1 (by simp[LogTag,tMgr,tLog,Qah,Qag,tOneT])
 have d0:=ho1.at 0 (v:=.pointer (some ⟨I.bl,0,none⟩)) rfl
 obtain⟨Hw1,Hs1,Hfl,Ho1⟩:=hid4 hw1 hs1 hfl ho1
 clear hw1 hs1 hfl ho1 hl1 hx1
 go_wp2_with fail
 refine Hfl.out.mono ?_
 rintro e w2 ⟨rfl,τ2,k,fl,hat,hs2,hw2⟩
 have hlog2:LogIs (L.more (encR (Qb6 4 x))) (R++[Qb6 4 x]):=H2.out.more (Qky (by omega) (by omega) (by omega)) (SameLog.refl _)
 have hpast:=Qtr Hw1.out.good.rise hat ⟨L.stream.length,by show _∈L.starts++[L.stream.length];simp,by show lsn=L.base+L.stream.length;exact Hlsn.out.symm⟩
 have hrl2:=Qfk (R++[Qb6 4 x])
 have hq:=Qb0 R (Qb6 4 x)
 rw[Hl27.out] at hq
 obtain⟨e1,e2,e3,e4,e5⟩:=Qjz (L.more (encR (Qb6 4 x))) (k+(if fl=true then 1 else 0))
 have hlogf:LogIs (flL (L.more (encR (Qb6 4 x))) (k+(if fl=true then 1 else 0))) (R++[Qb6 4 x]):=hlog2.same (SameLog.flush _ _)
 have hend:=Jah hw2 (by rw[e3,hlog2.starts,Qbc];omega) (Qge hx (x:={x with last:=lsn}) rfl) hl64 (by rw[e2,e4,hlog2.stream,hq];show _≤L.strips*127;rw[H3.out];omega)
 rw[show (OneP.txn {x with last:=lsn})=x.txn from rfl] at hend
 obtain⟨Hend,Hlogf,Hpast,Hs2,Hq,H_e1,H_e4⟩:=hid7 hend hlogf hpast hs2 hq e1 e4
 clear hend hlogf hpast hs2 hq e1 e4 hw2 hat hlog2 e2 e3 e5
 go_wp2_with fail
 refine Hend.out.mono ?_
 rintro e w3 ⟨rfl,τ3,hs3,hw3⟩
 go_wp2_with fail
 go_ret
 have hdx:=Qtw X {x with last:=lsn}
 rw[show (OneP.txn {x with last:=lsn})=x.txn from rfl] at hdx
 rw[hdx] at hw3
 have hls:lsn=1+(recsB R).length:=by rw[←Hlsn.out,H2.out.base,H2.out.stream]
 subst hls
 refine⟨rfl,τ3,?_,⟨⟨H,_,_,F,s,cur,hw3,Hlogf.out.more (Qky (by omega) (by show x.txn<_;omega) hl64) (SameLog.refl _),?_,H4.out,H5.out,?_⟩⟩⟩
 ·refine((Hs1.out.mono (T:=TyTag) (fun g h=>.inl ?_)).trans (Hs2.out.mono (T:=TyTag) (fun g h=>.inl (.inl (.inr h))))).trans (hs3.mono (fun _ h=>.inl h))
  rcases h with q|q
  ·exact .inl (.inr (.inl q))
  ·exact .inr (.inl (by subst q;simp[Qai,tOneT]))
 ·show (flL _ _).strips=_
  rw[H_e4.out];exact H3.out
 ·show _<(flL _ _).base+(flL _ _).lasts
  rw[H_e1.out]
  exact Hpast.out
end Go.Proofs.YtjgacceifcnedaaGreat