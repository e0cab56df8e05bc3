/-
 Transactions: End.
-/
import Derived.Test.YtemacanaihaldaaGreatMTxL
set_option maxRecDepth 100000
set_option maxHeartbeats 4000000
set_option linter.all false
namespace Go.Proofs.YtemacanaihaldaaGreat
variable {D:Dev}{I:Ids}{L:LogM}{N bl bm bp st:Nat}{R:List RecP}{V:SlotV}{w:World}{τ:Tags}
open Go.RowKit Go.Maps
def dropX (X:List OneP) (k:Nat):List OneP:=X.filter (fun y=>decide (y.txn≠k))
theorem Qpt {X:List OneP} {k:Nat} {y:OneP}:y∈dropX X k↔y∈X/\y.txn≠k:=by
 unfold dropX
 rw[List.mem_filter]
 simp
theorem Qpu (X:List OneP) (k:Nat):OneP.ids (dropX X k)=(OneP.ids X).filter (fun j=>decide (j≠k)):=by
 unfold OneP.ids dropX
 rw[List.filter_map]
 rfl
theorem Qv0 (d:Nat->Nat) (X:List OneP) (k:Nat):fOf d (dropX X k)=updO (fOf d X) k none:=by
 funext j
 unfold fOf updO
 rw[Qpu]
 by_cases e:j=k
 ·rw[if_pos e,if_neg (fun h=>by
   have:=(List.mem_filter.1 h).2
   simp[e] at this)]
 ·rw[if_neg e]
  show _=if j∈OneP.ids X then some (d j) else none
  by_cases b:j∈OneP.ids X
  ·rw[if_pos b,if_pos (List.mem_filter.2 ⟨b,by simpa using e⟩)]
  ·rw[if_neg b,if_neg (fun h=>b (List.mem_filter.1 h).1)]
theorem Qtw (X:List OneP) (x:OneP):dropX (putX X x) x.txn=dropX X x.txn:=by
 induction X with
 | nil=>rfl
 | cons z X ih =>
   unfold dropX putX at *
   rw[X1,List.filter_cons,List.filter_cons,ih]
   by_cases e:z.txn=x.txn
   ·rw[if_pos e];simp[e]
   ·rw[if_neg e]
theorem MgrAt.drop {i:World} {e:Tags} {S:Tag->Prop} {j:Nat->Nat} {X:List OneP} {next:Nat}(h:MgrAt w τ bm bl bp j X next) (k:Nat) {l:Nat}(r:Own i e bm tMgr 171 [.pointer (some ⟨bl,0,none⟩),.pointer (some ⟨bp,0,none⟩),.map (some l),.int .u32 (next:Int)]) (s:PMap i e l tAllM 1000 (updO (fOf j X) k none)) (m:Step w τ i e S) (y:∀g,S g->g=tAllM\/g=tOneT k\/¬Qai g):MgrAt i e bm bl bp j (dropX X k) next:=by
 refine⟨⟨l,r,by rw[Qv0];exact s⟩,fun x o=>?_,?_,fun x o=>h.low x (Qpt.1 o).1,h.nx,Y3 (List.length_filter_le _ _) h.many⟩
 ·obtain⟨p,hx2⟩:=Qpt.1 o
  have no:∀g,Qai g->g≠tAllM->g≠tOneT k->¬S g:=fun g a b c d=>by
   rcases y g d with q|q|q
   ·exact b q
   ·exact c q
   ·exact q a
  exact(h.ones x p).step m (no _ (by simp[Qai,tOneT]) (by simp[tOneT,tAllM]) (by simp[tOneT];omega)) (no _ (by simp[Qai,tChg]) (by simp[tChg,tAllM]) (by simp[tChg,tOneT]))
 ·rw[Qpu]
  exact h.nodup.filter _
def Qb6 (k:Nat) (x:OneP):RecP:=⟨k,x.txn,x.last,0,noChange,[],[]⟩
theorem Qgg {k:Nat}(x:OneP) (hk:k=4\/k=5\/k=6):(encR (Qb6 k x)).length=27:=by
 rw[Qbh]
 rcases hk with rfl|rfl|rfl <;> rfl
theorem Qgf {k:Nat}(x:OneP) (hk:k=4\/k=5\/k=6):mayB (Qb6 k x)=true:=by
 rcases hk with rfl|rfl|rfl <;> rfl
theorem Qky {k:Nat} {x:OneP}(hk:k=4\/k=5\/k=6) (h1:x.txn<4294967296) (h2:x.last<18446744073709551616):(Qb6 k x).ok :=
 ⟨Qgf x hk,by show k≠8;omega,h1,h2,by show 0<18446744073709551616;omega,by show 0<4294967296;omega,by show 0<65536;omega⟩
theorem Qym (w:World) (τ:Tags) {k:Nat}(hk:k<256):RecI w τ (.agg #[.int .u8 (k:Int),.int .u32 0,.int .u64 0,.int .u64 0,.int .u32 0,.int .u16 0,.bool false,.bool false,.slice none 0 0,.slice none 0 0,.slice none 0 0,.slice none 0 0]) ⟨k,0,0,0,noChange,[],[]⟩ :=
 ⟨⟨none,0,none,0,none,0,none,0,tBox,tBox,0,rfl,Bytes.empty _ _ _,Bytes.empty _ _ _,NS.nil _ _ _ _ _ _ _,NS.nil _ _ _ _ _ _ _,by simp[WrT,tBox,tWr,tWb],by simp[WrT,tBox,tWr,tWb]⟩,hk,by show 0<4294967296;omega,by show 0<18446744073709551616;omega,by show 0<18446744073709551616;omega,by show 0<4294967296;omega,by show 0<65536;omega⟩
theorem Jah {bf bd:Nat} {bo:Nat->Nat} {X:List OneP} {next:Nat} {H:PoolH} {F:List Fr} {s:Ck.Clk.St} {E:Nat->List Int}(h:TW w τ bm bl bp bf bd N bo X next H L D F s E) (j:L.starts.length<=100000) {x:OneP}(hx:x∈X) (r:x.last<18446744073709551616) (hcap:L.stream.length+27<=L.strips*127) :
 Calls Tryz.prog 84 #[.pointer (some ⟨bm,0,none⟩),.int .u32 (x.txn:Int)] w fun e w'=>e = .returned (.int .u16 0)/\∃G,Step w τ w' G TxTag/\TW w' G bm bl bp bf bd N bo (dropX X x.txn) next H (L.more (encR (Qb6 6 x))) D F s E:=by
 obtain⟨ba,ho,hp⟩:=h.mgr.is
 have hxl:=h.mgr.low x hx
 have hnx:=h.mgr.nx
 have c2:=ho.at 2 (v:=.map (some ba)) rfl
 have J:=hp.look x.txn (by omega)
 rw[Qln hx] at J
 change _=Result.ok (Value.pointer (some ⟨bo x.txn,0,none⟩)) w at J
 have i:LogAt w τ bl bd L:=h.hbl▸h.pool.log
 have b:RecP.own ⟨6,0,0,0,noChange,[],[]⟩ x=Qb6 6 x:=rfl
 have d:=Qgg x (k:=6) (by omega)
 have y:=Qe2 h.mgr i hx j (Qym w τ (k:=6) (by omega)) (Qgf x (k:=6) (by omega)) (by rw[b,d];omega) (by show (6:Nat)≠8;omega) r 0 (by rw[b,d];omega)
 rw[b] at y
 obtain⟨Hp,Ho,aa,M,Hlog,Hown,p⟩:=hid7 hp ho y h i b d
 clear hp ho y h i b d
 go_enter Tryz.func84,Tryz.ntmps84
 go_wp2_with fail
 refine aa.out.mono ?_
 rintro e w1 ⟨rfl,τ1,O,ab,l⟩
 have m:=Ho.out.step l (by simp[LogTag,tMgr,tLog,Qah,Qag,tOneT])
 have z:=Hp.out.step l (by simp[LogTag,tAllM,tLog,Qah,Qag,tOneT])
 have d2:=m.at 2 (v:=.map (some ba)) rfl
 obtain⟨w2,hrun,U,B⟩:=z.drop x.txn (by omega) 0
 have Y:=m.step B (by simp[tMgr,tAllM])
 obtain⟨Ho1,Hp1,ac,ad,ae,af,Z⟩:=hid7 m z l O Y U B
 clear m z l O Y U B ab
 go_wp2_with fail
 go_ret
 have C:=(ac.out.mono (T:=fun g=>LogTag g\/g=tOneT x.txn\/g=tAllM) (fun g h=>h.imp id .inl)).trans (Z.out.mono (T:=fun g=>LogTag g\/g=tOneT x.txn\/g=tAllM) (fun g h=>.inr (.inr h)))
 have ag:∀g,LogTag g->¬Qai g:=fun g o=>(Qi3 (.inr (.inl o))).1
 have ah:=M.out.mgr.drop x.txn ae.out af.out C (fun g o=>by
  rcases o with q|q|q
  ·exact .inr (.inr (ag g q))
  ·exact .inr (.inl q)
  ·exact .inl q)
 have ai:=ad.out.step Z.out (fun g o q=>by subst q;rcases o with h|h|h <;> simp[tLog,Qah,Qag,tAllM] at h)
 have aj:=M.out.logged C (fun g o=>by
  rcases o with q|q|q
  ·exact .inl q
  ·exact .inr (by subst q;simp[Qai,tOneT])
  ·exact .inr (by subst q;simp[Qai,tAllM])) ai (by rw[p.out];omega) (by rw[p.out];omega) ah
 refine⟨rfl,τ1,C.mono (fun g o=>?_),aj⟩
 rcases o with q|q|q
 ·exact .inl (.inr (.inl q))
 ·exact .inr (.inl (by subst q;simp[Qai,tOneT]))
 ·exact .inr (.inl (by subst q;simp[Qai,tAllM]))
theorem Jag {m:Nat->Nat} {X:List OneP} {next:Nat}(h:TZ w τ I m X next R V st) {x:OneP}(o:x∈X) (hlast:x.last<=1+(recsB R).length) (d:(recsB R).length+27<=I.S*127) :
 Calls Tryz.prog 84 #[.pointer (some ⟨I.bm,0,none⟩),.int .u32 (x.txn:Int)] w fun e i=>e = .returned (.int .u16 0)/\∃b,Step w τ i b TyTag/\TZ i b I m (dropX X x.txn) next (R++[Qb6 6 x]) V st:=by
 obtain⟨H,L,D,F,s,j,h1,h2,p,q,r⟩:=h.is
 have hlen:=h.len
 have hrl:=Qfk R
 have hxl:=h1.mgr.low x o
 have hnx:=h1.mgr.nx
 refine(Jah h1 (by rw[h2.starts,Qbc];omega) o (by omega) (by rw[h2.stream,p];exact d)).mono ?_
 rintro e i ⟨rfl,b,k,l⟩
 exact⟨rfl,b,k.mono (fun _ h=>.inl h),⟨⟨H,_,D,F,s,j,l,h2.more (Qky (by omega) (by omega) (by omega)) (SameLog.refl _),p,q,r⟩⟩⟩
theorem TZ.view {d:Nat->Nat} {X:List OneP} {next:Nat} {U:SlotV}(h:TZ w τ I d X next R V st) (i:∀p t,V p t=U p t):TZ w τ I d X next R U st:=by
 obtain⟨H,L,D,F,s,b,h1,h2,j,k,e⟩:=h.is
 exact⟨⟨H,L,D,F,s,b,h1,h2,j,k,fun n hn=>⟨(e n hn).1,fun t=>((e n hn).2 t).trans (i n t)⟩⟩⟩
theorem TW.wrote {l:World} {d:Tags} {S:Tag->Prop} {bf bd:Nat} {o:Nat->Nat} {X:List OneP} {next:Nat} {H:PoolH} {F:List Fr} {s:Ck.Clk.St} {i:Nat->List Int}(h:TW w τ bm bl bp bf bd N o X next H L D F s i) (m:Step w τ l d S) {x y:OneP}(r:∀g,S g->LogTag g\/g=tOneT x.txn\/g=tChg x.txn) {b:List Int}(hl:LogAt l d bl bd (L.more b)) (z:0<b.length) (j:L.stream.length+b.length<=127*L.strips) (B:y∈X) (e:y.txn=x.txn) (C:OneAt l d (o x.txn) x):TW l d bm bl bp bf bd N o (putX X x) next H (L.more b) D F s i:=by
 have p:∀g,LogTag g->¬Qai g:=fun g k=>(Qi3 (.inr (.inl k))).1
 refine h.logged m (fun g k=>?_) hl z j (h.mgr.setOne m B e (fun g k E=>(r g E).elim (fun q=>absurd k (p g q)) id) C)
 rcases r g k with q|q|q
 ·exact .inl q
 ·exact .inr (by subst q;simp[Qai,tOneT])
 ·exact .inr (by subst q;simp[Qai,tChg])
def Qfu (w:World) (b o:Nat):Nat:=match w.cell? ⟨b,o,none⟩ with
 | some (.int _ n)=>n.toNat
 | _=>0
theorem Qfe {b o n:Nat} {k:IntKind}(h:w.cell? ⟨b,o,none⟩=some (.int k (n:Int))):Qfu w b o=n:=by
 unfold Qfu
 rw[h]
 exact Int.toNat_natCast n
theorem TZ.undoCell {b:Nat->Nat} {X:List OneP} {next:Nat}(h:TZ w τ I b X next R V st) {x:OneP}(d:x∈X):w.cell? ⟨b x.txn,2,none⟩=some (.int .u64 (x.undo:Int)):=by
 obtain⟨v,e,-⟩:=(h.mgr.ones x d).is
 exact e.at 2 rfl
structure AbI (w:World) (τ:Tags) (I:Ids) (bo:Nat->Nat) (X:List OneP) (next:Nat) (R:List RecP) (V:SlotV) (st:Nat) (x:OneP) (l:List (Nat×ChangeP)) (wr:World) (τr:Tags) (T:List RecP) (y:OneP) (l':List (Nat×ChangeP)) (V':SlotV) (st':Nat):Prop where
 step:Step w τ wr τr TyTag
 tz:TZ wr τr I bo (putX X y) next (R++T) V' st'
 txn:y.txn=x.txn
 trail:Trail (R++T) y.undo l'
 ch:y.ch=chOf l'
 ok:∀z∈l',ChgOk I.N z.2
 last:y.last<=1+(recsB (R++T)).length
 room:(recsB (R++T)).length+Qbf l'<=(recsB R).length+27+Qbf l
 view:∀p t,undoV V' l' p t=undoV V l p t
 st:st'+l'.length<=st+l.length
def Jbd (w:World) (τ:Tags) (I:Ids) (bo:Nat->Nat) (X:List OneP) (next:Nat) (R:List RecP) (V:SlotV) (st:Nat) (x:OneP) (l:List (Nat×ChangeP)) (e:Ending) (w':World):Prop :=
 e = .returned (.int .u16 0)/\∃τ' T,Step w τ w' τ' TyTag/\TZ w' τ' I bo (dropX X x.txn) next (R++T) (undoV V l) (st+l.length)/\(recsB (R++T)).length<=(recsB R).length+54+Qbf l
theorem Qb0 (R:List RecP) (r:RecP):(recsB (R++[r])).length=(recsB R).length+(encR r).length:=by rw[Qmo,Z6]
theorem AbI.chg {wr m:World} {i b:Tags} {o:Nat->Nat} {X:List OneP} {next:Nat} {x:OneP} {l:List (Nat×ChangeP)} {T:List RecP} {y:OneP} {e:List (Nat×ChangeP)} {p:SlotV} {d:Nat} {r:RecP}(h:AbI w τ I o X next R V st x l wr i T y ((y.undo,r.change)::e) p d) (hp:r.prev<y.undo) (B:Trail (R++T) r.prev e)
 (C:Step wr i m b TyTag) (j:TZ m b I o (putX (putX X y) (y.undone (1+(recsB (R++T)).length) r.prev (chOf e))) next (R++T++[Qed r.change y r.prev]) (putV p r.change.page r.change.slot r.change.before) (d+1)) :
 AbI w τ I o X next R V st x l m b (T++[Qed r.change y r.prev]) (y.undone (1+(recsB (R++T)).length) r.prev (chOf e)) e (putV p r.change.page r.change.slot r.change.before) (d+1):=by
 have hl:=Qif r.change y r.prev
 have k:=Qb0 (R++T) (Qed r.change y r.prev)
 rw[hl] at k
 rw[X0] at j k
 rw[Qgd X (show y.txn=(y.undone (1+(recsB (R++T)).length) r.prev (chOf e)).txn from rfl)] at j
 have s:=h.room
 rw[Qcy] at s
 have hsz:36<=Qak r.change:=by unfold Qak;omega
 have q:=h.st
 rw[Y4] at q
 refine⟨h.step.trans C,j,h.txn,?_,rfl,fun z j=>h.ok z (Y2 _ j),?_,?_,h.view,by omega⟩
 ·have:=B.app [Qed r.change y r.prev]
  rw[X0] at this
  exact this
 ·show 1+(recsB (R++T)).length<=_
  rw[k];omega
 ·dsimp only at s
  rw[k];omega
theorem Qww {bo:Nat->Nat} {X:List OneP} {next:Nat}(h:TZ w τ I bo X next R V st) {x:OneP}(hx:x∈X) (hs:x.state=1) {l:List (Nat×ChangeP)}(ht:Trail R x.undo l) (az:x.ch=chOf l) (b0:∀z∈l,ChgOk I.N z.2) (hlast:x.last<=1+(recsB R).length) (hcap:(recsB R).length+54+Qbf l<=I.S*127) (hst:st+l.length<=1000000) (hN:I.N<=512) :
 Calls Tryz.prog 23 #[.pointer (some ⟨I.bm,0,none⟩),.int .u32 (x.txn:Int)] w (Jbd w τ I bo X next R V st x l):=by
 obtain⟨H,L,D,F,s,bj,h1,h2,h3,h4,h5⟩:=h.is
 have hlen:=h.len
 have hrl:=Qfk R
 have hxl:=h1.mgr.low x hx
 have hnx:=h1.mgr.nx
 have J:=Qju h1.mgr hx hs x.txn rfl (by omega)
 have a1:LogAt w τ I.bl I.bd L:=h1.hbl▸h1.pool.log
 have B:RecP.own ⟨5,0,0,0,noChange,[],[]⟩ x=Qb6 5 x:=rfl
 have U:=Qgg x (k:=5) (by omega)
 have ah:=Qe2 h1.mgr a1 hx (by rw[h2.starts,Qbc];omega) (Qym w τ (k:=5) (by omega)) (Qgf x (k:=5) (by omega)) (by rw[B,U];omega) (by show (5:Nat)≠8;omega) (by omega) 0 (by rw[B,U,h2.stream,h3];omega)
 rw[B] at ah
 obtain⟨bx,ap⟩:∃bx,bo x.txn=bx:=⟨_,rfl⟩
 rw[ap] at ah J
 obtain⟨H1,H2,H3,H4,H5,bn,H_h,Hlog,Hown,a6,Hr,bq⟩:=hid12 h1 h2 h3 h4 h5 ah h a1 B U J b0
 obtain⟨br,Ht,ai⟩:=hid3 az ht ap
 clear h1 h2 h3 h4 h5 ah h a1 B U J b0 az ht ap
 go_enter Tryz.func23,Tryz.ntmps23
 go_wp2_with fail
 refine Hr.out.mono ?_
 rintro e w1 ⟨rfl,rfl⟩
 go_wp2_with fail
 refine bn.out.mono ?_
 rintro e w1 ⟨rfl,τ1,b1,aj,b2⟩
 obtain⟨v,M,a7⟩:=aj.is
 unfold OneP.cells at M
 dsimp only at M a7
 have e3:=M.at 3 (v:=.int .u8 (x.state:Int)) rfl
 have z3:=M.fz 3
 have ak:Step w1 τ1 (w1.setCell ⟨bx,3,none⟩ (.int .u8 3)) τ1 (fun t=>t=tOneT x.txn):=(Step.refl w1 τ1 (fun t=>t=tOneT x.txn)).set (o:=3) M.tag rfl _
 have an:=M.set 3 (.int .u8 3)
 have ao:=a7.step ak (by simp[tOneT,tChg])
 have b3:OneAt (w1.setCell ⟨bx,3,none⟩ (.int .u8 3)) τ1 bx {x with last:=L.base+L.stream.length,state:=3}:=⟨⟨v,an,ao⟩,aj.len,aj.size⟩
 have b4:=b1.step ak (fun g hg q=>by subst q;rcases hg with h|h|h <;> simp[tLog,Qah,Qag,tOneT] at h)
 have a8:=b2.trans (ak.mono (T:=fun t=>LogTag t\/t=tOneT x.txn) (fun _ h=>.inr h))
 have b6:=H1.out.wrote a8 (x:={x with last:=L.base+L.stream.length,state:=3}) (y:=x) (fun g hg=>hg.imp id .inl) b4 (by rw[a6.out];omega) (by rw[a6.out,H2.out.stream,H3.out];omega) hx rfl (by rw[ai.out];exact b3)
 have b7:TZ (w1.setCell ⟨bx,3,none⟩ (.int .u8 3)) τ1 I bo (putX X {x with last:=L.base+L.stream.length,state:=3}) next (R++[Qb6 5 x]) V st:=⟨⟨H,_,D,F,s,bj,b6,H2.out.more (Qky (by omega) (by omega) (by omega)) (SameLog.refl _),H3.out,H4.out,H5.out⟩⟩
 have b8:AbI w τ I bo X next R V st x l (w1.setCell ⟨bx,3,none⟩ (.int .u8 3)) τ1 [Qb6 5 x] {x with last:=L.base+L.stream.length,state:=3} l V st:=by
  have hq:=Qb0 R (Qb6 5 x)
  rw[a6.out] at hq
  refine⟨a8.mono (fun g hg=>.inl ?_),b7,rfl,Ht.out.mono _,br.out,bq.out,?_,by rw[hq];omega,fun _ _=>rfl,Z0 _⟩
  ·rcases hg with q|q
   ·exact .inl (.inr (.inl q))
   ·exact .inr (.inl (by subst q;simp[Qai,tOneT]))
  ·show L.base+L.stream.length<=_
   rw[hq,H2.out.base,H2.out.stream];omega
 have bs:=Z2 b8
 clear b8 b1 aj b2 M a7 ak an ao b3 b4 a8 b6 b7
 go_wp2_with fail
 generalize w1.setCell ⟨bx,3,none⟩ (.int .u8 3)=w2 at *
 go_loopw [4] (fun a wr=>a = .int .u16 0/\∃b9 T y l' V' ar,AbI w τ I bo X next R V st x l wr b9 T y l' V' ar) (fun _ wr=>Qfu wr bx 2)
 case atStart=>exact⟨rfl,τ1,_,_,_,_,_,bs.out⟩
 case round =>
  obtain⟨rfl,b9,T,y,l',V',ar,hi⟩:=hrel
  have hy:=Qge hx (x:=y) hi.txn.symm
  have j:=hi.txn
  have i:=hi.tz.undoCell hy
  rw[j,show bo x.txn=bx from ai.out] at i
  have m:Qfu wr bx 2=y.undo:=Qfe i
  rcases hi.trail.inv with ⟨r,J,hk,rfl⟩|⟨r,l2,J,hk,hp,aa,rfl⟩|⟨r,J,hk,hp,aa⟩
  ·have b:=Qp7 hi.tz hy J hk
   rw[j] at b
   obtain⟨G,Hy,p,C,Hr,Y⟩:=hid6 hi hy j b J m
   clear hi hy j b J m i
   go_wp2_with fail
   refine C.out.mono ?_
   rintro e w3 ⟨rfl,ab,E,d⟩
   rw[Qgd X (show y.txn=(y.at_ 0).txn from rfl)] at d
   have hq:=G.out.room
   have ac:=Jag d (Qge hx (x:=y.at_ 0) p.out.symm) G.out.last (by
    have h0:Qbf ([]:List (Nat×ChangeP))=0:=rfl
    rw[h0] at hq;omega)
   rw[show (y.at_ 0).txn=x.txn from p.out] at ac
   obtain⟨bb,bz,Hz3,Hq⟩:=hid4 ac E d hq
   clear ac E d hq
   go_wp2_with fail
   refine bb.out.mono ?_
   rintro e w4 ⟨rfl,c3,c4,bc⟩
   go_wp2_with fail
   go_ret
   have be:=Qtw X (y.at_ 0)
   rw[show (y.at_ 0).txn=x.txn from p.out] at be
   rw[be,X0] at bc
   have bf:=Qb0 (R++T) (Qb6 6 (y.at_ 0))
   rw[Qgg _ (by omega),X0] at bf
   have h0:Qbf ([]:List (Nat×ChangeP))=0:=rfl
   have c5:=Hq.out
   rw[h0] at c5
   have ad:=G.out.st
   rw[List.length_nil] at ad
   exact⟨rfl,c3,T++[Qb6 6 (y.at_ 0)],(G.out.step.trans bz.out).trans c4,(bc.view G.out.view).le (by omega),by rw[bf];omega⟩
  ·have ad:=hi.st
   rw[Y4] at ad
   have bg:=hi.room
   rw[Qcy] at bg
   dsimp only at bg
   have b:=Qke hi.tz hy J (by omega) hN hk hp (hi.ok (y.undo,r.change) (by simp)) hi.last (l1:=chOf l2) (sz:=Qak r.change) (by rw[hi.ch,Qh9]) (fun z hz=>by
    obtain⟨u,hu,rfl⟩:=Qj1 hz
    have:=hi.trail.tail u hu
    show u.1≠y.undo
    dsimp only at this
    omega) (by omega)
   rw[j] at b
   obtain⟨G,Hy,p,C,Hr,Y,av⟩:=hid7 hi hy j b J m aa
   clear hi hy j b J m aa i
   go_wp2_with fail
   refine C.out.mono ?_
   rintro e w3 ⟨rfl,ab,E,d⟩
   have Z:=G.out.chg hp av.out E d
   have O:=Z.tz.undoCell (Qge hx (x:=y.undone (1+(recsB (R++T)).length) r.prev (chOf l2)) p.out.symm)
   rw[show (y.undone (1+(recsB (R++T)).length) r.prev (chOf l2)).txn=x.txn from p.out,show bo x.txn=bx from ai.out] at O
   have ae:Qfu w3 bx 2=r.prev:=Qfe O
   obtain⟨aw,ax⟩:=hid2 Z ae
   clear Z ae O E d
   go_wp2_with fail
   go_round
   case rel=>exact⟨rfl,ab,_,_,_,_,_,aw.out⟩
   case measure=>rw[ax.out,Y.out];exact hp
  ·have b:=Qp6 hi.tz hy J hk hp
   rw[j] at b
   obtain⟨G,Hy,p,C,Hr,Y,av⟩:=hid7 hi hy j b J m aa
   clear hi hy j b J m aa i
   go_wp2_with fail
   refine C.out.mono ?_
   rintro e w3 ⟨rfl,ab,E,d⟩
   rw[Qgd X (show y.txn=(y.at_ r.next).txn from rfl)] at d
   have Z:AbI w τ I bo X next R V st x l w3 ab T (y.at_ r.next) l' V' ar:=⟨G.out.step.trans E,d,G.out.txn,av.out,G.out.ch,G.out.ok,G.out.last,G.out.room,G.out.view,G.out.st⟩
   have O:=d.undoCell (Qge hx (x:=y.at_ r.next) p.out.symm)
   rw[show (y.at_ r.next).txn=x.txn from p.out,show bo x.txn=bx from ai.out] at O
   have ae:Qfu w3 bx 2=r.next:=Qfe O
   obtain⟨aw,ax⟩:=hid2 Z ae
   clear Z ae O E d
   go_wp2_with fail
   go_round
   case rel=>exact⟨rfl,ab,_,_,_,_,_,aw.out⟩
   case measure=>rw[ax.out,Y.out];exact hp
def Marks (x:OneP) (m:Nat):Prop:=(x.ch.any (fun y=>decide (y.1=m))=true)\/(m=x.start/\m≠0)
theorem Qmy {U:Nat->Nat} {X:List OneP} {next:Nat}(h:MgrAt w τ bm bl bp U X next) {x:OneP}(Y:x∈X) (hs:x.state=1) (m:Nat) (hm:Marks x m):Calls Tryz.prog 140 #[.pointer (some ⟨bm,0,none⟩),.int .u32 (x.txn:Int),.int .u64 (m:Int)] w fun e w'=>e = .returned (.tuple #[.pointer (some ⟨U x.txn,0,none⟩),.int .u16 0])/\∃Z,Step w τ w' Z nil:=by
 have hxl:=h.low x Y
 have hnx:=h.nx
 have C:=(Step.refl w τ nil).alloc (.cells #[.int .u64 (m:Int)] 51) tTn
 have j:=Own.born w τ tTn 51 #[.int .u64 (m:Int)]
 obtain⟨bq,E⟩:∃bq,w.heap.size=bq:=⟨_,rfl⟩
 generalize τ.put w.heap.size tTn=τ1 at *
 rw[E] at j
 generalize G:w.alloc (.cells #[.int .u64 (m:Int)] 51)=W1 at *
 have h1:=h.nil C
 have hr:=Qju h1 Y hs x.txn rfl (by omega)
 obtain⟨v,q,r⟩:=(h1.ones x Y).is
 obtain⟨bx,a6⟩:∃bx,U x.txn=bx:=⟨_,rfl⟩
 rw[a6] at hr q ⊢
 have z:=Qtx (F := 218) (bc:=bq) (p:=fun y=>decide (y.1=m)) r (.inl rfl) (fun W s=>Qq4 ((j.step s (fun h=>h)).at 0 rfl))
 obtain⟨pv,cv,rfl,-,-⟩:=r.done
 have c5:=q.at 5 (v:=.slice pv x.ch.length cv) rfl
 obtain⟨B,hB⟩:∃B,x.ch.any (fun y=>decide (y.1=m))=B:=⟨_,rfl⟩
 rw[hB] at z
 obtain⟨J,k⟩:∃J,x.ch.length=J:=⟨_,rfl⟩
 rw[k] at z c5
 have e0:=j.at 0 (v:=.int .u64 (m:Int)) rfl
 obtain⟨H_h,H1,a8,aa,Hr,ab,ac,Hch,HB,ad,ae,Hnch⟩:=hid12 h h1 C j hr z q r hB G E k
 clear h h1 C j hr z q r hB G E k
 go_enter Tryz.func140,Tryz.ntmps140
 go_wp2_with fail
 try rw[ad.out]
 refine Hr.out.mono ?_
 rintro e w' ⟨rfl,rfl⟩
 go_wp2_with fail
 try rw[ae.out]
 refine ab.out.mono ?_
 rintro e w2 ⟨rfl,l⟩
 have b:=aa.out.step l (fun h=>h)
 have f0:=(b.step (Step.refl w2 τ1 nil).drew (fun h=>h)).at 0 (v:=.int .u64 (m:Int)) rfl
 have d:=(ac.out.step l (fun h=>h))
 have i:=a8.out.trans l
 have f1:=(d.step (Step.refl w2 τ1 nil).drew (fun h=>h)).at 4 (v:=.int .u64 (x.start:Int)) rfl
 have g0:=b.at 0 (v:=.int .u64 (m:Int)) rfl
 have g1:=d.at 4 (v:=.int .u64 (x.start:Int)) rfl
 cases B with
 | true =>
   obtain⟨o,M,O⟩:=hid3 i b d
   clear i b d l
   go_wp2_with fail
   go_quiet (fail)
   go_wp2_with fail
   go_ret2
   exact⟨rfl,τ1,o.out.drews _⟩
 | false =>
   have af:m=x.start/\m≠0:=by
    rcases hm with h|h
    ·rw[HB.out] at h;cases h
    ·exact h
   obtain⟨e1,e2⟩:=af
   rw[<-e1] at f1 g1
   have e3:((m:Int)==0)=false:=beq_eq_false_iff_ne.2 (by omega)
   obtain⟨o,M,O⟩:=hid3 i b d
   clear i b d l
   go_wp2_with fail
   go_quiet (fail)
   go_wp2_with fail
   go_ret2
   exact⟨rfl,τ1,o.out.drews _⟩
structure BackI (w:World) (τ:Tags) (I:Ids) (bo:Nat->Nat) (X:List OneP) (next:Nat) (R:List RecP) (V:SlotV) (st:Nat) (x:OneP) (l k:List (Nat×ChangeP)) (m:Nat) (wr:World) (τr:Tags) (T:List RecP) (y:OneP) (l':List (Nat×ChangeP)) (V':SlotV) (st':Nat):Prop where
 step:Step w τ wr τr TyTag
 tz:TZ wr τr I bo (putX X y) next (R++T) V' st'
 txn:y.txn=x.txn
 state:y.state=x.state
 start:y.start=x.start
 run:RunC (R++T) y.undo l' m
 ch:y.ch=chOf (l'++k)
 ok:∀z∈l',ChgOk I.N z.2
 last:y.last<=1+(recsB (R++T)).length
 room:(recsB (R++T)).length+Qbf l'=(recsB R).length+Qbf l
 view:∀p t,undoV V' l' p t=undoV V l p t
 st:st'+l'.length<=st+l.length
def BackD (w:World) (τ:Tags) (I:Ids) (bo:Nat->Nat) (X:List OneP) (next:Nat) (R:List RecP) (V:SlotV) (st:Nat) (x:OneP) (l k:List (Nat×ChangeP)) (m:Nat) (e:Ending) (w':World):Prop :=
 e = .returned (.int .u16 0)/\∃τ' T y V' st',BackI w τ I bo X next R V st x l k m w' τ' T y [] V' st'
theorem BackI.chg {wr p:World} {i b:Tags} {q:Nat->Nat} {X:List OneP} {next:Nat} {x:OneP} {l k:List (Nat×ChangeP)} {m:Nat} {T:List RecP} {y:OneP} {e:List (Nat×ChangeP)} {s:SlotV} {d:Nat} {r:RecP}(h:BackI w τ I q X next R V st x l k m wr i T y ((y.undo,r.change)::e) s d) (E:RunC (R++T) r.prev e m)
 (F:Step wr i p b TyTag) (j:TZ p b I q (putX (putX X y) (y.undone (1+(recsB (R++T)).length) r.prev (chOf (e++k)))) next (R++T++[Qed r.change y r.prev]) (putV s r.change.page r.change.slot r.change.before) (d+1)) :
 BackI w τ I q X next R V st x l k m p b (T++[Qed r.change y r.prev]) (y.undone (1+(recsB (R++T)).length) r.prev (chOf (e++k))) e (putV s r.change.page r.change.slot r.change.before) (d+1):=by
 have hl:=Qif r.change y r.prev
 have o:=Qb0 (R++T) (Qed r.change y r.prev)
 rw[hl] at o
 rw[X0] at j o
 rw[Qgd X (show y.txn=(y.undone (1+(recsB (R++T)).length) r.prev (chOf (e++k))).txn from rfl)] at j
 have C:=h.room
 rw[Qcy] at C
 have B:=h.st
 rw[Y4] at B
 refine⟨h.step.trans F,j,h.txn,h.state,h.start,?_,rfl,fun z j=>h.ok z (Y2 _ j),?_,?_,h.view,by omega⟩
 ·have:=E.app [Qed r.change y r.prev]
  rw[X0] at this
  exact this
 ·show 1+(recsB (R++T)).length<=_
  rw[o];omega
 ·dsimp only at C
  rw[o];omega
theorem Qy3 {q:Nat->Nat} {X:List OneP} {next:Nat}(h:TZ w τ I q X next R V st) {x:OneP}(hx:x∈X) (hs:x.state=1) {l k:List (Nat×ChangeP)}{m:Nat}(Y:RunC R x.undo l m) (a6:x.ch=chOf (l++k)) (hk:∀z∈k,z.1<=m) (a7:∀z∈l,ChgOk I.N z.2) (hm:Marks x m) (s:x.last<=1+(recsB R).length) (hcap:(recsB R).length+Qbf l<=I.S*127) (hst:st+l.length<=1000000) (hN:I.N<=512) :
 Calls Tryz.prog 77 #[.pointer (some ⟨I.bm,0,none⟩),.int .u32 (x.txn:Int),.int .u64 (m:Int)] w (BackD w τ I q X next R V st x l k m):=by
 have B:=Qmy h.mgr hx hs m hm
 obtain⟨bx,C⟩:∃bx,q x.txn=bx:=⟨_,rfl⟩
 rw[C] at B
 obtain⟨a8,Hr,al,am,Hk,aa,an⟩:=hid7 h Y a7 a6 hk C B
 clear h Y a7 a6 hk C B
 go_enter Tryz.func77,Tryz.ntmps77
 go_wp2_with fail
 refine an.out.mono ?_
 rintro e w1 ⟨rfl,τ1,E⟩
 have ab:=a8.out.nil E
 have o:putX X x=X:=by
  have h1:∀u∈X,(fun y:OneP=>if y.txn=x.txn then x else y) u=id u:=fun u hu=>by
   by_cases e:u.txn=x.txn
   ·show (if u.txn=x.txn then x else u)=u
    rw[if_pos e]
    have hn:=a8.out.mgr.nodup
    have a1:=Qrg hn hx
    have a2:=Qrg hn hu
    rw[e] at a2
    rw[a1] at a2
    exact Option.some.inj a2
   ·exact if_neg e
  unfold putX
  rw[List.map_congr_left h1,List.map_id]
 have ac:BackI w τ I q X next R V st x l k m w1 τ1 [] x l V st:=by
  refine⟨E.mono (fun _ h=>h.elim),by rw[List.append_nil,o];exact ab,rfl,rfl,rfl,by rw[List.append_nil];exact Hr.out,am.out,al.out,by rw[List.append_nil];exact s,by rw[List.append_nil],fun _ _=>rfl,Z0 _⟩
 have ao:=Z2 ac
 clear ac E ab o
 go_wp2_with fail
 go_loopw [8] (fun a wr=>a = .int .u16 0/\∃F T y l' V' G,BackI w τ I q X next R V st x l k m wr F T y l' V' G) (fun _ wr=>Qfu wr bx 2)
 case atStart=>exact⟨rfl,τ1,_,_,_,_,_,ao.out⟩
 case round =>
  obtain⟨rfl,F,T,y,l',V',G,hi⟩:=hrel
  have Z:=Qge hx (x:=y) hi.txn.symm
  have d:=hi.txn
  have i:=hi.tz.undoCell Z
  rw[d,show q x.txn=bx from aa.out] at i
  have b:Qfu wr bx 2=y.undo:=Qfe i
  rcases hi.run.inv with ⟨rfl,ad⟩|⟨r,l2,Y,aq,hp,J,rfl⟩
  ·have hg:decide ((m:Int)<(y.undo:Int))=false:=decide_eq_false (by omega)
   have hg':¬m<y.undo:=by omega
   obtain⟨Hi,Hy,M,p,Hum⟩:=hid5 hi Z d b ad
   clear hi Z d b ad
   go_wp2_with fail
   go_ret
   exact⟨rfl,F,T,y,V',G,Hi.out⟩
  ·have hg:m<y.undo:=(hi.run.pos _ (List.mem_cons_self ..)).1
   have ae:=hi.st
   rw[Y4] at ae
   have af:=hi.room
   rw[Qcy] at af
   dsimp only at af
   have j:=Qke hi.tz Z Y (by omega) hN aq hp (hi.ok (y.undo,r.change) (by simp)) hi.last (l1:=chOf (l2++k)) (sz:=Qak r.change) (by rw[hi.ch,List.cons_append,Qh9]) (fun z hz=>by
    obtain⟨u,hu,rfl⟩:=Qj1 hz
    show u.1≠y.undo
    rcases List.mem_append.1 hu with hu|hu
    ·have:=(J.pos u hu).2
     omega
    ·have:=Hk.out u hu
     omega) (by omega)
   rw[d] at j
   have hg2:(m:Int)<(y.undo:Int):=by omega
   obtain⟨Hi,Hy,M,ag,Hr,p,av⟩:=hid7 hi Z d j Y b J
   clear hi Z d j Y b J
   go_wp2_with fail
   refine ag.out.mono ?_
   rintro e w3 ⟨rfl,aw,ah,ai⟩
   have O:=Hi.out.chg av.out ah ai
   have U:=O.tz.undoCell (Qge hx (x:=y.undone (1+(recsB (R++T)).length) r.prev (chOf (l2++k))) M.out.symm)
   rw[show (y.undone (1+(recsB (R++T)).length) r.prev (chOf (l2++k))).txn=x.txn from M.out,show q x.txn=bx from aa.out] at U
   have aj:Qfu w3 bx 2=r.prev:=Qfe U
   obtain⟨ax,ay⟩:=hid2 O aj
   clear O aj U ah ai
   go_wp2_with fail
   go_round
   case rel=>exact⟨rfl,aw,_,_,_,_,_,ax.out⟩
   case measure=>rw[ay.out,p.out];exact hp
theorem Good.flush {F:List Fr} {b:Nat->List Int}(h:Good N st L D F b) (k:Nat):Good N st (flL L k) (flD L D k) F b:=by
 obtain⟨i,p,q,o,r⟩:=Qjz L k
 have j:=(Qlm L k).1
 have d:=Qyt L D k
 have e:=fun n=>Qxy h.rise h.calm h.cap h.f0 k n
 refine⟨Qsl h.calm k,by rw[d.1];exact h.f1,by rw[d.2,o,r];exact h.f0,by rw[p,o];exact h.cap,Qz0 h.rise h.lasts k,Qxx h.rise k,by rw[i];exact h.base,fun n hn=>?_,fun n hn=>?_,h.frame,h.none,h.one,by rw[e];exact h.spare⟩
 ·obtain⟨s,y,l⟩:=h.page n hn
  refine⟨s,y,?_⟩
  rcases l with l|⟨x,z,m⟩
  ·exact .inl l
  ·exact .inr ⟨x,by rw[q];exact z,by rw[i];exact m⟩
 ·obtain⟨Q,B,C⟩:=h.home n hn
  exact⟨Q,B.flush (Z0 _) i j (e n),C⟩
theorem Jco {t:Tag}(h:WalTag t):¬PoolTag t/\¬Qai t:=by
 refine⟨fun q=>?_,fun q=>(Qi3 (.inr h)).1 q⟩
 rcases h with h|h
 ·exact Qbo h q
 ·exact Qbg q |>.1 h
theorem Jcl {bf bd:Nat} {z:Nat->Nat} {X:List OneP} {next:Nat} {H:PoolH} {F:List Fr} {s:Ck.Clk.St} {i:Nat->List Int}(h:TW w τ bm bl bp bf bd N z X next H L D F s i) (lsn:Nat) (m:lsn<18446744073709551616) :
 Calls Tryz.prog 38 #[.pointer (some ⟨bl,0,none⟩),.int .u64 (lsn:Int)] w fun e o=>e = .returned (.tuple #[])/\∃b k j,L.AtR lsn k j/\Step w τ o b WalTag/\TW o b bm bl bp bf bd N z X next H (flL L (k+(if j=true then 1 else 0))) (flD L D (k+(if j=true then 1 else 0))) F s i:=by
 have l:LogAt w τ bl bd L:=h.hbl▸h.pool.log
 refine(Qor l h.pool.dev h.good.rise h.good.cap h.good.f0 (h.good.calm.lim 700000) lsn m).mono ?_
 rintro e o ⟨rfl,k,j,p,b,q,r,d⟩
 exact⟨rfl,b,k,j,p,d,⟨⟨h.pool.pool.step d (fun g x y=>(Jco y).1 x),by rw[h.hbl];exact q,r⟩,h.mgr.step d (fun g x y=>(Jco y).2 x),h.good.flush _,h.clock,h.hn,h.hbl⟩⟩
