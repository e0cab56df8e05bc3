/-
 Transactions: Change.
-/
import Derived.Test.YtemacanaihaldaaGreatMTxI
import Derived.Test.YtemacanaihaldaaGreatMTxH
set_option maxRecDepth 100000
set_option maxHeartbeats 4000000
set_option linter.all false
namespace Go.Proofs.YtemacanaihaldaaGreat
open Go.RowKit
theorem SameLog.more {L M:LogM}(h:SameLog L M) (b:List Int):SameLog (L.more b) (M.more b) :=
 ⟨h.base,by show M.stream++b=L.stream++b;rw[h.stream],by show M.starts++[M.stream.length]=L.starts++[L.stream.length];rw[h.starts,h.stream],h.strips,h.firstS,h.lasts⟩
theorem Qsw {i k:Nat}(g:Tag) (b:PoolTag g) (h:TcTag i k g):g=tPg i:=by
 rcases h with h|h|h|h|h
 ·exact absurd b (fun q=>by
   rcases h with rfl|rfl|rfl <;> (rcases q with q|q|q|q|⟨j,q⟩ <;> simp[tLog,Qah,Qag,tPool,tFr,tWhere,tClk,tPg] at q))
 ·subst h;rcases b with q|q|q|q|⟨j,q⟩ <;> simp[tOneT,tPool,tFr,tWhere,tClk,tPg] at q
 ·subst h;rcases b with q|q|q|q|⟨j,q⟩ <;> simp[tChg,tPool,tFr,tWhere,tClk,tPg] at q
 ·exact h
 ·subst h;rcases b with q|q|q|q|⟨j,q⟩ <;> simp[tTry,tPool,tFr,tWhere,tClk,tPg] at q
theorem tctag_mgr {i k:Nat}(g:Tag) (b:Qai g) (h:TcTag i k g):g=tOneT k\/g=tChg k:=by
 rcases h with h|h|h|h|h
 ·rcases h with rfl|rfl|rfl <;> simp[Qai,tLog,Qah,Qag] at b
 ·exact .inl h
 ·exact .inr h
 ·subst h;simp[Qai,tPg] at b
 ·subst h;simp[Qai,tTry] at b
theorem Qus {i k:Nat}(g:Tag) (h:TcTag i k g):¬DevTag g/\g≠tData:=by
 rcases h with h|h|h|h|h
 ·exact⟨Qau g h,fun e=>Qj6 (e▸.inl h)⟩
 all_goals (subst h;refine⟨?_,by simp[tOneT,tChg,tPg,tTry,tData]⟩;simp[DevTag,tOneT,tChg,tPg,tTry])
theorem Qr1 {i k:Nat}(g:Tag) (h:TcTag i k g):TxTag g:=by
 rcases h with h|h|h|h|h
 ·exact .inl (.inr (.inl h))
 ·subst h;exact .inr (.inl (by simp[Qai,tOneT]))
 ·subst h;exact .inr (.inl (by simp[Qai,tChg]))
 ·subst h;exact .inl (.inl (Qi4 i))
 ·exact .inr (.inr h)
theorem Qup {w o:World}{τ d:Tags}{bm bl bp bf bd N:Nat}{bo:Nat->Nat}{X:List OneP}{next:Nat}{H:PoolH}{L:LogM}{D:Dev}{F:List Fr}{s:Ck.Clk.St}{E:Nat->List Int}{n i b k:Nat}{f:Fr}(h:TG w τ bm bl bp bf bd N bo X next H L D F s E n i b f) (a8:n<4294967296)
 (m:Step w τ o d (TcTag i k)) {Q C:List Int} (hQ:PageAt o d (tPg i) b Q) (hL:LogAt o d bl bd (L.more C)) {x y:OneP} (hy:y∈X) (e:y.txn=x.txn) (hk:x.txn=k) (hx:OneAt o d (bo x.txn) x)
 (aa:Sound Q) (ab:pageNumber Q=n) (ac:0<C.length) (G:L.stream.length+C.length<=127*L.strips) {ls:Nat} (p:L.base+L.stream.length=ls) (I:ls<18446744073709551616) :
 Calls Tryz.prog 16 #[.pointer (some ⟨bp,0,none⟩),.int .u32 (n:Int),.int .u64 (ls:Int)] o fun e w2=>e = .returned (.bool true)/\∃l F' s',TW w2 l bm bl bp bf bd N bo (putX X x) next H (L.more C) D F' s' (updC E n (layN Q 0 (leB ls 8)))/\Step o d w2 l PWTag:=by
 subst hk
 have J:=(Z4 h.at_).1
 have hh:s.h<s.n:=by
  obtain⟨bf,hp,_⟩:=h.pool.pool.ck.is
  exact hp.hh
 obtain⟨h1,h2,h3,h4⟩:=h.held.put hh
 have hbase:=h.good.base
 have ad:=h.pool.pool.setPageS h.at_ h.pg m (fun g M hS=>Qsw g M hS) hQ
 have q:PoolW o d bp bf bd H (L.more C) D (F.set i {f with pg:=some (b,Q)}) s:=⟨ad,by rw[h.hbl];exact hL,h.pool.dev.step m (fun g M=>Qus g M)⟩
 have af:=h.mgr.setOne m hy e (fun g M hS=>tctag_mgr g M hS) hx
 have O:(F.set i {f with pg:=some (b,Q)})[i]?=some {f with pg:=some (b,Q)}:=List.getElem?_set_self J
 obtain⟨nv,r⟩:∃nv,(if f.first=0 then ls else f.first)=nv:=⟨_,rfl⟩
 have R:0<nv:=by rw[<-r];split <;> omega
 have:=Qzh q.pool n ls a8 (i:=i) ((Qa6 q.pool.one n i).2 ⟨_,O,Qd7.2 ⟨b,Q,rfl,h.fn⟩⟩) O rfl h3 h1 (by omega) I (nv:=nv) r
 rw[h2] at this
 refine this.mono ?_
 rintro e w2 ⟨rfl,l,z,U⟩
 rw[List.set_set] at z
 have Y:=h.good.put h.at_ h.pg aa (by rw[ab,h.fn]) C ac G (by rw[p,show (2:Nat) ^ 64=18446744073709551616 from by decide];exact I) R (by rw[<-r];split;exact .inl p.symm;exact .inr rfl)
 rw[p,h.fn] at Y
 have Z:Step o d w2 l PWTag:=U.mono (fun _ h=>.inl h)
 rw[h.fn] at z
 refine⟨rfl,l,_,_,⟨q.turn z U,af.step Z (fun t ht hq=>(Qi3 hq).1 ht),Y,h4 _ (by rw[Y1]) (fun j f' g' B ag=>?_),h.hn,h.hbl⟩,Z⟩
 rcases set_get J ag with ⟨rfl,rfl⟩|⟨_,a1⟩
 ·rw[h.at_] at B
  cases B
  rw[h.pg];rfl
 ·rw[B] at a1
  cases a1
  rfl
def Qz9 (w:World) (τ:Tags) (bm bl bp bf bd N:Nat) (bo:Nat->Nat) (X:List OneP) (next:Nat) (st:Nat) (L:LogM) (cur:Nat->List Int) (x:OneP) (n:Nat) (c:ChangeP) (e:Ending) (w':World):Prop :=
 ∃τ' H' L' D' F' s',H'.st<=st+1/\Step w τ w' τ' TxTag /\
 ((c.has=false/\c.had=false/\e = .returned (.int .u16 0)/\TW w' τ' bm bl bp bf bd N bo X next H' L' D' F' s' cur/\SameLog L L') \/
 ((c.has=true\/c.had=true)/\¬L.stream.length+Qak c+(resv X+Qak c)<=L.strips*127/\e = .returned (.int .u16 80)/\TW w' τ' bm bl bp bf bd N bo X next H' L' D' F' s' cur/\SameLog L L') \/
 ((c.has=true\/c.had=true)/\L.stream.length+Qak c+(resv X+Qak c)<=L.strips*127/\e = .returned (.int .u16 0)/\∃Q,DoneP (cur n) Q c.slot c.now/\TW w' τ' bm bl bp bf bd N bo (putX X (x.changed (L.base+L.stream.length) (Qak c))) next H' L' D' F' s' (updC cur n (layN Q 0 (leB (L.base+L.stream.length) 8)))/\SameLog (L.more (encR (Qcp c x))) L'))
theorem Quo {w:World}{τ:Tags}{bm bl bp bf bd N:Nat}{bo:Nat->Nat}{X:List OneP}{next:Nat}{H:PoolH}{L:LogM}{D:Dev}{F:List Fr}{s:Ck.Clk.St}{l:Nat->List Int}(h:TW w τ bm bl bp bf bd N bo X next H L D F s l) (b5:H.st+1<18446744073709551616) {x:OneP}(hx:x∈X) (hs:x.state=1) (n:Nat) (hn:n<N) (hN:N<=512) (I:L.starts.length<=100000) (a6:x.last<18446744073709551616) (b6:x.ch.length<1000) (af:Small (l n)) (b7:L.base+L.stream.length<18446744073709551616)
 (sl:Nat) (ag:sl<12) (has:Bool) {pd:Option Addr} {cd:Nat} {m:List Int} (hd:Bytes w τ tData (.slice pd m.length cd) m) (b8:m.length<=4) (b9:0<m.length) :
 Calls Tryz.prog 75 #[.pointer (some ⟨bm,0,none⟩),.int .u32 (x.txn:Int),.int .u32 (n:Int),.int .i64 (sl:Int),.bool has,.slice pd m.length cd] w (Qz9 w τ bm bl bp bf bd N bo X next H.st L l x n (chgOf n (l n) sl has m)):=by
 have hlow:=h.mgr.low x hx
 have hnx:=h.mgr.nx
 have hr:=Qju h.mgr hx hs x.txn rfl (by omega)
 obtain⟨ba,ho,-⟩:=h.mgr.is
 have c1:=ho.at 1 (v:=.pointer (some ⟨bp,0,none⟩)) rfl
 have Y:=Qr0 h b5 n hn
 have Z:=(h.good.page n hn).1
 have a1:=(h.good.page n hn).2.1
 obtain⟨H_h,Hr,ah,Hd,bb,ai,aj⟩:=hid7 h hr Y hd af Z a1
 clear h hr Y hd af Z a1 ho
 go_enter Tryz.func75,Tryz.ntmps75
 go_wp2_with fail
 refine Hr.out.mono ?_
 rintro e w1 ⟨rfl,rfl⟩
 go_wp2_with fail
 refine ah.out.mono ?_
 rintro e w1 ⟨b,rfl,τ1,H1,L1,D1,F1,s1,i,f,o,C,B,a7⟩
 have ak:=Hd.out.step a7 Qhd
 have J:=Qt4 o.mgr (o.hbl▸o.pool.log) hx (by rw[B.starts];exact I) a6 b6 o.page ai.out bb.out n (by omega) sl ag has ak b8 b9
 have al:(encR (Qcp (chgOf n (l n) sl has m) x)).length=Qak (chgOf n (l n) sl has m):=Qdt _ _
 have a8:0<Qak (chgOf n (l n) sl has m):=by unfold Qak;omega
 have hcsl:(chgOf n (l n) sl has m).slot=sl:=rfl
 generalize chgOf n (l n) sl has m=c at *
 obtain⟨ba1,am,-⟩:=o.mgr.is
 have c11:=am.at 1 (v:=.pointer (some ⟨bp,0,none⟩)) rfl
 clear am
 have aa:=B.base
 have ab:=B.stream
 have an:=B.strips
 have ao:Step w τ w1 τ1 TxTag:=a7.mono (fun _ h=>.inl h)
 have e3:=o.good.base
 obtain⟨ls,M⟩:∃ls,L1.base+L1.stream.length=ls:=⟨_,rfl⟩
 have ap:ls<18446744073709551616:=by rw[<-M,aa,ab];exact b7
 unfold Qwr at J
 rw[M] at J
 obtain⟨bg,O,ac,ad,bh,ae,aq,ar⟩:=hid8 J o B ao aa ab an M
 clear J o B ao aa ab an M a7 ak
 go_wp2_with fail
 refine bg.out.mono ?_
 rintro e w2 (⟨q1,q2,rfl,R,k⟩|⟨q1,q2,rfl,R,k⟩|⟨q1,q2,rfl,Q,R,U,ax,ay,az,k⟩)
 ·have z:=O.out.step k (fun _ h=>h.elim)
  have d:=Qrz z (by omega)
  obtain⟨b0,p,-⟩:=z.mgr.is
  have b1:=p.at 1 (v:=.pointer (some ⟨bp,0,none⟩)) rfl
  clear p
  have j:=ad.out.trans (k.mono (T:=TxTag) (fun _ h=>h.elim))
  have r:=Z2 d
  have y:=Z2 j
  clear d j k z
  go_wp2_with fail
  refine r.out.mono ?_
  rintro e w3 ⟨rfl,s3,E,G⟩
  go_wp2_with fail
  go_ret
  exact⟨R,H1,L1,D1,F1,s3,C,y.out.trans (G.mono (fun _ h=>.inl h)),.inl ⟨q1,q2,rfl,E,ac.out⟩⟩
 ·have z:=O.out.step k (fun g h=>by subst h;exact⟨fun q=>(Qi3 q).2 rfl,by simp[Qai,tTry],by simp[tTry,tData]⟩)
  have d:=Qrz z (by omega)
  obtain⟨b0,p,-⟩:=z.mgr.is
  have b1:=p.at 1 (v:=.pointer (some ⟨bp,0,none⟩)) rfl
  clear p
  have j:=ad.out.trans (k.mono (T:=TxTag) (fun _ h=>.inr (.inr h)))
  have r:=Z2 d
  have y:=Z2 j
  clear d j k z
  go_wp2_with fail
  refine r.out.mono ?_
  rintro e w3 ⟨rfl,s3,E,G⟩
  go_wp2_with fail
  go_ret
  exact⟨R,H1,L1,D1,F1,s3,C,y.out.trans (G.mono (fun _ h=>.inl h)),.inr (.inl ⟨q1,by rw[<-ae.out,<-aq.out];exact q2,rfl,E,ac.out⟩)⟩
 ·have d:=Qup O.out (by omega) k ax ay hx (x:=x.changed ls (Qak c)) rfl rfl az U.sound (by rw[U.num];exact aj.out) (by rw[al];exact a8) (by rw[al];omega) ar.out ap
  obtain⟨b0,p,-⟩:=O.out.mgr.is
  have b1:=(p.step k (fun q=>by rcases tctag_mgr _ (by simp[Qai,tMgr]) q with q|q <;> simp[tMgr,tOneT,tChg] at q)).at 1 (v:=.pointer (some ⟨bp,0,none⟩)) rfl
  clear p
  have j:=ad.out.trans (k.mono (T:=TxTag) Qr1)
  have r:=Z2 d
  have y:=Z2 j
  have bi:=Z2 U
  clear d j U k ax ay az
  go_wp2_with fail
  refine r.out.mono ?_
  rintro e w3 ⟨rfl,bj,F3,s3,E,G⟩
  go_wp2_with fail
  go_ret
  exact⟨bj,H1,_,D1,F3,s3,C,y.out.trans (G.mono (fun _ h=>.inl h)),.inr (.inr ⟨q1,by rw[<-ae.out,<-aq.out];exact q2,rfl,Q,bi.out,by rw[<-bh.out,<-ae.out,ar.out];exact E,ac.out.more _⟩)⟩
end Go.Proofs.YtemacanaihaldaaGreat
namespace Go.Proofs.YtemacanaihaldaaGreat
open Go.RowKit Go.Maps
def Qic (n:Nat):RecP:=⟨1,n,0,0,noChange,[],[]⟩
theorem Qm5 (n:Nat):(encR (Qic n)).length=27:=by
 rw[Qbh]
 rfl
def begOne (n lsn:Nat):OneP:=⟨n,lsn,lsn,1,lsn,[]⟩
def boPut (bo:Nat->Nat) (n b:Nat):Nat->Nat:=fun k=>if k=n then b else bo k
def Jbc (w:World) (τ:Tags) (bm bl bp bf bd N:Nat) (bo:Nat->Nat) (X:List OneP) (next:Nat) (H:PoolH) (L:LogM) (D:Dev) (F:List Fr) (s:Ck.Clk.St) (cur:Nat->List Int) (e:Ending) (w':World):Prop :=
 ∃τ',Step w τ w' τ' TxTag /\
 ((¬L.stream.length+27+(resv X+54)<=L.strips*127/\e = .returned (.tuple #[.int .u32 0,.int .u16 80])/\TW w' τ' bm bl bp bf bd N bo X next H L D F s cur) \/
 (L.stream.length+27+(resv X+54)<=L.strips*127/\e = .returned (.tuple #[.int .u32 (next:Int),.int .u16 0])/\∃nb,TW w' τ' bm bl bp bf bd N (boPut bo next nb) (X++[begOne next (L.base+L.stream.length)]) (next+1) H (L.more (encR (Qic next))) D F s cur))
theorem Qhn {w:World}{τ:Tags}{bm:Nat}{g:Tag}{N:Nat}{f:Nat->Option Nat}(l:PMap w τ bm g N f) (p:N<=100000) (k v:Nat) (hk:k<N)
 {ops:Array Oper} {rest:List Oper} {o:Oper} {a:Act} {Q:Exit->Act->World->Prop} (e:o.guard=none) (m x y:Operand)
 (i:o.op = .mapUpdate 169 m x y) (q:a.eval m = .map (some bm)) (r:a.eval x = .int .u32 (k:Int)) (s:a.eval y = .pointer (some ⟨v,0,none⟩))
 (h:∀d,PMap d τ bm g N (updO f k (some v))->Step w τ d τ (fun t=>t=g)->wpList Tryz.prog ops Q rest (a.put o.dst undef) d):wpList Tryz.prog ops Q (o::rest) a w:=by
 refine wpList_plain e fun K' j=>?_
 obtain⟨d,b,h1,h2⟩:=l.store k v p hk
 unfold Oper.wp
 simp[execOp,i,q,r,s,b,Result.andThen]
 exact j _ _ (h _ h1 h2)
theorem Qud (b:Nat->Nat) (X:List OneP) (n lsn nb:Nat) (hno:∀x∈X,x.txn≠n):updO (fOf b X) n (some nb)=fOf (boPut b n nb) (X++[begOne n lsn]):=by
 funext k
 unfold updO fOf boPut
 by_cases e:k=n
 ·subst e
  have:k∈OneP.ids (X++[begOne k lsn]):=List.mem_map.2 ⟨begOne k lsn,by simp,rfl⟩
  rw[if_pos rfl,if_pos this,if_pos rfl]
 ·rw[if_neg e]
  have:k∈OneP.ids (X++[begOne n lsn])↔k∈OneP.ids X:=by
   unfold OneP.ids
   rw[List.map_append,List.mem_append]
   refine⟨fun h=>h.elim id (fun h=>?_),.inl⟩
   have:k=n:=by simpa [begOne] using h
   exact absurd this e
  by_cases hk:k∈OneP.ids X
  ·rw[if_pos hk,if_pos (this.2 hk),if_neg e]
  ·rw[if_neg hk,if_neg (fun h=>hk (this.1 h))]
theorem Qwh {w o:World}{τ i:Tags}{bm bl bp:Nat}{j:Nat->Nat}{X:List OneP}{next:Nat}(h:MgrAt w τ bm bl bp j X next) (hnx:next<=899) (hX:X.length<64) {lsn nb r:Nat}(s:Own o i bm tMgr 171 [.pointer (some ⟨bl,0,none⟩),.pointer (some ⟨bp,0,none⟩),.map (some r),.int .u32 ((next+1:Nat):Int)]) (z:PMap o i r tAllM 1000 (updO (fOf j X) next (some nb)))
 {S:Tag->Prop} (m:Step w τ o i S) (B:∀g,S g->g=tMgr\/g=tAllM\/¬Qai g) (p:Own o i nb (tOneT next) 176 ((begOne next lsn).cells (.slice none 0 0))):MgrAt o i bm bl bp (boPut j next nb) (X++[begOne next lsn]) (next+1):=by
 have k:∀x∈X,x.txn≠next:=fun x p e=>by have:=h.low x p;omega
 refine⟨⟨r,s,by rw[<-Qud j X next lsn nb k];exact z⟩,fun x l=>?_,?_,fun x l=>?_,by omega,by rw[Z6];show X.length+1<=64;omega⟩
 ·rcases List.mem_append.1 l with h1|h1
  ·have e:boPut j next nb x.txn=j x.txn:=if_neg (k x h1)
   rw[e]
   have no:∀g,Qai g->g≠tMgr->g≠tAllM->¬S g:=fun g a b c d=>by
    rcases B g d with q|q|q
    ·exact b q
    ·exact c q
    ·exact q a
   exact(h.ones x h1).step m (no _ (by simp[Qai,tOneT]) (by simp[tOneT,tMgr]) (by simp[tOneT,tAllM])) (no _ (by simp[Qai,tChg]) (by simp[tChg,tMgr]) (by simp[tChg,tAllM]))
  ·rw[Y8 h1]
   have e:boPut j next nb (begOne next lsn).txn=nb:=if_pos rfl
   rw[e]
   exact⟨⟨_,p,NS.nil _ _ _ _ _ _ _⟩,Z9 _,fun y C=>by cases C⟩
 ·unfold OneP.ids
  rw[List.map_append,List.nodup_append]
  refine⟨h.nodup,by simp,fun a D b E e=>?_⟩
  obtain⟨x,p,rfl⟩:=List.mem_map.1 D
  have:b=next:=by simpa [begOne] using E
  exact k x p (e.trans this)
 ·rcases List.mem_append.1 l with h1|h1
  ·have:=h.low x h1;omega
  ·rw[Y8 h1];show next<next+1;omega
theorem Good.more {N st:Nat}{L:LogM}{D:Dev}{F:List Fr}{d:Nat->List Int}(h:Good N st L D F d) (b:List Int) (j:0<b.length) (i:L.stream.length+b.length<=127*L.strips):Good N st (L.more b) D F d where
 calm:=h.calm
 f1:=h.f1
 f0:=h.f0
 cap:=by show (L.stream++b).length<=127*L.strips;rw[Z6];exact i
 lasts:=by show L.lasts<=(L.stream++b).length;rw[Z6];have:=h.lasts;omega
 rise:=h.rise.more b j
 base:=h.base
 page:=fun n hn=>⟨(h.page n hn).1,(h.page n hn).2.1,(h.page n hn).2.2.imp id (fun ⟨x,k,e⟩=>⟨x,List.mem_append_left _ k,e⟩)⟩
 home:=fun n hn=>h.home n hn
 frame:=h.frame
 none:=h.none
 one:=h.one
 spare:=h.spare
theorem TW.logged {w o:World}{τ i:Tags}{S:Tag->Prop}{bm bl bp bf bd N:Nat}{y j:Nat->Nat}{X p:List OneP}{next d:Nat}{H:PoolH}{L:LogM}{D:Dev}{F:List Fr}{s:Ck.Clk.St}{k:Nat->List Int}(h:TW w τ bm bl bp bf bd N y X next H L D F s k) (m:Step w τ o i S) (r:∀g,S g->LogTag g\/Qai g) {b:List Int}(hl:LogAt o i bl bd (L.more b)) (z:0<b.length) (l:L.stream.length+b.length<=127*L.strips) (B:MgrAt o i bm bl bp j p d):TW o i bm bl bp bf bd N j p d H (L.more b) D F s k:=by
 refine⟨⟨h.pool.pool.step m (fun g x q=>?_),by rw[h.hbl];exact hl,h.pool.dev.step m (fun g q=>?_)⟩,B,h.good.more b z l,h.clock,h.hn,h.hbl⟩
 ·rcases r g q with q|q
  ·exact Qbo q x
  ·exact(Qi3 (.inl x)).1 q
 ·rcases r g q with q|q
  ·exact⟨Qau g q,fun e=>Qj6 (e▸.inl q)⟩
  ·refine⟨fun hd=>?_,fun e=>?_⟩
   ·unfold Qai at q
    rcases hd with hd|hd|hd|hd <;> omega
   ·subst e
    simp[Qai,tData] at q
theorem Qu5 {w:World}{τ:Tags}{bm bl bp:Nat}{e:Nat->Nat}{X:List OneP}{next:Nat}(b:MgrAt w τ bm bl bp e X next):resv X<=70000000:=by
 rw[Qqn b.nodup]
 have h1:=Qki (Qh1 X) 1000054 (OneP.ids X) (fun k hk=>by
  obtain⟨y,d,rfl⟩:=List.mem_map.1 hk
  rw[Qgk b.nodup d];exact(b.ones y d).need_le)
 have h2:(OneP.ids X).length<=64:=by have:=b.many;unfold OneP.ids;rw[Y0];exact this
 have h3:=Y7 1000054 h2
 omega
theorem Qwx {w:World}{τ:Tags}{bm bl bp bf bd N:Nat}{bo:Nat->Nat}{X:List OneP}{next:Nat}{H:PoolH}{L:LogM}{D:Dev}{F:List Fr}{s:Ck.Clk.St}{av:Nat->List Int}(h:TW w τ bm bl bp bf bd N bo X next H L D F s av) (bw:next<=899) (hX:X.length<64) (z:L.starts.length<=100000) (h64:L.base+L.stream.length<18446744073709551616) :
 Calls Tryz.prog 22 #[.pointer (some ⟨bm,0,none⟩)] w (Jbc w τ bm bl bp bf bd N bo X next H L D F s av):=by
 obtain⟨ba,ho,hp⟩:=h.mgr.is
 have c0:=ho.at 0 (v:=.pointer (some ⟨bl,0,none⟩)) rfl
 have c1:=ho.at 1 (v:=.pointer (some ⟨bp,0,none⟩)) rfl
 have c2:=ho.at 2 (v:=.map (some ba)) rfl
 have c3:=ho.at 3 (v:=.int .u32 (next:Int)) rfl
 have Z:∀x∈X,x.txn≠next:=fun x hx e=>by have:=h.mgr.low x hx;omega
 have I:=hp.len (by omega) h.mgr.nodup (fun k=>Qri k) 3
 have ak:=hp.look next (by omega)
 rw[Qvz Z] at ak
 have al:(OneP.ids X).length=X.length:=by unfold OneP.ids;rw[Y0]
 rw[al] at I
 obtain⟨nX,am⟩:∃n,X.length=n:=⟨_,rfl⟩
 rw[am] at I al
 have hX2:nX<64:=by omega
 change _=Result.ok (Value.pointer none) w at ak
 have p:Step w τ w.drew τ nil:=(Step.refl w τ nil).drew
 have r:=(hp.step p (fun h=>h)).len (by omega) h.mgr.nodup (fun k=>Qri k) 3
 have B:=(hp.step p (fun h=>h)).look next (by omega)
 rw[Qvz Z] at B
 change _=Result.ok (Value.pointer none) w.drew at B
 rw[al] at r
 have hge:decide ((64:Int)<=(nX:Int))=false:=decide_eq_false (by omega)
 have hge':¬(64<=nX):=by omega
 have hn1:((next:Int)==4294967295)=false:=beq_eq_false_iff_ne.2 (by omega)
 have bz:w.drew.cell? ⟨bm,2,none⟩=some (.map (some ba))/\w.drew.cell? ⟨bm,3,none⟩=some (.int .u32 (next:Int))/\(Builtin.len_ #[169] 3 #[.map (some ba)]).run Tryz.prog w.drew = .ok (.int .i64 (nX:Int)) w.drew/\(Instr.lookup 169 (.map (some ba)) (.int .u32 (next:Int)) false).run Tryz.prog w.drew = .ok (.pointer none) w.drew:=⟨ho.drew.at 2 rfl,ho.drew.at 3 rfl,r,B⟩
 obtain⟨ax,Ho,Hp,Hno,HX,HnX⟩:=hid6 h ho hp Z hX am
 clear h ho hp Z hX am
 go_enter Tryz.func22,Tryz.ntmps22
 go_wp2_with fail
 refine Qaf (S:=fun W:World=>W.cell? ⟨bm,2,none⟩=some (.map (some ba))/\W.cell? ⟨bm,3,none⟩=some (.int .u32 (next:Int))/\(Builtin.len_ #[169] 3 #[.map (some ba)]).run Tryz.prog W = .ok (.int .i64 (nX:Int)) W/\(Instr.lookup 169 (.map (some ba)) (.int .u32 (next:Int)) false).run Tryz.prog W = .ok (.pointer none) W) (by kernel_rfl) ?_
 refine tk0 [0,1,2,3,4,5,6] ?_
 iterate 7
  refine tks (v:=?_) rfl (Or.inl ⟨by rfl,?_⟩) (by assumption) ?_
  rotate_left
  ·intro w d;(try dsimp only at d);go_simp
   all_goals with_reducible rfl
  try simp only[Act.put,lz1,lz2,lz3]
 refine tk9 ?_
 try simp only[lz4,lz5,lz6,lz1,lz2,lz3]
 refine tk0 [7,8,9,10,11,12,13] ?_
 iterate 7
  refine tks (v:=?_) rfl (Or.inl ⟨by rfl,?_⟩) (by assumption) ?_
  rotate_left
  ·intro w d;(try dsimp only at d);go_simp
   all_goals with_reducible rfl
  try simp only[Act.put,lz1,lz2,lz3]
 refine tk9 ?_
 try simp only[lz4,lz5,lz6,lz1,lz2,lz3]
 refine tk0 [14,15,16,17,18,19,20,21] ?_
 iterate 8
  refine tks (v:=?_) rfl (Or.inl ⟨by rfl,?_⟩) (by assumption) ?_
  rotate_left
  ·intro w d;(try dsimp only at d);go_simp
   all_goals with_reducible rfl
  try simp only[Act.put,lz1,lz2,lz3]
 refine tk9 ?_
 try simp only[lz4,lz5,lz6,lz1,lz2,lz3]
 refine tk0 [22,23,24] ?_
 iterate 3
  refine tks (v:=?_) rfl (Or.inl ⟨by rfl,?_⟩) (by assumption) ?_
  rotate_left
  ·intro w d;(try dsimp only at d);go_simp
   all_goals with_reducible rfl
  try simp only[Act.put,lz1,lz2,lz3]
 refine tk9 ?_
 refine Qad (by kernel_rfl) ?_ _
 clear bz I ak r B c0 c1 c2 c3
 have a1:=ax.out.nil p
 have J:=Ho.out.step p (fun h=>h)
 have ay:=Hp.out.step p (fun h=>h)
 generalize w.drew=w1 at *
 have a6:Step w1 τ w1.drew τ nil:=(Step.refl w1 τ nil).drew
 have az:=Qde (a1.mgr.nil a6)
 have b0:=Qu5 a1.mgr
 have c0:=J.at 0 (v:=.pointer (some ⟨bl,0,none⟩)) rfl
 have c3:=J.at 3 (v:=.int .u32 (next:Int)) rfl
 have c4:w1.drew.cell? ⟨bm,0,none⟩=some (.pointer (some ⟨bl,0,none⟩)):=(J.step a6 (fun h=>h)).at 0 rfl
 have hadd:IntKind.u64.wrap ((resv X:Int)+54)=(resv X:Int)+54:=by
  have:=Qer (a:=resv X) (b:=54) (by omega)
  rw[X3] at this
  exact this
 obtain⟨c5,c6,c7,c8,c9,b1,ca⟩:=hid7 a1 J ay a6 az p b0
 clear a1 J ay a6 az p b0 ax Ho Hp
 go_wp2_with fail
 refine Qaf (S:=fun W:World=>W.cell? ⟨bm,0,none⟩=some (.pointer (some ⟨bl,0,none⟩))) (by kernel_rfl) ?_
 refine tk0 [0,1,2,3,4,5,6] ?_
 iterate 7
  refine tks (v:=?_) rfl (Or.inl ⟨by rfl,?_⟩) (by assumption) ?_
  rotate_left
  ·intro w d;(try dsimp only at d);go_simp
   all_goals with_reducible rfl
  try simp only[Act.put,lz1,lz2,lz3]
 refine tk9 ?_
 try simp only[lz4,lz5,lz6,lz1,lz2,lz3]
 refine tk1 7 rfl fun K j=>?_
 go_simp
 go_at_call 30
 refine c9.out.mono ?_
 rintro e w2 ⟨rfl,T2,b2⟩
 have M:=c8.out.trans b2
 have an:=c6.out.step M (fun h=>h)
 have b3:=c5.out.nil M
 have b4:=c7.out.step M (fun h=>h)
 have cc:w2.cell? ⟨bm,0,none⟩=some (.pointer (some ⟨bl,0,none⟩)):=an.at 0 rfl
 obtain⟨b5,O,cd,b6⟩:=hid4 an b3 b4 M
 clear an b3 b4 M b2 c4
 refine j.out _ _ (fun _=>cc) ?_
 clear j K
 refine tk (i:=8) (v:=?_) rfl (Or.inl ⟨by rfl,?_⟩) (by assumption) ?_
 rotate_left
 ·intro w d;(try dsimp only at d);go_simp
  all_goals with_reducible rfl
 try simp only[Act.put,lz1,lz2,lz3]
 try simp only[lz4,lz5,lz6,lz1,lz2,lz3]
 have a7:RecI w2 T2 (.agg #[.int .u8 1,.int .u32 (next:Int),.int .u64 0,.int .u64 0,.int .u32 0,.int .u16 0,.bool false,.bool false,.slice none 0 0,.slice none 0 0,.slice none 0 0,.slice none 0 0]) (Qic next):=⟨⟨none,0,none,0,none,0,none,0,tBox,tBox,0,rfl,Bytes.empty _ _ _,Bytes.empty _ _ _,NS.nil _ _ _ _ _ _ _,NS.nil _ _ _ _ _ _ _,by simp[WrT,tBox,tWr,tWb],by simp[WrT,tBox,tWr,tWb]⟩,by show 1<256;omega,by show next<4294967296;omega,by show 0<18446744073709551616;omega,by show 0<18446744073709551616;omega,by show 0<4294967296;omega,by show 0<65536;omega⟩
 have af:mayB (Qic next)=true:=by rfl
 have R:=Qm5 next
 have b7:=Z2 R
 have C:LogAt w2 T2 bl bd L:=O.out.hbl▸O.out.pool.log
 have ce:resv X+54<18446744073709551616:=by have:=ca.out;omega
 by_cases l:L.stream.length+27+(resv X+54)<=L.strips*127
 ·have y:=Qi0 C z a7 af (by rw[R];omega) (fun h=>by cases h) (resv X+54) (by rw[R];exact l)
  rw[X3] at y
  have ao:=Z2 y
  clear y a7 C
  refine tk1 9 rfl fun K j=>?_
  go_simp
  go_at_call 80
  refine ao.out.mono ?_
  rintro e w3 ⟨rfl,T3,b9,m⟩
  obtain⟨lsn,U⟩:∃lsn,L.base+L.stream.length=lsn:=⟨_,rfl⟩
  rw[U]
  have ap:=b5.out.step m (by simp[LogTag,tMgr,tLog,Qah,Qag])
  have bb:=cd.out.step m (by simp[LogTag,tAllM,tLog,Qah,Qag])
  have G:w3.cell? ⟨bm,0,none⟩=some (.pointer (some ⟨bl,0,none⟩)):=ap.at 0 rfl
  obtain⟨bc,cf,cg,aq,be⟩:=hid5 ap bb b9 m U
  clear ap bb b9 m U
  refine j.out _ _ (fun _=>G) ?_
  clear j K
  refine tk0 [10,11,12] ?_
  iterate 3
   refine tks (v:=?_) rfl (Or.inl ⟨by rfl,?_⟩) (by assumption) ?_
   rotate_left
   ·intro w d;(try dsimp only at d);go_simp
    all_goals with_reducible rfl
   try simp only[Act.put,lz1,lz2,lz3]
  refine tk9 ?_
  try simp only[lz4,lz5,lz6,lz1,lz2,lz3]
  refine tk1 13 rfl fun K j=>?_
  go_simp
  refine j.out _ _ (fun _=>G) ?_
  clear j K
  refine tk1 14 rfl fun K j=>?_
  go_simp
  refine j.out _ _ (fun h=>absurd h (by decide +kernel)) ?_
  clear j K
  refine Qad (by kernel_rfl) ?_ _
  clear G c0 c3
  have c2:=bc.out.at 2 (v:=.map (some ba)) rfl
  have aa:=(Step.refl w3 T3 nil).alloc (.cells #[.int .u32 (next:Int),.int .u64 (lsn:Int),.int .u64 (lsn:Int),.int .u8 1,.int .u64 (lsn:Int),.slice none 0 0] 176) (tOneT next)
  have bg:=Own.born w3 T3 (tOneT next) 176 #[.int .u32 (next:Int),.int .u64 (lsn:Int),.int .u64 (lsn:Int),.int .u8 1,.int .u64 (lsn:Int),.slice none 0 0]
  have bh:=cf.out.step aa (fun h=>h)
  have bi:=bc.out.step aa (fun h=>h)
  generalize T3.put w3.heap.size (tOneT next)=T4 at *
  have hadd32:IntKind.u32.wrap ((next:Int)+1)=(next:Int)+1:=by simp[IntKind.wrap,IntKind.bits,IntKind.signed];omega
  obtain⟨ch,ci,cj,ck⟩:=hid4 aa bg bh bi
  clear aa bg bh bi
  go_wp2_with (at_mapUpdate;go_loud (refine Qhn cj.out (by omega) next w3.heap.size (by omega) rfl _ _ _ rfl rfl rfl rfl ?_;intro w5 bj ab;have Y:=ck.out.step ab (by simp[tMgr,tAllM]);have e3:=Y.at 3 (v:=.int .u32 (next:Int)) rfl;have z3:=Y.fz 3;have ag:=ci.out.step ab (by simp[tOneT,tAllM]);have ac:Step w5 T4 (w5.setCell ⟨bm,3,none⟩ (.int .u32 ((next:Int)+1))) T4 (fun t=>t=tMgr):=(Step.refl w5 T4 (fun t=>t=tMgr)).set (o:=3) Y.tag rfl _;have bk:=Y.set 3 (.int .u32 ((next:Int)+1));have bn:=bj.step ac (by simp[tAllM,tMgr]);have ah:=ag.step ac (by simp[tOneT,tMgr]);have ai:=(ch.out.mono (T:=fun t=>t=tMgr\/t=tAllM) (fun _ h=>h.elim)).trans ((ab.mono (T:=fun t=>t=tMgr\/t=tAllM) (fun _ h=>.inr h)).trans (ac.mono (fun _ h=>.inl h)));obtain⟨cn,co,bq,E⟩:=hid4 bk bn ah ai;clear bk bn ah ai;clear bj ab Y ag ac))
  go_ret2
  have cp:=Qwh (O.out.mgr.step aq.out (fun g hg q=>by rcases q with q|q|q <;> (subst q;simp[Qai,tLog,Qah,Qag] at hg))) bw HX.out (lsn:=lsn) (nb:=w3.heap.size) cn.out co.out E.out (fun g hg=>hg.elim .inl (fun h=>.inr (.inl h))) bq.out
  refine⟨T4,?_,.inr ⟨l,rfl,w3.heap.size,?_⟩⟩
  ·exact((b1.out.trans b6.out).mono (T:=TxTag) (fun _ h=>h.elim)).trans ((aq.out.mono (T:=TxTag) (fun g h=>.inl (.inr (.inl h)))).trans (E.out.mono (fun g h=>.inr (.inl (by rcases h with h|h <;> (subst h;simp[Qai,tMgr,tAllM]))))))
  ·rw[be.out]
   exact O.out.logged ((aq.out.mono (T:=fun g=>LogTag g\/Qai g) (fun g h=>.inl h)).trans (E.out.mono (fun g h=>.inr (by rcases h with h|h <;> (subst h;simp[Qai,tMgr,tAllM]))))) (fun g h=>h) (cg.out.step E.out (fun g hg q=>by rcases hg with h|h|h <;> (subst h;rcases q with q|q <;> simp[tLog,Qah,Qag,tMgr,tAllM] at q))) (by rw[b7.out];omega) (by rw[b7.out];omega) cp
 ·have y:=Qg1 C z a7 af (by rw[R];omega) (fun h=>by cases h) (resv X+54) ce (by rw[R];exact l)
  rw[X3] at y
  have ao:=Z2 y
  clear y a7 C
  refine tk1 9 rfl fun K j=>?_
  go_simp
  go_at_call 80
  refine ao.out.mono ?_
  rintro e w3 ⟨rfl,T3,m⟩
  have bs:=O.out.nil m
  have G:w3.cell? ⟨bm,0,none⟩=some (.pointer (some ⟨bl,0,none⟩)):=(b5.out.step m (fun h=>h)).at 0 rfl
  have aj:=(b1.out.trans b6.out).trans m
  obtain⟨cq,bv⟩:=hid2 bs aj
  clear bs aj m
  refine j.out _ _ (fun _=>G) ?_
  clear j K
  refine tk0 [10,11,12] ?_
  iterate 3
   refine tks (v:=?_) rfl (Or.inl ⟨by rfl,?_⟩) (by assumption) ?_
   rotate_left
   ·intro w d;(try dsimp only at d);go_simp
    all_goals with_reducible rfl
   try simp only[Act.put,lz1,lz2,lz3]
  refine tk9 ?_
  try simp only[lz4,lz5,lz6,lz1,lz2,lz3]
  refine tk1 13 rfl fun K j=>?_
  go_simp
  refine j.out _ _ (fun _=>G) ?_
  clear j K
  refine tk1 14 rfl fun K j=>?_
  go_simp
  refine j.out _ _ (fun h=>absurd h (by decide +kernel)) ?_
  clear j K
  refine Qad (by kernel_rfl) ?_ _
  go_wp2_with fail
  go_ret2
  exact⟨T3,bv.out.mono (fun _ h=>h.elim),.inl ⟨l,rfl,cq.out⟩⟩
