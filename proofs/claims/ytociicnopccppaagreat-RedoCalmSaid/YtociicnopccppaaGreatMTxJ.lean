/-
 Transactions: Change.
-/
import Derived.Test.YtociicnopccppaaGreatMTxI
import Derived.Test.YtociicnopccppaaGreatMTxH
set_option maxRecDepth 100000
set_option maxHeartbeats 4000000
set_option linter.all false
namespace Go.Proofs.YtociicnopccppaaGreat
open Go.RowKit
theorem qas.more {L M:qac}(h:qas L M) (b:List Int):qas (L.more b) (M.more b) :=
 ⟨h.base,by show M.stream++b=L.stream++b;rw[h.stream],by show M.starts++[M.stream.length]=L.starts++[L.stream.length];rw[h.starts,h.stream],h.strips,h.qam,h.lasts,h.stamp⟩
theorem Qsw {i k:Nat}(g:Tag) (a:qb3 g) (h:qea i k g):g=tPg i:=by
 rcases h with h|h|h|h|h
 ·exact absurd a (fun q=>by
   rcases h with rfl|rfl|rfl <;> (rcases q with q|q|q|q|⟨j,q⟩ <;> simp[qb1,qa5,qa6,qcd,tFr,qbi,qdk,tPg] at q))
 ·subst h;rcases a with q|q|q|q|⟨j,q⟩ <;> simp[qab,qcd,tFr,qbi,qdk,tPg] at q
 ·subst h;rcases a with q|q|q|q|⟨j,q⟩ <;> simp[qd3,qcd,tFr,qbi,qdk,tPg] at q
 ·exact h
 ·subst h;rcases a with q|q|q|q|⟨j,q⟩ <;> simp[qfg,qcd,tFr,qbi,qdk,tPg] at q
theorem qfv {i k:Nat}(g:Tag) (a:Qai g) (h:qea i k g):g=qab k\/g=qd3 k:=by
 rcases h with h|h|h|h|h
 ·rcases h with rfl|rfl|rfl <;> simp[Qai,qb1,qa5,qa6] at a
 ·exact .inl h
 ·exact .inr h
 ·subst h;simp[Qai,tPg] at a
 ·subst h;simp[Qai,qfg] at a
theorem Qus {i k:Nat}(g:Tag) (h:qea i k g):¬qah g/\g≠qa2:=by
 rcases h with h|h|h|h|h
 ·exact⟨Qau g h,fun e=>Qj6 (e▸.inl h)⟩
 all_goals (subst h;refine⟨?_,by simp[qab,qd3,tPg,qfg,qa2]⟩;simp[qah,qab,qd3,tPg,qfg])
theorem Qr1 {i k:Nat}(g:Tag) (h:qea i k g):qex g:=by
 rcases h with h|h|h|h|h
 ·exact .inl (.inr (.inl h))
 ·subst h;exact .inr (.inl (by simp[Qai,qab]))
 ·subst h;exact .inr (.inl (by simp[Qai,qd3]))
 ·subst h;exact .inl (.inl (Qi4 i))
 ·exact .inr (.inr h)
theorem Qup {w d:World}{τ a:qa1}{bm bl bp bf bd N:Nat}{bo:Nat->Nat}{X:List qa9}{next:Nat}{H:qaq}{L:qac}{D:Dev}{F:List Fr}{s:Ck.Clk.St}{cur:Nat->List Int}{n i b k:Nat}{f:Fr}(h:TG w τ bm bl bp bf bd N bo X next H L D F s cur n i b f) (Z:n<4294967296)
 (m:Step w τ d a (qea i k)) {Q z:List Int} (hQ:qag d a (tPg i) b Q) (hL:qaw d a bl bd (L.more z)) {x y:qa9} (hy:y∈X) (e:y.txn=x.txn) (hk:x.txn=k) (hx:qel d a (bo x.txn) x)
 (a0:Sound Q) (a1:qa8 Q=n) (a2:0<z.length) (B:L.stream.length+z.length<=127*L.strips) {ls:Nat} (l:L.base+L.stream.length=ls) (C:ls<18446744073709551616) :
 Calls Tryz.prog 56 #[.pointer (some ⟨bp,0,none⟩),.int .u32 n,.int .u64 ls] d fun e Y=>e = .returned (.bool true)/\∃c F' s',TW Y c bm bl bp bf bd N bo (qee X x) next H (L.more z) D F' s' (qi6 cur n (qbf Q 0 (leB ls 8)))/\Step d a Y c qbe:=by
 subst hk
 have E:=(Z4 h.at_).1
 have hh:s.h<s.n:=by
  obtain⟨bf,hp,_⟩:=h.pool.pool.ck.is
  exact hp.hh
 obtain⟨h1,h2,h3,h4⟩:=h.held.put hh
 have hbase:=h.good.base
 have a3:=h.pool.pool.qj8 h.at_ h.pg m (fun g G hS=>Qsw g G hS) hQ
 have o:qbz d a bp bf bd H (L.more z) D (F.set i {f with pg:=some (b,Q)}) s:=⟨a3,by rw[h.hbl];exact hL,h.pool.dev.step m (fun g G=>Qus g G)⟩
 have a5:=h.mgr.qfz m hy e (fun g G hS=>qfv g G hS) hx
 have I:(F.set i {f with pg:=some (b,Q)})[i]?=some {f with pg:=some (b,Q)}:=List.getElem?_set_self E
 obtain⟨nv,p⟩:=gN ((if f.first=0 then ls else f.first))
 have J:0<nv:=by rw[<-p];split <;> omega
 have:=Qzh o.pool n ls Z (i:=i) ((Qa6 o.pool.one n i).2 ⟨_,I,Qd7.2 ⟨b,Q,rfl,h.fn⟩⟩) I rfl h3 h1 oM C (nv:=nv) p
 rw[h2] at this
 refine this.mono ?_
 rintro e Y ⟨rfl,c,q,M⟩
 rw[List.set_set] at q
 have O:=h.good.put h.at_ h.pg a0 (by rw[a1,h.fn]) z a2 B (by rw[l,show (2:Nat) ^ 64=18446744073709551616 from by decide];exact C) J (by rw[<-p];split;exact .inl l.symm;exact .inr rfl)
 rw[l,h.fn] at O
 have R:Step d a Y c qbe:=M.mono (fun _ h=>.inl h)
 rw[h.fn] at q
 refine⟨rfl,c,_,_,⟨o.turn q M,a5.step R (fun t ht hq=>(Qi3 hq).1 ht),O,h4 _ (by rw[Y1]) (fun j f' g' r a6=>?_),h.hn,h.hbl⟩,R⟩
 rcases qce E a6 with ⟨rfl,rfl⟩|⟨_,U⟩
 ·rw[h.at_] at r
  cases r
  rw[h.pg];rfl
 ·rw[r] at U
  cases U
  rfl
def Qz9 (w:World) (τ:qa1) (bm bl bp bf bd N:Nat) (bo:Nat->Nat) (X:List qa9) (next:Nat) (st:Nat) (L:qac) (cur:Nat->List Int) (x:qa9) (n:Nat) (c:qa7) (e:Ending) (w':World):Prop :=
 ∃τ' H' L' D' F' s',H'.st<=st+1/\Step w τ w' τ' qex /\
 ((c.has=false/\c.had=false/\e = .returned (.int .u16 0)/\TW w' τ' bm bl bp bf bd N bo X next H' L' D' F' s' cur/\qas L L') \/
 ((c.has=true\/c.had=true)/\¬L.stream.length+Qak c+(qci X+Qak c)<=L.strips*127/\e = .returned (.int .u16 80)/\TW w' τ' bm bl bp bf bd N bo X next H' L' D' F' s' cur/\qas L L') \/
 ((c.has=true\/c.had=true)/\L.stream.length+Qak c+(qci X+Qak c)<=L.strips*127/\e = .returned (.int .u16 0)/\∃Q,qh2 (cur n) Q c.slot c.now/\TW w' τ' bm bl bp bf bd N bo (qee X (x.changed (L.base+L.stream.length) (Qak c))) next H' L' D' F' s' (qi6 cur n (qbf Q 0 (leB (L.base+L.stream.length) 8)))/\qas (L.more (encR (Qcp c x))) L'))
theorem Quo {w:World}{τ:qa1}{bm bl bp bf bd N:Nat}{bo:Nat->Nat}{X:List qa9}{next:Nat}{H:qaq}{L:qac}{D:Dev}{F:List Fr}{s:Ck.Clk.St}{cur:Nat->List Int}(h:TW w τ bm bl bp bf bd N bo X next H L D F s cur) (aw:H.st+1<18446744073709551616) {x:qa9}(hx:x∈X) (hs:x.state=1) (n:Nat) (hn:n<N) (hN:N<=512) (E:L.starts.length<=100000) (Z:x.last<18446744073709551616) (ax:x.ch.length<1000) (a7:Small (cur n)) (ay:L.base+L.stream.length<18446744073709551616)
 (sl:Nat) (a8:sl<12) (has:Bool) {pd:Option Addr} {cd:Nat} {m:List Int} (hd:Bytes w τ qa2 (.slice pd m.length cd) m) (az:m.length<=4) (b0:0<m.length) :
 Calls Tryz.prog 39 #[.pointer (some ⟨bm,0,none⟩),.int .u32 x.txn,.int .u32 n,.int .i64 sl,.bool has,.slice pd m.length cd] w (Qz9 w τ bm bl bp bf bd N bo X next H.st L cur x n (qg7 n (cur n) sl has m)):=by
 have hlow:=h.mgr.low x hx
 have hnx:=h.mgr.nx
 have hr:=Qju h.mgr hx hs x.txn rfl oM
 obtain⟨ba,ho,-⟩:=h.mgr.is
 have c1:=ho.at 1 rfl
 have R:=Qr0 h aw n hn
 have U:=(h.good.page n hn).1
 have Y:=(h.good.page n hn).2.1
 obtain⟨Hr,a9,Hd,b1,aa,ab⟩:=qcq hr R hd a7 U Y
 clear h hr R hd a7 U Y ho
 go_enter Tryz.func39,Tryz.ntmps39
 go_wp2_with fail
 refine Hr.mono ?_
 rintro e w1 ⟨rfl,rfl⟩
 go_wp2_with fail
 refine a9.mono ?_
 rintro e w1 ⟨b,rfl,τ1,H1,L1,D1,F1,s1,i,f,p,z,y,a0⟩
 have ac:=Hd.step a0 Qhd
 have G:=Qt4 p.mgr (p.hbl▸p.pool.log) hx (by rw[y.starts];exact E) Z ax p.page aa b1 n oM sl a8 has ac az b0
 have ad:(encR (Qcp (qg7 n (cur n) sl has m) x)).length=Qak (qg7 n (cur n) sl has m):=Qdt _ _
 have a1:0<Qak (qg7 n (cur n) sl has m):=by unfold Qak;omega
 generalize qg7 n (cur n) sl has m=c at *
 obtain⟨ba1,b3,-⟩:=p.mgr.is
 clear b3
 have a2:=y.base
 have a3:=y.stream
 have ae:=y.strips
 have af:Step w τ w1 τ1 qex:=a0.mono (fun _ h=>.inl h)
 obtain⟨ls,I⟩:=gN (L1.base+L1.stream.length)
 have ag:ls<18446744073709551616:=by rw[<-I,a2,a3];exact ay
 unfold Qwr at G
 rw[I] at G
 obtain⟨b4,J,a4,a5,b5,a6,ah,ai⟩:=qen G p y af a2 a3 ae I
 clear G p y af a2 a3 ae I a0 ac
 go_wp2_with fail
 refine b4.mono ?_
 rintro e w2 (⟨q1,q2,rfl,M,j⟩|⟨q1,q2,rfl,M,j⟩|⟨q1,q2,rfl,Q,M,O,al,am,an,j⟩)
 ·have r:=J.step j zE
  have a:=Qrz r oM
  obtain⟨ao,k,-⟩:=r.mgr.is
  have ap:=k.at 1 rfl
  clear k
  have d:=a5.trans j.nz
  have l:=Z2 a
  have o:=Z2 d
  clear a d j r
  go_wp2_with fail
  refine l.mono ?_
  rintro e w3 ⟨rfl,s3,B,C⟩
  go_wp2_with fail
  go_ret
  exact⟨M,H1,L1,D1,F1,s3,z,o.trans (C.mono (fun _ h=>.inl h)),.inl ⟨q1,q2,rfl,B,a4⟩⟩
 ·have r:=J.step j (fun g h=>by subst h;exact⟨fun q=>(Qi3 q).2 rfl,by simp[Qai,qfg],by simp[qfg,qa2]⟩)
  have a:=Qrz r oM
  obtain⟨ao,k,-⟩:=r.mgr.is
  have ap:=k.at 1 rfl
  clear k
  have d:=a5.trans (j.mono (T:=qex) (fun _ h=>.inr (.inr h)))
  have l:=Z2 a
  have o:=Z2 d
  clear a d j r
  go_wp2_with fail
  refine l.mono ?_
  rintro e w3 ⟨rfl,s3,B,C⟩
  go_wp2_with fail
  go_ret
  exact⟨M,H1,L1,D1,F1,s3,z,o.trans (C.mono (fun _ h=>.inl h)),.inr (.inl ⟨q1,by rw[<-a6.out,<-ah.out];exact q2,rfl,B,a4⟩)⟩
 ·have a:=Qup J oM j al am hx (x:=x.changed ls (Qak c)) rfl rfl an O.sound (by rw[O.num];exact ab) (by rw[ad];exact a1) (by rw[ad];omega) ai ag
  obtain⟨ao,k,-⟩:=J.mgr.is
  have ap:=(k.step j (fun q=>by rcases qfv _ (by simp[Qai,qe4]) q with q|q <;> simp[qe4,qab,qd3] at q)).at 1 rfl
  clear k
  have d:=a5.trans (j.mono (T:=qex) Qr1)
  have l:=Z2 a
  have o:=Z2 d
  have b6:=Z2 O
  clear a d O j al am an
  go_wp2_with fail
  refine l.mono ?_
  rintro e w3 ⟨rfl,b7,F3,s3,B,C⟩
  go_wp2_with fail
  go_ret
  exact⟨b7,H1,_,D1,F3,s3,z,o.trans (C.mono (fun _ h=>.inl h)),.inr (.inr ⟨q1,by rw[<-a6.out,<-ah.out];exact q2,rfl,Q,b6,by rw[<-b5.out,<-a6.out,ai.out];exact B,a4.more _⟩)⟩
def qae (R:List qak):List Int:=R.flatMap encR
def Qdf (R:List qak):List Nat:=(List.range R.length).map (fun k=>(qae (R.take k)).length)
theorem Qmo (R:List qak) (r:qak):qae (R++[r])=qae R++encR r:=by
 unfold qae
 rw[List.flatMap_append]
 simp
theorem Qmd (R:List qak) (r:qak):Qdf (R++[r])=Qdf R++[(qae R).length]:=by
 unfold Qdf
 rw[Z6,List.length_singleton,List.range_succ,List.map_append]
 congr 1
 ·refine List.map_congr_left fun k a=>?_
  have:=List.mem_range.1 a
  rw[List.take_append_of_le_length oM]
 ·simp
theorem Qbc (R:List qak):(Qdf R).length=R.length:=by unfold Qdf;simp
theorem Qnl {R:List qak}{k:Nat}(a:k<R.length):(Qdf R).getD k 0=(qae (R.take k)).length:=by
 unfold Qdf
 rw[Z5,List.getElem?_map,List.getElem?_range a]
 rfl
theorem Qx1 (r:qak):27<=(encR r).length:=by rw[Qbh];omega
theorem Qfk (R:List qak):R.length*27<=(qae R).length:=by
 induction R with
 | nil=>simp
 | cons r R ih =>
   have h:qae (r::R)=encR r++qae R:=rfl
   have:=Qx1 r
   rw[h,Z6,Y4];omega
def Seen (N:Nat) (cur:Nat->List Int) (R:List qak):Prop:=∀k r,R[k]?=some r->(r.change.had=true\/r.change.has=true)->r.change.page<N/\1+(qae (R.take k)).length<=qaa (cur r.change.page)
structure qca (N:Nat) (cur:Nat->List Int) (L:qac) (R:List qak):Prop where
 stream:L.stream=qae R
 starts:L.starts=Qdf R
 ok:∀r∈R,r.kind≠8->r.ok
 base:L.base=1
 seen:Seen N cur R
 ok8:∀r∈R,r.kind=8->Tab8 N r
 stamp:L.stamp<=1+R.length
theorem Seen.more {N:Nat}{cur:Nat->List Int}{R:List qak}(h:Seen N cur R) {r:qak}{a:Nat->List Int}(g:∀n,n<N->qaa (cur n)<=qaa (a n)) (i:(r.change.had=true\/r.change.has=true)->r.change.page<N/\1+(qae R).length<=qaa (a r.change.page)):Seen N a (R++[r]):=fun k q b d=>by
 by_cases hl:k<R.length
 ·rw[Y5 hl] at b
  obtain⟨h1,h2⟩:=h k q b d
  rw[List.take_append_of_le_length oM]
  exact⟨h1,Y3 h2 (g _ h1)⟩
 ·have c:=(Z4 b).1
  rw[Z6,List.length_singleton] at c
  have e:k=R.length:=oM
  subst e
  rw[Y6 (Z0 _),Nat.sub_self] at b
  cases b
  rw[List.take_append_of_le_length (Z0 _),List.take_length]
  exact i d
theorem qca.qju {N:Nat}{cur a:Nat->List Int}{L M:qac}{R:List qak}(h:qca N cur L R) {r:qak}(e:r.kind≠8->r.ok) (d:r.kind=8->Tab8 N r) (c:qas (L.more (encR r)) M) (g:∀n,n<N->qaa (cur n)<=qaa (a n)) (i:(r.change.had=true\/r.change.has=true)->r.change.page<N/\1+(qae R).length<=qaa (a r.change.page)):qca N a M (R++[r]):=by
 refine⟨?_,?_,fun q b=>?_,by rw[c.base];exact h.base,h.seen.more g i,fun q b=>?_,by rw[c.stamp,Z6];exact Y3 h.stamp oM⟩
 ·rw[c.stream,Qmo]
  show L.stream++encR r=_
  rw[h.stream]
 ·rw[c.starts,Qmd]
  show L.starts++[L.stream.length]=_
  rw[h.starts,h.stream]
 ·rcases List.mem_append.1 b with b|b
  ·exact h.ok q b
  ·rw[Y8 b];exact e
 ·rcases List.mem_append.1 b with b|b
  ·exact h.ok8 q b
  ·rw[Y8 b];exact d
theorem qca.more {N:Nat}{cur:Nat->List Int}{L M:qac}{R:List qak}(h:qca N cur L R) {r:qak}(a:r.ok) (b:qas (L.more (encR r)) M) (hn:r.change.had=false/\r.change.has=false:=by exact⟨rfl,rfl⟩):qca N cur M (R++[r]):=h.qju (fun _=>a) (fun e=>absurd e a.k8) b (fun _ _=>Z0 _) (fun q=>by rw[hn.1,hn.2] at q;simp at q)
theorem qca.same {N:Nat}{cur:Nat->List Int}{L M:qac}{R:List qak}(h:qca N cur L R) (a:qas L M):qca N cur M R:=⟨by rw[a.stream];exact h.stream,by rw[a.starts];exact h.starts,h.ok,by rw[a.base];exact h.base,h.seen,h.ok8,by rw[a.stamp];exact h.stamp⟩
def qdm (R:List qak) (a:Nat) (r:qak):Prop:=∃k,R[k]?=some r/\a=1+(qae (R.take k)).length
theorem qdm.app {R:List qak}{a:Nat}{r:qak}(h:qdm R a r) (T:List qak):qdm (R++T) a r:=by
 obtain⟨k,b,e⟩:=h
 have hl:=(Z4 b).1
 exact⟨k,by rw[Y5 hl];exact b,by rw[List.take_append_of_le_length oM];exact e⟩
theorem qdm.new (R:List qak) (r:qak):qdm (R++[r]) (1+(qae R).length) r:=⟨R.length,sM,sM⟩
theorem qdm.low {R:List qak}{a:Nat}{r:qak}(h:qdm R a r):0<a/\a+27<=1+(qae R).length:=by
 obtain⟨k,c,rfl⟩:=h
 have hl:=(Z4 c).1
 have b:qae R=qae (R.take k)++qae (R.drop k):=by
  unfold qae
  rw[<-List.flatMap_append,List.take_append_drop]
 have h2:=Qfk (R.drop k)
 rw[List.length_drop] at h2
 rw[b,Z6]
 omega
theorem qdm.read {N:Nat}{cur:Nat->List Int}{L:qac}{R:List qak}(b:qca N cur L R) {a:Nat}{r:qak}(h:qdm R a r):∃k x,k<L.starts.length/\L.starts.getD k 0=x/\L.base+x=a/\Qd1 (L.stream.drop x)=some (r,(encR r).length):=by
 obtain⟨k,c,rfl⟩:=h
 have hl:=(Z4 c).1
 have g:r∈R:=List.mem_of_getElem? c
 refine⟨k,(qae (R.take k)).length,by rw[b.starts,Qbc];exact hl,by rw[b.starts,Qnl hl],by rw[b.base],?_⟩
 have d:qae R=qae (R.take k)++(encR r++qae (R.drop (k+1))):=by
  have e:R=R.take k++(r::R.drop (k+1)):=by
   have h1:R[k]=r:=by
    have:=Z3 hl
    rw[this] at c
    exact Option.some.inj c
   rw[<-h1,<-List.drop_eq_getElem_cons hl,List.take_append_drop]
  conv=>lhs;rw[e]
  unfold qae
  rw[List.flatMap_append]
  rfl
 rw[b.stream,d,List.drop_left]
 by_cases i:r.kind=8
 ·exact Jkl (b.ok8 r g i) _
 ·exact Qtz (b.ok r g i) _
inductive Trail (R:List qak):Nat->List (Nat×qa7)->Prop
 | stop {a:Nat} {r:qak}:qdm R a r->r.kind=1->Trail R a []
 | chg {a:Nat} {r:qak} {l:List (Nat×qa7)}:qdm R a r->r.kind=2->r.prev<a->Trail R r.prev l->Trail R a ((a,r.change)::l)
 | und {a:Nat} {r:qak} {l:List (Nat×qa7)}:qdm R a r->r.kind=3->r.next<a->Trail R r.next l->Trail R a l
theorem Trail.app {R:List qak}{a:Nat}{l:List (Nat×qa7)}(h:Trail R a l) (T:List qak):Trail (R++T) a l:=by
 induction h with
 | stop h k=>exact .stop (h.app T) k
 | chg h k p _ ih=>exact .chg (h.app T) k p ih
 | und h k p _ ih=>exact .und (h.app T) k p ih
theorem Trail.inv {R:List qak}{a:Nat}{l:List (Nat×qa7)}(h:Trail R a l):(∃r,qdm R a r/\r.kind=1/\l=[])\/(∃r b,qdm R a r/\r.kind=2/\r.prev<a/\Trail R r.prev b/\l=(a,r.change)::b)\/(∃r,qdm R a r/\r.kind=3/\r.next<a/\Trail R r.next l):=by
 cases h with
 | stop h k=>exact .inl ⟨_,h,k,rfl⟩
 | chg h k p t=>exact .inr (.inl ⟨_,_,h,k,p,t,rfl⟩)
 | und h k p t=>exact .inr (.inr ⟨_,h,k,p,t⟩)
theorem Trail.mono {R:List qak}{a:Nat}{l:List (Nat×qa7)}(h:Trail R a l) (q:qak):Trail (R++[q]) a l:=h.app [q]
theorem Trail.low {R:List qak}{a:Nat}{l:List (Nat×qa7)}(h:Trail R a l):0<a/\a+27<=1+(qae R).length:=by
 cases h with
 | stop h k=>exact h.low
 | chg h k p _=>exact h.low
 | und h k p _=>exact h.low
theorem Trail.le {R:List qak}{a:Nat}{l:List (Nat×qa7)}(h:Trail R a l):∀y∈l,y.1<=a:=by
 induction h with
 | stop h k=>intro y b;cases b
 | chg h k p _ ih =>
   intro y b
   rcases List.mem_cons.1 b with rfl|b
   ·exact Z0 _
   ·have:=ih y b;omega
 | und h k p _ ih=>intro y b;have:=ih y b;omega
theorem Trail.tail {R:List qak}{a:Nat}{y:Nat×qa7}{l:List (Nat×qa7)}(h:Trail R a (y::l)):∀z∈l,z.1<y.1:=by
 generalize b:y::l=m at h
 induction h with
 | stop h k=>cases b
 | chg h k p t _ =>
   cases b
   intro z c
   have:=t.le z c
   show z.1<_
   omega
 | und h k p _ ih=>exact ih b
abbrev qbd:=Nat->Nat->List Int
def qjj (V:qbd) (n s:Nat) (m:List Int):qbd:=fun p t=>if p=n/\t=s then m else V p t
def qj6:qbd->List (Nat×qa7)->qbd
 | V,[]=>V
 | V,y::l=>qj6 (qjj V y.2.page y.2.slot y.2.before) l
theorem Qku (V:qbd) {n s:Nat}(m:List Int) {p t:Nat}(h:¬(p=n/\t=s)):qjj V n s m p t=V p t:=if_neg h
structure qed (N:Nat) (c:qa7):Prop where
 page:c.page<N
 slot:c.slot<12
 b4:c.before.length<=4
 a4:c.after.length<=4
 had:c.had=decide (0<c.before.length)
 has:c.has=decide (0<c.after.length)
theorem qed.nob {N:Nat}{c:qa7}(h:qed N c) (e:c.had=false):c.before=[]:=by
 rw[h.had] at e
 have:=of_decide_eq_false e
 exact List.eq_nil_of_length_eq_zero oM
theorem qed.noa {N:Nat}{c:qa7}(h:qed N c) (e:c.has=false):c.after=[]:=by
 rw[h.has] at e
 have:=of_decide_eq_false e
 exact List.eq_nil_of_length_eq_zero oM
theorem qed.turned {N:Nat}{c:qa7}(h:qed N c):qed N c.turned:=⟨h.page,h.slot,h.a4,h.b4,h.has,h.had⟩
theorem qed.now {N:Nat}{c:qa7}(h:qed N c):c.now=c.after:=by
 unfold qa7.now
 by_cases e:c.has=true
 ·rw[if_pos e]
 ·rw[if_neg e,h.noa (by simpa using e)]
theorem qed.tnow {N:Nat}{c:qa7}(h:qed N c):c.turned.now=c.before:=h.turned.now
theorem qed.may {N:Nat}{c:qa7}(h:qed N c) {k t p n:Nat}(a:k=2\/k=3):qes ⟨k,t,p,n,c,[],[]⟩=true:=Qlb a (by have:=h.b4;omega) (by have:=h.a4;omega) h.nob h.noa
def qh0 (l:List (Nat×qa7)):List (Nat×Nat):=(l.map (fun y=>(y.1,Qak y.2))).reverse
def Qbf (l:List (Nat×qa7)):Nat:=(l.map (fun y=>Qak y.2)).sum
theorem Qh9 (y:Nat×qa7) (l:List (Nat×qa7)):qh0 (y::l)=qh0 l++[(y.1,Qak y.2)]:=by
 unfold qh0
 rw[X0,List.reverse_cons]
theorem Qj1 {l:List (Nat×qa7)}{z:Nat×Nat}(h:z∈qh0 l):∃y∈l,z=(y.1,Qak y.2):=by
 unfold qh0 at h
 obtain⟨y,a,e⟩:=List.mem_map.1 (List.mem_reverse.1 h)
 exact⟨y,a,e.symm⟩
theorem Qya (l:List (Nat×qa7)):((qh0 l).map Prod.snd).sum=Qbf l:=by
 induction l with
 | nil=>rfl
 | cons y l ih =>
   rw[Qh9,List.map_append,List.sum_append,ih]
   show Qbf l+(Qak y.2+0)=Qak y.2+Qbf l
   omega
theorem Qcy (y:Nat×qa7) (l:List (Nat×qa7)):Qbf (y::l)=Qak y.2+Qbf l:=rfl
theorem Qyb (l:List (Nat×qa7)):(qh0 l).length=l.length:=by unfold qh0;simp
structure Ids where
 bm:Nat
 bl:Nat
 bp:Nat
 bf:Nat
 bd:Nat
 N:Nat
 S:Nat
structure TZ (w:World) (τ:qa1) (I:Ids) (bo:Nat->Nat) (X:List qa9) (next:Nat) (R:List qak) (V:qbd) (st:Nat):Prop where
 is:∃H L D F s cur,TW w τ I.bm I.bl I.bp I.bf I.bd I.N bo X next H L D F s cur/\qca I.N cur L R/\L.strips=I.S/\H.st<=st/\∀n,n<I.N->Small (cur n)/\∀t,qb7 (cur n) t=V n t
theorem TZ.nil {w b:World}{τ a:qa1}{I:Ids}{bo:Nat->Nat}{X:List qa9}{next:Nat}{R:List qak}{V:qbd}{st:Nat}(h:TZ w τ I bo X next R V st) (m:Step w τ b a Go.Proofs.YtociicnopccppaaGreat.nil):TZ b a I bo X next R V st:=by
 obtain⟨H,L,D,F,s,cur,h1,h2⟩:=h.is
 exact⟨⟨H,L,D,F,s,cur,h1.nil m,h2⟩⟩
theorem TZ.le {w:World}{τ:qa1}{I:Ids}{bo:Nat->Nat}{X:List qa9}{next:Nat}{R:List qak}{V:qbd}{st a:Nat}(h:TZ w τ I bo X next R V st) (b:st<=a):TZ w τ I bo X next R V a:=by
 obtain⟨H,L,D,F,s,cur,h1,h2,c,d,e⟩:=h.is
 exact⟨⟨H,L,D,F,s,cur,h1,h2,c,Y3 d b,e⟩⟩
theorem TZ.mgr {w:World}{τ:qa1}{I:Ids}{bo:Nat->Nat}{X:List qa9}{next:Nat}{R:List qak}{V:qbd}{st:Nat}(h:TZ w τ I bo X next R V st):qbr w τ I.bm I.bl I.bp bo X next:=by
 obtain⟨H,L,D,F,s,cur,h1,-⟩:=h.is
 exact h1.mgr
theorem TZ.len {w:World}{τ:qa1}{I:Ids}{bo:Nat->Nat}{X:List qa9}{next:Nat}{R:List qak}{V:qbd}{st:Nat}(h:TZ w τ I bo X next R V st):(qae R).length<=1000000/\(qae R).length<=I.S*127:=by
 obtain⟨H,L,D,F,s,cur,h1,h2,c,h4,h5⟩:=h.is
 have a:=h1.pool.log.ok.stream
 have b:=h1.good.cap
 rw[h2.stream] at a b
 rw[c] at b
 exact⟨a,oM⟩
theorem TZ.slot4 {w:World}{τ:qa1}{I:Ids}{bo:Nat->Nat}{X:List qa9}{next:Nat}{R:List qak}{V:qbd}{st:Nat}(h:TZ w τ I bo X next R V st) {n:Nat}(hn:n<I.N) (t:Nat):(V n t).length<=4/\(12<=t->V n t=[]):=by
 obtain⟨H,L,D,F,s,cur,h1,h2,h3,h4,c⟩:=h.is
 obtain⟨a,b⟩:=c n hn
 rw[<-b t]
 exact a t
def qjm (V:qbd) (n s:Nat) (has:Bool) (m:List Int):qa7:=⟨n,s,decide (0<(V n s).length),has,V n s,if has=true then m else []⟩
theorem Qwa {N:Nat}{V:qbd}{n s:Nat}(hn:n<N) (c:s<12) (d:(V n s).length<=4) (has:Bool) {m:List Int}(a:m.length<=4) (b:0<m.length):qed N (qjm V n s has m):=by
 refine⟨hn,c,d,?_,rfl,?_⟩
 ·show (if has=true then m else []).length<=4
  split
  ·exact a
  ·simp
 ·show has=decide (0<(if has=true then m else []).length)
  cases has
  ·simp
  ·simp[b]
def Qwq (w:World) (τ:qa1) (I:Ids) (bo:Nat->Nat) (X:List qa9) (next:Nat) (R:List qak) (V:qbd) (st:Nat) (x:qa9) (c:qa7) (e:Ending) (w':World):Prop :=
 ∃τ',Step w τ w' τ' qex /\
 ((c.has=false/\c.had=false/\e = .returned (.int .u16 0)/\TZ w' τ' I bo X next R V (st+1)) \/
 ((c.has=true\/c.had=true)/\¬(qae R).length+Qak c+(qci X+Qak c)<=I.S*127/\e = .returned (.int .u16 80)/\TZ w' τ' I bo X next R V (st+1)) \/
 ((c.has=true\/c.had=true)/\(qae R).length+Qak c+(qci X+Qak c)<=I.S*127/\e = .returned (.int .u16 0)/\TZ w' τ' I bo (qee X (x.changed (1+(qae R).length) (Qak c))) next (R++[Qcp c x]) (qjj V c.page c.slot c.now) (st+1)))
theorem Qso {N:Nat}{cur:Nat->List Int}{V:qbd}(h:∀n,n<N->Small (cur n)/\∀t,qb7 (cur n) t=V n t) {n s:Nat}{Q m:List Int}(hd:qh2 (cur n) Q s m) (hn:n<N) (g:s<12) (i:m.length<=4) (ls:Nat) (d:ls<2 ^ 64):∀k,k<N->Small (qi6 cur n (qbf Q 0 (leB ls 8)) k)/\∀t,qb7 (qi6 cur n (qbf Q 0 (leB ls 8)) k) t=qjj V n s m k t:=by
 intro k b
 unfold qi6
 have a:=(hd.sound.stamp ls d).2.2.2
 by_cases e:k=n
 ·subst e
  rw[if_pos rfl]
  refine⟨fun t=>?_,fun t=>?_⟩
  ·rw[a t]
   exact(hd.small (h k b).1 g i) t
  ·rw[a t,hd.data t]
   unfold qjj
   by_cases c:t=s
   ·rw[if_pos c,if_pos ⟨rfl,c⟩]
   ·rw[if_neg c,if_neg (fun h=>c h.2)]
    exact(h k b).2 t
 ·rw[if_neg e]
  refine⟨(h k b).1,fun t=>?_⟩
  rw[Qku V m (fun h=>e h.1)]
  exact(h k b).2 t
theorem Good.qjk {N st:Nat}{L:qac}{D:Dev}{F:List Fr}{cur a:Nat->List Int}{R:List qak}(h:Good N st L D F cur) (h2:qca N a L R) {n:Nat}(hn:n<N):qaa (cur n)<=1+(qae R).length:=by
 rcases (h.page n hn).2.2 with e|e
 ·omega
 ·obtain⟨x,b,e⟩:=e
  have c:=h.rise.low x b
  rw[h2.stream] at c
  rw[h2.base] at e
  omega
theorem qca.chg {N:Nat}{cur:Nat->List Int}{L M:qac}{R:List qak}(h:qca N cur L R) (d:∀n,n<N->qaa (cur n)<=1+(qae R).length) {r:qak}(c:r.ok) (g:qas (L.more (encR r)) M) {n:Nat}(hn:n<N) (a:r.change.page=n) {Q:List Int}(i:Sound Q) (b:1+(qae R).length<2 ^ 64):qca N (qi6 cur n (qbf Q 0 (leB (1+(qae R).length) 8))) M (R++[r]):=by
 have e:=(i.stamp _ b).2.2.1
 refine h.qju (fun _=>c) (fun e=>absurd e c.k8) g (fun k j=>?_) (fun _=>⟨by rw[a];exact hn,?_⟩)
 ·unfold qi6
  split
  ·rw[e];exact d k j
  ·exact Z0 _
 ·unfold qi6
  rw[if_pos a,e]
  exact Z0 _
theorem Qkf {w:World}{τ:qa1}{I:Ids}{bo:Nat->Nat}{X:List qa9}{next:Nat}{R:List qak}{V:qbd}{st:Nat}(h:TZ w τ I bo X next R V st) (hst:st<=1000000) {x:qa9}(O:x∈X) (Y:x.state=1) (hlast:x.last<=1+(qae R).length) (z:x.ch.length<1000) {n:Nat}(hn:n<I.N) (Z:I.N<=512)
 {sl:Nat} (d:sl<12) (has:Bool) {U:Option Addr} {cd:Nat} {m:List Int} (hd:Bytes w τ qa2 (.slice U m.length cd) m) (j:m.length<=4) (k:0<m.length) :
 Calls Tryz.prog 39 #[.pointer (some ⟨I.bm,0,none⟩),.int .u32 x.txn,.int .u32 n,.int .i64 sl,.bool has,.slice U m.length cd] w (Qwq w τ I bo X next R V st x (qjm V n sl has m)):=by
 obtain⟨H,L,D,F,s,cur,h1,h2,l,h4,o⟩:=h.is
 have hl:=h.len
 have g:=Qwa hn d (h.slot4 hn sl).1 has j k
 have hrl:=Qfk R
 have hc:qg7 n (cur n) sl has m=qjm V n sl has m:=by
  obtain⟨a,b⟩:=o n hn
  have p:=(h1.good.page n hn).1
  unfold qg7 qjm
  rw[<-b sl,Qbm p.tidy.lies.fit p.tidy.len]
 have hlow:=h1.mgr.low x O
 have hnx:=h1.mgr.nx
 have:=Quo h1 oM O Y n hn Z (by rw[h2.starts,Qbc];omega) oM z (o n hn).1 (by rw[h2.base,h2.stream];omega) sl d has hd j k
 rw[hc] at this
 have q:(qjm V n sl has m).slot=sl:=rfl
 have r:(qjm V n sl has m).page=n:=rfl
 generalize qjm V n sl has m=c at *
 refine this.mono ?_
 rintro e w' ⟨B,C,E,G,J,s',hst',i,M⟩
 refine⟨B,i,?_⟩
 rcases M with ⟨a1,a2,a3,a4,a5⟩|⟨a1,a2,a3,a4,a5⟩|⟨a1,a2,a3,Q,a4,a5,a6⟩
 ·exact .inl ⟨a1,a2,a3,⟨⟨C,E,G,J,s',cur,a4,h2.same a5,by rw[a5.strips];exact l,oM,o⟩⟩⟩
 ·rw[h2.stream,l] at a2
  exact .inr (.inl ⟨a1,a2,a3,⟨⟨C,E,G,J,s',cur,a4,h2.same a5,by rw[a5.strips];exact l,oM,o⟩⟩⟩)
 ·rw[h2.stream,l] at a2
  rw[h2.stream,h2.base] at a5
  have y:(Qcp c x).ok:=⟨g.may (.inl rfl),by show (2:Nat)≠8;omega,by show x.txn<_;omega,by show x.last<_;omega,by show 0<_;omega,by show c.page<_;omega,by show c.slot<_;omega⟩
  refine .inr (.inr ⟨a1,a2,a3,⟨⟨C,E,G,J,s',_,a5,h2.chg (fun _ M=>h1.good.qjk h2 M) y a6 hn r a4.sound (by show _<18446744073709551616;omega),by rw[a6.strips];exact l,oM,?_⟩⟩⟩)
  rw[r,q]
  rw[q] at a4
  exact Qso o a4 hn d (by rw[g.now];exact g.a4) _ (by show _<18446744073709551616;omega)
end Go.Proofs.YtociicnopccppaaGreat
namespace Go.Proofs.YtociicnopccppaaGreat
open Go.RowKit Go.Maps
def Qic (n:Nat):qak:=⟨1,n,0,0,noChange,[],[]⟩
theorem Qm5 (n:Nat):(encR (Qic n)).length=27:=by
 rw[Qbh]
 rfl
def qdp (n lsn:Nat):qa9:=⟨n,lsn,lsn,1,lsn,[]⟩
def qi2 (bo:Nat->Nat) (n b:Nat):Nat->Nat:=fun k=>if k=n then b else bo k
def Jbc (w:World) (τ:qa1) (bm bl bp bf bd N:Nat) (bo:Nat->Nat) (X:List qa9) (next:Nat) (H:qaq) (L:qac) (D:Dev) (F:List Fr) (s:Ck.Clk.St) (cur:Nat->List Int) (e:Ending) (w':World):Prop :=
 ∃τ',Step w τ w' τ' qex /\
 ((¬L.stream.length+27+(qci X+54)<=L.strips*127/\e = .returned (.tuple #[.int .u32 0,.int .u16 80])/\TW w' τ' bm bl bp bf bd N bo X next H L D F s cur) \/
 (L.stream.length+27+(qci X+54)<=L.strips*127/\e = .returned (.tuple #[.int .u32 next,.int .u16 0])/\∃nb,TW w' τ' bm bl bp bf bd N (qi2 bo next nb) (X++[qdp next (L.base+L.stream.length)]) (next+1) H (L.more (encR (Qic next))) D F s cur))
theorem Qhn {w:World}{τ:qa1}{bm:Nat}{g:Tag}{N:Nat}{f:Nat->Option Nat}(j:qg9 w τ bm g N f) (l:N<=100000) (k v:Nat) (n:k<N)
 {ops:Array Oper} {rest:List Oper} {o:Oper} {a:Act} {Q:Exit->Act->World->Prop} (d:o.guard=none) (m x y:Operand)
 (e:o.op = .mapUpdate 102 m x y) (p:a.eval m = .map (some bm)) (q:a.eval x = .int .u32 k) (r:a.eval y = .pointer (some ⟨v,0,none⟩))
 (h:∀c,qg9 c τ bm g N (qeu f k (some v))->Step w τ c τ (fun t=>t=g)->wpList Tryz.prog ops Q rest (a.put o.dst undef) c):wpList Tryz.prog ops Q (o::rest) a w:=by
 refine wpList_plain d fun K' i=>?_
 obtain⟨c,b,h1,h2⟩:=j.store k v l n
 unfold Oper.wp
 simp[execOp,e,p,q,r,b,Result.andThen]
 exact i _ _ (h _ h1 h2)
theorem Qud (bo:Nat->Nat) (X:List qa9) (n lsn nb:Nat) (hno:∀x∈X,x.txn≠n):qeu (fOf bo X) n (some nb)=fOf (qi2 bo n nb) (X++[qdp n lsn]):=by
 funext k
 unfold qeu fOf qi2
 by_cases e:k=n
 ·subst e
  have:k∈qa9.ids (X++[qdp k lsn]):=List.mem_map.2 ⟨qdp k lsn,sM,rfl⟩
  rw[if_pos rfl,if_pos this,if_pos rfl]
 ·rw[if_neg e]
  have:k∈qa9.ids (X++[qdp n lsn])↔k∈qa9.ids X:=by
   unfold qa9.ids
   rw[List.map_append,List.mem_append]
   refine⟨fun h=>h.elim id (fun h=>?_),.inl⟩
   have:k=n:=by simpa [qdp] using h
   exact absurd this e
  by_cases a:k∈qa9.ids X
  ·rw[if_pos a,if_pos (this.2 a),if_neg e]
  ·rw[if_neg a,if_neg (fun h=>a (this.1 h))]
theorem Qwh {w l:World}{τ i:qa1}{bm bl bp:Nat}{bo:Nat->Nat}{X:List qa9}{next:Nat}(h:qbr w τ bm bl bp bo X next) (hnx:next<=899) (hX:X.length<64) {lsn nb o:Nat}(p:Own l i bm qe4 105 [.pointer (some ⟨bl,0,none⟩),.pointer (some ⟨bp,0,none⟩),.map (some o),.int .u32 ((next+1:Nat):Int)]) (r:qg9 l i o qc8 1000 (qeu (fOf bo X) next (some nb)))
 {S:Tag->Prop} (m:Step w τ l i S) (s:∀g,S g->g=qe4\/g=qc8\/¬Qai g) (n:Own l i nb (qab next) 108 ((qdp next lsn).cells (.slice none 0 0))):qbr l i bm bl bp (qi2 bo next nb) (X++[qdp next lsn]) (next+1):=by
 have j:∀x∈X,x.txn≠next:=fun x n e=>by have:=h.low x n;omega
 refine⟨⟨o,p,by rw[<-Qud bo X next lsn nb j];exact r⟩,fun x k=>?_,?_,fun x k=>?_,oM,by rw[Z6];show X.length+1<=64;omega⟩
 ·rcases List.mem_append.1 k with h1|h1
  ·have e:qi2 bo next nb x.txn=bo x.txn:=if_neg (j x h1)
   rw[e]
   have no:∀g,Qai g->g≠qe4->g≠qc8->¬S g:=fun g a b c d=>by
    rcases s g d with q|q|q
    ·exact b q
    ·exact c q
    ·exact q a
   exact(h.ones x h1).step m (no _ (by simp[Qai,qab]) (by simp[qab,qe4]) (by simp[qab,qc8])) (no _ (by simp[Qai,qd3]) (by simp[qd3,qe4]) (by simp[qd3,qc8]))
  ·rw[Y8 h1]
   have e:qi2 bo next nb (qdp next lsn).txn=nb:=if_pos rfl
   rw[e]
   exact⟨⟨_,n,NS.nil _ _ _ _ _ _ _⟩,Z9 _,fun y z=>by cases z⟩
 ·unfold qa9.ids
  rw[List.map_append,List.nodup_append]
  refine⟨h.nodup,sM,fun a B b C e=>?_⟩
  obtain⟨x,n,rfl⟩:=List.mem_map.1 B
  have:b=next:=by simpa [qdp] using C
  exact j x n (e.trans this)
 ·rcases List.mem_append.1 k with h1|h1
  ·have:=h.low x h1;omega
  ·rw[Y8 h1];show next<next+1;omega
theorem Good.more {N st:Nat}{L:qac}{D:Dev}{F:List Fr}{cur:Nat->List Int}(h:Good N st L D F cur) (b:List Int) (c:0<b.length) (a:L.stream.length+b.length<=127*L.strips):Good N st (L.more b) D F cur where
 calm:=h.calm
 f1:=h.f1
 f0:=h.f0
 cap:=by show (L.stream++b).length<=127*L.strips;rw[Z6];exact a
 lasts:=by show L.lasts<=(L.stream++b).length;rw[Z6];have:=h.lasts;omega
 rise:=h.rise.more b c
 base:=h.base
 page:=fun n hn=>⟨(h.page n hn).1,(h.page n hn).2.1,(h.page n hn).2.2.imp id (fun ⟨x,d,e⟩=>⟨x,List.mem_append_left _ d,e⟩)⟩
 home:=fun n hn=>h.home n hn
 frame:=h.frame
 none:=h.none
 one:=h.one
 spare:=h.spare
 qgv:=h.qgv.more h.lasts b
theorem TW.logged {w j:World}{τ c:qa1}{S:Tag->Prop}{bm bl bp bf bd N:Nat}{bo d:Nat->Nat}{X k:List qa9}{next a:Nat}{H:qaq}{L:qac}{D:Dev}{F:List Fr}{s:Ck.Clk.St}{cur:Nat->List Int}(h:TW w τ bm bl bp bf bd N bo X next H L D F s cur) (m:Step w τ j c S) (l:∀g,S g->qai g\/Qai g) {b:List Int}(hl:qaw j c bl bd (L.more b)) (o:0<b.length) (i:L.stream.length+b.length<=127*L.strips) (p:qbr j c bm bl bp d k a):TW j c bm bl bp bf bd N d k a H (L.more b) D F s cur:=by
 refine⟨⟨h.pool.pool.step m (fun g n q=>?_),by rw[h.hbl];exact hl,h.pool.dev.step m (fun g q=>?_)⟩,p,h.good.more b o i,h.clock,h.hn,h.hbl⟩
 ·rcases l g q with q|q
  ·exact Qbo q n
  ·exact(Qi3 (.inl n)).1 q
 ·rcases l g q with q|q
  ·exact⟨Qau g q,fun e=>Qj6 (e▸.inl q)⟩
  ·refine⟨fun hd=>?_,fun e=>?_⟩
   ·unfold Qai at q
    rcases hd with hd|hd|hd|hd <;> omega
   ·subst e
    simp[Qai,qa2] at q
theorem Qu5 {w:World}{τ:qa1}{bm bl bp:Nat}{bo:Nat->Nat}{X:List qa9}{next:Nat}(a:qbr w τ bm bl bp bo X next):qci X<=70000000:=by
 rw[Qqn a.nodup]
 have h1:=Qki (Qh1 X) 1000054 (qa9.ids X) (fun k c=>by
  obtain⟨y,b,rfl⟩:=List.mem_map.1 c
  rw[Qgk a.nodup b];exact(a.ones y b).qht)
 have h2:(qa9.ids X).length<=64:=by have:=a.many;unfold qa9.ids;rw[Y0];exact this
 omega
theorem Qwx {w:World}{τ:qa1}{bm bl bp bf bd N:Nat}{bo:Nat->Nat}{X:List qa9}{next:Nat}{H:qaq}{L:qac}{D:Dev}{F:List Fr}{s:Ck.Clk.St}{cur:Nat->List Int}(h:TW w τ bm bl bp bf bd N bo X next H L D F s cur) (bh:next<=899) (hX:X.length<64) (y:L.starts.length<=100000) (h64:L.base+L.stream.length<18446744073709551616) :
 Calls Tryz.prog 33 #[.pointer (some ⟨bm,0,none⟩)] w (Jbc w τ bm bl bp bf bd N bo X next H L D F s cur):=by
 obtain⟨ba,ho,hp⟩:=h.mgr.is
 have c2:=ho.at 2 rfl
 have c3:=ho.at 3 rfl
 have a9:∀x∈X,x.txn≠next:=fun x hx e=>by have:=h.mgr.low x hx;omega
 have aa:=hp.look next oM
 rw[Qvz a9] at aa
 have ai:(qa9.ids X).length=X.length:=by unfold qa9.ids;rw[Y0]
 obtain⟨nX,aj⟩:=gN X.length
 rw[aj] at ai
 change _=Result.ok (Value.pointer none) w at aa
 have n:Step w τ w.drew τ nil:=(zS w τ).drew
 have p:=(hp.step n id).len oM h.mgr.nodup (fun k=>Qri k) 3
 have z:=(hp.step n id).look next oM
 rw[Qvz a9] at z
 change _=Result.ok (Value.pointer none) w.drew at z
 rw[ai] at p
 have hge:decide ((64:Int)<=nX)=false:=decide_eq_false oM
 have hge':¬(64<=nX):=oM
 have hn1:((next:Int)==4294967295)=false:=beq_eq_false_iff_ne.2 oM
 have bi:w.drew.cell? ⟨bm,2,none⟩=some (.map (some ba))/\w.drew.cell? ⟨bm,3,none⟩=some (.int .u32 next)/\(Builtin.len_ #[102] 3 #[.map (some ba)]).run Tryz.prog w.drew = .ok (.int .i64 nX) w.drew/\(Instr.lookup 102 (.map (some ba)) (.int .u32 next) false).run Tryz.prog w.drew = .ok (.pointer none) w.drew:=⟨ho.drew.at 2 rfl,ho.drew.at 3 rfl,p,z⟩
 obtain⟨ak,Ho,Hp,HX⟩:=qb9 h ho hp hX
 clear h ho hp a9 hX aj
 go_enter Tryz.func33,Tryz.ntmps33
 go_wp2_with fail
 refine Qaf (S:=fun W:World=>W.cell? ⟨bm,2,none⟩=some (.map (some ba))/\W.cell? ⟨bm,3,none⟩=some (.int .u32 next)/\(Builtin.len_ #[102] 3 #[.map (some ba)]).run Tryz.prog W = .ok (.int .i64 nX) W/\(Instr.lookup 102 (.map (some ba)) (.int .u32 next) false).run Tryz.prog W = .ok (.pointer none) W) kR ?_
 refine tk0 [0,1,2,3,4,5,6] ?_
 iterate 7
  refine tkv (v:=?_) ?_ ?_
  rotate_left
  ·intro w c;(try dsimp only at c);go_simp
   all_goals with_reducible rfl
  try simp only[Act.put,lz1,lz2,lz3]
 refine tk9 ?_
 try simp only[lz4,lz5,lz6,lz1,lz2,lz3]
 refine tk0 [7,8,9,10,11,12,13] ?_
 iterate 7
  refine tkv (v:=?_) ?_ ?_
  rotate_left
  ·intro w c;(try dsimp only at c);go_simp
   all_goals with_reducible rfl
  try simp only[Act.put,lz1,lz2,lz3]
 refine tk9 ?_
 try simp only[lz4,lz5,lz6,lz1,lz2,lz3]
 refine tk0 [14,15,16,17,18,19,20,21] ?_
 iterate 8
  refine tkv (v:=?_) ?_ ?_
  rotate_left
  ·intro w c;(try dsimp only at c);go_simp
   all_goals with_reducible rfl
  try simp only[Act.put,lz1,lz2,lz3]
 refine tk9 ?_
 try simp only[lz4,lz5,lz6,lz1,lz2,lz3]
 refine tk0 [22,23,24] ?_
 iterate 3
  refine tkv (v:=?_) ?_ ?_
  rotate_left
  ·intro w c;(try dsimp only at c);go_simp
   all_goals with_reducible rfl
  try simp only[Act.put,lz1,lz2,lz3]
 refine tk9 ?_
 refine Qad kR ?_ _
 clear bi aa p z c2 c3
 have R:=ak.nil n
 have U:=Ho.step n id
 have al:=Hp.step n id
 generalize w.drew=w1 at *
 have Y:Step w1 τ w1.drew τ nil:=(zS w1 τ).drew
 have am:=Qde (R.mgr.nil Y)
 have an:=Qu5 R.mgr
 have c3:=U.at 3 rfl
 have bj:w1.drew.cell? ⟨bm,0,none⟩=some (.pointer (some ⟨bl,0,none⟩)):=(U.step Y id).at 0 rfl
 have hadd:IntKind.u64.wrap ((qci X:Int)+54)=(qci X:Int)+54:=by
  have:=Qer (a:=qci X) (b:=54) oM
  rw[X1] at this
  exact this
 obtain⟨bk,bn,bq,br,bs,ao,bv⟩:=qdr R U al Y am n an
 clear R U al Y am n an ak Ho Hp
 go_wp2_with fail
 refine Qaf (S:=fun W:World=>W.cell? ⟨bm,0,none⟩=some (.pointer (some ⟨bl,0,none⟩))) kR ?_
 refine tk0 [0,1,2,3,4,5,6] ?_
 iterate 7
  refine tkv (v:=?_) ?_ ?_
  rotate_left
  ·intro w c;(try dsimp only at c);go_simp
   all_goals with_reducible rfl
  try simp only[Act.put,lz1,lz2,lz3]
 refine tk9 ?_
 try simp only[lz4,lz5,lz6,lz1,lz2,lz3]
 refine Qst (i:=7) dK rfl (fun K d=>?_)
 go_simp
 go_at_call 86
 refine bs.mono ?_
 rintro e w2 ⟨rfl,T2,ap⟩
 have G:=br.trans ap
 have ab:=bn.step G id
 have aq:=bk.nil G
 have ar:=bq.step G id
 have bz:w2.cell? ⟨bm,0,none⟩=some (.pointer (some ⟨bl,0,none⟩)):=ab.at 0 rfl
 obtain⟨av,I,c4,aw⟩:=qb9 ab aq ar G
 clear ab aq ar G ap bj
 refine d.out _ _ (fun _=>bz) ?_
 clear d K
 refine tk (i:=8) (v:=?_) rfl (Or.inl ⟨by rfl,?_⟩) (by assumption) ?_
 rotate_left
 ·intro w c;(try dsimp only at c);go_simp
  all_goals with_reducible rfl
 try simp only[Act.put,lz1,lz2,lz3]
 try simp only[lz4,lz5,lz6,lz1,lz2,lz3]
 have Z:qh1 w2 T2 (.agg #[.int .u8 1,.int .u32 next,.int .u64 0,.int .u64 0,.int .u32 0,.int .u16 0,.bool false,.bool false,.slice none 0 0,.slice none 0 0,.slice none 0 0,.slice none 0 0]) (Qic next):=⟨⟨none,0,none,0,none,0,none,0,qay,qay,0,rfl,Bytes.empty _ _ _,Bytes.empty _ _ _,NS.nil _ _ _ _ _ _ _,NS.nil _ _ _ _ _ _ _,by simp[WrT,qay,tWr,tWb],by simp[WrT,qay,tWr,tWb]⟩,by show 1<256;omega,by show next<4294967296;omega,by show 0<18446744073709551616;omega,by show 0<18446744073709551616;omega,by show 0<4294967296;omega,by show 0<65536;omega⟩
 have a4:qes (Qic next)=true:=by rfl
 have J:=Qm5 next
 have ax:=Z2 J
 have B:qaw w2 T2 bl bd L:=I.hbl▸I.pool.log
 have c5:qci X+54<18446744073709551616:=by have:=bv.out;omega
 by_cases j:L.stream.length+27+(qci X+54)<=L.strips*127
 ·have r:=Qi0 B y Z a4 (by rw[J];omega) (fun h=>by cases h) (qci X+54) (by rw[J];exact j)
  rw[X1] at r
  have ac:=Z2 r
  clear r Z B
  refine Qst (i:=9) dK rfl (fun K d=>?_)
  go_simp
  go_at_call 85
  refine ac.mono ?_
  rintro e w3 ⟨rfl,T3,az,l⟩
  obtain⟨lsn,M⟩:=gN (L.base+L.stream.length)
  rw[M]
  have ad:=av.step l (by simp[qai,qe4,qb1,qa5,qa6])
  have b0:=c4.step l (by simp[qai,qc8,qb1,qa5,qa6])
  have E:w3.cell? ⟨bm,0,none⟩=some (.pointer (some ⟨bl,0,none⟩)):=ad.at 0 rfl
  obtain⟨b1,c6,c7,ae,b2⟩:=qbq ad b0 az l M
  clear ad b0 az l M
  refine d.out _ _ (fun _=>E) ?_
  clear d K
  refine tk0 [10,11,12] ?_
  iterate 3
   refine tkv (v:=?_) ?_ ?_
   rotate_left
   ·intro w c;(try dsimp only at c);go_simp
    all_goals with_reducible rfl
   try simp only[Act.put,lz1,lz2,lz3]
  refine tk9 ?_
  try simp only[lz4,lz5,lz6,lz1,lz2,lz3]
  refine Qst (i:=13) dK rfl (fun K d=>?_)
  go_simp
  refine d.out _ _ (fun _=>E) ?_
  clear d K
  refine Qst (i:=14) dK rfl (fun K d=>?_)
  go_simp
  refine d.out _ _ (fun h=>absurd h dK) ?_
  clear d K
  refine Qad kR ?_ _
  clear E c3
  have c2:=b1.at 2 rfl
  have a1:=(zS w3 T3).alloc (.cells #[.int .u32 next,.int .u64 lsn,.int .u64 lsn,.int .u8 1,.int .u64 lsn,.slice none 0 0] 108) (qab next)
  have b3:=Own.born w3 T3 (qab next) 108 #[.int .u32 next,.int .u64 lsn,.int .u64 lsn,.int .u8 1,.int .u64 lsn,.slice none 0 0]
  have b4:=c6.step a1 id
  have b5:=b1.step a1 id
  generalize T3.put w3.heap.size (qab next)=T4 at *
  have hadd32:IntKind.u32.wrap ((next:Int)+1)=(next:Int)+1:=by simp[IntKind.wrap,IntKind.bits,IntKind.signed];omega
  obtain⟨c8,c9,ca,cb⟩:=qb9 a1 b3 b4 b5
  clear a1 b3 b4 b5
  go_wp2_with (at_mapUpdate;go_loud (refine Qhn ca oM next w3.heap.size oM rfl _ _ _ rfl rfl rfl rfl ?_;intro w5 b6 a2;have O:=cb.step a2 (by simp[qe4,qc8]);have e3:=O.at 3 rfl;have z3:=O.fz 3;have a5:=c9.step a2 (by simp[qab,qc8]);have a3:Step w5 T4 (w5.setCell ⟨bm,3,none⟩ (.int .u32 ((next:Int)+1))) T4 (fun t=>t=qe4):=(Step.refl w5 T4 (fun t=>t=qe4)).set (o:=3) O.tag rfl _;have b7:=O.set 3 (.int .u32 ((next:Int)+1));have b8:=b6.step a3 (by simp[qc8,qe4]);have a6:=a5.step a3 (by simp[qab,qe4]);have a7:=(c8.mono (T:=fun t=>t=qe4\/t=qc8) (fun _ h=>h.elim)).trans ((a2.mono (T:=fun t=>t=qe4\/t=qc8) (fun _ h=>.inr h)).trans (a3.mono (fun _ h=>.inl h)));obtain⟨cd,ce,b9,C⟩:=qb9 b7 b8 a6 a7;clear b7 b8 a6 a7;clear b6 a2 O a5 a3))
  go_ret2
  have cf:=Qwh (I.mgr.step ae (fun g hg q=>by rcases q with q|q|q <;> (subst q;simp[Qai,qb1,qa5,qa6] at hg))) bh HX (lsn:=lsn) (nb:=w3.heap.size) cd ce C (fun g hg=>hg.elim .inl (fun h=>.inr (.inl h))) b9
  refine⟨T4,?_,.inr ⟨j,rfl,w3.heap.size,?_⟩⟩
  ·exact((ao.trans aw).nz (T:=qex)).trans ((ae.mono (T:=qex) (fun g h=>.inl (.inr (.inl h)))).trans (C.mono (fun g h=>.inr (.inl (by rcases h with h|h <;> (subst h;simp[Qai,qe4,qc8]))))))
  ·rw[b2.out]
   exact I.logged ((ae.mono (T:=fun g=>qai g\/Qai g) (fun g h=>.inl h)).trans (C.mono (fun g h=>.inr (by rcases h with h|h <;> (subst h;simp[Qai,qe4,qc8]))))) (fun g h=>h) (c7.step C (fun g hg q=>by rcases hg with h|h|h <;> (subst h;rcases q with q|q <;> simp[qb1,qa5,qa6,qe4,qc8] at q))) (by rw[ax.out];omega) (by rw[ax.out];omega) cf
 ·have r:=Qg1 B y Z a4 (by rw[J];omega) (fun h=>by cases h) (qci X+54) c5 (by rw[J];exact j)
  rw[X1] at r
  have ac:=Z2 r
  clear r Z B
  refine Qst (i:=9) dK rfl (fun K d=>?_)
  go_simp
  go_at_call 85
  refine ac.mono ?_
  rintro e w3 ⟨rfl,T3,l⟩
  have bc:=I.nil l
  have E:w3.cell? ⟨bm,0,none⟩=some (.pointer (some ⟨bl,0,none⟩)):=(av.step l id).at 0 rfl
  have a8:=(ao.trans aw).trans l
  obtain⟨cg,be⟩:=qaj bc a8
  clear bc a8 l
  refine d.out _ _ (fun _=>E) ?_
  clear d K
  refine tk0 [10,11,12] ?_
  iterate 3
   refine tkv (v:=?_) ?_ ?_
   rotate_left
   ·intro w c;(try dsimp only at c);go_simp
    all_goals with_reducible rfl
   try simp only[Act.put,lz1,lz2,lz3]
  refine tk9 ?_
  try simp only[lz4,lz5,lz6,lz1,lz2,lz3]
  refine Qst (i:=13) dK rfl (fun K d=>?_)
  go_simp
  refine d.out _ _ (fun _=>E) ?_
  clear d K
  refine Qst (i:=14) dK rfl (fun K d=>?_)
  go_simp
  refine d.out _ _ (fun h=>absurd h dK) ?_
  clear d K
  refine Qad kR ?_ _
  go_wp2_with fail
  go_ret2
  exact⟨T3,be.nz,.inl ⟨j,rfl,cg⟩⟩
end Go.Proofs.YtociicnopccppaaGreat
namespace Go.Proofs.YtociicnopccppaaGreat
open Go.RowKit
def Ji1 (A:Nat->Prop) (r:qak) (k:Nat):Prop:=if r.kind=8 then A k\/∃t∈r.qbm,t.txn=k else if r.kind=1 then A k\/k=r.txn else if r.kind=6 then A k/\k≠r.txn else A k
def alive (A:Nat->Prop) (R:List qak):Nat->Prop:=R.foldl Ji1 A
def qgg (_:Nat):Prop:=False
theorem Jjw {A B:Nat->Prop}(h:∀k,A k->B k) (r:qak):∀k,Ji1 A r k->Ji1 B r k:=fun k=>by
 unfold Ji1
 split
 ·exact fun q=>q.imp (h k) id
 ·split
  ·exact fun q=>q.imp (h k) id
  ·split
   ·exact fun q=>⟨h k q.1,q.2⟩
   ·exact h k
theorem Jk0 {A B:Nat->Prop}(h:∀k,A k->B k) (R:List qak):∀k,alive A R k->alive B R k:=by
 induction R generalizing A B with
 | nil=>exact h
 | cons r R ih=>exact ih (Jjw h r)
theorem Jji (A:Nat->Prop) (R T:List qak):alive A (R++T)=alive (alive A R) T:=List.foldl_append ..
theorem Jjk (A:Nat->Prop) (R:List qak) (r:qak):alive A (R++[r])=Ji1 (alive A R) r:=by rw[Jji];rfl
theorem Jk1 (R:List qak) (n k:Nat) (h:alive qgg (R.drop n) k):alive qgg R k:=by
 rw[<-List.take_append_drop n R,Jji]
 exact Jk0 (fun _ q=>q.elim) _ k h
theorem Jkq (A:Nat->Prop) {T:List qak}(h:∀q∈T,q.kind≠8/\q.kind≠1/\q.kind≠6):alive A T=A:=by
 induction T generalizing A with
 | nil=>rfl
 | cons r T ih =>
   obtain⟨a,b,c⟩:=h r sM
   have e:Ji1 A r=A:=by
    funext k
    unfold Ji1
    rw[if_neg a,if_neg b,if_neg c]
   show alive (Ji1 A r) T=A
   rw[e]
   exact ih A (fun q d=>h q (Y2 _ d))
theorem Jb4 {α:Type}{enc:α->List Value}{t e:TypeId}{k i:Nat}{p:TypeInfo}{z:Value}(X:Tryz.prog.underlying t=some (.slice e)) (hi:Tryz.prog.info? e=some p) (B:p.zero=some z) (C:p.size=k) (D:p.bytes=i) (F:z.cells.size=k) (G:0<k)
 {q w:World} {j τ:qa1} {S:Tag->Prop} (I:Step q j w τ S) {g:Tag} {v:Value} {l:List α} (n:NS e k enc q.heap.size w τ g v l) (x:α) (J:(enc x).length=k) (L:∀u∈enc x,u.oneCell'=true) (M:l.length<=1000000) (O:i<=1000) {kb:Nat} (R:kb=w.heap.size)
 {ops:Array Oper} {rest:List Oper} {o:Oper} {a:Act} {Q:Exit->Act->World->Prop} (c:o.guard=none) (s y:Operand)
 (U:o.op = .call {callee:=.builtin .append,args:=#[s,y],argTypes:=#[t,t]}) (Y:a.eval s=v) (Z:a.eval y = .slice (some ⟨kb,0,none⟩) 1 1) {W:World} (hW:W=w.alloc (.cells (enc x).toArray e))
 (h:∀r d b,NS e k enc q.heap.size d b g r (l++[x])->Step q j d b S->Step w τ d b (fun t=>t=g)->wpList Tryz.prog ops Q rest (a.put o.dst r) d):wpList Tryz.prog ops Q (o::rest) a W:=by
 subst hW
 refine wpList_plain c fun K hK=>?_
 have:=Qg3 X hi B C D F G I n x J L M O R (ops:=ops) (o:=o) (a:=a) (K:=K) (Q:=Q) (E:=True) c s y U Y Z (fun r d b a1 a2 a3=>hK _ _ (h r d b a1 a2 a3))
 have hw:Region.wanted o (yielded ops a.tmps)=true:=by simp[Region.wanted,c]
 rw[if_pos hw] at this
 exact this
theorem Tryz.infoEntry:((Tryz.prog.info? 75).bind fun i=>i.zero.map fun z=>(z.cells.size,i.size,i.bytes))=some (13,13,136):=kR
theorem Jcg:∃i z,Tryz.prog.info? 75 = some i/\i.zero=some z/\i.size=13/\i.bytes=136/\z.cells.size=13:=by
 have h:=Tryz.infoEntry
 cases hi:Tryz.prog.info? 75 with
 | none=>rw[hi] at h;cases h
 | some i =>
   rw[hi] at h
   cases a:i.zero with
   | none=>simp[a] at h
   | some z =>
     simp[a] at h
     exact⟨i,z,rfl,a,h.2.1,h.2.2,h.1⟩
def qho:Tag:=(211,0)
def Jb3 (x:Nat×List Value):List Value:=.int .u64 x.1::x.2
def qhy (R:List qak) (k:Nat):Nat:=1+(qae (R.take k)).length
def qhp (g:Tag):Tag:=if g.1=198\/g.1=199\/g.1=200\/g.1=212 then (213,0) else g
def qhq (g:Tag):Tag:=if g.1=198\/g.1=199\/g.1=200 then (212,g.1*10+g.2) else g
def tTxO:Tag:=(212,1990)
def qjh:Tag:=(212,1991)
theorem Own.ret {w:World}{τ:qa1}{b:Nat}{g:Tag}{t:TypeId}{a:List Value}(h:Own w τ b g t a) (ρ:Tag->Tag):Own w (fun j=>ρ (τ j)) b (ρ g) t a:=⟨h.row,congrArg ρ h.tag⟩
theorem Buf.ret {w:World}{τ:qa1}{g:Tag}{e:TypeId}{k:Nat}{v:Value}{n:Nat}{a:List Value}(h:Buf w τ g e k v n a) (ρ:Tag->Tag):Buf w (fun j=>ρ (τ j)) (ρ g) e k v n a:=by
 obtain⟨h1,h2|⟨b,cap,ys,c,d,i⟩⟩:=h
 ·exact⟨h1,.inl h2⟩
 ·exact⟨h1,.inr ⟨b,cap,ys,c,d.ret ρ,i⟩⟩
theorem NS.ret {α:Type}{e:TypeId}{k:Nat}{enc:α->List Value}{n0:Nat}{w:World}{τ:qa1}{g:Tag}{v:Value}{l:List α}(h:NS e k enc n0 w τ g v l) (ρ:Tag->Tag):NS e k enc n0 w (fun j=>ρ (τ j)) (ρ g) v l:=⟨h.buf.ret ρ,h.low⟩
theorem NS.zero {α:Type}{e:TypeId}{k:Nat}{enc:α->List Value}{n0:Nat}{w:World}{τ:qa1}{g:Tag}{v:Value}{l:List α}(h:NS e k enc n0 w τ g v l):NS e k enc 0 w τ g v l:=⟨h.buf,fun _ _=>Z9 _⟩
theorem NS.by {α:Type}{e:TypeId}{k:Nat}{enc:α->List Value}{n0:Nat}{w:World}{τ a:qa1}{g:Tag}{v:Value}{l:List α}(h:NS e k enc n0 w τ g v l) (d:∀j,v.ownBlock=some j->τ j=g->a j=g):NS e k enc n0 w a g v l:=by
 refine⟨⟨h.buf.1,?_⟩,h.low⟩
 rcases h.buf.2 with h2|⟨b,cap,ys,e1,c,i⟩
 ·exact .inl h2
 ·exact .inr ⟨b,cap,ys,e1,⟨c.row,d b (by rw[e1];rfl) c.tag⟩,i⟩
theorem qaw.ret {w:World}{τ:qa1}{bl bd:Nat}{L:qac}(h:qaw w τ bl bd L):qaw w (fun j=>qhp (τ j)) bl bd L:=by
 obtain⟨d,e,a,b,c⟩:=h.is
 have g:qhp qb1=qb1:=by simp[qhp,qb1,qa4]
 have i:qhp qa5=qa5:=by simp[qhp,qa5,qa4]
 have k:qhp qa6=qa6:=by simp[qhp,qa6,qa4]
 exact⟨⟨d,e,g▸a.ret qhp,i▸b.ret qhp,k▸c.ret qhp⟩,h.isB,h.ok⟩
theorem Step.norm {w c:World}{τ a:qa1}{S:Tag->Prop}(h:Step w τ c a S) (b:∀j,¬qa4 (τ j)):Step w τ c (fun j=>qhq (a j)) S/\∀j,¬qa4 (qhq (a j)):=by
 refine⟨⟨h.mod,fun k d=>?_⟩,fun j q=>?_⟩
 ·show qhq (a k)=τ k
  rw[h.ext k d]
  exact if_neg (b k)
 ·unfold qhq at q
  split at q
  ·simp[qa4] at q
  ·next h=>exact h q
def Jjm (r:qak) (vb va vt vp:Value):List Value:=[.int .u8 r.kind,.int .u32 r.txn,.int .u64 r.prev,.int .u64 r.next,.int .u32 r.change.page,.int .u16 r.change.slot,.bool r.change.had,.bool r.change.has,vb,va,vt,vp]
structure qeh (w:World) (τ:qa1) (r:qak) (vb va vt vp:Value):Prop where
 b:∃p n c,vb = .slice p n c
 a:∃p n c,va = .slice p n c
 t:NS 42 4 Qct 0 w τ tTxO vt r.qbm
 p:NS 84 2 Qgn 0 w τ qjh vp r.pages
theorem qeh.step {w d:World}{τ c:qa1}{S:Tag->Prop}{r:qak}{vb va e i:Value}(h:qeh w τ r vb va e i) (m:Step w τ d c S) (j:∀g:Tag,g.1=212->¬S g):qeh d c r vb va e i:=⟨h.b,h.a,h.t.step m (j _ rfl),h.p.step m (j _ rfl)⟩
def Jmg (w:World) (τ:qa1) (x:Nat×qak) (c:List Value):Prop:=∃vb va vt vp,c = .int .u64 x.1::Jjm x.2 vb va vt vp/\qeh w τ x.2 vb va vt vp
structure qdw (w:World) (τ:qa1) (v:Value) (l:List (Nat×qak)):Prop where
 is:∃p c,v = .slice p l.length c/\l.length<=maxLen/\∀(i:Nat) (x:Nat×qak),l[i]?=some x->∃b cs,p=some ⟨b,0,none⟩/\τ b=qho/\b<w.heap.size/\Jmg w τ x cs/\∀j u,cs[j]?=some u->w.cell? ⟨b,i*13+j,none⟩=some u
theorem qdw.step {w k:World}{τ a:qa1}{S:Tag->Prop}{v:Value}{l:List (Nat×qak)}(h:qdw w τ v l) (m:Step w τ k a S) (n:∀g:Tag,g.1=211\/g.1=212->¬S g):qdw k a v l:=by
 obtain⟨p,c,e,hl,q⟩:=h.is
 refine⟨p,c,e,hl,fun i x r=>?_⟩
 obtain⟨b,cs,s,o,d,⟨vb,va,y,z,B,h2⟩,C⟩:=q i x r
 refine⟨b,cs,s,(m.ext b d).trans o,Nat.lt_of_lt_of_le d m.size,⟨vb,va,y,z,B,h2.step m (fun g D=>n g (.inr D))⟩,fun j u E=>cell_kept m (C j u E) (by rw[o];exact n _ (.inl rfl))⟩
def Ji0 (R:List qak) (k:Nat):List (Nat×qak):=((R.drop k).zipIdx k).map (fun x=>(qhy R x.2,x.1))
theorem Jjd (R:List qak) (k:Nat):(Ji0 R k).length=R.length-k:=by unfold Ji0;simp
theorem Jje (R:List qak) (k i:Nat):(Ji0 R k)[i]?=R[k+i]?.map (fun r=>(qhy R (k+i),r)):=by
 unfold Ji0
 rw[List.getElem?_map,List.getElem?_zipIdx,List.getElem?_drop]
 cases R[k+i]? <;> rfl
theorem Jka (R:List qak) (k:Nat):(Ji0 R k).map Prod.snd=R.drop k:=by
 refine List.ext_getElem? fun i=>?_
 rw[List.getElem?_map,Jje,List.getElem?_drop]
 cases R[k+i]? <;> rfl
structure qfp (w:World) (τ:qa1) (R:List qak) (k:Nat) (E:List (Nat×List Value)) (i:Nat):Prop where
 len:E.length=i
 all:∀x∈E,x.2.length=12
 row:∀j r,j<i->R[k+j]?=some r->∃vb va vt vp,E[j]?=some (qhy R (k+j),Jjm r vb va vt vp)/\qeh w τ r vb va vt vp
theorem qfp.step {w b:World}{τ a:qa1}{S:Tag->Prop}{R:List qak}{k i:Nat}{E:List (Nat×List Value)}(h:qfp w τ R k E i) (m:Step w τ b a S) (c:∀g:Tag,g.1=212->¬S g):qfp b a R k E i:=⟨h.len,h.all,fun j r d l=>by
 obtain⟨vb,va,n,o,e,q⟩:=h.row j r d l
 exact⟨vb,va,n,o,e,q.step m c⟩⟩
theorem qfp.ret {w:World}{τ:qa1}{R:List qak}{k i:Nat}{E:List (Nat×List Value)}(h:qfp w τ R k E i):qfp w (fun j=>qhq (τ j)) R k E i:=⟨h.len,h.all,fun j r c d=>by
 obtain⟨vb,va,g,l,e,q⟩:=h.row j r c d
 exact⟨vb,va,g,l,e,q.b,q.a,q.t.ret qhq,q.p.ret qhq⟩⟩
theorem qfp.snoc {w:World}{τ:qa1}{R:List qak}{k i:Nat}{E:List (Nat×List Value)}(h:qfp w τ R k E i) {r:qak}(p:R[k+i]?=some r) {vb va n o:Value}(q:qeh w τ r vb va n o):qfp w τ R k (E++[(qhy R (k+i),Jjm r vb va n o)]) (i+1):=by
 refine⟨by rw[Z6,h.len];rfl,fun x l=>?_,fun j s hj g=>?_⟩
 ·rcases List.mem_append.1 l with l|l
  ·exact h.all x l
  ·rw[Y8 l];rfl
 ·by_cases e:j=i
  ·subst e
   rw[p] at g
   cases g
   exact⟨vb,va,n,o,by rw[Y6 (by rw[h.len];exact Z0 _),h.len,Nat.sub_self];rfl,q⟩
  ·obtain⟨a,b,c,d,y,z⟩:=h.row j s oM g
   exact⟨a,b,c,d,by rw[Y5 (by rw[h.len];omega)];exact y,z⟩
theorem Jmc:∀(l:List (Nat×List Value)) (i:Nat) (x:Nat×List Value) (j:Nat),(∀y∈l,y.2.length=12)->l[i]?=some x->j<13->(l.flatMap Jb3)[i*13+j]?=(Jb3 x)[j]?:=by
 intro l
 induction l with
 | nil=>intro i x j _ a;simp at a
 | cons y l ih =>
   intro i x j hl a c
   rw[List.flatMap_cons]
   have b:(Jb3 y).length=13:=by
    have:=hl y sM
    show y.2.length+1=13
    omega
   cases i with
   | zero =>
     have:y=x:=by simpa using a
     subst this
     rw[Y5 (by rw[b];omega),Nat.zero_mul,Nat.zero_add]
   | succ i =>
     rw[Y6 (by rw[b];omega),b,show (i+1)*13+j-13=i*13+j by omega]
     exact ih i x j (fun z d=>hl z (Y2 _ d)) (by simpa using a) c
theorem qfp.at {n0:Nat}{w:World}{τ d:qa1}{v:Value}{R:List qak}{k:Nat}{E:List (Nat×List Value)}(h:NS 75 13 Jb3 n0 w τ qho v E) (g:qfp w τ R k E (R.length-k)) (h1:∀j,v.ownBlock=some j->d j=τ j) (h2:∀j,(τ j).1=212->d j=τ j):qdw w d v (Ji0 R k):=by
 have c:=Jjd R k
 obtain⟨l,⟨rfl,o⟩|⟨b,cap,ys,rfl,s,h3,C,h5⟩⟩:=h.buf
 ·rw[g.len] at o
  refine⟨none,0,by rw[c,o],by rw[c,o];exact Z9 _,fun i x n=>?_⟩
  have:=(Z4 n).1
  omega
 ·rw[g.len] at l C
  refine⟨_,cap,by rw[c,g.len],by rw[c];omega,fun i x n=>?_⟩
  have hi:=(Z4 n).1
  rw[c] at hi
  rw[Jje] at n
  obtain⟨r,D,rfl⟩:=Option.map_eq_some_iff.1 n
  obtain⟨vb,va,y,z,F,q⟩:=g.row i r hi D
  refine⟨b,.int .u64 (qhy R (k+i):Int)::Jjm r vb va y z,rfl,(h1 b rfl).trans s.tag,s.lt,⟨vb,va,y,z,rfl,⟨q.b,q.a,q.t.by (fun j _ e=>(h2 j (by rw[e];rfl)).trans e),q.p.by (fun j _ e=>(h2 j (by rw[e];rfl)).trans e)⟩⟩,fun j u B=>s.at _ ?_⟩
  have G:j<13:=(Z4 B).1
  rw[Y5 (by rw[l];omega),Jmc E i _ j g.all F G]
  exact B
theorem Jj2 {w:World}{τ:qa1}{bl bd:Nat}{L:qac}(hl:qaw w τ bl bd L) (I:L.qfh) {lsn:Nat}(y:lsn<18446744073709551616) (z:∀j f,L.AtR lsn j f->f=false) :
 Calls Tryz.prog 65 #[.pointer (some ⟨bl,0,none⟩),.int .u64 lsn] w fun e J=>e = .returned (.tuple #[.agg zR,.int .u64 0,.int .u16 81])/\∃B,Step w τ J B nil:=by
 have l:=(zS w τ).alloc (.cells zR 73) tRr
 have n:=Own.born w τ tRr 73 zR
 have r:=hl.step l zN
 generalize hτ1:τ.put w.heap.size tRr=τ1 at *
 have h:=Qos r I lsn y
 obtain⟨d,p⟩:=gN w.heap.size
 rw[p] at n
 obtain⟨C,D,E,s⟩:=qb9 h l n p
 clear h r l n p
 go_enter Tryz.func65,Tryz.ntmps65
 go_wp2_with fail
 rw[s.out]
 generalize w.alloc (.cells zR 73)=W0 at *
 refine C.mono ?_
 rintro e w1 ⟨⟨j,f,rfl,h⟩,q⟩
 obtain rfl:=z j f h
 have g:=E.step q id
 have i:=D.trans q
 obtain⟨c0,z0,c1,z1,c2,z2,c3,z3,c4,z4,c5,z5,c6,z6,c7,z7,c8,z8,c9,z9,c10,z10,c11,z11⟩:=Jby g
 have a:=((((((((((((g.set 0 (.int .u8 0)).set 1 (.int .u32 0)).set 2 (.int .u64 0)).set 3 (.int .u64 0)).set 4 (.int .u32 0)).set 5 (.int .u16 0)).set 6 (.bool false)).set 7 (.bool false)).set 8 (.slice none 0 0)).set 9 (.slice none 0 0)).set 10 (.slice none 0 0)).set 11 (.slice none 0 0))
 have f0:=a.at 0 rfl
 have f1:=a.at 1 rfl
 have M:=a.at 2 rfl
 have O:=a.at 3 rfl
 have R:=a.at 4 rfl
 have U:=a.at 5 rfl
 have f6:=a.at 6 rfl
 have X:=a.at 7 rfl
 have Y:=a.at 8 rfl
 have Z:=a.at 9 rfl
 have F:=a.at 10 rfl
 have G:=a.at 11 rfl
 have c:w.heap.size<=d:=Nat.le_of_eq s
 have k:=((((((((((((i.qa3 (b:=d) (o:=0) c (.int .u8 0)).qa3 (b:=d) (o:=1) c (.int .u32 0)).qa3 (b:=d) (o:=2) c (.int .u64 0)).qa3 (b:=d) (o:=3) c (.int .u64 0)).qa3 (b:=d) (o:=4) c (.int .u32 0)).qa3 (b:=d) (o:=5) c (.int .u16 0)).qa3 (b:=d) (o:=6) c (.bool false)).qa3 (b:=d) (o:=7) c (.bool false)).qa3 (b:=d) (o:=8) c (.slice none 0 0)).qa3 (b:=d) (o:=9) c (.slice none 0 0)).qa3 (b:=d) (o:=10) c (.slice none 0 0)).qa3 (b:=d) (o:=11) c (.slice none 0 0))
 have x:=Z2 k
 clear k q a g i
 go_wp2_with fail
 refine bodyPost_ret (by simp[results,Tryz.results65,go_sem,f0,f1,M,O,R,U,f6,X,Y,Z,F,G];try rfl) rfl ?_
 exact⟨rfl,_,x⟩
theorem Jjc {w:World}{τ:qa1}{bl bd N:Nat}{cur:Nat->List Int}{L:qac}(hl:qaw w τ bl bd L) (hr:L.qfh) {R:List qak}(hR:qca N cur L R) (hn:R.length<=100000) {lsn:Nat}(d3:lsn<18446744073709551616) {k:Nat}(hk:k<=R.length) (d5:k<R.length\/k=0) (bn:∀j f,L.AtR lsn j f->j=k) :
 Calls Tryz.prog 23 #[.pointer (some ⟨bl,0,none⟩),.int .u64 lsn] w fun e w'=>∃v C,e = .returned v/\qdw w' C v (Ji0 R k)/\Step w τ w' C nil:=by
 have ac:=hl.ret
 have ai:∀j,¬qa4 (qhp (τ j)):=fun j q=>by
  unfold qhp at q
  split at q
  ·simp[qa4] at q
  ·next h=>exact h (by rcases q with q|q|q;exact .inl q;exact .inr (.inl q);exact .inr (.inr (.inl q)))
 have aj:∀j,(qhp (τ j)).1≠212:=fun j q=>by
  unfold qhp at q
  split at q
  ·cases q
  ·next h=>exact h (.inr (.inr (.inr q)))
 obtain⟨d,O⟩:∃t:qa1,(fun j=>qhp (τ j))=t:=⟨_,rfl⟩
 have bo:∀j,¬qa4 (d j):=fun j=>by rw[<-O];exact ai j
 have a5:∀j,(d j).1≠212:=fun j=>by rw[<-O];exact aj j
 rw[O] at ac
 have ad:=Qos ac hr lsn d3
 have d6:=hl.ok.stream
 have ae:L.starts.length=R.length:=by rw[hR.starts,Qbc]
 have bp:=hR.base
 have ak:=hR.stream
 have al:=hR.starts
 have am:∀w' b p c (E:List (Nat×List Value)),NS 75 13 Jb3 w.heap.size w' b qho (.slice p (R.length-k) c) E->qfp w' b R k E (R.length-k)->Step w d w' b nil->∃v C,Ending.returned (.slice p (R.length-k) c) = .returned v/\qdw w' C v (Ji0 R k)/\Step w τ w' C nil:=fun w' b p c E h1 h2 h3=>by
  refine⟨_,fun j=>if j<w.heap.size then τ j else b j,rfl,h2.at h1 (fun j hj=>if_neg (by have:=h1.low j hj;omega)) (fun j hj=>?_),h3.mod,fun j hj=>if_pos hj⟩
  by_cases c:j<w.heap.size
  ·rw[h3.ext j c] at hj
   exact absurd hj (a5 j)
  ·exact if_neg c
 obtain⟨d7,d8,Hr,HR,d9,bq,br,bs,U⟩:=qgw ad ac hr hR bp ak al bo am
 clear ad ac hr hR bp ak al bo am hl ai aj a5 O
 go_enter Tryz.func23,Tryz.ntmps23
 go_wp2_with fail
 refine d7.mono ?_
 rintro e w1 ⟨⟨B,f,rfl,ad⟩,I⟩
 obtain rfl:=bn B f ad
 have a6:=d8.step I zN
 obtain⟨vs,vt,J,a7,D⟩:=a6.is
 have a8:=D.1
 obtain⟨m,hm⟩:=gN (R.length-B)
 obtain⟨n,M⟩:=gN R.length
 have Y:=hm
 rw[M] at hk d5 hn hm ae
 rcases D.2 with ⟨rfl,he⟩|⟨bt,ct,zs,rfl,b3,hd1,db,bw⟩
 ·have b4:B=0:=oM
  subst b4
  have b5:m=0:=oM
  subst b5
  have c8:=J.at 8 rfl
  obtain⟨Z,b6,a⟩:=qan I M Y
  clear I M Y J a7 D a8 a6 hm
  go_wp2_with fail
  go_loopw [7,27] (fun m v wr=>m = .slice none 0 0/\v = .int .i64 0/\wr=w1) (fun _ v _=>0)
  case atStart=>exact⟨rfl,rfl,rfl⟩
  case round =>
   obtain⟨rfl,rfl,rfl⟩:=hrel
   go_wp2_with fail
   go_ret
   have:=U wr d none 0 [] (by rw[a.out];exact NS.nil _ _ _ _ _ _ _) ⟨by rw[a.out];rfl,fun x hx=>absurd hx sM,fun j r hj=>by rw[a.out] at hj;omega⟩ Z
   rw[a.out] at this
   exact this
 ·rw[ae] at J db a8
  have b8:∀W T,Step w1 d W T (fun g=>g=qho)->W.cell? ⟨bl,1,none⟩=some (.int .u64 1)/\∀i,i<n->W.cell? ⟨bt,i,none⟩=some (.int .i64 ((qae (R.take i)).length:Int)):=fun W T m=>by
   refine⟨(J.step m (by simp[qb1,qho])).at 1 (by show some (Value.int .u64 L.base)=_;rw[d9.out];rfl),fun i hi=>(b3.step m (by simp[qa6,qho])).at i ?_⟩
   rw[Y5 (by rw[a8];omega)]
   unfold qhm
   have b9:i<R.length:=oM
   rw[List.getElem?_map,br.out,Z3 (by rw[Qbc];exact b9)]
   have:=Qnl b9
   rw[Z5,Z3 (by rw[Qbc];exact b9)] at this
   simp only[Option.map_some]
   rw[<-this];rfl
  have c8:=J.at 8 rfl
  by_cases hkn:B<n
  ·have n1:¬ct=B:=oM
   have n2:(0:Int)<=B:=oM
   have n3:(B:Int)<=n:=oM
   obtain⟨dc,Z,b6,dd,a⟩:=qbq b8 I M a6 Y
   clear b8 I M a6 Y J b3 a7 ae a8 bw D
   go_wp2_with fail
   go_loopw [7,27] (fun o v wr=>∃(i:Nat) (b:qa1) (E:List (Nat×List Value)),i<=m/\v = .int .i64 i/\NS 75 13 Jb3 w.heap.size wr b qho o E/\qfp wr b R B E i/\Step w d wr b nil/\Step w1 d wr b (fun g=>g=qho)/\∀j,¬qa4 (b j)) (fun _ v _=>m-(intOf v).toNat)
   case atStart=>exact⟨0,d,[],Z9 _,rfl,NS.nil _ _ _ _ _ _ _,⟨rfl,fun x hx=>absurd hx sM,fun k r hk=>absurd hk oM⟩,Z,Step.refl _ _ _,bs⟩
   case round =>
    obtain⟨i,b,E,hi,rfl,F,a0,af,X,bz⟩:=hrel
    by_cases hlt:i<m
    ·obtain⟨r,ba⟩:∃r,R[B+i]?=some r:=⟨_,Z3 (by rw[b6.out];omega)⟩
     obtain⟨kk,x',c3,c4,c5,an⟩:=qdm.read HR ⟨B+i,ba,rfl⟩
     have bb:=Qg8 (dd.step X (by rintro g (rfl|rfl|rfl) <;> simp[qb1,qa5,qa6,qho])) Hr c3 c4 c5 an
     obtain⟨c1,cs⟩:=dc _ _ X
     have ci:=cs (B+i) oM
     have bc:qhy R (B+i)=1+(qae (R.take (B+i))).length:=rfl
     have hs6:(qae (R.take (B+i))).length<=1000000:=by
      have e:qae R=qae (R.take (B+i))++qae (R.drop (B+i)):=by
       unfold qae
       rw[<-List.flatMap_append,List.take_append_drop]
      have:=bq.out
      rw[this,e,Z6] at d6
      omega
     generalize (qae (R.take (B+i))).length=s at *
     have a1:=Qam s oM
     have a2:IntKind.u64.wrap (1+(s:Int))=((1+s:Nat):Int):=by
      rw[show 1+(s:Int)=((1+s:Nat):Int) by omega]
      exact Qam (1+s) oM
     obtain⟨z,hz⟩:=gN (1+s)
     rw[hz] at bb a2 bc
     obtain⟨pm,cm,rfl⟩:=F.val
     have a9:=a0.len
     rw[a9] at F ⊢
     have hltI:(i:Int)<m:=oM
     obtain⟨be,bf,bg,de,df,dh,di,c6,c7⟩:=qgw af F a0 bb bc ba a9 X bz
     clear af F a0 bb bc ba a9 X bz cs an c5 c4 c3
     go_wp2_with fail
     refine de.mono ?_
     rintro e w2 ⟨v,dk,rfl,⟨vb,va,vt,vp,n0,rfl,q1,q2,q3,q4⟩,ao⟩
     obtain⟨y,ap⟩:=ao.norm c7
     obtain⟨pb,cb,rfl,q1⟩:=q1
     obtain⟨pa,ca,rfl,q2⟩:=q2
     have q3:=(q3.ret qhq).zero
     have q4:=(q4.ret qhq).zero
     obtain⟨ag,G⟩:∃t:qa1,(fun j=>qhq (dk j))=t:=⟨_,rfl⟩
     rw[show qhq tTx=tTxO from rfl,G] at q3
     rw[show qhq tPx=qjh from rfl,G] at q4
     have aq:∀j,¬qa4 (ag j):=fun j=>by rw[<-G];exact ap j
     rw[G] at y
     have y:Step wr b w2 ag nil:=⟨y.mod.mono (fun k _ q=>c7 k q),y.ext⟩
     obtain⟨pt,bh,rfl⟩:=q3.val
     obtain⟨pp,cp,rfl⟩:=q4.val
     have ar:=bf.step y id
     have av:=bg.step y zN
     have aw:=be.trans y
     have aa:=c6.trans (y.mono (T:=fun g=>g=qho) (fun _ h=>h.elim))
     have l:=((zS w2 ag).alloc' (.cells (rR r.kind r.txn r.prev r.next r.change.page r.change.slot r.change.had r.change.has (.slice pb r.change.before.length cb) (.slice pa r.change.after.length ca) (.slice pt r.qbm.length bh) (.slice pp r.pages.length cp)) 73))
     have ax:=ar.step l id
     have ay:=av.step l zN
     have az:=aw.trans l
     have ab:=aa.trans (l.nz)
     have c9:qeh _ ag r (.slice pb r.change.before.length cb) (.slice pa r.change.after.length ca) (.slice pt r.qbm.length bh) (.slice pp r.pages.length cp):=⟨⟨_,_,_,rfl⟩,⟨_,_,_,rfl⟩,q3.step l id,q4.step l id⟩
     obtain⟨i0,z0,cc,cd,ce,cf,cg⟩:=Jcg
     have ch:E.length<=1000000:=by have:=di.out;omega
     have ah:=ay.snoc dh c9
     rw[df.out] at ah
     unfold Jjm at ah
     obtain⟨cj,ck,bi,dq,dr,ds,dt,dv,dw,dx,cn⟩:=qg6 ax az ab ah cc cd ce cf cg ch aq
     clear ax az ab ah cc cd ce cf cg ch aq q1 q2 q3 q4 y ar aw aa l ao ap av ay c9 G
     go_wp2_with (at_builtin;refine Jb4 Tryz.underlying64 dr ds dt dv dw dC ck cj (z,[.int .u8 r.kind,.int .u32 r.txn,.int .u64 r.prev,.int .u64 r.next,.int .u32 r.change.page,.int .u16 r.change.slot,.bool r.change.had,.bool r.change.has,.slice pb r.change.before.length cb,.slice pa r.change.after.length ca,.slice pt r.qbm.length bh,.slice pp r.pages.length cp]) rfl (by simp[Jb3,Value.oneCell']) dx dC (kb:=w2.heap.size+1) (by rw[World.size_alloc]) rfl _ _ rfl rfl rfl rfl ?_;intro v' w' C hb he co;obtain⟨Hb,He,cq⟩:=qan hb he co;clear hb he co)
     obtain⟨cr,b0⟩:=cq.norm cn
     have cv:Step w d w' (fun j=>qhq (C j)) nil:=⟨He.mod,(He.norm bs).1.ext⟩
     have cw:NS 75 13 Jb3 w.heap.size w' (fun j=>qhq (C j)) qho v' _:=Hb.ret qhq
     have b1:=(dq.step cq (fun g hg e=>by subst e;cases hg)).ret
     have b2:=bi.trans cr
     obtain⟨dy,cx,cy,dz,cz⟩:=qbq cw b1 b2 cv b0
     clear cw b1 b2 cv b0 cr
     go_round
     case rel=>exact⟨i+1,_,_,oM,sM,dy,cx,dz,cy,cz⟩
     case measure=>simp[intOf];omega
    ·have e0:i=m:=oM
     subst e0
     obtain⟨pm,cm,rfl⟩:=F.val
     have a9:=a0.len
     rw[a9] at F ⊢
     obtain⟨be,bf,bg⟩:=qan af F a0
     clear af F a0
     go_wp2_with fail
     go_ret
     have:=U wr b pm cm E (by rw[a.out];exact bf) (by rw[a.out];exact bg) be
     rw[a.out] at this
     exact this
  ·have b4:B=0:=oM
   subst b4
   have e1:n=0:=oM
   subst e1
   have b5:m=0:=oM
   subst b5
   obtain⟨Z,b6,a⟩:=qan I M Y
   clear I M Y J b3 a7 ae a8 bw D b8 a6 hm
   by_cases d0:ct=0
   ·subst d0
    go_wp2_with fail
    go_loopw [7,27] (fun m v wr=>m = .slice none 0 0/\v = .int .i64 0/\wr=w1) (fun _ v _=>0)
    case atStart=>exact⟨rfl,rfl,rfl⟩
    case round =>
     obtain⟨rfl,rfl,rfl⟩:=hrel
     go_wp2_with fail
     go_ret
     have:=U wr d none 0 [] (by rw[a.out];exact NS.nil _ _ _ _ _ _ _) ⟨by rw[a.out];rfl,fun x hx=>absurd hx sM,fun j r hj=>by rw[a.out] at hj;omega⟩ Z
     rw[a.out] at this
     exact this
   ·have n1:¬ct=0:=d0
    go_wp2_with fail
    go_loopw [7,27] (fun m v wr=>m = .slice none 0 0/\v = .int .i64 0/\wr=w1) (fun _ v _=>0)
    case atStart=>exact⟨rfl,rfl,rfl⟩
    case round =>
     obtain⟨rfl,rfl,rfl⟩:=hrel
     go_wp2_with fail
     go_ret
     have:=U wr d none 0 [] (by rw[a.out];exact NS.nil _ _ _ _ _ _ _) ⟨by rw[a.out];rfl,fun x hx=>absurd hx sM,fun j r hj=>by rw[a.out] at hj;omega⟩ Z
     rw[a.out] at this
     exact this
