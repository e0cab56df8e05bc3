/-
 Transactions,plain: the log as its records,the chain of what is not undone,the slots.
-/
import Derived.Test.YtemacanaihaldaaGreatMTxJ
set_option maxRecDepth 100000
set_option maxHeartbeats 4000000
set_option linter.all false
namespace Go.Proofs.YtemacanaihaldaaGreat
variable {L:LogM}{N a next st:Nat}{R:List RecP}{c:ChangeP}{w:World}{τ:Tags}
open Go.RowKit
def recsB (R:List RecP):List Int:=R.flatMap encR
def Qdf (R:List RecP):List Nat:=(List.range R.length).map (fun k=>(recsB (R.take k)).length)
theorem Qmo (R:List RecP) (r:RecP):recsB (R++[r])=recsB R++encR r:=by
 unfold recsB
 rw[List.flatMap_append]
 simp
theorem Qmd (R:List RecP) (r:RecP):Qdf (R++[r])=Qdf R++[(recsB R).length]:=by
 unfold Qdf
 rw[Z6,List.length_singleton,List.range_succ,List.map_append]
 congr 1
 ·refine List.map_congr_left fun k hk=>?_
  have:=List.mem_range.1 hk
  rw[List.take_append_of_le_length (by omega)]
 ·simp
theorem Qbc (R:List RecP):(Qdf R).length=R.length:=by unfold Qdf;simp
theorem Qnl {k:Nat}(hk:k<R.length):(Qdf R).getD k 0=(recsB (R.take k)).length:=by
 unfold Qdf
 rw[Z5,List.getElem?_map,List.getElem?_range hk]
 rfl
theorem Qx1 (r:RecP):27<=(encR r).length:=by rw[Qbh];omega
theorem Qfk (R:List RecP):R.length*27<=(recsB R).length:=by
 induction R with
 | nil=>simp
 | cons r R ih =>
   have h:recsB (r::R)=encR r++recsB R:=rfl
   have:=Qx1 r
   rw[h,Z6,Y4];omega
structure LogIs (L:LogM) (R:List RecP):Prop where
 stream:L.stream=recsB R
 starts:L.starts=Qdf R
 ok:∀r∈R,r.kind≠8->r.ok
 base:L.base=1
theorem LogIs.more8 {M:LogM}(h:LogIs L R) {r:RecP}(e:r.kind≠8->r.ok) (d:SameLog (L.more (encR r)) M):LogIs M (R++[r]):=by
 refine⟨?_,?_,fun q b=>?_,by rw[d.base];exact h.base⟩
 ·rw[d.stream,Qmo]
  show L.stream++encR r=_
  rw[h.stream]
 ·rw[d.starts,Qmd]
  show L.starts++[L.stream.length]=_
  rw[h.starts,h.stream]
 ·rcases List.mem_append.1 b with b|b
  ·exact h.ok q b
  ·rw[Y8 b];exact e
theorem LogIs.more {M:LogM}(h:LogIs L R) {r:RecP}(b:r.ok) (d:SameLog (L.more (encR r)) M):LogIs M (R++[r]):=h.more8 (fun _=>b) d
theorem LogIs.same {M:LogM}(h:LogIs L R) (b:SameLog L M):LogIs M R:=⟨by rw[b.stream];exact h.stream,by rw[b.starts];exact h.starts,h.ok,by rw[b.base];exact h.base⟩
def RecAt (R:List RecP) (a:Nat) (r:RecP):Prop:=∃k,R[k]?=some r/\a=1+(recsB (R.take k)).length
theorem RecAt.app {r:RecP}(h:RecAt R a r) (T:List RecP):RecAt (R++T) a r:=by
 obtain⟨k,hk,e⟩:=h
 have hl:=(Z4 hk).1
 exact⟨k,by rw[Y5 hl];exact hk,by rw[List.take_append_of_le_length (by omega)];exact e⟩
theorem RecAt.new (R:List RecP) (r:RecP):RecAt (R++[r]) (1+(recsB R).length) r:=⟨R.length,by simp,by simp⟩
theorem RecAt.low {r:RecP}(h:RecAt R a r):0<a/\a+27<=1+(recsB R).length:=by
 obtain⟨k,hk,rfl⟩:=h
 have hl:=(Z4 hk).1
 have b:recsB R=recsB (R.take k)++recsB (R.drop k):=by
  unfold recsB
  rw[<-List.flatMap_append,List.take_append_drop]
 have h2:=Qfk (R.drop k)
 rw[List.length_drop] at h2
 rw[b,Z6]
 omega
theorem RecAt.read(b:LogIs L R) {a:Nat}{r:RecP}(h:RecAt R a r) (i:r.kind≠8):∃k x,k<L.starts.length/\L.starts.getD k 0=x/\L.base+x=a/\Qd1 (L.stream.drop x)=some (r,(encR r).length):=by
 obtain⟨k,hk,rfl⟩:=h
 have hl:=(Z4 hk).1
 have j:r∈R:=List.mem_of_getElem? hk
 refine⟨k,(recsB (R.take k)).length,by rw[b.starts,Qbc];exact hl,by rw[b.starts,Qnl hl],by rw[b.base],?_⟩
 have d:recsB R=recsB (R.take k)++(encR r++recsB (R.drop (k+1))):=by
  have e:R=R.take k++(r::R.drop (k+1)):=by
   have h1:R[k]=r:=by
    have:=Z3 hl
    rw[this] at hk
    exact Option.some.inj hk
   rw[<-h1,<-List.drop_eq_getElem_cons hl,List.take_append_drop]
  conv=>lhs;rw[e]
  unfold recsB
  rw[List.flatMap_append]
  rfl
 rw[b.stream,d,List.drop_left]
 exact Qtz (b.ok r j i) _
inductive Trail (R:List RecP):Nat->List (Nat×ChangeP)->Prop
 | stop {a:Nat} {r:RecP}:RecAt R a r->r.kind=1->Trail R a []
 | chg {a:Nat} {r:RecP} {l:List (Nat×ChangeP)}:RecAt R a r->r.kind=2->r.prev<a->Trail R r.prev l->Trail R a ((a,r.change)::l)
 | und {a:Nat} {r:RecP} {l:List (Nat×ChangeP)}:RecAt R a r->r.kind=3->r.next<a->Trail R r.next l->Trail R a l
theorem Trail.app {l:List (Nat×ChangeP)}(h:Trail R a l) (T:List RecP):Trail (R++T) a l:=by
 induction h with
 | stop h k=>exact .stop (h.app T) k
 | chg h k p _ ih=>exact .chg (h.app T) k p ih
 | und h k p _ ih=>exact .und (h.app T) k p ih
theorem Trail.inv {l:List (Nat×ChangeP)}(h:Trail R a l):(∃r,RecAt R a r/\r.kind=1/\l=[])\/(∃r b,RecAt R a r/\r.kind=2/\r.prev<a/\Trail R r.prev b/\l=(a,r.change)::b)\/(∃r,RecAt R a r/\r.kind=3/\r.next<a/\Trail R r.next l):=by
 cases h with
 | stop h k=>exact .inl ⟨_,h,k,rfl⟩
 | chg h k p t=>exact .inr (.inl ⟨_,_,h,k,p,t,rfl⟩)
 | und h k p t=>exact .inr (.inr ⟨_,h,k,p,t⟩)
theorem Trail.mono {l:List (Nat×ChangeP)}(h:Trail R a l) (q:RecP):Trail (R++[q]) a l:=h.app [q]
theorem Trail.low {l:List (Nat×ChangeP)}(h:Trail R a l):0<a/\a+27<=1+(recsB R).length:=by
 cases h with
 | stop h k=>exact h.low
 | chg h k p _=>exact h.low
 | und h k p _=>exact h.low
theorem Trail.le {l:List (Nat×ChangeP)}(h:Trail R a l):∀y∈l,y.1<=a:=by
 induction h with
 | stop h k=>intro y b;cases b
 | chg h k p _ ih =>
   intro y b
   rcases List.mem_cons.1 b with rfl|b
   ·exact Z0 _
   ·have:=ih y b;omega
 | und h k p _ ih=>intro y b;have:=ih y b;omega
theorem Trail.tail {y:Nat×ChangeP} {l:List (Nat×ChangeP)}(h:Trail R a (y::l)):∀z∈l,z.1<y.1:=by
 generalize b:y::l=m at h
 induction h with
 | stop h k=>cases b
 | chg h k p t _ =>
   cases b
   intro z d
   have:=t.le z d
   show z.1<_
   omega
 | und h k p _ ih=>exact ih b
inductive RunC (R:List RecP):Nat->List (Nat×ChangeP)->Nat->Prop
 | nil (m:Nat):RunC R m [] m
 | chg {a m:Nat} {r:RecP} {l:List (Nat×ChangeP)}:RecAt R a r->r.kind=2->r.prev<a->RunC R r.prev l m->RunC R a ((a,r.change)::l) m
theorem RunC.app {m:Nat} {l:List (Nat×ChangeP)}(h:RunC R a l m) (T:List RecP):RunC (R++T) a l m:=by
 induction h with
 | nil=>exact .nil _
 | chg h k p _ ih=>exact .chg (h.app T) k p ih
theorem RunC.inv {m:Nat} {l:List (Nat×ChangeP)}(h:RunC R a l m):(l=[]/\a=m)\/(∃r b,RecAt R a r/\r.kind=2/\r.prev<a/\RunC R r.prev b m/\l=(a,r.change)::b):=by
 cases h with
 | nil=>exact .inl ⟨rfl,rfl⟩
 | chg h k p t=>exact .inr ⟨_,_,h,k,p,t,rfl⟩
theorem RunC.le {m:Nat} {l:List (Nat×ChangeP)}(h:RunC R a l m):m<=a/\(l≠[]->m<a):=by
 induction h with
 | nil=>exact⟨Z0 _,fun h=>absurd rfl h⟩
 | chg h k p _ ih=>exact⟨by have:=ih.1;omega,fun _=>by have:=ih.1;omega⟩
theorem RunC.pos {m:Nat} {l:List (Nat×ChangeP)}(h:RunC R a l m):∀y∈l,m<y.1/\y.1<=a:=by
 induction h with
 | nil=>intro y b;cases b
 | chg h k p t ih =>
   intro y b
   rcases List.mem_cons.1 b with rfl|b
   ·exact⟨by have:=t.le.1;show _<_;omega,Z0 _⟩
   ·have:=ih y b;omega
abbrev SlotV:=Nat->Nat->List Int
def putV (V:SlotV) (n s:Nat) (m:List Int):SlotV:=fun p t=>if p=n/\t=s then m else V p t
def undoV:SlotV->List (Nat×ChangeP)->SlotV
 | V,[]=>V
 | V,y::l=>undoV (putV V y.2.page y.2.slot y.2.before) l
theorem Qzi (V:SlotV) (n s:Nat) (m:List Int):putV V n s m n s=m:=if_pos ⟨rfl,rfl⟩
theorem Qku (V:SlotV) {n s:Nat}(m:List Int) {p t:Nat}(h:¬(p=n/\t=s)):putV V n s m p t=V p t:=if_neg h
theorem Qkb {V W:SlotV}(l:List (Nat×ChangeP)) {p t:Nat}(h:V p t=W p t):undoV V l p t=undoV W l p t:=by
 induction l generalizing V W with
 | nil=>exact h
 | cons y l ih =>
   refine ih ?_
   unfold putV
   split
   ·rfl
   ·exact h
theorem Qka {V:SlotV}(l:List (Nat×ChangeP)) {p t:Nat}(h:∀y∈l,¬(p=y.2.page/\t=y.2.slot)):undoV V l p t=V p t:=by
 induction l generalizing V with
 | nil=>rfl
 | cons y l ih =>
   show undoV (putV V y.2.page y.2.slot y.2.before) l p t=_
   rw[ih (fun z b=>h z (Y2 _ b)),Qku V _ (h y (by simp))]
theorem Quj (V:SlotV) (a:Nat) (c:ChangeP) (m:List Int) (b:c.before=V c.page c.slot) (l:List (Nat×ChangeP)) (p t:Nat):undoV (putV V c.page c.slot m) ((a,c)::l) p t=undoV V l p t:=by
 refine Qkb l ?_
 show putV (putV V c.page c.slot m) c.page c.slot c.before p t=V p t
 by_cases h:p=c.page/\t=c.slot
 ·obtain⟨rfl,rfl⟩:=h
  rw[Qzi];exact b
 ·rw[Qku _ _ h,Qku _ _ h]
structure ChgOk (N:Nat) (c:ChangeP):Prop where
 page:c.page<N
 slot:c.slot<12
 b4:c.before.length<=4
 a4:c.after.length<=4
 had:c.had=decide (0<c.before.length)
 has:c.has=decide (0<c.after.length)
theorem ChgOk.nob(h:ChgOk N c) (e:c.had=false):c.before=[]:=by
 rw[h.had] at e
 have:=of_decide_eq_false e
 exact List.eq_nil_of_length_eq_zero (by omega)
theorem ChgOk.noa(h:ChgOk N c) (e:c.has=false):c.after=[]:=by
 rw[h.has] at e
 have:=of_decide_eq_false e
 exact List.eq_nil_of_length_eq_zero (by omega)
theorem ChgOk.turned(h:ChgOk N c):ChgOk N c.turned:=⟨h.page,h.slot,h.a4,h.b4,h.has,h.had⟩
theorem ChgOk.now(h:ChgOk N c):c.now=c.after:=by
 unfold ChangeP.now
 by_cases e:c.has=true
 ·rw[if_pos e]
 ·rw[if_neg e,h.noa (by simpa using e)]
theorem ChgOk.tnow(h:ChgOk N c):c.turned.now=c.before:=h.turned.now
theorem ChgOk.may(h:ChgOk N c) {k t p n:Nat}(hk:k=2\/k=3):mayB ⟨k,t,p,n,c,[],[]⟩=true:=Qlb hk (by have:=h.b4;omega) (by have:=h.a4;omega) h.nob h.noa
def chOf (l:List (Nat×ChangeP)):List (Nat×Nat):=(l.map (fun y=>(y.1,Qak y.2))).reverse
def Qbf (l:List (Nat×ChangeP)):Nat:=(l.map (fun y=>Qak y.2)).sum
theorem Qh9 (y:Nat×ChangeP) (l:List (Nat×ChangeP)):chOf (y::l)=chOf l++[(y.1,Qak y.2)]:=by
 unfold chOf
 rw[X1,List.reverse_cons]
theorem Qj1 {l:List (Nat×ChangeP)} {z:Nat×Nat}(h:z∈chOf l):∃y∈l,z=(y.1,Qak y.2):=by
 unfold chOf at h
 obtain⟨y,b,e⟩:=List.mem_map.1 (List.mem_reverse.1 h)
 exact⟨y,b,e.symm⟩
theorem Qya (l:List (Nat×ChangeP)):((chOf l).map Prod.snd).sum=Qbf l:=by
 induction l with
 | nil=>rfl
 | cons y l ih =>
   rw[Qh9,List.map_append,List.sum_append,ih]
   show Qbf l+(Qak y.2+0)=Qak y.2+Qbf l
   omega
theorem Qcy (y:Nat×ChangeP) (l:List (Nat×ChangeP)):Qbf (y::l)=Qak y.2+Qbf l:=rfl
theorem Qyb (l:List (Nat×ChangeP)):(chOf l).length=l.length:=by unfold chOf;simp
structure Ids where
 bm:Nat
 bl:Nat
 bp:Nat
 bf:Nat
 bd:Nat
 N:Nat
 S:Nat
structure TZ (w:World) (τ:Tags) (I:Ids) (bo:Nat->Nat) (X:List OneP) (next:Nat) (R:List RecP) (V:SlotV) (st:Nat):Prop where
 is:∃H L D F s cur,TW w τ I.bm I.bl I.bp I.bf I.bd I.N bo X next H L D F s cur/\LogIs L R/\L.strips=I.S/\H.st<=st/\∀n,n<I.N->Small (cur n)/\∀t,pData (cur n) t=V n t
theorem TZ.nil {e:World} {b:Tags} {I:Ids} {i:Nat->Nat} {X:List OneP} {V:SlotV}(h:TZ w τ I i X next R V st) (m:Step w τ e b Go.Proofs.YtemacanaihaldaaGreat.nil):TZ e b I i X next R V st:=by
 obtain⟨H,L,D,F,s,d,h1,h2⟩:=h.is
 exact⟨⟨H,L,D,F,s,d,h1.nil m,h2⟩⟩
theorem TZ.le {I:Ids} {e:Nat->Nat} {X:List OneP} {V:SlotV} {b:Nat}(h:TZ w τ I e X next R V st) (i:st<=b):TZ w τ I e X next R V b:=by
 obtain⟨H,L,D,F,s,d,h1,h2,j,k,l⟩:=h.is
 exact⟨⟨H,L,D,F,s,d,h1,h2,j,Y3 k i,l⟩⟩
theorem TZ.mgr {I:Ids} {b:Nat->Nat} {X:List OneP} {V:SlotV}(h:TZ w τ I b X next R V st):MgrAt w τ I.bm I.bl I.bp b X next:=by
 obtain⟨H,L,D,F,s,cur,h1,-⟩:=h.is
 exact h1.mgr
theorem TZ.len {I:Ids} {e:Nat->Nat} {X:List OneP} {V:SlotV}(h:TZ w τ I e X next R V st):(recsB R).length<=1000000/\(recsB R).length<=I.S*127:=by
 obtain⟨H,L,D,F,s,cur,h1,h2,i,h4,h5⟩:=h.is
 have b:=h1.pool.log.ok.stream
 have d:=h1.good.cap
 rw[h2.stream] at b d
 rw[i] at d
 exact⟨b,by omega⟩
theorem TZ.slot4 {I:Ids} {d:Nat->Nat} {X:List OneP} {V:SlotV}(h:TZ w τ I d X next R V st) {n:Nat}(hn:n<I.N) (t:Nat):(V n t).length<=4/\(12<=t->V n t=[]):=by
 obtain⟨H,L,D,F,s,cur,h1,h2,h3,h4,e⟩:=h.is
 obtain⟨a,b⟩:=e n hn
 rw[<-b t]
 exact a t
def chgV (V:SlotV) (n s:Nat) (has:Bool) (m:List Int):ChangeP:=⟨n,s,decide (0<(V n s).length),has,V n s,if has=true then m else []⟩
theorem Qwa {V:SlotV} {n s:Nat}(hn:n<N) (e:s<12) (h:(V n s).length<=4) (has:Bool) {m:List Int}(b:m.length<=4) (d:0<m.length):ChgOk N (chgV V n s has m):=by
 refine⟨hn,e,h,?_,rfl,?_⟩
 ·show (if has=true then m else []).length<=4
  split
  ·exact b
  ·simp
 ·show has=decide (0<(if has=true then m else []).length)
  cases has
  ·simp
  ·simp[d]
def Qwq (w:World) (τ:Tags) (I:Ids) (bo:Nat->Nat) (X:List OneP) (next:Nat) (R:List RecP) (V:SlotV) (st:Nat) (x:OneP) (c:ChangeP) (e:Ending) (w':World):Prop :=
 ∃τ',Step w τ w' τ' TxTag /\
 ((c.has=false/\c.had=false/\e = .returned (.int .u16 0)/\TZ w' τ' I bo X next R V (st+1)) \/
 ((c.has=true\/c.had=true)/\¬(recsB R).length+Qak c+(resv X+Qak c)<=I.S*127/\e = .returned (.int .u16 80)/\TZ w' τ' I bo X next R V (st+1)) \/
 ((c.has=true\/c.had=true)/\(recsB R).length+Qak c+(resv X+Qak c)<=I.S*127/\e = .returned (.int .u16 0)/\TZ w' τ' I bo (putX X (x.changed (1+(recsB R).length) (Qak c))) next (R++[Qcp c x]) (putV V c.page c.slot c.now) (st+1)))
theorem Qso {b:Nat->List Int} {V:SlotV}(h:∀n,n<N->Small (b n)/\∀t,pData (b n) t=V n t) {n s:Nat}{Q m:List Int}(hd:DoneP (b n) Q s m) (hn:n<N) (l:s<12) (o:m.length<=4) (ls:Nat) (j:ls<2 ^ 64):∀k,k<N->Small (updC b n (layN Q 0 (leB ls 8)) k)/\∀t,pData (updC b n (layN Q 0 (leB ls 8)) k) t=putV V n s m k t:=by
 intro k hk
 unfold updC
 have d:=(hd.sound.stamp ls j).2.2.2
 by_cases e:k=n
 ·subst e
  rw[if_pos rfl]
  refine⟨fun t=>?_,fun t=>?_⟩
  ·rw[d t]
   exact(hd.small (h k hk).1 l o) t
  ·rw[d t,hd.data t]
   unfold putV
   by_cases i:t=s
   ·rw[if_pos i,if_pos ⟨rfl,i⟩]
   ·rw[if_neg i,if_neg (fun h=>i h.2)]
    exact(h k hk).2 t
 ·rw[if_neg e]
  refine⟨(h k hk).1,fun t=>?_⟩
  rw[Qku V m (fun h=>e h.1)]
  exact(h k hk).2 t
theorem Qkf {I:Ids} {U:Nat->Nat} {X:List OneP} {V:SlotV}(h:TZ w τ I U X next R V st) (hst:st<=1000000) {x:OneP}(Y:x∈X) (hs:x.state=1) (hlast:x.last<=1+(recsB R).length) (B:x.ch.length<1000) {n:Nat}(hn:n<I.N) (hN:I.N<=512)
 {sl:Nat} (d:sl<12) (has:Bool) {Z:Option Addr} {cd:Nat} {m:List Int} (hd:Bytes w τ tData (.slice Z m.length cd) m) (l:m.length<=4) (o:0<m.length) :
 Calls Tryz.prog 75 #[.pointer (some ⟨I.bm,0,none⟩),.int .u32 (x.txn:Int),.int .u32 (n:Int),.int .i64 (sl:Int),.bool has,.slice Z m.length cd] w (Qwq w τ I U X next R V st x (chgV V n sl has m)):=by
 obtain⟨H,L,D,F,s,i,h1,h2,p,h4,q⟩:=h.is
 have hl:=h.len
 have j:=Qwa hn d (h.slot4 hn sl).1 has l o
 have hrl:=Qfk R
 have hc:chgOf n (i n) sl has m=chgV V n sl has m:=by
  obtain⟨a,b⟩:=q n hn
  have r:=(h1.good.page n hn).1
  unfold chgOf chgV
  rw[<-b sl,Qbm r.tidy.lies.fit r.tidy.len]
 have hlow:=h1.mgr.low x Y
 have hnx:=h1.mgr.nx
 have:=Quo h1 (by omega) Y hs n hn hN (by rw[h2.starts,Qbc];omega) (by omega) B (q n hn).1 (by rw[h2.base,h2.stream];omega) sl d has hd l o
 rw[hc] at this
 have y:(chgV V n sl has m).slot=sl:=rfl
 have C:(chgV V n sl has m).page=n:=rfl
 generalize chgV V n sl has m=c at *
 refine this.mono ?_
 rintro e w' ⟨E,G,J,M,O,s',hst',k,hk⟩
 refine⟨E,k,?_⟩
 rcases hk with ⟨a1,a2,a3,a4,a5⟩|⟨a1,a2,a3,a4,a5⟩|⟨a1,a2,a3,Q,a4,a5,a6⟩
 ·exact .inl ⟨a1,a2,a3,⟨⟨G,J,M,O,s',i,a4,h2.same a5,by rw[a5.strips];exact p,by omega,q⟩⟩⟩
 ·rw[h2.stream,p] at a2
  exact .inr (.inl ⟨a1,a2,a3,⟨⟨G,J,M,O,s',i,a4,h2.same a5,by rw[a5.strips];exact p,by omega,q⟩⟩⟩)
 ·rw[h2.stream,p] at a2
  rw[h2.stream,h2.base] at a5
  have z:(Qcp c x).ok:=⟨j.may (.inl rfl),by show (2:Nat)≠8;omega,by show x.txn<_;omega,by show x.last<_;omega,by show 0<_;omega,by show c.page<_;omega,by show c.slot<_;omega⟩
  refine .inr (.inr ⟨a1,a2,a3,⟨⟨G,J,M,O,s',_,a5,h2.more z a6,by rw[a6.strips];exact p,by omega,?_⟩⟩⟩)
  rw[C,y]
  rw[y] at a4
  exact Qso q a4 hn d (by rw[j.now];exact j.a4) _ (by show _<18446744073709551616;omega)
theorem Qgd (X:List OneP) {x y:OneP}(h:x.txn=y.txn):putX (putX X x) y=putX X y:=by
 unfold putX
 rw[List.map_map]
 refine List.map_congr_left fun z _=>?_
 show (if (if z.txn=x.txn then x else z).txn=y.txn then y else (if z.txn=x.txn then x else z))=if z.txn=y.txn then y else z
 by_cases e:z.txn=x.txn
 ·rw[if_pos e,if_pos h,if_pos (e.trans h)]
 ·rw[if_neg e]
theorem TW.setOne {j:World} {d:Tags} {S:Tag->Prop} {bm bl bp bf bd:Nat} {l:Nat->Nat} {X:List OneP} {H:PoolH} {D:Dev} {F:List Fr} {s:Ck.Clk.St} {i:Nat->List Int}(h:TW w τ bm bl bp bf bd N l X next H L D F s i) (m:Step w τ j d S) {x y:OneP}(r:y∈X) (e:y.txn=x.txn) (o:∀g,S g->g=tOneT x.txn\/g=tChg x.txn) (z:OneAt j d (l x.txn) x):TW j d bm bl bp bf bd N l (putX X x) next H L D F s i:=by
 have no:∀g,S g->¬PWTag g/\g≠tData:=fun g b=>by
  have p:Qai g:=by rcases o g b with h|h <;> (subst h;simp[Qai,tOneT,tChg])
  refine⟨fun q=>(Qi3 q).1 p,fun q=>?_⟩
  subst q
  simp[Qai,tData] at p
 exact⟨h.pool.step m (fun g b=>⟨fun k=>(no g b).1 (.inl k),fun k=>(no g b).1 (.inr (.inl k)),fun k=>(no g b).1 (.inr (.inr k)),(no g b).2⟩),h.mgr.setOne m r e (fun g _ b=>o g b) z,h.good,h.clock,h.hn,h.hbl⟩
theorem pw_tn:¬PWTag tTn:=by
 rintro(h|h|h)
 ·rcases h with h|h|h|h|⟨i,h⟩ <;> simp[tTn,tPool,tFr,tWhere,tClk,tPg] at h
 ·rcases h with h|h|h <;> simp[tTn,tLog,Qah,Qag] at h
 ·rcases h with h|h|h|h <;> simp[tTn] at h
def Qed (c:ChangeP) (x:OneP) (nx:Nat):RecP:=⟨3,x.txn,x.last,nx,c.turned,[],[]⟩
theorem Qif (c:ChangeP) (x:OneP) (nx:Nat):(encR (Qed c x nx)).length=Qak c:=by
 have:=Qkc c x.txn x.last nx
 exact this
def OneP.undone (x:OneP) (lsn nx:Nat) (l:List (Nat×Nat)):OneP:={x with last:=lsn,undo:=nx,ch:=l}
def UndoD (w:World) (τ:Tags) (bm bl bp bf bd N:Nat) (bo:Nat->Nat) (X:List OneP) (next:Nat) (st:Nat) (L:LogM) (cur:Nat->List Int) (x:OneP) (c:ChangeP) (nx:Nat) (l1:List (Nat×Nat)) (e:Ending) (w':World):Prop :=
 e = .returned (.tuple #[.bool true,.int .u16 0])/\∃τ' H' L' D' F' s' Q,H'.st<=st+1/\Step w τ w' τ' TxTag/\DoneP (cur c.page) Q c.slot c.before /\
   TW w' τ' bm bl bp bf bd N bo (putX X (x.undone (L.base+L.stream.length) nx l1)) next H' L' D' F' s' (updC cur c.page (layN Q 0 (leB (L.base+L.stream.length) 8)))/\SameLog (L.more (encR (Qed c x nx))) L'
theorem Qwu {bm bl bp bf bd:Nat} {bo:Nat->Nat} {X:List OneP} {H:PoolH} {D:Dev} {F:List Fr} {s:Ck.Clk.St} {cv:Nat->List Int}(h:TW w τ bm bl bp bf bd N bo X next H L D F s cv) (gm:H.st+1<18446744073709551616) {x:OneP}(hx:x∈X) (hN:N<=512) (b6:L.starts.length<=100000) (cw:x.last<18446744073709551616) (gn:L.base+L.stream.length<18446744073709551616)
 {v:Value} {r:RecP} (hv:RecV w τ v r) (hc:ChgOk N r.change) (e7:Small (cv r.change.page)) {at_:Nat} (hat:at_<18446744073709551616) (hp:r.prev<at_) {l1:List (Nat×Nat)} {sz:Nat} (e8:x.ch=l1++[(at_,sz)]) (e9:∀y∈l1,y.1≠at_) (bs:L.stream.length+Qak r.change<=L.strips*127) :
 Calls Tryz.prog 144 #[.pointer (some ⟨bm,0,none⟩),.pointer (some ⟨bo x.txn,0,none⟩),.int .u64 (at_:Int),v] w (UndoD w τ bm bl bp bf bd N bo X next H.st L cv x r.change r.prev l1):=by
 obtain⟨kd,tx,pv,nx,c,ts,ps⟩:=r
 dsimp only at *
 obtain⟨vb,va,vt,vp,n0,rfl,⟨pb,cb,rfl,hb⟩,⟨pa,ca,rfl,ha⟩,ea,eb⟩:=hv
 dsimp only at *
 obtain⟨pt,ct,rfl⟩:=ea.val
 obtain⟨pp,cp,rfl⟩:=eb.val
 have hlow:=h.mgr.low x hx
 have hnx:=h.mgr.nx
 have bv:=(h.good.page c.page hc.page).1
 have bw:=(h.good.page c.page hc.page).2.1
 have ec:c.turned.now=c.before:=hc.tnow
 have ed:=hc.page
 have cx:=hc.slot
 have hb4:=hc.b4
 have ha4:=hc.a4
 have bz:=(Step.refl w τ nil).alloc (.cells #[.int .u64 (at_:Int)] 51) tTn
 have cy:=Own.born w τ tTn 51 #[.int .u64 (at_:Int)]
 obtain⟨bq,cz⟩:∃bq,w.heap.size=bq:=⟨_,rfl⟩
 have hlowq:w.heap.size<=bq:=by omega
 have Z:(w.alloc (.cells #[.int .u64 (at_:Int)] 51)).heap.size=w.heap.size+1:=World.size_alloc _ _
 generalize τ.put w.heap.size tTn=τ1 at *
 rw[cz] at cy Z
 generalize ee:w.alloc (.cells #[.int .u64 (at_:Int)] 51)=W1 at *
 have a1:=(Step.refl W1 τ1 nil).alloc (.cells #[.int .u8 (kd:Int),.int .u32 (tx:Int),.int .u64 (pv:Int),.int .u64 (nx:Int),.int .u32 (c.page:Int),.int .u16 (c.slot:Int),.bool c.had,.bool c.has,.slice pb c.before.length cb,.slice pa c.after.length ca,.slice pt ts.length ct,.slice pp ps.length cp] 127) tTn
 have af:=Own.born W1 τ1 tTn 127 #[.int .u8 (kd:Int),.int .u32 (tx:Int),.int .u64 (pv:Int),.int .u64 (nx:Int),.int .u32 (c.page:Int),.int .u16 (c.slot:Int),.bool c.had,.bool c.has,.slice pb c.before.length cb,.slice pa c.after.length ca,.slice pt ts.length ct,.slice pp ps.length cp]
 rw[Z] at af a1
 have c3:=cy.step a1 (fun h=>h)
 have E:=bz.trans a1
 generalize τ1.put (bq+1) tTn=τ2 at *
 generalize da:W1.alloc (.cells #[.int .u8 (kd:Int),.int .u32 (tx:Int),.int .u64 (pv:Int),.int .u64 (nx:Int),.int .u32 (c.page:Int),.int .u16 (c.slot:Int),.bool c.had,.bool c.has,.slice pb c.before.length cb,.slice pa c.after.length ca,.slice pt ts.length ct,.slice pp ps.length cp] 127)=W2 at *
 have b8:=h.nil E
 have db:=hb.step E (fun h=>h)
 have dc:=ha.step E (fun h=>h)
 have c4:=Qr0 b8 gm c.page ed
 have e4:=af.at 4 (v:=.int .u32 (c.page:Int)) rfl
 obtain⟨ba,ho,-⟩:=b8.mgr.is
 have c1:=ho.at 1 (v:=.pointer (some ⟨bp,0,none⟩)) rfl
 obtain⟨nb,b9⟩:∃nb,c.before.length=nb:=⟨_,rfl⟩
 obtain⟨na,bb⟩:∃na,c.after.length=na:=⟨_,rfl⟩
 obtain⟨nt,dd⟩:∃nt,ts.length=nt:=⟨_,rfl⟩
 obtain⟨np,de⟩:∃np,ps.length=np:=⟨_,rfl⟩
 rw[b9,bb,dd,de] at da af
 rw[b9] at db
 rw[bb] at dc
 obtain⟨H_h,ef,eg,gr,eh,HT2,gv,gw,gx,gy,ei,G⟩:=hid12 h c4 c3 af E b8 db dc ee da Z b9
 obtain⟨O,gz,h0,h3,ej,ek,Hc,h4,be,h5,c6,h6⟩:=hid12 bb dd de e7 bv bw hc ec e8 e9 bs cz
 clear h c4 c3 af E b8 db dc ee da Z b9 bb dd de e7 bv bw hc ec e8 e9 bs cz bz a1 cy ea eb hb ha ho
 rw[show c.before.length=nb from G.out,show c.after.length=na from O.out,show ts.length=nt from gz.out,show ps.length=np from h0.out]
 go_enter Tryz.func144,Tryz.ntmps144
 go_upto_region 2 with fail
 try rw[gx.out]
 try rw[gy.out]
 try rw[ei.out]
 try rw[h6.out]
 go_wp2_with fail
 refine ef.out.mono ?_
 rintro e w3 ⟨b,rfl,em,H3,L3,D3,F3,s3,i3,f3,en,eo,c7,U⟩
 have j:=gr.out.step U pw_tn
 have c8:=eg.out.step U pw_tn
 have ag:=gv.out.step U Qhd
 have ah:=gw.out.step U Qhd
 have ai:=(eh.out.mono (T:=PWTag) (fun _ h=>h.elim)).trans U
 rw[<-G.out] at ag
 rw[<-O.out] at ah
 have aj:=Qml c ag ah (by omega) (by omega)
 unfold ChgV at aj
 dsimp only[ChangeP.turned] at aj
 rw[G.out,O.out] at aj
 rw[O.out] at ah
 rw[G.out] at ag
 have d4:=j.at 4 (v:=.int .u32 (c.page:Int)) rfl
 have d5:=j.at 5 (v:=.int .u16 (c.slot:Int)) rfl
 have d6:=j.at 6 (v:=.bool c.had) rfl
 have d7:=j.at 7 (v:=.bool c.has) rfl
 have d8:=j.at 8 (v:=.slice pb nb cb) rfl
 have d9:=j.at 9 (v:=.slice pa na ca) rfl
 obtain⟨ep,er,Hb3,Ha3⟩:=hid4 j c8 ag ah
 have ak:=Z2 ai
 obtain⟨h8,ab,d,Hs3⟩:=hid4 aj en c7 U
 clear j c8 ag ah ai aj en c7 U e4 c1
 go_upto_region 5 with fail
 go_wp2_with fail
 refine h8.out.mono ?_
 rintro e w4 ⟨qb,kb,qa,ka,df,rfl,ev,ew,ey⟩
 obtain⟨bn,dh⟩:∃bn,w4.heap.size=bn:=⟨_,rfl⟩
 have z:=Own.born w4 df tTn 124 #[.int .u32 (c.page:Int),.int .u16 (c.slot:Int),.bool c.has,.bool c.had,.slice qb na kb,.slice qa nb ka]
 have an:=(Step.refl w4 df nil).alloc (.cells #[.int .u32 (c.page:Int),.int .u16 (c.slot:Int),.bool c.has,.bool c.had,.slice qb na kb,.slice qa nb ka] 124) tTn
 generalize df.put w4.heap.size tTn=ac at *
 rw[dh] at z
 obtain⟨w5,di⟩:∃W,w4.alloc (.cells #[.int .u32 (c.page:Int),.int .u16 (c.slot:Int),.bool c.has,.bool c.had,.slice qb na kb,.slice qa nb ka] 124)=W:=⟨_,rfl⟩
 rw[di] at z an
 have I:=ey.trans an
 have ao:=ev.step an (fun h=>h)
 have ap:=ew.step an (fun h=>h)
 have aq:=ep.out.step I (fun h=>h)
 have c9:=er.out.step I (fun h=>h)
 have dj:=ab.out.mgr.nil I
 have dk:LogAt w5 ac bl bd L3:=(ab.out.hbl▸ab.out.pool.log).step I (fun _ _ h=>h)
 have ez:=ab.out.page.step I (fun h=>h)
 have fa:RecI w5 ac (.agg #[.int .u8 3,.int .u32 0,.int .u64 0,.int .u64 (pv:Int),.int .u32 (c.page:Int),.int .u16 (c.slot:Int),.bool c.has,.bool c.had,.slice qb na kb,.slice qa nb ka,.slice none 0 0,.slice none 0 0]) ⟨3,0,0,pv,c.turned,[],[]⟩:=⟨⟨qb,kb,qa,ka,none,0,none,0,tBox,tBox,0,by
  show _=Value.agg #[.int .u8 3,.int .u32 0,.int .u64 0,.int .u64 (pv:Int),.int .u32 (c.page:Int),.int .u16 (c.slot:Int),.bool c.has,.bool c.had,.slice qb c.after.length kb,.slice qa c.before.length ka,.slice none 0 0,.slice none 0 0]
  rw[O.out,G.out],by show Bytes w5 ac tData (.slice qb c.after.length kb) c.after;rw[O.out];exact ao,by show Bytes w5 ac tData (.slice qa c.before.length ka) c.before;rw[G.out];exact ap,NS.nil _ _ _ _ _ _ _,NS.nil _ _ _ _ _ _ _,by simp[WrT,tBox,tWr,tWb],by simp[WrT,tBox,tWr,tWb]⟩,by show 3<256;omega,by show 0<4294967296;omega,by show 0<18446744073709551616;omega,by show pv<18446744073709551616;omega,by show c.page<4294967296;omega,by show c.slot<65536;omega⟩
 have k:(RecP.own ⟨3,0,0,pv,c.turned,[],[]⟩ x)=Qed c x pv:=rfl
 have bg:=Qif c x pv
 have fb:Qak c<=44:=by unfold Qak;omega
 have bh:=Qe2 dj dk hx (by rw[d.out.starts];exact b6) fa (Hc.out.turned.may (.inr rfl)) (by rw[k,bg];omega) (by show (3:Nat)≠8;omega) cw 0 (by rw[k,bg,d.out.stream,d.out.strips];exact c6.out)
 rw[k] at bh
 obtain⟨lsn,ar⟩:∃lsn,L3.base+L3.stream.length=lsn:=⟨_,rfl⟩
 rw[ar] at bh
 have g0:=z.at 0 (v:=.int .u32 (c.page:Int)) rfl
 have g1:=z.at 1 (v:=.int .u16 (c.slot:Int)) rfl
 have g2:=z.at 2 (v:=.bool c.has) rfl
 have g3:=z.at 3 (v:=.bool c.had) rfl
 have g4:=z.at 4 (v:=.slice qb na kb) rfl
 have g5:=z.at 5 (v:=.slice qa nb ka) rfl
 have r2:=aq.at 2 (v:=.int .u64 (pv:Int)) rfl
 have cc:=ak.out.trans (I.mono (T:=PWTag) (fun _ h=>h.elim))
 obtain⟨h9,hd,he,Hqb5,fc,fe,ff,Hm5,Hl5,hf,hh,HownE⟩:=hid12 z dh di ao ap aq c9 dj dk ez bh k
 obtain⟨fg,hi,av,fh,Hcs⟩:=hid5 bg I ar cc fb
 clear z dh di ao ap aq c9 dj dk ez bh k bg I ar cc fb ev ew ey an fa d4 d5 d6 d7 d8 d9
 go_upto_region 6 with fail
 try rw[he.out]
 try rw[hd.out]
 go_wp2_with fail
 refine hh.out.mono ?_
 rintro e w6 ⟨rfl,fi,fj,fk,Y⟩
 have fl:∀i,¬(LogTag (tPg i)\/tPg i=tOneT x.txn):=fun i=>by simp[LogTag,tPg,tLog,Qah,Qag,tOneT]
 have fm:¬(LogTag tData\/tData=tOneT x.txn):=by simp[LogTag,tData,tLog,Qah,Qag,tOneT]
 have a6:¬(LogTag tTn\/tTn=tOneT x.txn):=by simp[LogTag,tTn,tLog,Qah,Qag,tOneT]
 have dl:=hf.out.step Y (fl i3)
 have l:=h9.out.step Y a6
 have cd:=fe.out.step Y a6
 have ce:=ff.out.step Y a6
 have cf:=fc.out.step Y fm
 have cg:Step w3 em w6 fi (TcTag i3 x.txn):=(hi.out.mono (T:=TcTag i3 x.txn) (fun _ h=>h.elim)).trans (Y.mono (fun t h=>h.elim .inl (fun h=>.inr (.inl h))))
 have ad:=Qv1 (g:=tPg i3) (by simp[tPg,tOut,tData,tAll]) dl ej.out h3.out c.turned cx (pb:=qb) (cb:=kb) (pa:=qa) (ca:=ka) (by show Bytes w6 fi tData (.slice qa c.before.length ka) c.before;rw[G.out];exact cf) (fun h=>by
  have h2:c.had=true:=h
  rw[Hc.out.had] at h2
  exact of_decide_eq_true h2) (by show c.before.length<=64;omega)
 rw[h4.out] at ad
 unfold ChgV at ad
 dsimp only[ChangeP.turned] at ad
 rw[G.out,O.out] at ad
 have f0:=l.at 0 (v:=.int .u32 (c.page:Int)) rfl
 have f1:=l.at 1 (v:=.int .u16 (c.slot:Int)) rfl
 have f2:=l.at 2 (v:=.bool c.has) rfl
 have hj:=l.at 3 (v:=.bool c.had) rfl
 have f4:=l.at 4 (v:=.slice qb na kb) rfl
 have f5:=l.at 5 (v:=.slice qa nb ka) rfl
 obtain⟨hl,hm,HP6,fo,fp,fq,hn⟩:=hid7 fj fk dl cd ce cg ad
 clear fj fk dl cd ce cg ad Y l cf fl fm a6 g0 g1 g2 g3 g4 g5 r2
 go_wp2_with fail
 refine hn.out.mono ?_
 rintro e w7 ⟨rfl,Q,hq,bi,fr,ae⟩
 have dm:=hm.out.step ae (by simp[tOneT,tPg]) (by simp[tChg,tPg])
 have dn:=hl.out.step ae (by intro g hg e;subst e;rcases hg with h|h|h <;> simp[tPg,tLog,Qah,Qag] at h)
 have a7:Step w3 em w7 hq (TcTag i3 x.txn):=fq.out.trans (ae.mono (T:=TcTag i3 x.txn) (fun t h=>.inr (.inr (.inr (.inl h)))))
 have ci:=fo.out.step ae (by simp[tTn,tPg])
 have cj:=fp.out.step ae (by simp[tTn,tPg])
 have fs:lsn<18446744073709551616:=by rw[<-av.out,d.out.base,d.out.stream];exact gn
 have aw:0<(encR (Qed c x pv)).length:=by rw[fg.out];unfold Qak;omega
 have ck:=Qup ab.out (by omega) a7 fr dn hx (x:={x with last:=lsn}) rfl rfl dm bi.sound (by rw[bi.num];exact ek.out) aw (by rw[fg.out,d.out.stream,d.out.strips];have:=c6.out;omega) av.out fs
 obtain⟨ba3,ft,-⟩:=ab.out.mgr.is
 have dp:=ft.step a7 (fun q=>by rcases tctag_mgr _ (by simp[Qai,tMgr]) q with q|q <;> simp[tMgr,tOneT,tChg] at q)
 have c71:=dp.at 1 (v:=.pointer (some ⟨bp,0,none⟩)) rfl
 have dq:=fh.out.trans (τ1:=ac) (a:=w5) (Step.refl w5 ac PWTag)
 obtain⟨Hx7,Hl7,fv,fw,fx,fy,hs,Ho7,Hrlp⟩:=hid9 dm dn a7 ci cj ck bi dp aw
 clear dm dn a7 ci cj ck bi dp aw ae fr ft dq f0 f1 f2 hj f4 f5
 go_wp2_with fail
 refine fy.out.mono ?_
 rintro e w8 ⟨rfl,B,F8,s8,dr,bj⟩
 have ax:=fw.out.step bj pw_tn
 have a8:=fx.out.step bj pw_tn
 have k2:=ax.at 2 (v:=.int .u64 (pv:Int)) rfl
 have k0:=a8.at 0 (v:=.int .u64 (at_:Int)) rfl
 have ds:=Qpy w8 pv at_
 rw[if_pos hp] at ds
 have bk:=dr.mgr.ones _ (Qge hx (x:={x with last:=lsn}) rfl)
 obtain⟨vv,C,J⟩:=bk.is
 obtain⟨dt,dv,rfl,-,-⟩:=J.done
 have m:=bk.len
 have ay:=bk.size
 unfold OneP.cells at C
 dsimp only at C J m ay
 obtain⟨bx,dw⟩:∃bx,bo x.txn=bx:=⟨_,rfl⟩
 rw[dw] at C
 obtain⟨az,aa⟩:∃az,x.ch.length=az:=⟨_,rfl⟩
 rw[aa] at C J m
 have m2:=C.at 2 (v:=.int .u64 (x.undo:Int)) rfl
 have z2:=C.fz 2
 have br:Step w8 B (w8.setCell ⟨bx,2,none⟩ (.int .u64 (pv:Int))) B (fun t=>t=tOneT x.txn):=(Step.refl w8 B (fun t=>t=tOneT x.txn)).set (o:=2) C.tag rfl _
 have b0:Own (w8.setCell ⟨bx,2,none⟩ (.int .u64 (pv:Int))) B bx (tOneT x.txn) 176 [.int .u32 (x.txn:Int),.int .u64 (lsn:Int),.int .u64 (pv:Int),.int .u8 (x.state:Int),.int .u64 (x.start:Int),.slice dt az dv]:=C.set 2 (.int .u64 (pv:Int))
 have dx:=J.step br (by simp[tOneT,tChg])
 have cm:=a8.step br (by simp[tOneT,tTn])
 have c5:=b0.at 5 (v:=.slice dt az dv) rfl
 rw[be.out] at dx
 have cn:=Qlt (F := 222) (bc:=bq) (p:=fun y=>decide (y.1=at_)) dx (.inr rfl) (fun W q=>Quk ((cm.step q (fun h=>h)).at 0 rfl))
  (fun y hy=>decide_eq_false (h5.out y hy)) (fun y hy=>by rw[Y8 hy];exact decide_eq_true rfl) (by rw[<-be.out,aa];exact m)
 obtain⟨Hor8,Hoa8,hw,hz,ia,dy,gb,gd,gf,gg,ib,gh⟩:=hid12 ax a8 ds dr bj m ay dw aa cn br b0
 clear ax a8 ds dr bj m ay dw aa cn br b0 C J bk dx cm
 rw[show bo x.txn=bx from gd.out]
 go_wp2_with fail
 refine hw.out.mono ?_
 rintro e w' ⟨rfl,rfl⟩
 go_upto_region 13 with fail
 generalize w8.setCell ⟨bx,2,none⟩ (.int .u64 (pv:Int))=w9 at *
 go_wp2_with fail
 refine gg.out.mono ?_
 rintro e wa ⟨va,rfl,b1,dz⟩
 obtain⟨pd,qd,rfl,-,-⟩:=b1.done
 have M:=gh.out.step dz (by simp[tOneT,tChg])
 have n5:=M.at 5 (v:=.slice dt az dv) rfl
 have y5:=M.fz 5
 have b2:Step wa B (wa.setCell ⟨bx,5,none⟩ (.slice pd l1.length qd)) B (fun t=>t=tOneT x.txn):=(Step.refl wa B (fun t=>t=tOneT x.txn)).set (o:=5) M.tag rfl _
 have co:Own (wa.setCell ⟨bx,5,none⟩ (.slice pd l1.length qd)) B bx (tOneT x.txn) 176 [.int .u32 (x.txn:Int),.int .u64 (lsn:Int),.int .u64 (pv:Int),.int .u8 (x.state:Int),.int .u64 (x.start:Int),.slice pd l1.length qd]:=M.set 5 _
 have cq:=b1.step b2 (by simp[tOneT,tChg])
 have cr:=(ib.out.mono (T:=fun t=>t=tOneT x.txn\/t=tChg x.txn) (fun _ h=>.inl h)).trans ((dz.mono (T:=fun t=>t=tOneT x.txn\/t=tChg x.txn) (fun _ h=>.inr h)).trans (b2.mono (T:=fun t=>t=tOneT x.txn\/t=tChg x.txn) (fun _ h=>.inl h)))
 obtain⟨gi,gj,cs⟩:=hid3 co cq cr
 clear co cq cr b1 dz M b2 c5 k2 k0 m2 z2
 go_wp2_with fail
 go_ret2
 have ig:∀y∈l1,y.2<=1000:=fun y hy=>gb.out y (by rw[be.out];exact List.mem_append_left _ hy)
 have gk:l1.length<=1000:=by
  have:=dy.out
  rw[<-gf.out,be.out,Z6] at this
  omega
 have ht:=hz.out.setOne cs.out (x:=x.undone lsn pv l1) (y:={x with last:=lsn}) (Qge hx (x:={x with last:=lsn}) rfl) rfl (fun g hg=>hg) (by
  show OneAt _ _ (bo x.txn) _
  rw[gd.out]
  exact⟨⟨_,gi.out,gj.out⟩,gk,ig⟩)
 rw[Qgd X (show OneP.txn {x with last:=lsn}=(x.undone lsn pv l1).txn from rfl)] at ht
 have e1:=d.out.base
 have e2:=d.out.stream
 have ii:lsn=L.base+L.stream.length:=by rw[<-av.out,e1,e2]
 subst ii
 refine⟨rfl,B,H3,_,D3,F8,s8,Q,eo,?_,hs.out,ht,d.out.more _⟩
 refine((ak.out.mono (T:=TxTag) (fun _ h=>.inl h)).trans (fv.out.mono (T:=TxTag) Qr1)).trans ((ia.out.mono (T:=TxTag) (fun _ h=>.inl h)).trans (cs.out.mono (T:=TxTag) (fun g h=>.inr (.inl ?_))))
 rcases h with h|h <;> (subst h;simp[Qai,tOneT,tChg])
def OneP.at_ (x:OneP) (u:Nat):OneP:={x with undo:=u}
theorem rd_no {t:Tag}(h:ReadTag t):¬PWTag t/\¬Qai t/\t≠tData:=by
 obtain⟨a,b⟩:=t
 unfold ReadTag at h
 dsimp only at h
 refine⟨fun q=>?_,fun q=>?_,fun q=>?_⟩
 ·rcases q with q|q|q
  ·rcases q with q|q|q|q|⟨i,q⟩ <;> (simp only[tPool,tFr,tWhere,tClk,tPg,Prod.mk.injEq] at q;omega)
  ·rcases q with q|q|q <;> (simp only[tLog,Qah,Qag,Prod.mk.injEq] at q;omega)
  ·rcases q with q|q|q|q <;> (dsimp only at q;omega)
 ·unfold Qai at q;dsimp only at q;omega
 ·simp only[tData,Prod.mk.injEq] at q;omega
theorem TW.read {i:World} {d:Tags} {bm bl bp bf bd:Nat} {j:Nat->Nat} {X:List OneP} {H:PoolH} {D:Dev} {F:List Fr} {s:Ck.Clk.St} {e:Nat->List Int}(h:TW w τ bm bl bp bf bd N j X next H L D F s e) (m:Step w τ i d ReadTag):TW i d bm bl bp bf bd N j X next H L D F s e :=
 ⟨h.pool.step m (fun g b=>⟨fun k=>(rd_no b).1 (.inl k),fun k=>(rd_no b).1 (.inr (.inl k)),fun k=>(rd_no b).1 (.inr (.inr k)),(rd_no b).2.2⟩),h.mgr.step m (fun g b l=>(rd_no l).2.1 b),h.good,h.clock,h.hn,h.hbl⟩
def TyTag (g:Tag):Prop:=TxTag g\/ReadTag g
theorem Qke {I:Ids} {bo:Nat->Nat} {X:List OneP} {V:SlotV}(h:TZ w τ I bo X next R V st) {x:OneP}(hx:x∈X) {r:RecP}(hr:RecAt R x.undo r) (hst:st<=1000000) (hN:I.N<=512) (hk:r.kind=2) (ay:r.prev<x.undo) (hc:ChgOk I.N r.change) (k:x.last<=1+(recsB R).length) {l1:List (Nat×Nat)}{sz:Nat}(z:x.ch=l1++[(x.undo,sz)]) (B:∀y∈l1,y.1≠x.undo) (l:(recsB R).length+Qak r.change<=I.S*127) :
 Calls Tryz.prog 83 #[.pointer (some ⟨I.bm,0,none⟩),.int .u32 (x.txn:Int)] w fun e w'=>e = .returned (.tuple #[.bool true,.int .u16 0])/\∃ad,Step w τ w' ad TyTag/\TZ w' ad I bo (putX X (x.undone (1+(recsB R).length) r.prev l1)) next (R++[Qed r.change x r.prev]) (putV V r.change.page r.change.slot r.change.before) (st+1):=by
 obtain⟨H,L,D,F,s,cur,h1,h2,h3,h4,h5⟩:=h.is
 have hlen:=h.len
 obtain⟨ba,ho,hp⟩:=h1.mgr.is
 have hxl:=h1.mgr.low x hx
 have hnx:=h1.mgr.nx
 obtain⟨kr,xr,q1,q2,q3,q4⟩:=hr.read h2 (by omega)
 have hrl:=hr.low
 have m:=Qg8 (h1.hbl▸h1.pool.log) h1.good.rise q1 q2 q3 q4
 have c0:=ho.at 0 (v:=.pointer (some ⟨I.bl,0,none⟩)) rfl
 have c2:=ho.at 2 (v:=.map (some ba)) rfl
 have C:=hp.look x.txn (by omega)
 rw[Qln hx] at C
 obtain⟨v,o,p⟩:=(h1.mgr.ones x hx).is
 have x2:=o.at 2 (v:=.int .u64 (x.undo:Int)) rfl
 obtain⟨bx,E⟩:∃b,bo x.txn=b:=⟨_,rfl⟩
 rw[E] at C x2 o
 change _=Result.ok (Value.pointer (some ⟨bx,0,none⟩)) w at C
 obtain⟨H1,G,H3,H4,H5,Hp,Ho,J,Hox,Hnxs,b5,H_h⟩:=hid12 h1 h2 h3 h4 h5 hp ho m o p E h
 obtain⟨H_q1,H_q2,H_q3,H_q4,Hr,Hk⟩:=hid6 q1 q2 q3 q4 hr hk
 clear h1 h2 h3 h4 h5 hp ho m o p E h q1 q2 q3 q4 hr hk
 go_enter Tryz.func83,Tryz.ntmps83
 go_wp2_with fail
 refine J.out.mono ?_
 rintro e w1 ⟨u,τ1,rfl,hu,M⟩
 have af:=H1.out.read M
 obtain⟨vb,va,vt,vp,n0,hu,⟨pb,cb,rfl,hb⟩,⟨pa,ca,rfl,ha⟩,O,U⟩:=hu
 obtain⟨pt,ct,rfl⟩:=O.val
 obtain⟨pp,cp,rfl⟩:=U.val
 subst hu
 obtain⟨nb,Y⟩:∃nb,r.change.before.length=nb:=⟨_,rfl⟩
 obtain⟨Z,a1⟩:∃Z,r.change.after.length=Z:=⟨_,rfl⟩
 obtain⟨nt,ai⟩:∃nt,r.txns.length=nt:=⟨_,rfl⟩
 obtain⟨np,aj⟩:∃np,r.pages.length=np:=⟨_,rfl⟩
 have i:=(Step.refl w1 τ1 nil).alloc (.cells #[.int .u8 (r.kind:Int),.int .u32 (r.txn:Int),.int .u64 (r.prev:Int),.int .u64 (r.next:Int),.int .u32 (r.change.page:Int),.int .u16 (r.change.slot:Int),.bool r.change.had,.bool r.change.has,.slice pb nb cb,.slice pa Z ca,.slice pt nt ct,.slice pp np cp] 127) tTn
 have d:=Own.born w1 τ1 tTn 127 #[.int .u8 (r.kind:Int),.int .u32 (r.txn:Int),.int .u64 (r.prev:Int),.int .u64 (r.next:Int),.int .u32 (r.change.page:Int),.int .u16 (r.change.slot:Int),.bool r.change.had,.bool r.change.has,.slice pb nb cb,.slice pa Z ca,.slice pt nt ct,.slice pp np cp]
 generalize τ1.put w1.heap.size tTn=ak at *
 obtain⟨br,a6⟩:∃br,w1.heap.size=br:=⟨_,rfl⟩
 rw[a6] at d
 obtain⟨w2,a7⟩:∃W,w1.alloc (.cells #[.int .u8 (r.kind:Int),.int .u32 (r.txn:Int),.int .u64 (r.prev:Int),.int .u64 (r.next:Int),.int .u32 (r.change.page:Int),.int .u16 (r.change.slot:Int),.bool r.change.had,.bool r.change.has,.slice pb nb cb,.slice pa Z ca,.slice pt nt ct,.slice pp np cp] 127)=W:=⟨_,rfl⟩
 rw[a7] at d i
 have a8:=af.nil i
 have q:Step w τ w2 ak TyTag:=(M.mono (T:=TyTag) (fun _ h=>.inr h)).trans (i.mono (T:=TyTag) (fun _ h=>h.elim))
 have j0:=d.at 0 (v:=.int .u8 (r.kind:Int)) rfl
 have al:RecV w2 ak (.agg #[.int .u8 (r.kind:Int),.int .u32 (r.txn:Int),.int .u64 (r.prev:Int),.int .u64 (r.next:Int),.int .u32 (r.change.page:Int),.int .u16 (r.change.slot:Int),.bool r.change.had,.bool r.change.has,.slice pb nb cb,.slice pa Z ca,.slice pt nt ct,.slice pp np cp]) r:=⟨_,_,_,_,n0,rfl,⟨pb,cb,by rw[Y],by rw[<-Y];exact hb.step i (fun h=>h)⟩,⟨pa,ca,by rw[a1],by rw[<-a1];exact ha.step i (fun h=>h)⟩,by rw[<-ai];exact O.step i (fun h=>h),by rw[<-aj];exact U.step i (fun h=>h)⟩
 have j:=Qwu a8 (by have:=H4.out;omega) hx hN (by rw[G.out.starts,Qbc];have:=Qfk R;omega) (by omega) (by rw[G.out.base,G.out.stream];omega) al hc (H5.out _ hc.page).1 (at_:=x.undo) (by omega) ay z B (by rw[G.out.stream,H3.out];exact l)
 rw[show bo x.txn=bx from b5.out] at j
 have j1:=d.at 1 (v:=.int .u32 (r.txn:Int)) rfl
 have j2:=d.at 2 (v:=.int .u64 (r.prev:Int)) rfl
 have j3:=d.at 3 (v:=.int .u64 (r.next:Int)) rfl
 have j4:=d.at 4 (v:=.int .u32 (r.change.page:Int)) rfl
 have j5:=d.at 5 (v:=.int .u16 (r.change.slot:Int)) rfl
 have j6:=d.at 6 (v:=.bool r.change.had) rfl
 have j7:=d.at 7 (v:=.bool r.change.has) rfl
 have j8:=d.at 8 (v:=.slice pb nb cb) rfl
 have j9:=d.at 9 (v:=.slice pa Z ca) rfl
 have j10:=d.at 10 (v:=.slice pt nt ct) rfl
 have j11:=d.at 11 (v:=.slice pp np cp) rfl
 rw[show ((r.kind:Nat):Int)=2 by rw[show r.kind=2 from Hk.out];rfl] at j0 j
 obtain⟨am,an,Hor,Hal,HT2,b6,b7,Hc,Hch,Hl1,Hcap,aa⟩:=hid12 j q d i a8 a7 a6 hc z B l k
 clear j q d i a8 a7 a6 hc z B l k hb ha O U M af al
 rw[Y,a1,ai,aj]
 go_upto_region 6 with fail
 try rw[b6.out]
 try rw[b7.out]
 go_wp2_with fail
 refine am.out.mono ?_
 rintro e w3 ⟨rfl,b8,H',L',D',F',s',Q,hst',ab,b9,ht,ao⟩
 go_wp2_with fail
 go_ret2
 rw[G.out.base,G.out.stream] at ht
 have ap:(Qed r.change x r.prev).ok:=⟨Hc.out.turned.may (.inr rfl),by show (3:Nat)≠8;omega,by show x.txn<_;omega,by show x.last<_;have:=aa.out;omega,by show r.prev<_;omega,by show r.change.page<_;have:=Hc.out.page;omega,by show r.change.slot<_;have:=Hc.out.slot;omega⟩
 refine⟨rfl,b8,an.out.trans (ab.mono (fun _ h=>.inl h)),⟨⟨H',L',D',F',s',_,ht,G.out.more ap ao,by rw[ao.strips];exact H3.out,by have:=H4.out;omega,?_⟩⟩⟩
 exact Qso H5.out b9 Hc.out.page Hc.out.slot Hc.out.b4 _ (by show _<18446744073709551616;omega)
theorem Qp6 {I:Ids} {bo:Nat->Nat} {X:List OneP} {V:SlotV}(h:TZ w τ I bo X next R V st) {x:OneP}(U:x∈X) {r:RecP}(hr:RecAt R x.undo r) (hk:r.kind=3) (ao:r.next<x.undo) :
 Calls Tryz.prog 83 #[.pointer (some ⟨I.bm,0,none⟩),.int .u32 (x.txn:Int)] w fun e w'=>e = .returned (.tuple #[.bool true,.int .u16 0])/\∃ad,Step w τ w' ad TyTag/\TZ w' ad I bo (putX X (x.at_ r.next)) next R V st:=by
 obtain⟨H,L,D,F,s,aq,h1,h2,h3,h4,h5⟩:=h.is
 have hlen:=h.len
 obtain⟨ba,ho,hp⟩:=h1.mgr.is
 have hxl:=h1.mgr.low x U
 have hnx:=h1.mgr.nx
 obtain⟨kr,xr,q1,q2,q3,q4⟩:=hr.read h2 (by omega)
 have hrl:=hr.low
 have m:=Qg8 (h1.hbl▸h1.pool.log) h1.good.rise q1 q2 q3 q4
 have c0:=ho.at 0 (v:=.pointer (some ⟨I.bl,0,none⟩)) rfl
 have c2:=ho.at 2 (v:=.map (some ba)) rfl
 have Y:=hp.look x.txn (by omega)
 rw[Qln U] at Y
 obtain⟨v,J,M⟩:=(h1.mgr.ones x U).is
 have x2:=J.at 2 (v:=.int .u64 (x.undo:Int)) rfl
 obtain⟨bx,Z⟩:∃b,bo x.txn=b:=⟨_,rfl⟩
 rw[Z] at Y x2 J
 change _=Result.ok (Value.pointer (some ⟨bx,0,none⟩)) w at Y
 obtain⟨H1,H2,H3,H4,H5,Hp,Ho,a1,Hox,Hnxs,ae,H_h⟩:=hid12 h1 h2 h3 h4 h5 hp ho m J M Z h
 obtain⟨H_q1,H_q2,H_q3,H_q4,Hr,Hk⟩:=hid6 q1 q2 q3 q4 hr hk
 clear h1 h2 h3 h4 h5 hp ho m J M Z h q1 q2 q3 q4 hr hk
 go_enter Tryz.func83,Tryz.ntmps83
 go_wp2_with fail
 refine a1.out.mono ?_
 rintro e w1 ⟨u,τ1,rfl,hu,a6⟩
 have ag:=H1.out.read a6
 obtain⟨vb,va,vt,vp,n0,hu,⟨pb,cb,rfl,hb⟩,⟨pa,ca,rfl,ha⟩,ah,ai⟩:=hu
 obtain⟨pt,ct,rfl⟩:=ah.val
 obtain⟨pp,cp,rfl⟩:=ai.val
 subst hu
 obtain⟨nb,b1⟩:∃nb,r.change.before.length=nb:=⟨_,rfl⟩
 obtain⟨na,b2⟩:∃na,r.change.after.length=na:=⟨_,rfl⟩
 obtain⟨nt,b3⟩:∃nt,r.txns.length=nt:=⟨_,rfl⟩
 obtain⟨np,b4⟩:∃np,r.pages.length=np:=⟨_,rfl⟩
 have p:=(Step.refl w1 τ1 nil).alloc (.cells #[.int .u8 (r.kind:Int),.int .u32 (r.txn:Int),.int .u64 (r.prev:Int),.int .u64 (r.next:Int),.int .u32 (r.change.page:Int),.int .u16 (r.change.slot:Int),.bool r.change.had,.bool r.change.has,.slice pb nb cb,.slice pa na ca,.slice pt nt ct,.slice pp np cp] 127) tTn
 have j:=Own.born w1 τ1 tTn 127 #[.int .u8 (r.kind:Int),.int .u32 (r.txn:Int),.int .u64 (r.prev:Int),.int .u64 (r.next:Int),.int .u32 (r.change.page:Int),.int .u16 (r.change.slot:Int),.bool r.change.had,.bool r.change.has,.slice pb nb cb,.slice pa na ca,.slice pt nt ct,.slice pp np cp]
 generalize τ1.put w1.heap.size tTn=k at *
 obtain⟨br,a7⟩:∃br,w1.heap.size=br:=⟨_,rfl⟩
 rw[a7] at j
 obtain⟨w2,a8⟩:∃W,w1.alloc (.cells #[.int .u8 (r.kind:Int),.int .u32 (r.txn:Int),.int .u64 (r.prev:Int),.int .u64 (r.next:Int),.int .u32 (r.change.page:Int),.int .u16 (r.change.slot:Int),.bool r.change.had,.bool r.change.has,.slice pb nb cb,.slice pa na ca,.slice pt nt ct,.slice pp np cp] 127)=W:=⟨_,rfl⟩
 rw[a8] at j p
 have l:=ag.nil p
 have q:Step w τ w2 k TyTag:=(a6.mono (T:=TyTag) (fun _ h=>.inr h)).trans (p.mono (T:=TyTag) (fun _ h=>h.elim))
 have j0:=j.at 0 (v:=.int .u8 (r.kind:Int)) rfl
 obtain⟨v2,d,i⟩:=(l.mgr.ones x U).is
 rw[show bo x.txn=bx from ae.out] at d
 obtain⟨b5,b6,rfl,-,-⟩:=i.done
 have z:=(l.mgr.ones x U).len
 have B:=(l.mgr.ones x U).size
 unfold OneP.cells at d
 try dsimp only at d
 have m2:=d.at 2 (v:=.int .u64 (x.undo:Int)) rfl
 have z2:=d.fz 2
 have C:Step w2 k (w2.setCell ⟨bx,2,none⟩ (.int .u64 (r.next:Int))) k (fun t=>t=tOneT x.txn):=(Step.refl w2 k (fun t=>t=tOneT x.txn)).set (o:=2) d.tag rfl _
 have E:Own (w2.setCell ⟨bx,2,none⟩ (.int .u64 (r.next:Int))) k bx (tOneT x.txn) 176 [.int .u32 (x.txn:Int),.int .u64 (x.last:Int),.int .u64 (r.next:Int),.int .u8 (x.state:Int),.int .u64 (x.start:Int),.slice b5 x.ch.length b6]:=d.set 2 _
 have G:=i.step C (by simp[tOneT,tChg])
 have ak:=l.setOne C (x:=x.at_ r.next) (y:=x) U rfl (fun g hg=>.inl hg) (by
  show OneAt _ _ (bo x.txn) _
  rw[show bo x.txn=bx from ae.out]
  exact⟨⟨_,E,G⟩,z,B⟩)
 have O:=q.trans (C.mono (T:=TyTag) (fun g h=>.inl (.inr (.inl (by subst h;simp[Qai,tOneT])))))
 have j3:=j.at 3 (v:=.int .u64 (r.next:Int)) rfl
 have aa:=Qpy w2 r.next x.undo
 rw[if_pos ao] at aa
 rw[show ((r.kind:Nat):Int)=3 by rw[show r.kind=3 from Hk.out];rfl] at j0
 obtain⟨al,b7,Hor,Hal,HT2,b8,b9,bb,Hst2,Hq3,Hox3,Hox2⟩:=hid12 O ak j p l a8 a7 aa q C E d
 obtain⟨Hnx2,Hnx3,Hxl2,Hxs2⟩:=hid4 i G z B
 clear O ak j p l a8 a7 aa q C E d i G z B hb ha ah ai a6 ag
 rw[b1,b2,b3,b4]
 go_upto_region 6 with fail
 try rw[b8.out]
 try rw[b9.out]
 go_wp2_with fail
 refine bb.out.mono ?_
 rintro e w' ⟨rfl,rfl⟩
 go_wp2_with fail
 go_ret2
 exact⟨rfl,k,al.out,⟨⟨H,L,D,F,s,aq,b7.out,H2.out,H3.out,H4.out,H5.out⟩⟩⟩
theorem Qp7 {I:Ids} {bo:Nat->Nat} {X:List OneP} {V:SlotV}(h:TZ w τ I bo X next R V st) {x:OneP}(U:x∈X) {r:RecP}(hr:RecAt R x.undo r) (hk:r.kind=1) :
 Calls Tryz.prog 83 #[.pointer (some ⟨I.bm,0,none⟩),.int .u32 (x.txn:Int)] w fun e w'=>e = .returned (.tuple #[.bool false,.int .u16 0])/\∃ab,Step w τ w' ab TyTag/\TZ w' ab I bo (putX X (x.at_ 0)) next R V st:=by
 obtain⟨H,L,D,F,s,an,h1,h2,h3,h4,h5⟩:=h.is
 have hlen:=h.len
 obtain⟨ba,ho,hp⟩:=h1.mgr.is
 have hxl:=h1.mgr.low x U
 have hnx:=h1.mgr.nx
 obtain⟨kr,xr,q1,q2,q3,q4⟩:=hr.read h2 (by omega)
 have hrl:=hr.low
 have l:=Qg8 (h1.hbl▸h1.pool.log) h1.good.rise q1 q2 q3 q4
 have c0:=ho.at 0 (v:=.pointer (some ⟨I.bl,0,none⟩)) rfl
 have c2:=ho.at 2 (v:=.map (some ba)) rfl
 have Y:=hp.look x.txn (by omega)
 rw[Qln U] at Y
 obtain⟨v,J,M⟩:=(h1.mgr.ones x U).is
 have x2:=J.at 2 (v:=.int .u64 (x.undo:Int)) rfl
 obtain⟨bx,Z⟩:∃b,bo x.txn=b:=⟨_,rfl⟩
 rw[Z] at Y x2 J
 change _=Result.ok (Value.pointer (some ⟨bx,0,none⟩)) w at Y
 obtain⟨H1,H2,H3,H4,H5,Hp,Ho,a1,Hox,Hnxs,ac,H_h⟩:=hid12 h1 h2 h3 h4 h5 hp ho l J M Z h
 obtain⟨H_q1,H_q2,H_q3,H_q4,Hr,Hk⟩:=hid6 q1 q2 q3 q4 hr hk
 clear h1 h2 h3 h4 h5 hp ho l J M Z h q1 q2 q3 q4 hr hk
 go_enter Tryz.func83,Tryz.ntmps83
 go_wp2_with fail
 refine a1.out.mono ?_
 rintro e w1 ⟨u,τ1,rfl,hu,a6⟩
 have ae:=H1.out.read a6
 obtain⟨vb,va,vt,vp,n0,hu,⟨pb,cb,rfl,hb⟩,⟨pa,ca,rfl,ha⟩,af,ag⟩:=hu
 obtain⟨pt,ct,rfl⟩:=af.val
 obtain⟨pp,cp,rfl⟩:=ag.val
 subst hu
 obtain⟨nb,ay⟩:∃nb,r.change.before.length=nb:=⟨_,rfl⟩
 obtain⟨na,az⟩:∃na,r.change.after.length=na:=⟨_,rfl⟩
 obtain⟨nt,b0⟩:∃nt,r.txns.length=nt:=⟨_,rfl⟩
 obtain⟨np,b1⟩:∃np,r.pages.length=np:=⟨_,rfl⟩
 have m:=(Step.refl w1 τ1 nil).alloc (.cells #[.int .u8 (r.kind:Int),.int .u32 (r.txn:Int),.int .u64 (r.prev:Int),.int .u64 (r.next:Int),.int .u32 (r.change.page:Int),.int .u16 (r.change.slot:Int),.bool r.change.had,.bool r.change.has,.slice pb nb cb,.slice pa na ca,.slice pt nt ct,.slice pp np cp] 127) tTn
 have p:=Own.born w1 τ1 tTn 127 #[.int .u8 (r.kind:Int),.int .u32 (r.txn:Int),.int .u64 (r.prev:Int),.int .u64 (r.next:Int),.int .u32 (r.change.page:Int),.int .u16 (r.change.slot:Int),.bool r.change.had,.bool r.change.has,.slice pb nb cb,.slice pa na ca,.slice pt nt ct,.slice pp np cp]
 generalize τ1.put w1.heap.size tTn=j at *
 obtain⟨br,a7⟩:∃br,w1.heap.size=br:=⟨_,rfl⟩
 rw[a7] at p
 obtain⟨w2,a8⟩:∃W,w1.alloc (.cells #[.int .u8 (r.kind:Int),.int .u32 (r.txn:Int),.int .u64 (r.prev:Int),.int .u64 (r.next:Int),.int .u32 (r.change.page:Int),.int .u16 (r.change.slot:Int),.bool r.change.had,.bool r.change.has,.slice pb nb cb,.slice pa na ca,.slice pt nt ct,.slice pp np cp] 127)=W:=⟨_,rfl⟩
 rw[a8] at p m
 have k:=ae.nil m
 have q:Step w τ w2 j TyTag:=(a6.mono (T:=TyTag) (fun _ h=>.inr h)).trans (m.mono (T:=TyTag) (fun _ h=>h.elim))
 have j0:=p.at 0 (v:=.int .u8 (r.kind:Int)) rfl
 obtain⟨v2,d,i⟩:=(k.mgr.ones x U).is
 rw[show bo x.txn=bx from ac.out] at d
 obtain⟨b2,b3,rfl,-,-⟩:=i.done
 have z:=(k.mgr.ones x U).len
 have B:=(k.mgr.ones x U).size
 unfold OneP.cells at d
 try dsimp only at d
 have m2:=d.at 2 (v:=.int .u64 (x.undo:Int)) rfl
 have z2:=d.fz 2
 have C:Step w2 j (w2.setCell ⟨bx,2,none⟩ (.int .u64 0)) j (fun t=>t=tOneT x.txn):=(Step.refl w2 j (fun t=>t=tOneT x.txn)).set (o:=2) d.tag rfl _
 have E:Own (w2.setCell ⟨bx,2,none⟩ (.int .u64 0)) j bx (tOneT x.txn) 176 [.int .u32 (x.txn:Int),.int .u64 (x.last:Int),.int .u64 0,.int .u8 (x.state:Int),.int .u64 (x.start:Int),.slice b2 x.ch.length b3]:=d.set 2 _
 have G:=i.step C (by simp[tOneT,tChg])
 have aj:=k.setOne C (x:=x.at_ 0) (y:=x) U rfl (fun g hg=>.inl hg) (by
  show OneAt _ _ (bo x.txn) _
  rw[show bo x.txn=bx from ac.out]
  exact⟨⟨_,E,G⟩,z,B⟩)
 have O:=q.trans (C.mono (T:=TyTag) (fun g h=>.inl (.inr (.inl (by subst h;simp[Qai,tOneT])))))
 rw[show ((r.kind:Nat):Int)=1 by rw[show r.kind=1 from Hk.out];rfl] at j0
 obtain⟨ak,b4,Hor,Hal,HT2,b5,b6,Hst2,Hq3,Hox3,Hox2,Hnx2⟩:=hid12 O aj p m k a8 a7 q C E d i
 obtain⟨Hnx3,Hxl2,Hxs2⟩:=hid3 G z B
 clear O aj p m k a8 a7 q C E d i G z B hb ha af ag a6 ae
 rw[ay,az,b0,b1]
 go_upto_region 6 with fail
 try rw[b5.out]
 try rw[b6.out]
 go_wp2_with fail
 go_ret2
 exact⟨rfl,j,ak.out,⟨⟨H,L,D,F,s,an,b4.out,H2.out,H3.out,H4.out,H5.out⟩⟩⟩
theorem Jb4 {α:Type} {enc:α->List Value} {t e:TypeId} {k j:Nat} {i0:TypeInfo} {z:Value}(Z:Tryz.prog.underlying t=some (.slice e)) (hi:Tryz.prog.info? e=some i0) (B:i0.zero=some z) (C:i0.size=k) (D:i0.bytes=j) (F:z.cells.size=k) (G:0<k)
 {q w:World} {m τ:Tags} {S:Tag->Prop} (I:Step q m w τ S) {g:Tag} {v:Value} {l:List α} (p:NS e k enc q.heap.size w τ g v l) (x:α) (J:(enc x).length=k) (M:∀u∈enc x,u.oneCell'=true) (O:l.length<=1000000) (U:j<=1000) {kb:Nat} (X:kb=w.heap.size)
 {ops:Array Oper} {rest:List Oper} {o:Oper} {a:Act} {Q:Exit->Act->World->Prop} (d:o.guard=none) (s y:Operand)
 (Y:o.op = .call {callee:=.builtin .append,args:=#[s,y],argTypes:=#[t,t]}) (hs:a.eval s=v) (hy:a.eval y = .slice (some ⟨kb,0,none⟩) 1 1) {W:World} (hW:W=w.alloc (.cells (enc x).toArray e))
 (h:∀r i b,NS e k enc q.heap.size i b g r (l++[x])->Step q m i b S->Step w τ i b (fun t=>t=g)->wpList Tryz.prog ops Q rest (a.put o.dst r) i):wpList Tryz.prog ops Q (o::rest) a W:=by
 subst hW
 refine wpList_plain d fun K hK=>?_
 have:=Qg3 Z hi B C D F G I p x J M O U X (ops:=ops) (o:=o) (a:=a) (K:=K) (Q:=Q) (E:=True) d s y Y hs hy (fun r i b a1 a2 a3=>hK _ _ (h r i b a1 a2 a3))
 have hw:Region.wanted o (yielded ops a.tmps)=true:=by simp[Region.wanted,d]
 rw[if_pos hw] at this
 exact this
theorem Tryz.infoEntry:((Tryz.prog.info? 190).bind fun i=>i.zero.map fun z=>(z.cells.size,i.size,i.bytes))=some (13,13,136):=by kernel_rfl
