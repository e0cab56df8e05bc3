/-
 Transactions,plain: the log as its records,the chain of what is not undone,the slots.
-/
import Derived.Test.YtjgacceifcnedaaGreatMTxJ
import Derived.Test.YtjgacceifcnedaaGreatMWalA
import Derived.Test.YtjgacceifcnedaaGreatMTxA
set_option maxRecDepth 100000
set_option maxHeartbeats 4000000
set_option linter.all false
namespace Go.Proofs.YtjgacceifcnedaaGreat
variable {L:LogM}{N a next st:Nat}{R:List RecP}{c:ChangeP}{w:World}{τ:Tags}
open Go.RowKit
def recsB (R:List RecP):List Int:=R.flatMap encR
def Qdf (R:List RecP):List Nat:=(List.range R.length).map (fun k=>(recsB (R.take k)).length)
theorem Qmo (R:List RecP) (r:RecP):recsB (R++[r])=recsB R++encR r:=by
 unfold recsB
 rw[List.flatMap_append]
 simp
theorem Qmd (R:List RecP) (r:RecP):Qdf (R++[r])=Qdf R++[(recsB R).length]:=by
 unfold Qdf
 rw[List.length_append,List.length_singleton,List.range_succ,List.map_append]
 congr 1
 ·refine List.map_congr_left fun k hk=>?_
  have:=List.mem_range.1 hk
  rw[List.take_append_of_le_length (by omega)]
 ·simp
theorem Qbc (R:List RecP):(Qdf R).length=R.length:=by unfold Qdf;simp
theorem Qnl {k:Nat}(hk:k<R.length):(Qdf R).getD k 0=(recsB (R.take k)).length:=by
 unfold Qdf
 rw[List.getD_eq_getElem?_getD,List.getElem?_map,List.getElem?_range hk]
 rfl
theorem Qx1 (r:RecP):27≤(encR r).length:=by rw[Qbh];omega
theorem Qfk (R:List RecP):R.length*27≤(recsB R).length:=by
 induction R with
 | nil=>simp
 | cons r R ih =>
   have h:recsB (r::R)=encR r++recsB R:=rfl
   have:=Qx1 r
   rw[h,List.length_append,List.length_cons];omega
structure LogIs (L:LogM) (R:List RecP):Prop where
 stream:L.stream=recsB R
 starts:L.starts=Qdf R
 ok:∀r∈R,r.ok
 base:L.base=1
theorem LogIs.more {M:LogM}(h:LogIs L R) {r:RecP}(hr:r.ok) (hm:SameLog (L.more (encR r)) M):LogIs M (R++[r]):=by
 refine⟨?_,?_,fun q hq=>?_,by rw[hm.base];exact h.base⟩
 ·rw[hm.stream,Qmo]
  show L.stream++encR r=_
  rw[h.stream]
 ·rw[hm.starts,Qmd]
  show L.starts++[L.stream.length]=_
  rw[h.starts,h.stream]
 ·rcases List.mem_append.1 hq with hq|hq
  ·exact h.ok q hq
  ·rw[List.mem_singleton.1 hq];exact hr
theorem LogIs.same {M:LogM}(h:LogIs L R) (hm:SameLog L M):LogIs M R:=⟨by rw[hm.stream];exact h.stream,by rw[hm.starts];exact h.starts,h.ok,by rw[hm.base];exact h.base⟩
def RecAt (R:List RecP) (a:Nat) (r:RecP):Prop:=∃k,R[k]?=some r∧a=1+(recsB (R.take k)).length
theorem RecAt.app {r:RecP}(h:RecAt R a r) (T:List RecP):RecAt (R++T) a r:=by
 obtain⟨k,hk,e⟩:=h
 have hl:=(List.getElem?_eq_some_iff.1 hk).1
 exact⟨k,by rw[List.getElem?_append_left hl];exact hk,by rw[List.take_append_of_le_length (by omega)];exact e⟩
theorem RecAt.mono {r:RecP}(h:RecAt R a r) (q:RecP):RecAt (R++[q]) a r:=h.app [q]
theorem RecAt.new (R:List RecP) (r:RecP):RecAt (R++[r]) (1+(recsB R).length) r:=⟨R.length,by simp,by simp⟩
theorem RecAt.low {r:RecP}(h:RecAt R a r):0<a∧a+27≤1+(recsB R).length:=by
 obtain⟨k,hk,rfl⟩:=h
 have hl:=(List.getElem?_eq_some_iff.1 hk).1
 have hsp:recsB R=recsB (R.take k)++recsB (R.drop k):=by
  unfold recsB
  rw[←List.flatMap_append,List.take_append_drop]
 have h2:=Qfk (R.drop k)
 rw[List.length_drop] at h2
 rw[hsp,List.length_append]
 omega
theorem RecAt.read(hL:LogIs L R) {a:Nat}{r:RecP}(h:RecAt R a r):∃k x,k<L.starts.length∧L.starts.getD k 0=x∧L.base+x=a∧Qd1 (L.stream.drop x)=some (r,(encR r).length):=by
 obtain⟨k,hk,rfl⟩:=h
 have hl:=(List.getElem?_eq_some_iff.1 hk).1
 have hr:r∈R:=List.mem_of_getElem? hk
 refine⟨k,(recsB (R.take k)).length,by rw[hL.starts,Qbc];exact hl,by rw[hL.starts,Qnl hl],by rw[hL.base],?_⟩
 have hsp:recsB R=recsB (R.take k)++(encR r++recsB (R.drop (k+1))):=by
  have e:R=R.take k++(r::R.drop (k+1)):=by
   have h1:R[k]=r:=by
    have:=List.getElem?_eq_getElem hl
    rw[this] at hk
    exact Option.some.inj hk
   rw[←h1,←List.drop_eq_getElem_cons hl,List.take_append_drop]
  conv=>lhs;rw[e]
  unfold recsB
  rw[List.flatMap_append]
  rfl
 rw[hL.stream,hsp,List.drop_left]
 exact Qtz (hL.ok r hr) _
inductive Trail (R:List RecP):Nat→List (Nat×ChangeP)→Prop
 | stop {a:Nat} {r:RecP}:RecAt R a r→r.kind=1→Trail R a []
 | chg {a:Nat} {r:RecP} {l:List (Nat×ChangeP)}:RecAt R a r→r.kind=2→r.prev<a→Trail R r.prev l→Trail R a ((a,r.change)::l)
 | und {a:Nat} {r:RecP} {l:List (Nat×ChangeP)}:RecAt R a r→r.kind=3→r.next<a→Trail R r.next l→Trail R a l
theorem Trail.app {l:List (Nat×ChangeP)}(h:Trail R a l) (T:List RecP):Trail (R++T) a l:=by
 induction h with
 | stop h k=>exact .stop (h.app T) k
 | chg h k p _ ih=>exact .chg (h.app T) k p ih
 | und h k p _ ih=>exact .und (h.app T) k p ih
theorem Trail.inv {l:List (Nat×ChangeP)}(h:Trail R a l):(∃r,RecAt R a r∧r.kind=1∧l=[])∨(∃r l',RecAt R a r∧r.kind=2∧r.prev<a∧Trail R r.prev l'∧l=(a,r.change)::l')∨(∃r,RecAt R a r∧r.kind=3∧r.next<a∧Trail R r.next l):=by
 cases h with
 | stop h k=>exact .inl ⟨_,h,k,rfl⟩
 | chg h k p t=>exact .inr (.inl ⟨_,_,h,k,p,t,rfl⟩)
 | und h k p t=>exact .inr (.inr ⟨_,h,k,p,t⟩)
theorem Trail.mono {l:List (Nat×ChangeP)}(h:Trail R a l) (q:RecP):Trail (R++[q]) a l:=h.app [q]
theorem Trail.low {l:List (Nat×ChangeP)}(h:Trail R a l):0<a∧a+27≤1+(recsB R).length:=by
 cases h with
 | stop h k=>exact h.low
 | chg h k p _=>exact h.low
 | und h k p _=>exact h.low
theorem Trail.le {l:List (Nat×ChangeP)}(h:Trail R a l):∀y∈l,y.1≤a:=by
 induction h with
 | stop h k=>intro y hy;cases hy
 | chg h k p _ ih =>
   intro y hy
   rcases List.mem_cons.1 hy with rfl|hy
   ·exact Nat.le_refl _
   ·have:=ih y hy;omega
 | und h k p _ ih=>intro y hy;have:=ih y hy;omega
theorem Trail.tail {y:Nat×ChangeP} {l:List (Nat×ChangeP)}(h:Trail R a (y::l)):∀z∈l,z.1<y.1:=by
 generalize hm:y::l=m at h
 induction h with
 | stop h k=>cases hm
 | chg h k p t _ =>
   cases hm
   intro z hz
   have:=t.le z hz
   show z.1<_
   omega
 | und h k p _ ih=>exact ih hm
inductive RunC (R:List RecP):Nat→List (Nat×ChangeP)→Nat→Prop
 | nil (m:Nat):RunC R m [] m
 | chg {a m:Nat} {r:RecP} {l:List (Nat×ChangeP)}:RecAt R a r→r.kind=2→r.prev<a→RunC R r.prev l m→RunC R a ((a,r.change)::l) m
theorem RunC.app {m:Nat} {l:List (Nat×ChangeP)}(h:RunC R a l m) (T:List RecP):RunC (R++T) a l m:=by
 induction h with
 | nil=>exact .nil _
 | chg h k p _ ih=>exact .chg (h.app T) k p ih
theorem RunC.inv {m:Nat} {l:List (Nat×ChangeP)}(h:RunC R a l m):(l=[]∧a=m)∨(∃r l',RecAt R a r∧r.kind=2∧r.prev<a∧RunC R r.prev l' m∧l=(a,r.change)::l'):=by
 cases h with
 | nil=>exact .inl ⟨rfl,rfl⟩
 | chg h k p t=>exact .inr ⟨_,_,h,k,p,t,rfl⟩
theorem RunC.mono {m:Nat} {l:List (Nat×ChangeP)}(h:RunC R a l m) (q:RecP):RunC (R++[q]) a l m:=h.app [q]
theorem RunC.le {m:Nat} {l:List (Nat×ChangeP)}(h:RunC R a l m):m≤a∧(l≠[]→m<a):=by
 induction h with
 | nil=>exact⟨Nat.le_refl _,fun h=>absurd rfl h⟩
 | chg h k p _ ih=>exact⟨by have:=ih.1;omega,fun _=>by have:=ih.1;omega⟩
theorem RunC.pos {m:Nat} {l:List (Nat×ChangeP)}(h:RunC R a l m):∀y∈l,m<y.1∧y.1≤a:=by
 induction h with
 | nil=>intro y hy;cases hy
 | chg h k p t ih =>
   intro y hy
   rcases List.mem_cons.1 hy with rfl|hy
   ·exact⟨by have:=t.le.1;show _<_;omega,Nat.le_refl _⟩
   ·have:=ih y hy;omega
abbrev SlotV:=Nat→Nat→List Int
def putV (V:SlotV) (n s:Nat) (m:List Int):SlotV:=fun p t=>if p=n∧t=s then m else V p t
def undoV:SlotV→List (Nat×ChangeP)→SlotV
 | V,[]=>V
 | V,y::l=>undoV (putV V y.2.page y.2.slot y.2.before) l
theorem Qzi (V:SlotV) (n s:Nat) (m:List Int):putV V n s m n s=m:=if_pos ⟨rfl,rfl⟩
theorem Qku (V:SlotV) {n s:Nat}(m:List Int) {p t:Nat}(h:¬(p=n∧t=s)):putV V n s m p t=V p t:=if_neg h
theorem Qkb {V W:SlotV}(l:List (Nat×ChangeP)) {p t:Nat}(h:V p t=W p t):undoV V l p t=undoV W l p t:=by
 induction l generalizing V W with
 | nil=>exact h
 | cons y l ih =>
   refine ih ?_
   unfold putV
   split
   ·rfl
   ·exact h
theorem Quj (V:SlotV) (a:Nat) (c:ChangeP) (m:List Int) (hb:c.before=V c.page c.slot) (l:List (Nat×ChangeP)) (p t:Nat):undoV (putV V c.page c.slot m) ((a,c)::l) p t=undoV V l p t:=by
 refine Qkb l ?_
 show putV (putV V c.page c.slot m) c.page c.slot c.before p t=V p t
 by_cases h:p=c.page∧t=c.slot
 ·obtain⟨rfl,rfl⟩:=h
  rw[Qzi];exact hb
 ·rw[Qku _ _ h,Qku _ _ h]
structure ChgOk (N:Nat) (c:ChangeP):Prop where
 page:c.page<N
 slot:c.slot<12
 b4:c.before.length≤4
 a4:c.after.length≤4
 had:c.had=decide (0<c.before.length)
 has:c.has=decide (0<c.after.length)
theorem ChgOk.nob(h:ChgOk N c) (e:c.had=false):c.before=[]:=by
 rw[h.had] at e
 have:=of_decide_eq_false e
 exact List.eq_nil_of_length_eq_zero (by omega)
theorem ChgOk.noa(h:ChgOk N c) (e:c.has=false):c.after=[]:=by
 rw[h.has] at e
 have:=of_decide_eq_false e
 exact List.eq_nil_of_length_eq_zero (by omega)
theorem ChgOk.turned(h:ChgOk N c):ChgOk N c.turned:=⟨h.page,h.slot,h.a4,h.b4,h.has,h.had⟩
theorem ChgOk.now(h:ChgOk N c):c.now=c.after:=by
 unfold ChangeP.now
 by_cases e:c.has=true
 ·rw[if_pos e]
 ·rw[if_neg e,h.noa (by simpa using e)]
theorem ChgOk.tnow(h:ChgOk N c):c.turned.now=c.before:=h.turned.now
theorem ChgOk.may(h:ChgOk N c) {k t p n:Nat}(hk:k=2∨k=3):mayB ⟨k,t,p,n,c,[],[]⟩=true:=Qlb hk (by have:=h.b4;omega) (by have:=h.a4;omega) h.nob h.noa
def chOf (l:List (Nat×ChangeP)):List (Nat×Nat):=(l.map (fun y=>(y.1,Qak y.2))).reverse
def Qbf (l:List (Nat×ChangeP)):Nat:=(l.map (fun y=>Qak y.2)).sum
theorem Qh9 (y:Nat×ChangeP) (l:List (Nat×ChangeP)):chOf (y::l)=chOf l++[(y.1,Qak y.2)]:=by
 unfold chOf
 rw[List.map_cons,List.reverse_cons]
theorem Qgx (k l:List (Nat×ChangeP)):chOf (k++l)=chOf l++chOf k:=by
 unfold chOf
 rw[List.map_append,List.reverse_append]
theorem Qj1 {l:List (Nat×ChangeP)} {z:Nat×Nat}(h:z∈chOf l):∃y∈l,z=(y.1,Qak y.2):=by
 unfold chOf at h
 obtain⟨y,hy,e⟩:=List.mem_map.1 (List.mem_reverse.1 h)
 exact⟨y,hy,e.symm⟩
theorem Qya (l:List (Nat×ChangeP)):((chOf l).map Prod.snd).sum=Qbf l:=by
 induction l with
 | nil=>rfl
 | cons y l ih =>
   rw[Qh9,List.map_append,List.sum_append,ih]
   show Qbf l+(Qak y.2+0)=Qak y.2+Qbf l
   omega
theorem Qcy (y:Nat×ChangeP) (l:List (Nat×ChangeP)):Qbf (y::l)=Qak y.2+Qbf l:=rfl
theorem Qyb (l:List (Nat×ChangeP)):(chOf l).length=l.length:=by unfold chOf;simp
structure Ids where
 bm:Nat
 bl:Nat
 bp:Nat
 bf:Nat
 bd:Nat
 N:Nat
 S:Nat
structure TZ (w:World) (τ:Tags) (I:Ids) (bo:Nat→Nat) (X:List OneP) (next:Nat) (R:List RecP) (V:SlotV) (st:Nat):Prop where
 is:∃H L D F s cur,TW w τ I.bm I.bl I.bp I.bf I.bd I.N bo X next H L D F s cur∧LogIs L R∧L.strips=I.S∧H.st≤st∧∀n,n<I.N→Small (cur n)∧∀t,pData (cur n) t=V n t
theorem TZ.nil {w':World} {τ':Tags} {I:Ids} {bo:Nat→Nat} {X:List OneP} {V:SlotV}(h:TZ w τ I bo X next R V st) (m:Step w τ w' τ' Go.Proofs.YtjgacceifcnedaaGreat.nil):TZ w' τ' I bo X next R V st:=by
 obtain⟨H,L,D,F,s,cur,h1,h2⟩:=h.is
 exact⟨⟨H,L,D,F,s,cur,h1.nil m,h2⟩⟩
theorem TZ.le {I:Ids} {bo:Nat→Nat} {X:List OneP} {V:SlotV} {st':Nat}(h:TZ w τ I bo X next R V st) (hs:st≤st'):TZ w τ I bo X next R V st':=by
 obtain⟨H,L,D,F,s,cur,h1,h2,h3,h4,h5⟩:=h.is
 exact⟨⟨H,L,D,F,s,cur,h1,h2,h3,Nat.le_trans h4 hs,h5⟩⟩
theorem TZ.mgr {I:Ids} {bo:Nat→Nat} {X:List OneP} {V:SlotV}(h:TZ w τ I bo X next R V st):MgrAt w τ I.bm I.bl I.bp bo X next:=by
 obtain⟨H,L,D,F,s,cur,h1,-⟩:=h.is
 exact h1.mgr
theorem TZ.len {I:Ids} {bo:Nat→Nat} {X:List OneP} {V:SlotV}(h:TZ w τ I bo X next R V st):(recsB R).length≤1000000∧(recsB R).length≤I.S*127:=by
 obtain⟨H,L,D,F,s,cur,h1,h2,h3,h4,h5⟩:=h.is
 have e1:=h1.pool.log.ok.stream
 have e2:=h1.good.cap
 rw[h2.stream] at e1 e2
 rw[h3] at e2
 exact⟨e1,by omega⟩
theorem TZ.slot4 {I:Ids} {bo:Nat→Nat} {X:List OneP} {V:SlotV}(h:TZ w τ I bo X next R V st) {n:Nat}(hn:n<I.N) (t:Nat):(V n t).length≤4∧(12≤t→V n t=[]):=by
 obtain⟨H,L,D,F,s,cur,h1,h2,h3,h4,h5⟩:=h.is
 obtain⟨a,b⟩:=h5 n hn
 rw[←b t]
 exact a t
def chgV (V:SlotV) (n s:Nat) (has:Bool) (m:List Int):ChangeP:=⟨n,s,decide (0<(V n s).length),has,V n s,if has=true then m else []⟩
theorem Qwa {V:SlotV} {n s:Nat}(hn:n<N) (hs:s<12) (h4:(V n s).length≤4) (has:Bool) {m:List Int}(hm4:m.length≤4) (hm0:0<m.length):ChgOk N (chgV V n s has m):=by
 refine⟨hn,hs,h4,?_,rfl,?_⟩
 ·show (if has=true then m else []).length≤4
  split
  ·exact hm4
  ·simp
 ·show has=decide (0<(if has=true then m else []).length)
  cases has
  ·simp
  ·simp[hm0]
def Qwq (w:World) (τ:Tags) (I:Ids) (bo:Nat→Nat) (X:List OneP) (next:Nat) (R:List RecP) (V:SlotV) (st:Nat) (x:OneP) (c:ChangeP) (e:Ending) (w':World):Prop :=
 ∃τ',Step w τ w' τ' TxTag ∧
 ((c.has=false∧c.had=false∧e = .returned (.int .u16 0)∧TZ w' τ' I bo X next R V (st+1)) ∨
 ((c.has=true∨c.had=true)∧¬(recsB R).length+Qak c+(resv X+Qak c)≤I.S*127∧e = .returned (.int .u16 80)∧TZ w' τ' I bo X next R V (st+1)) ∨
 ((c.has=true∨c.had=true)∧(recsB R).length+Qak c+(resv X+Qak c)≤I.S*127∧e = .returned (.int .u16 0)∧TZ w' τ' I bo (putX X (x.changed (1+(recsB R).length) (Qak c))) next (R++[Qcp c x]) (putV V c.page c.slot c.now) (st+1)))
theorem Qso {cur:Nat→List Int} {V:SlotV}(h:∀n,n<N→Small (cur n)∧∀t,pData (cur n) t=V n t) {n s:Nat}{Q m:List Int}(hd:DoneP (cur n) Q s m) (hn:n<N) (hs:s<12) (hm:m.length≤4) (ls:Nat) (h64:ls<2 ^ 64):∀k,k<N→Small (updC cur n (layN Q 0 (leB ls 8)) k)∧∀t,pData (updC cur n (layN Q 0 (leB ls 8)) k) t=putV V n s m k t:=by
 intro k hk
 unfold updC
 have hst:=(hd.sound.stamp ls h64).2.2.2
 by_cases e:k=n
 ·subst e
  rw[if_pos rfl]
  refine⟨fun t=>?_,fun t=>?_⟩
  ·rw[hst t]
   exact(hd.small (h k hk).1 hs hm) t
  ·rw[hst t,hd.data t]
   unfold putV
   by_cases e2:t=s
   ·rw[if_pos e2,if_pos ⟨rfl,e2⟩]
   ·rw[if_neg e2,if_neg (fun h=>e2 h.2)]
    exact(h k hk).2 t
 ·rw[if_neg e]
  refine⟨(h k hk).1,fun t=>?_⟩
  rw[Qku V m (fun h=>e h.1)]
  exact(h k hk).2 t
theorem Qkf {I:Ids} {bo:Nat→Nat} {X:List OneP} {V:SlotV}(h:TZ w τ I bo X next R V st) (hst:st≤1000000) {x:OneP}(hx:x∈X) (hs:x.state=1) (hlast:x.last≤1+(recsB R).length) (hxl:x.ch.length<1000) {n:Nat}(hn:n<I.N) (hN:I.N≤512)
 {sl:Nat} (hs12:sl<12) (has:Bool) {pd:Option Addr} {cd:Nat} {m:List Int} (hd:Bytes w τ tData (.slice pd m.length cd) m) (hm4:m.length≤4) (hm0:0<m.length) :
 Calls Tryz.prog 29 #[.pointer (some ⟨I.bm,0,none⟩),.int .u32 (x.txn:Int),.int .u32 (n:Int),.int .i64 (sl:Int),.bool has,.slice pd m.length cd] w (Qwq w τ I bo X next R V st x (chgV V n sl has m)):=by
 obtain⟨H,L,D,F,s,cur,h1,h2,h3,h4,h5⟩:=h.is
 have hl:=h.len
 have hok:=Qwa hn hs12 (h.slot4 hn sl).1 has hm4 hm0
 have hrl:=Qfk R
 have hc:chgOf n (cur n) sl has m=chgV V n sl has m:=by
  obtain⟨a,b⟩:=h5 n hn
  have hsd:=(h1.good.page n hn).1
  unfold chgOf chgV
  rw[←b sl,Qbm hsd.tidy.lies.fit hsd.tidy.len]
 have hlow:=h1.mgr.low x hx
 have hnx:=h1.mgr.nx
 have:=Quo h1 (by omega) hx hs n hn hN (by rw[h2.starts,Qbc];omega) (by omega) hxl (h5 n hn).1 (by rw[h2.base,h2.stream];omega) sl hs12 has hd hm4 hm0
 rw[hc] at this
 have hsl:(chgV V n sl has m).slot=sl:=rfl
 have hpg:(chgV V n sl has m).page=n:=rfl
 generalize chgV V n sl has m=c at *
 refine this.mono ?_
 rintro e w' ⟨τ',H',L',D',F',s',hst',hstep,hk⟩
 refine⟨τ',hstep,?_⟩
 rcases hk with ⟨a1,a2,a3,a4,a5⟩|⟨a1,a2,a3,a4,a5⟩|⟨a1,a2,a3,Q,a4,a5,a6⟩
 ·exact .inl ⟨a1,a2,a3,⟨⟨H',L',D',F',s',cur,a4,h2.same a5,by rw[a5.strips];exact h3,by omega,h5⟩⟩⟩
 ·rw[h2.stream,h3] at a2
  exact .inr (.inl ⟨a1,a2,a3,⟨⟨H',L',D',F',s',cur,a4,h2.same a5,by rw[a5.strips];exact h3,by omega,h5⟩⟩⟩)
 ·rw[h2.stream,h3] at a2
  rw[h2.stream,h2.base] at a5
  have hrec:(Qcp c x).ok:=⟨hok.may (.inl rfl),by show (2:Nat)≠8;omega,by show x.txn<_;omega,by show x.last<_;omega,by show 0<_;omega,by show c.page<_;omega,by show c.slot<_;omega⟩
  refine .inr (.inr ⟨a1,a2,a3,⟨⟨H',L',D',F',s',_,a5,h2.more hrec a6,by rw[a6.strips];exact h3,by omega,?_⟩⟩⟩)
  rw[hpg,hsl]
  rw[hsl] at a4
  exact Qso h5 a4 hn hs12 (by rw[hok.now];exact hok.a4) _ (by show _<18446744073709551616;omega)
theorem Qgd (X:List OneP) {x y:OneP}(h:x.txn=y.txn):putX (putX X x) y=putX X y:=by
 unfold putX
 rw[List.map_map]
 refine List.map_congr_left fun z _=>?_
 show (if (if z.txn=x.txn then x else z).txn=y.txn then y else (if z.txn=x.txn then x else z))=if z.txn=y.txn then y else z
 by_cases e:z.txn=x.txn
 ·rw[if_pos e,if_pos h,if_pos (e.trans h)]
 ·rw[if_neg e]
theorem TW.setOne {w':World} {τ':Tags} {S:Tag→Prop} {bm bl bp bf bd:Nat} {bo:Nat→Nat} {X:List OneP} {H:PoolH} {D:Dev} {F:List Fr} {s:Ck.Clk.St} {cur:Nat→List Int}(h:TW w τ bm bl bp bf bd N bo X next H L D F s cur) (m:Step w τ w' τ' S) {x y:OneP}(hy:y∈X) (e:y.txn=x.txn) (hS:∀g,S g→g=tOneT x.txn∨g=tChg x.txn) (hx:OneAt w' τ' (bo x.txn) x):TW w' τ' bm bl bp bf bd N bo (putX X x) next H L D F s cur:=by
 have no:∀g,S g→¬PWTag g∧g≠tData:=fun g hg=>by
  have hm:Qai g:=by rcases hS g hg with h|h <;> (subst h;simp[Qai,tOneT,tChg])
  refine⟨fun q=>(Qi3 q).1 hm,fun q=>?_⟩
  subst q
  simp[Qai,tData] at hm
 exact⟨h.pool.step m (fun g hg=>⟨fun k=>(no g hg).1 (.inl k),fun k=>(no g hg).1 (.inr (.inl k)),fun k=>(no g hg).1 (.inr (.inr k)),(no g hg).2⟩),h.mgr.setOne m hy e (fun g _ hg=>hS g hg) hx,h.good,h.clock,h.hn,h.hbl⟩
theorem pw_tn:¬PWTag tTn:=by
 rintro(h|h|h)
 ·rcases h with h|h|h|h|⟨i,h⟩ <;> simp[tTn,tPool,tFr,tWhere,tClk,tPg] at h
 ·rcases h with h|h|h <;> simp[tTn,tLog,Qah,Qag] at h
 ·rcases h with h|h|h|h <;> simp[tTn] at h
def Qed (c:ChangeP) (x:OneP) (nx:Nat):RecP:=⟨3,x.txn,x.last,nx,c.turned,[],[]⟩
theorem Qif (c:ChangeP) (x:OneP) (nx:Nat):(encR (Qed c x nx)).length=Qak c:=by
 have:=Qkc c x.txn x.last nx
 exact this
def OneP.undone (x:OneP) (lsn nx:Nat) (l:List (Nat×Nat)):OneP:={x with last:=lsn,undo:=nx,ch:=l}
def UndoD (w:World) (τ:Tags) (bm bl bp bf bd N:Nat) (bo:Nat→Nat) (X:List OneP) (next:Nat) (st:Nat) (L:LogM) (cur:Nat→List Int) (x:OneP) (c:ChangeP) (nx:Nat) (l1:List (Nat×Nat)) (e:Ending) (w':World):Prop :=
 e = .returned (.tuple #[.bool true,.int .u16 0])∧∃τ' H' L' D' F' s' Q,H'.st≤st+1∧Step w τ w' τ' TxTag∧DoneP (cur c.page) Q c.slot c.before ∧
   TW w' τ' bm bl bp bf bd N bo (putX X (x.undone (L.base+L.stream.length) nx l1)) next H' L' D' F' s' (updC cur c.page (layN Q 0 (leB (L.base+L.stream.length) 8)))∧SameLog (L.more (encR (Qed c x nx))) L'
theorem Qwu {bm bl bp bf bd:Nat} {bo:Nat→Nat} {X:List OneP} {H:PoolH} {D:Dev} {F:List Fr} {s:Ck.Clk.St} {cur:Nat→List Int}(h:TW w τ bm bl bp bf bd N bo X next H L D F s cur) (hst:H.st+1<18446744073709551616) {x:OneP}(hx:x∈X) (hN:N≤512) (hst100:L.starts.length≤100000) (hlast:x.last<18446744073709551616) (h64:L.base+L.stream.length<18446744073709551616)
 {v:Value} {r:RecP} (hv:RecV w τ v r) (hc:ChgOk N r.change) (hsm:Small (cur r.change.page)) {at_:Nat} (hat:at_<18446744073709551616) (hp:r.prev<at_) {l1:List (Nat×Nat)} {sz:Nat} (hch:x.ch=l1++[(at_,sz)]) (hl1:∀y∈l1,y.1≠at_) (hcap:L.stream.length+Qak r.change≤L.strips*127) :
 Calls Tryz.prog 83 #[.pointer (some ⟨bm,0,none⟩),.pointer (some ⟨bo x.txn,0,none⟩),.int .u64 (at_:Int),v] w (UndoD w τ bm bl bp bf bd N bo X next H.st L cur x r.change r.prev l1):=by
 obtain⟨kd,tx,pv,nx,c,ts,ps⟩:=r
 dsimp only at *
 obtain⟨vb,va,vt,vp,n0,rfl,⟨pb,cb,rfl,hb⟩,⟨pa,ca,rfl,ha⟩,hts,hps⟩:=hv
 dsimp only at *
 obtain⟨pt,ct,rfl⟩:=hts.val
 obtain⟨pp,cp,rfl⟩:=hps.val
 have hlow:=h.mgr.low x hx
 have hnx:=h.mgr.nx
 have hsnd:=(h.good.page c.page hc.page).1
 have hnum:=(h.good.page c.page hc.page).2.1
 have hct:c.turned.now=c.before:=hc.tnow
 have hpgN:=hc.page
 have hsl12:=hc.slot
 have hb4:=hc.b4
 have ha4:=hc.a4
 have hal1:=(Step.refl w τ nil).alloc (.cells #[.int .u64 (at_:Int)] 34) tTn
 have hoa:=Own.born w τ tTn 34 #[.int .u64 (at_:Int)]
 obtain⟨bq,hbq⟩:∃bq,w.heap.size=bq:=⟨_,rfl⟩
 have hlowq:w.heap.size≤bq:=by omega
 have hsz1:(w.alloc (.cells #[.int .u64 (at_:Int)] 34)).heap.size=w.heap.size+1:=World.size_alloc _ _
 generalize τ.put w.heap.size tTn=τ1 at *
 rw[hbq] at hoa hsz1
 generalize hW1:w.alloc (.cells #[.int .u64 (at_:Int)] 34)=W1 at *
 have hal2:=(Step.refl W1 τ1 nil).alloc (.cells #[.int .u8 (kd:Int),.int .u32 (tx:Int),.int .u64 (pv:Int),.int .u64 (nx:Int),.int .u32 (c.page:Int),.int .u16 (c.slot:Int),.bool c.had,.bool c.has,.slice pb c.before.length cb,.slice pa c.after.length ca,.slice pt ts.length ct,.slice pp ps.length cp] 58) tTn
 have hor:=Own.born W1 τ1 tTn 58 #[.int .u8 (kd:Int),.int .u32 (tx:Int),.int .u64 (pv:Int),.int .u64 (nx:Int),.int .u32 (c.page:Int),.int .u16 (c.slot:Int),.bool c.had,.bool c.has,.slice pb c.before.length cb,.slice pa c.after.length ca,.slice pt ts.length ct,.slice pp ps.length cp]
 rw[hsz1] at hor hal2
 have hoa2:=hoa.step hal2 (fun h=>h)
 have hst2:=hal1.trans hal2
 generalize τ1.put (bq+1) tTn=τ2 at *
 generalize hW2:W1.alloc (.cells #[.int .u8 (kd:Int),.int .u32 (tx:Int),.int .u64 (pv:Int),.int .u64 (nx:Int),.int .u32 (c.page:Int),.int .u16 (c.slot:Int),.bool c.had,.bool c.has,.slice pb c.before.length cb,.slice pa c.after.length ca,.slice pt ts.length ct,.slice pp ps.length cp] 58)=W2 at *
 have hT2:=h.nil hst2
 have hb2:=hb.step hst2 (fun h=>h)
 have ha2:=ha.step hst2 (fun h=>h)
 have hget:=Qr0 hT2 hst c.page hpgN
 have e4:=hor.at 4 (v:=.int .u32 (c.page:Int)) rfl
 obtain⟨ba,ho,-⟩:=hT2.mgr.is
 have c1:=ho.at 1 (v:=.pointer (some ⟨bp,0,none⟩)) rfl
 obtain⟨nb,hnb⟩:∃nb,c.before.length=nb:=⟨_,rfl⟩
 obtain⟨na,hna⟩:∃na,c.after.length=na:=⟨_,rfl⟩
 obtain⟨nt,hnt⟩:∃nt,ts.length=nt:=⟨_,rfl⟩
 obtain⟨np,hnp⟩:∃np,ps.length=np:=⟨_,rfl⟩
 rw[hnb,hna,hnt,hnp] at hW2 hor
 rw[hnb] at hb2
 rw[hna] at ha2
 obtain⟨H_h,Hget,Hoa2,Hor,Hst2,HT2,Hb2,Ha2,HW1,HW2,Hsz1,Hnb⟩:=hid12 h hget hoa2 hor hst2 hT2 hb2 ha2 hW1 hW2 hsz1 hnb
 obtain⟨Hna,Hnt,Hnp,Hsm,Hsnd,Hnum,Hc,Hct,Hch,Hl1,Hcap,Hbq⟩:=hid12 hna hnt hnp hsm hsnd hnum hc hct hch hl1 hcap hbq
 clear h hget hoa2 hor hst2 hT2 hb2 ha2 hW1 hW2 hsz1 hnb hna hnt hnp hsm hsnd hnum hc hct hch hl1 hcap hbq hal1 hal2 hoa hts hps hb ha ho
 rw[show c.before.length=nb from Hnb.out,show c.after.length=na from Hna.out,show ts.length=nt from Hnt.out,show ps.length=np from Hnp.out]
 go_enter Tryz.func83,Tryz.ntmps83
 go_upto_region 2 with fail
 try rw[HW1.out]
 try rw[HW2.out]
 try rw[Hsz1.out]
 try rw[Hbq.out]
 go_wp2_with fail
 refine Hget.out.mono ?_
 rintro e w3 ⟨b,rfl,τ3,H3,L3,D3,F3,s3,i3,f3,hg3,hst3,hsl3,hs3⟩
 have hor3:=Hor.out.step hs3 pw_tn
 have hoa3:=Hoa2.out.step hs3 pw_tn
 have hb3:=Hb2.out.step hs3 Qhd
 have ha3:=Ha2.out.step hs3 Qhd
 have hst3':=(Hst2.out.mono (T:=PWTag) (fun _ h=>h.elim)).trans hs3
 rw[←Hnb.out] at hb3
 rw[←Hna.out] at ha3
 have htn:=Qml c hb3 ha3 (by omega) (by omega)
 unfold ChgV at htn
 dsimp only[ChangeP.turned] at htn
 rw[Hnb.out,Hna.out] at htn
 rw[Hna.out] at ha3
 rw[Hnb.out] at hb3
 have d4:=hor3.at 4 (v:=.int .u32 (c.page:Int)) rfl
 have d5:=hor3.at 5 (v:=.int .u16 (c.slot:Int)) rfl
 have d6:=hor3.at 6 (v:=.bool c.had) rfl
 have d7:=hor3.at 7 (v:=.bool c.has) rfl
 have d8:=hor3.at 8 (v:=.slice pb nb cb) rfl
 have d9:=hor3.at 9 (v:=.slice pa na ca) rfl
 obtain⟨Hor3,Hoa3,Hb3,Ha3⟩:=hid4 hor3 hoa3 hb3 ha3
 have Hst3':=Lib.hid hst3'
 obtain⟨Htn,Hg3,Hsl3,Hs3⟩:=hid4 htn hg3 hsl3 hs3
 clear hor3 hoa3 hb3 ha3 hst3' htn hg3 hsl3 hs3 e4 c1
 go_upto_region 5 with fail
 go_wp2_with fail
 refine Htn.out.mono ?_
 rintro e w4 ⟨qb,kb,qa,ka,τ4,rfl,hqb,hqa,hs4⟩
 obtain⟨bn,hbn⟩:∃bn,w4.heap.size=bn:=⟨_,rfl⟩
 have hol:=Own.born w4 τ4 tTn 55 #[.int .u32 (c.page:Int),.int .u16 (c.slot:Int),.bool c.has,.bool c.had,.slice qb na kb,.slice qa nb ka]
 have hal:=(Step.refl w4 τ4 nil).alloc (.cells #[.int .u32 (c.page:Int),.int .u16 (c.slot:Int),.bool c.has,.bool c.had,.slice qb na kb,.slice qa nb ka] 55) tTn
 generalize τ4.put w4.heap.size tTn=τ5 at *
 rw[hbn] at hol
 obtain⟨w5,hw5⟩:∃W,w4.alloc (.cells #[.int .u32 (c.page:Int),.int .u16 (c.slot:Int),.bool c.has,.bool c.had,.slice qb na kb,.slice qa nb ka] 55)=W:=⟨_,rfl⟩
 rw[hw5] at hol hal
 have hq5:=hs4.trans hal
 have hqb5:=hqb.step hal (fun h=>h)
 have hqa5:=hqa.step hal (fun h=>h)
 have hor5:=Hor3.out.step hq5 (fun h=>h)
 have hoa5:=Hoa3.out.step hq5 (fun h=>h)
 have hm5:=Hg3.out.mgr.nil hq5
 have hl5:LogAt w5 τ5 bl bd L3:=(Hg3.out.hbl▸Hg3.out.pool.log).step hq5 (fun _ _ h=>h)
 have hP5:=Hg3.out.page.step hq5 (fun h=>h)
 have hvr:RecI w5 τ5 (.agg #[.int .u8 3,.int .u32 0,.int .u64 0,.int .u64 (pv:Int),.int .u32 (c.page:Int),.int .u16 (c.slot:Int),.bool c.has,.bool c.had,.slice qb na kb,.slice qa nb ka,.slice none 0 0,.slice none 0 0]) ⟨3,0,0,pv,c.turned,[],[]⟩:=⟨⟨qb,kb,qa,ka,none,0,none,0,tBox,tBox,0,by
  show _=Value.agg #[.int .u8 3,.int .u32 0,.int .u64 0,.int .u64 (pv:Int),.int .u32 (c.page:Int),.int .u16 (c.slot:Int),.bool c.has,.bool c.had,.slice qb c.after.length kb,.slice qa c.before.length ka,.slice none 0 0,.slice none 0 0]
  rw[Hna.out,Hnb.out],by show Bytes w5 τ5 tData (.slice qb c.after.length kb) c.after;rw[Hna.out];exact hqb5,by show Bytes w5 τ5 tData (.slice qa c.before.length ka) c.before;rw[Hnb.out];exact hqa5,NS.nil _ _ _ _ _ _ _,NS.nil _ _ _ _ _ _ _,by simp[WrT,tBox,tWr,tWb],by simp[WrT,tBox,tWr,tWb]⟩,by show 3<256;omega,by show 0<4294967296;omega,by show 0<18446744073709551616;omega,by show pv<18446744073709551616;omega,by show c.page<4294967296;omega,by show c.slot<65536;omega⟩
 have hownE:(RecP.own ⟨3,0,0,pv,c.turned,[],[]⟩ x)=Qed c x pv:=rfl
 have hrl:=Qif c x pv
 have hcs:Qak c≤44:=by unfold Qak;omega
 have hwr:=Qe2 hm5 hl5 hx (by rw[Hsl3.out.starts];exact hst100) hvr (Hc.out.turned.may (.inr rfl)) (by rw[hownE,hrl];omega) (by show (3:Nat)≠8;omega) hlast 0 (by rw[hownE,hrl,Hsl3.out.stream,Hsl3.out.strips];exact Hcap.out)
 rw[hownE] at hwr
 obtain⟨lsn,hlsn⟩:∃lsn,L3.base+L3.stream.length=lsn:=⟨_,rfl⟩
 rw[hlsn] at hwr
 have g0:=hol.at 0 (v:=.int .u32 (c.page:Int)) rfl
 have g1:=hol.at 1 (v:=.int .u16 (c.slot:Int)) rfl
 have g2:=hol.at 2 (v:=.bool c.has) rfl
 have g3:=hol.at 3 (v:=.bool c.had) rfl
 have g4:=hol.at 4 (v:=.slice qb na kb) rfl
 have g5:=hol.at 5 (v:=.slice qa nb ka) rfl
 have r2:=hor5.at 2 (v:=.int .u64 (pv:Int)) rfl
 have hst5:=Hst3'.out.trans (hq5.mono (T:=PWTag) (fun _ h=>h.elim))
 obtain⟨Hol,Hbn,Hw5,Hqb5,Hqa5,Hor5,Hoa5,Hm5,Hl5,HP5,Hwr,HownE⟩:=hid12 hol hbn hw5 hqb5 hqa5 hor5 hoa5 hm5 hl5 hP5 hwr hownE
 obtain⟨Hrl,Hq5,Hlsn,Hst5,Hcs⟩:=hid5 hrl hq5 hlsn hst5 hcs
 clear hol hbn hw5 hqb5 hqa5 hor5 hoa5 hm5 hl5 hP5 hwr hownE hrl hq5 hlsn hst5 hcs hqb hqa hs4 hal hvr d4 d5 d6 d7 d8 d9
 go_upto_region 6 with fail
 try rw[Hw5.out]
 try rw[Hbn.out]
 go_wp2_with fail
 refine Hwr.out.mono ?_
 rintro e w6 ⟨rfl,τ6,hl6,hx6,hs6⟩
 have hn6:∀i,¬(LogTag (tPg i)∨tPg i=tOneT x.txn):=fun i=>by simp[LogTag,tPg,tLog,Qah,Qag,tOneT]
 have hnd:¬(LogTag tData∨tData=tOneT x.txn):=by simp[LogTag,tData,tLog,Qah,Qag,tOneT]
 have hnt':¬(LogTag tTn∨tTn=tOneT x.txn):=by simp[LogTag,tTn,tLog,Qah,Qag,tOneT]
 have hP6:=HP5.out.step hs6 (hn6 i3)
 have hol6:=Hol.out.step hs6 hnt'
 have hor6:=Hor5.out.step hs6 hnt'
 have hoa6:=Hoa5.out.step hs6 hnt'
 have hqa6:=Hqa5.out.step hs6 hnd
 have hst6:Step w3 τ3 w6 τ6 (TcTag i3 x.txn):=(Hq5.out.mono (T:=TcTag i3 x.txn) (fun _ h=>h.elim)).trans (hs6.mono (fun t h=>h.elim .inl (fun h=>.inr (.inl h))))
 have hdo:=Qv1 (g:=tPg i3) (by simp[tPg,tOut,tData,tAll]) hP6 Hsnd.out Hsm.out c.turned hsl12 (pb:=qb) (cb:=kb) (pa:=qa) (ca:=ka) (by show Bytes w6 τ6 tData (.slice qa c.before.length ka) c.before;rw[Hnb.out];exact hqa6) (fun h=>by
  have h2:c.had=true:=h
  rw[Hc.out.had] at h2
  exact of_decide_eq_true h2) (by show c.before.length≤64;omega)
 rw[Hct.out] at hdo
 unfold ChgV at hdo
 dsimp only[ChangeP.turned] at hdo
 rw[Hnb.out,Hna.out] at hdo
 have f0:=hol6.at 0 (v:=.int .u32 (c.page:Int)) rfl
 have f1:=hol6.at 1 (v:=.int .u16 (c.slot:Int)) rfl
 have f2:=hol6.at 2 (v:=.bool c.has) rfl
 have f3':=hol6.at 3 (v:=.bool c.had) rfl
 have f4:=hol6.at 4 (v:=.slice qb na kb) rfl
 have f5:=hol6.at 5 (v:=.slice qa nb ka) rfl
 obtain⟨Hl6,Hx6,HP6,Hor6,Hoa6,Hst6,Hdo⟩:=hid7 hl6 hx6 hP6 hor6 hoa6 hst6 hdo
 clear hl6 hx6 hP6 hor6 hoa6 hst6 hdo hs6 hol6 hqa6 hn6 hnd hnt' g0 g1 g2 g3 g4 g5 r2
 go_wp2_with fail
 refine Hdo.out.mono ?_
 rintro e w7 ⟨rfl,Q,τ7,hdn,hQ7,hs7⟩
 have hx7:=Hx6.out.step hs7 (by simp[tOneT,tPg]) (by simp[tChg,tPg])
 have hl7:=Hl6.out.step hs7 (by intro g hg e;subst e;rcases hg with h|h|h <;> simp[tPg,tLog,Qah,Qag] at h)
 have hst7:Step w3 τ3 w7 τ7 (TcTag i3 x.txn):=Hst6.out.trans (hs7.mono (T:=TcTag i3 x.txn) (fun t h=>.inr (.inr (.inr (.inl h)))))
 have hor7:=Hor6.out.step hs7 (by simp[tTn,tPg])
 have hoa7:=Hoa6.out.step hs7 (by simp[tTn,tPg])
 have h64':lsn<18446744073709551616:=by rw[←Hlsn.out,Hsl3.out.base,Hsl3.out.stream];exact h64
 have hrlp:0<(encR (Qed c x pv)).length:=by rw[Hrl.out];unfold Qak;omega
 have hput:=Qup Hg3.out (by omega) hst7 hQ7 hl7 hx (x:={x with last:=lsn}) rfl rfl hx7 hdn.sound (by rw[hdn.num];exact Hnum.out) hrlp (by rw[Hrl.out,Hsl3.out.stream,Hsl3.out.strips];have:=Hcap.out;omega) Hlsn.out h64'
 obtain⟨ba3,ho3,-⟩:=Hg3.out.mgr.is
 have ho7:=ho3.step hst7 (fun q=>by rcases tctag_mgr _ (by simp[Qai,tMgr]) q with q|q <;> simp[tMgr,tOneT,tChg] at q)
 have c71:=ho7.at 1 (v:=.pointer (some ⟨bp,0,none⟩)) rfl
 have hst7':=Hst5.out.trans (τ1:=τ5) (a:=w5) (Step.refl w5 τ5 PWTag)
 obtain⟨Hx7,Hl7,Hst7,Hor7,Hoa7,Hput,Hdn,Ho7,Hrlp⟩:=hid9 hx7 hl7 hst7 hor7 hoa7 hput hdn ho7 hrlp
 clear hx7 hl7 hst7 hor7 hoa7 hput hdn ho7 hrlp hs7 hQ7 ho3 hst7' f0 f1 f2 f3' f4 f5
 go_wp2_with fail
 refine Hput.out.mono ?_
 rintro e w8 ⟨rfl,τ8,F8,s8,ht8,hs8⟩
 have hor8:=Hor7.out.step hs8 pw_tn
 have hoa8:=Hoa7.out.step hs8 pw_tn
 have k2:=hor8.at 2 (v:=.int .u64 (pv:Int)) rfl
 have k0:=hoa8.at 0 (v:=.int .u64 (at_:Int)) rfl
 have hah:=Qpy w8 pv at_
 rw[if_pos hp] at hah
 have hx8:=ht8.mgr.ones _ (Qge hx (x:={x with last:=lsn}) rfl)
 obtain⟨vv,hox,hnx8⟩:=hx8.is
 obtain⟨pvv,cvv,rfl,-,-⟩:=hnx8.done
 have hclen:=hx8.len
 have hcsz:=hx8.size
 unfold OneP.cells at hox
 dsimp only at hox hnx8 hclen hcsz
 obtain⟨bx,hbx⟩:∃bx,bo x.txn=bx:=⟨_,rfl⟩
 rw[hbx] at hox
 obtain⟨nch,hnch⟩:∃nch,x.ch.length=nch:=⟨_,rfl⟩
 rw[hnch] at hox hnx8 hclen
 have m2:=hox.at 2 (v:=.int .u64 (x.undo:Int)) rfl
 have z2:=hox.fz 2
 have hq9:Step w8 τ8 (w8.setCell ⟨bx,2,none⟩ (.int .u64 (pv:Int))) τ8 (fun t=>t=tOneT x.txn):=(Step.refl w8 τ8 (fun t=>t=tOneT x.txn)).set (o:=2) hox.tag rfl _
 have hox9:Own (w8.setCell ⟨bx,2,none⟩ (.int .u64 (pv:Int))) τ8 bx (tOneT x.txn) 103 [.int .u32 (x.txn:Int),.int .u64 (lsn:Int),.int .u64 (pv:Int),.int .u8 (x.state:Int),.int .u64 (x.start:Int),.slice pvv nch cvv]:=hox.set 2 (.int .u64 (pv:Int))
 have hn9:=hnx8.step hq9 (by simp[tOneT,tChg])
 have hoa9:=hoa8.step hq9 (by simp[tOneT,tTn])
 have c5:=hox9.at 5 (v:=.slice pvv nch cvv) rfl
 rw[Hch.out] at hn9
 have hdel:=Qlt (F := 135) (bc:=bq) (p:=fun y=>decide (y.1=at_)) hn9 (.inr (.inl rfl)) (fun W q=>Quk ((hoa9.step q (fun h=>h)).at 0 rfl))
  (fun y hy=>decide_eq_false (Hl1.out y hy)) (fun y hy=>by rw[List.mem_singleton.1 hy];exact decide_eq_true rfl) (by rw[←Hch.out,hnch];exact hclen)
 obtain⟨Hor8,Hoa8,Hah,Ht8,Hs8,Hclen,Hcsz,Hbx,Hnch,Hdel,Hq9,Hox9⟩:=hid12 hor8 hoa8 hah ht8 hs8 hclen hcsz hbx hnch hdel hq9 hox9
 clear hor8 hoa8 hah ht8 hs8 hclen hcsz hbx hnch hdel hq9 hox9 hox hnx8 hx8 hn9 hoa9
 rw[show bo x.txn=bx from Hbx.out]
 go_wp2_with fail
 refine Hah.out.mono ?_
 rintro e w' ⟨rfl,rfl⟩
 go_upto_region 13 with fail
 generalize w8.setCell ⟨bx,2,none⟩ (.int .u64 (pv:Int))=w9 at *
 go_wp2_with fail
 refine Hdel.out.mono ?_
 rintro e wa ⟨va,rfl,hna_,hsa⟩
 obtain⟨pd,qd,rfl,-,-⟩:=hna_.done
 have hoxa:=Hox9.out.step hsa (by simp[tOneT,tChg])
 have n5:=hoxa.at 5 (v:=.slice pvv nch cvv) rfl
 have y5:=hoxa.fz 5
 have hqb_:Step wa τ8 (wa.setCell ⟨bx,5,none⟩ (.slice pd l1.length qd)) τ8 (fun t=>t=tOneT x.txn):=(Step.refl wa τ8 (fun t=>t=tOneT x.txn)).set (o:=5) hoxa.tag rfl _
 have hoxb:Own (wa.setCell ⟨bx,5,none⟩ (.slice pd l1.length qd)) τ8 bx (tOneT x.txn) 103 [.int .u32 (x.txn:Int),.int .u64 (lsn:Int),.int .u64 (pv:Int),.int .u8 (x.state:Int),.int .u64 (x.start:Int),.slice pd l1.length qd]:=hoxa.set 5 _
 have hnb_:=hna_.step hqb_ (by simp[tOneT,tChg])
 have hstb:=(Hq9.out.mono (T:=fun t=>t=tOneT x.txn∨t=tChg x.txn) (fun _ h=>.inl h)).trans ((hsa.mono (T:=fun t=>t=tOneT x.txn∨t=tChg x.txn) (fun _ h=>.inr h)).trans (hqb_.mono (T:=fun t=>t=tOneT x.txn∨t=tChg x.txn) (fun _ h=>.inl h)))
 obtain⟨Hoxb,Hnb_,Hstb⟩:=hid3 hoxb hnb_ hstb
 clear hoxb hnb_ hstb hna_ hsa hoxa hqb_ c5 k2 k0 m2 z2
 go_wp2_with fail
 go_ret2
 have hxc:∀y∈l1,y.2≤1000:=fun y hy=>Hcsz.out y (by rw[Hch.out];exact List.mem_append_left _ hy)
 have hl1l:l1.length≤1000:=by
  have:=Hclen.out
  rw[←Hnch.out,Hch.out,List.length_append] at this
  omega
 have ht:=Ht8.out.setOne Hstb.out (x:=x.undone lsn pv l1) (y:={x with last:=lsn}) (Qge hx (x:={x with last:=lsn}) rfl) rfl (fun g hg=>hg) (by
  show OneAt _ _ (bo x.txn) _
  rw[Hbx.out]
  exact⟨⟨_,Hoxb.out,Hnb_.out⟩,hl1l,hxc⟩)
 rw[Qgd X (show OneP.txn {x with last:=lsn}=(x.undone lsn pv l1).txn from rfl)] at ht
 have e1:=Hsl3.out.base
 have e2:=Hsl3.out.stream
 have hls:lsn=L.base+L.stream.length:=by rw[←Hlsn.out,e1,e2]
 subst hls
 refine⟨rfl,τ8,H3,_,D3,F8,s8,Q,hst3,?_,Hdn.out,ht,Hsl3.out.more _⟩
 refine((Hst3'.out.mono (T:=TxTag) (fun _ h=>.inl h)).trans (Hst7.out.mono (T:=TxTag) Qr1)).trans ((Hs8.out.mono (T:=TxTag) (fun _ h=>.inl h)).trans (Hstb.out.mono (T:=TxTag) (fun g h=>.inr (.inl ?_))))
 rcases h with h|h <;> (subst h;simp[Qai,tOneT,tChg])
def OneP.at_ (x:OneP) (u:Nat):OneP:={x with undo:=u}
theorem rd_no {t:Tag}(h:ReadTag t):¬PWTag t∧¬Qai t∧t≠tData:=by
 obtain⟨a,b⟩:=t
 unfold ReadTag at h
 dsimp only at h
 refine⟨fun q=>?_,fun q=>?_,fun q=>?_⟩
 ·rcases q with q|q|q
  ·rcases q with q|q|q|q|⟨i,q⟩ <;> (simp only[tPool,tFr,tWhere,tClk,tPg,Prod.mk.injEq] at q;omega)
  ·rcases q with q|q|q <;> (simp only[tLog,Qah,Qag,Prod.mk.injEq] at q;omega)
  ·rcases q with q|q|q|q <;> (dsimp only at q;omega)
 ·unfold Qai at q;dsimp only at q;omega
 ·simp only[tData,Prod.mk.injEq] at q;omega
theorem TW.read {w':World} {τ':Tags} {bm bl bp bf bd:Nat} {bo:Nat→Nat} {X:List OneP} {H:PoolH} {D:Dev} {F:List Fr} {s:Ck.Clk.St} {cur:Nat→List Int}(h:TW w τ bm bl bp bf bd N bo X next H L D F s cur) (m:Step w τ w' τ' ReadTag):TW w' τ' bm bl bp bf bd N bo X next H L D F s cur :=
 ⟨h.pool.step m (fun g hg=>⟨fun k=>(rd_no hg).1 (.inl k),fun k=>(rd_no hg).1 (.inr (.inl k)),fun k=>(rd_no hg).1 (.inr (.inr k)),(rd_no hg).2.2⟩),h.mgr.step m (fun g hg hS=>(rd_no hS).2.1 hg),h.good,h.clock,h.hn,h.hbl⟩
def TyTag (g:Tag):Prop:=TxTag g∨ReadTag g
theorem Qke {I:Ids} {bo:Nat→Nat} {X:List OneP} {V:SlotV}(h:TZ w τ I bo X next R V st) {x:OneP}(hx:x∈X) {r:RecP}(hr:RecAt R x.undo r) (hst:st≤1000000) (hN:I.N≤512) (hk:r.kind=2) (hp_:r.prev<x.undo) (hc:ChgOk I.N r.change) (hlast:x.last≤1+(recsB R).length) {l1:List (Nat×Nat)}{sz:Nat}(hch:x.ch=l1++[(x.undo,sz)]) (hl1:∀y∈l1,y.1≠x.undo) (hcap:(recsB R).length+Qak r.change≤I.S*127) :
 Calls Tryz.prog 44 #[.pointer (some ⟨I.bm,0,none⟩),.int .u32 (x.txn:Int)] w fun e w'=>e = .returned (.tuple #[.bool true,.int .u16 0])∧∃τ',Step w τ w' τ' TyTag∧TZ w' τ' I bo (putX X (x.undone (1+(recsB R).length) r.prev l1)) next (R++[Qed r.change x r.prev]) (putV V r.change.page r.change.slot r.change.before) (st+1):=by
 obtain⟨H,L,D,F,s,cur,h1,h2,h3,h4,h5⟩:=h.is
 have hlen:=h.len
 obtain⟨ba,ho,hp⟩:=h1.mgr.is
 have hxl:=h1.mgr.low x hx
 have hnx:=h1.mgr.nx
 obtain⟨kr,xr,q1,q2,q3,q4⟩:=hr.read h2
 have hrl:=hr.low
 have hread:=Qg8 (h1.hbl▸h1.pool.log) h1.good.rise q1 q2 q3 q4
 have c0:=ho.at 0 (v:=.pointer (some ⟨I.bl,0,none⟩)) rfl
 have c2:=ho.at 2 (v:=.map (some ba)) rfl
 have hlk:=hp.look x.txn (by omega)
 rw[Qln hx] at hlk
 obtain⟨v,hox,hnxs⟩:=(h1.mgr.ones x hx).is
 have x2:=hox.at 2 (v:=.int .u64 (x.undo:Int)) rfl
 obtain⟨bx,hbx⟩:∃b,bo x.txn=b:=⟨_,rfl⟩
 rw[hbx] at hlk x2 hox
 change _=Result.ok (Value.pointer (some ⟨bx,0,none⟩)) w at hlk
 obtain⟨H1,H2,H3,H4,H5,Hp,Ho,Hread,Hox,Hnxs,Hbx,H_h⟩:=hid12 h1 h2 h3 h4 h5 hp ho hread hox hnxs hbx h
 obtain⟨H_q1,H_q2,H_q3,H_q4,Hr,Hk⟩:=hid6 q1 q2 q3 q4 hr hk
 clear h1 h2 h3 h4 h5 hp ho hread hox hnxs hbx h q1 q2 q3 q4 hr hk
 go_enter Tryz.func44,Tryz.ntmps44
 go_wp2_with fail
 refine Hread.out.mono ?_
 rintro e w1 ⟨u,τ1,rfl,hu,hs1⟩
 have hT1:=H1.out.read hs1
 obtain⟨vb,va,vt,vp,n0,hu,⟨pb,cb,rfl,hb⟩,⟨pa,ca,rfl,ha⟩,hts,hps⟩:=hu
 obtain⟨pt,ct,rfl⟩:=hts.val
 obtain⟨pp,cp,rfl⟩:=hps.val
 subst hu
 obtain⟨nb,hnb⟩:∃nb,r.change.before.length=nb:=⟨_,rfl⟩
 obtain⟨na,hna⟩:∃na,r.change.after.length=na:=⟨_,rfl⟩
 obtain⟨nt,hnt⟩:∃nt,r.txns.length=nt:=⟨_,rfl⟩
 obtain⟨np,hnp⟩:∃np,r.pages.length=np:=⟨_,rfl⟩
 have hal:=(Step.refl w1 τ1 nil).alloc (.cells #[.int .u8 (r.kind:Int),.int .u32 (r.txn:Int),.int .u64 (r.prev:Int),.int .u64 (r.next:Int),.int .u32 (r.change.page:Int),.int .u16 (r.change.slot:Int),.bool r.change.had,.bool r.change.has,.slice pb nb cb,.slice pa na ca,.slice pt nt ct,.slice pp np cp] 58) tTn
 have hor:=Own.born w1 τ1 tTn 58 #[.int .u8 (r.kind:Int),.int .u32 (r.txn:Int),.int .u64 (r.prev:Int),.int .u64 (r.next:Int),.int .u32 (r.change.page:Int),.int .u16 (r.change.slot:Int),.bool r.change.had,.bool r.change.has,.slice pb nb cb,.slice pa na ca,.slice pt nt ct,.slice pp np cp]
 generalize τ1.put w1.heap.size tTn=τ2 at *
 obtain⟨br,hbr⟩:∃br,w1.heap.size=br:=⟨_,rfl⟩
 rw[hbr] at hor
 obtain⟨w2,hw2⟩:∃W,w1.alloc (.cells #[.int .u8 (r.kind:Int),.int .u32 (r.txn:Int),.int .u64 (r.prev:Int),.int .u64 (r.next:Int),.int .u32 (r.change.page:Int),.int .u16 (r.change.slot:Int),.bool r.change.had,.bool r.change.has,.slice pb nb cb,.slice pa na ca,.slice pt nt ct,.slice pp np cp] 58)=W:=⟨_,rfl⟩
 rw[hw2] at hor hal
 have hT2:=hT1.nil hal
 have hst2:Step w τ w2 τ2 TyTag:=(hs1.mono (T:=TyTag) (fun _ h=>.inr h)).trans (hal.mono (T:=TyTag) (fun _ h=>h.elim))
 have j0:=hor.at 0 (v:=.int .u8 (r.kind:Int)) rfl
 have hv2:RecV w2 τ2 (.agg #[.int .u8 (r.kind:Int),.int .u32 (r.txn:Int),.int .u64 (r.prev:Int),.int .u64 (r.next:Int),.int .u32 (r.change.page:Int),.int .u16 (r.change.slot:Int),.bool r.change.had,.bool r.change.has,.slice pb nb cb,.slice pa na ca,.slice pt nt ct,.slice pp np cp]) r:=⟨_,_,_,_,n0,rfl,⟨pb,cb,by rw[hnb],by rw[←hnb];exact hb.step hal (fun h=>h)⟩,⟨pa,ca,by rw[hna],by rw[←hna];exact ha.step hal (fun h=>h)⟩,by rw[←hnt];exact hts.step hal (fun h=>h),by rw[←hnp];exact hps.step hal (fun h=>h)⟩
 have hund:=Qwu hT2 (by have:=H4.out;omega) hx hN (by rw[H2.out.starts,Qbc];have:=Qfk R;omega) (by omega) (by rw[H2.out.base,H2.out.stream];omega) hv2 hc (H5.out _ hc.page).1 (at_:=x.undo) (by omega) hp_ hch hl1 (by rw[H2.out.stream,H3.out];exact hcap)
 rw[show bo x.txn=bx from Hbx.out] at hund
 have j1:=hor.at 1 (v:=.int .u32 (r.txn:Int)) rfl
 have j2:=hor.at 2 (v:=.int .u64 (r.prev:Int)) rfl
 have j3:=hor.at 3 (v:=.int .u64 (r.next:Int)) rfl
 have j4:=hor.at 4 (v:=.int .u32 (r.change.page:Int)) rfl
 have j5:=hor.at 5 (v:=.int .u16 (r.change.slot:Int)) rfl
 have j6:=hor.at 6 (v:=.bool r.change.had) rfl
 have j7:=hor.at 7 (v:=.bool r.change.has) rfl
 have j8:=hor.at 8 (v:=.slice pb nb cb) rfl
 have j9:=hor.at 9 (v:=.slice pa na ca) rfl
 have j10:=hor.at 10 (v:=.slice pt nt ct) rfl
 have j11:=hor.at 11 (v:=.slice pp np cp) rfl
 rw[show ((r.kind:Nat):Int)=2 by rw[show r.kind=2 from Hk.out];rfl] at j0 hund
 obtain⟨Hund,Hst2,Hor,Hal,HT2,Hw2,Hbr,Hc,Hch,Hl1,Hcap,Hlast⟩:=hid12 hund hst2 hor hal hT2 hw2 hbr hc hch hl1 hcap hlast
 clear hund hst2 hor hal hT2 hw2 hbr hc hch hl1 hcap hlast hb ha hts hps hs1 hT1 hv2
 rw[hnb,hna,hnt,hnp]
 go_upto_region 6 with fail
 try rw[Hw2.out]
 try rw[Hbr.out]
 go_wp2_with fail
 refine Hund.out.mono ?_
 rintro e w3 ⟨rfl,τ3,H',L',D',F',s',Q,hst',hstep,hdn,ht,hsl⟩
 go_wp2_with fail
 go_ret2
 rw[H2.out.base,H2.out.stream] at ht
 have hrec:(Qed r.change x r.prev).ok:=⟨Hc.out.turned.may (.inr rfl),by show (3:Nat)≠8;omega,by show x.txn<_;omega,by show x.last<_;have:=Hlast.out;omega,by show r.prev<_;omega,by show r.change.page<_;have:=Hc.out.page;omega,by show r.change.slot<_;have:=Hc.out.slot;omega⟩
 refine⟨rfl,τ3,Hst2.out.trans (hstep.mono (fun _ h=>.inl h)),⟨⟨H',L',D',F',s',_,ht,H2.out.more hrec hsl,by rw[hsl.strips];exact H3.out,by have:=H4.out;omega,?_⟩⟩⟩
 exact Qso H5.out hdn Hc.out.page Hc.out.slot Hc.out.b4 _ (by show _<18446744073709551616;omega)
theorem Qp6 {I:Ids} {bo:Nat→Nat} {X:List OneP} {V:SlotV}(h:TZ w τ I bo X next R V st) {x:OneP}(hx:x∈X) {r:RecP}(hr:RecAt R x.undo r) (hk:r.kind=3) (hp_:r.next<x.undo) :
 Calls Tryz.prog 44 #[.pointer (some ⟨I.bm,0,none⟩),.int .u32 (x.txn:Int)] w fun e w'=>e = .returned (.tuple #[.bool true,.int .u16 0])∧∃τ',Step w τ w' τ' TyTag∧TZ w' τ' I bo (putX X (x.at_ r.next)) next R V st:=by
 obtain⟨H,L,D,F,s,cur,h1,h2,h3,h4,h5⟩:=h.is
 have hlen:=h.len
 obtain⟨ba,ho,hp⟩:=h1.mgr.is
 have hxl:=h1.mgr.low x hx
 have hnx:=h1.mgr.nx
 obtain⟨kr,xr,q1,q2,q3,q4⟩:=hr.read h2
 have hrl:=hr.low
 have hread:=Qg8 (h1.hbl▸h1.pool.log) h1.good.rise q1 q2 q3 q4
 have c0:=ho.at 0 (v:=.pointer (some ⟨I.bl,0,none⟩)) rfl
 have c2:=ho.at 2 (v:=.map (some ba)) rfl
 have hlk:=hp.look x.txn (by omega)
 rw[Qln hx] at hlk
 obtain⟨v,hox,hnxs⟩:=(h1.mgr.ones x hx).is
 have x2:=hox.at 2 (v:=.int .u64 (x.undo:Int)) rfl
 obtain⟨bx,hbx⟩:∃b,bo x.txn=b:=⟨_,rfl⟩
 rw[hbx] at hlk x2 hox
 change _=Result.ok (Value.pointer (some ⟨bx,0,none⟩)) w at hlk
 obtain⟨H1,H2,H3,H4,H5,Hp,Ho,Hread,Hox,Hnxs,Hbx,H_h⟩:=hid12 h1 h2 h3 h4 h5 hp ho hread hox hnxs hbx h
 obtain⟨H_q1,H_q2,H_q3,H_q4,Hr,Hk⟩:=hid6 q1 q2 q3 q4 hr hk
 clear h1 h2 h3 h4 h5 hp ho hread hox hnxs hbx h q1 q2 q3 q4 hr hk
 go_enter Tryz.func44,Tryz.ntmps44
 go_wp2_with fail
 refine Hread.out.mono ?_
 rintro e w1 ⟨u,τ1,rfl,hu,hs1⟩
 have hT1:=H1.out.read hs1
 obtain⟨vb,va,vt,vp,n0,hu,⟨pb,cb,rfl,hb⟩,⟨pa,ca,rfl,ha⟩,hts,hps⟩:=hu
 obtain⟨pt,ct,rfl⟩:=hts.val
 obtain⟨pp,cp,rfl⟩:=hps.val
 subst hu
 obtain⟨nb,hnb⟩:∃nb,r.change.before.length=nb:=⟨_,rfl⟩
 obtain⟨na,hna⟩:∃na,r.change.after.length=na:=⟨_,rfl⟩
 obtain⟨nt,hnt⟩:∃nt,r.txns.length=nt:=⟨_,rfl⟩
 obtain⟨np,hnp⟩:∃np,r.pages.length=np:=⟨_,rfl⟩
 have hal:=(Step.refl w1 τ1 nil).alloc (.cells #[.int .u8 (r.kind:Int),.int .u32 (r.txn:Int),.int .u64 (r.prev:Int),.int .u64 (r.next:Int),.int .u32 (r.change.page:Int),.int .u16 (r.change.slot:Int),.bool r.change.had,.bool r.change.has,.slice pb nb cb,.slice pa na ca,.slice pt nt ct,.slice pp np cp] 58) tTn
 have hor:=Own.born w1 τ1 tTn 58 #[.int .u8 (r.kind:Int),.int .u32 (r.txn:Int),.int .u64 (r.prev:Int),.int .u64 (r.next:Int),.int .u32 (r.change.page:Int),.int .u16 (r.change.slot:Int),.bool r.change.had,.bool r.change.has,.slice pb nb cb,.slice pa na ca,.slice pt nt ct,.slice pp np cp]
 generalize τ1.put w1.heap.size tTn=τ2 at *
 obtain⟨br,hbr⟩:∃br,w1.heap.size=br:=⟨_,rfl⟩
 rw[hbr] at hor
 obtain⟨w2,hw2⟩:∃W,w1.alloc (.cells #[.int .u8 (r.kind:Int),.int .u32 (r.txn:Int),.int .u64 (r.prev:Int),.int .u64 (r.next:Int),.int .u32 (r.change.page:Int),.int .u16 (r.change.slot:Int),.bool r.change.had,.bool r.change.has,.slice pb nb cb,.slice pa na ca,.slice pt nt ct,.slice pp np cp] 58)=W:=⟨_,rfl⟩
 rw[hw2] at hor hal
 have hT2:=hT1.nil hal
 have hst2:Step w τ w2 τ2 TyTag:=(hs1.mono (T:=TyTag) (fun _ h=>.inr h)).trans (hal.mono (T:=TyTag) (fun _ h=>h.elim))
 have j0:=hor.at 0 (v:=.int .u8 (r.kind:Int)) rfl
 obtain⟨v2,hox2,hnx2⟩:=(hT2.mgr.ones x hx).is
 rw[show bo x.txn=bx from Hbx.out] at hox2
 obtain⟨pv2,cv2,rfl,-,-⟩:=hnx2.done
 have hxl2:=(hT2.mgr.ones x hx).len
 have hxs2:=(hT2.mgr.ones x hx).size
 unfold OneP.cells at hox2
 try dsimp only at hox2
 have m2:=hox2.at 2 (v:=.int .u64 (x.undo:Int)) rfl
 have z2:=hox2.fz 2
 have hq3:Step w2 τ2 (w2.setCell ⟨bx,2,none⟩ (.int .u64 (r.next:Int))) τ2 (fun t=>t=tOneT x.txn):=(Step.refl w2 τ2 (fun t=>t=tOneT x.txn)).set (o:=2) hox2.tag rfl _
 have hox3:Own (w2.setCell ⟨bx,2,none⟩ (.int .u64 (r.next:Int))) τ2 bx (tOneT x.txn) 103 [.int .u32 (x.txn:Int),.int .u64 (x.last:Int),.int .u64 (r.next:Int),.int .u8 (x.state:Int),.int .u64 (x.start:Int),.slice pv2 x.ch.length cv2]:=hox2.set 2 _
 have hnx3:=hnx2.step hq3 (by simp[tOneT,tChg])
 have ht3:=hT2.setOne hq3 (x:=x.at_ r.next) (y:=x) hx rfl (fun g hg=>.inl hg) (by
  show OneAt _ _ (bo x.txn) _
  rw[show bo x.txn=bx from Hbx.out]
  exact⟨⟨_,hox3,hnx3⟩,hxl2,hxs2⟩)
 have hst3:=hst2.trans (hq3.mono (T:=TyTag) (fun g h=>.inl (.inr (.inl (by subst h;simp[Qai,tOneT])))))
 have j3:=hor.at 3 (v:=.int .u64 (r.next:Int)) rfl
 have hah:=Qpy w2 r.next x.undo
 rw[if_pos hp_] at hah
 rw[show ((r.kind:Nat):Int)=3 by rw[show r.kind=3 from Hk.out];rfl] at j0
 obtain⟨Hst3,Ht3,Hor,Hal,HT2,Hw2,Hbr,Hah,Hst2,Hq3,Hox3,Hox2⟩:=hid12 hst3 ht3 hor hal hT2 hw2 hbr hah hst2 hq3 hox3 hox2
 obtain⟨Hnx2,Hnx3,Hxl2,Hxs2⟩:=hid4 hnx2 hnx3 hxl2 hxs2
 clear hst3 ht3 hor hal hT2 hw2 hbr hah hst2 hq3 hox3 hox2 hnx2 hnx3 hxl2 hxs2 hb ha hts hps hs1 hT1
 rw[hnb,hna,hnt,hnp]
 go_upto_region 6 with fail
 try rw[Hw2.out]
 try rw[Hbr.out]
 go_wp2_with fail
 refine Hah.out.mono ?_
 rintro e w' ⟨rfl,rfl⟩
 go_wp2_with fail
 go_ret2
 exact⟨rfl,τ2,Hst3.out,⟨⟨H,L,D,F,s,cur,Ht3.out,H2.out,H3.out,H4.out,H5.out⟩⟩⟩
theorem Qp7 {I:Ids} {bo:Nat→Nat} {X:List OneP} {V:SlotV}(h:TZ w τ I bo X next R V st) {x:OneP}(hx:x∈X) {r:RecP}(hr:RecAt R x.undo r) (hk:r.kind=1) :
 Calls Tryz.prog 44 #[.pointer (some ⟨I.bm,0,none⟩),.int .u32 (x.txn:Int)] w fun e w'=>e = .returned (.tuple #[.bool false,.int .u16 0])∧∃τ',Step w τ w' τ' TyTag∧TZ w' τ' I bo (putX X (x.at_ 0)) next R V st:=by
 obtain⟨H,L,D,F,s,cur,h1,h2,h3,h4,h5⟩:=h.is
 have hlen:=h.len
 obtain⟨ba,ho,hp⟩:=h1.mgr.is
 have hxl:=h1.mgr.low x hx
 have hnx:=h1.mgr.nx
 obtain⟨kr,xr,q1,q2,q3,q4⟩:=hr.read h2
 have hrl:=hr.low
 have hread:=Qg8 (h1.hbl▸h1.pool.log) h1.good.rise q1 q2 q3 q4
 have c0:=ho.at 0 (v:=.pointer (some ⟨I.bl,0,none⟩)) rfl
 have c2:=ho.at 2 (v:=.map (some ba)) rfl
 have hlk:=hp.look x.txn (by omega)
 rw[Qln hx] at hlk
 obtain⟨v,hox,hnxs⟩:=(h1.mgr.ones x hx).is
 have x2:=hox.at 2 (v:=.int .u64 (x.undo:Int)) rfl
 obtain⟨bx,hbx⟩:∃b,bo x.txn=b:=⟨_,rfl⟩
 rw[hbx] at hlk x2 hox
 change _=Result.ok (Value.pointer (some ⟨bx,0,none⟩)) w at hlk
 obtain⟨H1,H2,H3,H4,H5,Hp,Ho,Hread,Hox,Hnxs,Hbx,H_h⟩:=hid12 h1 h2 h3 h4 h5 hp ho hread hox hnxs hbx h
 obtain⟨H_q1,H_q2,H_q3,H_q4,Hr,Hk⟩:=hid6 q1 q2 q3 q4 hr hk
 clear h1 h2 h3 h4 h5 hp ho hread hox hnxs hbx h q1 q2 q3 q4 hr hk
 go_enter Tryz.func44,Tryz.ntmps44
 go_wp2_with fail
 refine Hread.out.mono ?_
 rintro e w1 ⟨u,τ1,rfl,hu,hs1⟩
 have hT1:=H1.out.read hs1
 obtain⟨vb,va,vt,vp,n0,hu,⟨pb,cb,rfl,hb⟩,⟨pa,ca,rfl,ha⟩,hts,hps⟩:=hu
 obtain⟨pt,ct,rfl⟩:=hts.val
 obtain⟨pp,cp,rfl⟩:=hps.val
 subst hu
 obtain⟨nb,hnb⟩:∃nb,r.change.before.length=nb:=⟨_,rfl⟩
 obtain⟨na,hna⟩:∃na,r.change.after.length=na:=⟨_,rfl⟩
 obtain⟨nt,hnt⟩:∃nt,r.txns.length=nt:=⟨_,rfl⟩
 obtain⟨np,hnp⟩:∃np,r.pages.length=np:=⟨_,rfl⟩
 have hal:=(Step.refl w1 τ1 nil).alloc (.cells #[.int .u8 (r.kind:Int),.int .u32 (r.txn:Int),.int .u64 (r.prev:Int),.int .u64 (r.next:Int),.int .u32 (r.change.page:Int),.int .u16 (r.change.slot:Int),.bool r.change.had,.bool r.change.has,.slice pb nb cb,.slice pa na ca,.slice pt nt ct,.slice pp np cp] 58) tTn
 have hor:=Own.born w1 τ1 tTn 58 #[.int .u8 (r.kind:Int),.int .u32 (r.txn:Int),.int .u64 (r.prev:Int),.int .u64 (r.next:Int),.int .u32 (r.change.page:Int),.int .u16 (r.change.slot:Int),.bool r.change.had,.bool r.change.has,.slice pb nb cb,.slice pa na ca,.slice pt nt ct,.slice pp np cp]
 generalize τ1.put w1.heap.size tTn=τ2 at *
 obtain⟨br,hbr⟩:∃br,w1.heap.size=br:=⟨_,rfl⟩
 rw[hbr] at hor
 obtain⟨w2,hw2⟩:∃W,w1.alloc (.cells #[.int .u8 (r.kind:Int),.int .u32 (r.txn:Int),.int .u64 (r.prev:Int),.int .u64 (r.next:Int),.int .u32 (r.change.page:Int),.int .u16 (r.change.slot:Int),.bool r.change.had,.bool r.change.has,.slice pb nb cb,.slice pa na ca,.slice pt nt ct,.slice pp np cp] 58)=W:=⟨_,rfl⟩
 rw[hw2] at hor hal
 have hT2:=hT1.nil hal
 have hst2:Step w τ w2 τ2 TyTag:=(hs1.mono (T:=TyTag) (fun _ h=>.inr h)).trans (hal.mono (T:=TyTag) (fun _ h=>h.elim))
 have j0:=hor.at 0 (v:=.int .u8 (r.kind:Int)) rfl
 obtain⟨v2,hox2,hnx2⟩:=(hT2.mgr.ones x hx).is
 rw[show bo x.txn=bx from Hbx.out] at hox2
 obtain⟨pv2,cv2,rfl,-,-⟩:=hnx2.done
 have hxl2:=(hT2.mgr.ones x hx).len
 have hxs2:=(hT2.mgr.ones x hx).size
 unfold OneP.cells at hox2
 try dsimp only at hox2
 have m2:=hox2.at 2 (v:=.int .u64 (x.undo:Int)) rfl
 have z2:=hox2.fz 2
 have hq3:Step w2 τ2 (w2.setCell ⟨bx,2,none⟩ (.int .u64 0)) τ2 (fun t=>t=tOneT x.txn):=(Step.refl w2 τ2 (fun t=>t=tOneT x.txn)).set (o:=2) hox2.tag rfl _
 have hox3:Own (w2.setCell ⟨bx,2,none⟩ (.int .u64 0)) τ2 bx (tOneT x.txn) 103 [.int .u32 (x.txn:Int),.int .u64 (x.last:Int),.int .u64 0,.int .u8 (x.state:Int),.int .u64 (x.start:Int),.slice pv2 x.ch.length cv2]:=hox2.set 2 _
 have hnx3:=hnx2.step hq3 (by simp[tOneT,tChg])
 have ht3:=hT2.setOne hq3 (x:=x.at_ 0) (y:=x) hx rfl (fun g hg=>.inl hg) (by
  show OneAt _ _ (bo x.txn) _
  rw[show bo x.txn=bx from Hbx.out]
  exact⟨⟨_,hox3,hnx3⟩,hxl2,hxs2⟩)
 have hst3:=hst2.trans (hq3.mono (T:=TyTag) (fun g h=>.inl (.inr (.inl (by subst h;simp[Qai,tOneT])))))
 rw[show ((r.kind:Nat):Int)=1 by rw[show r.kind=1 from Hk.out];rfl] at j0
 obtain⟨Hst3,Ht3,Hor,Hal,HT2,Hw2,Hbr,Hst2,Hq3,Hox3,Hox2,Hnx2⟩:=hid12 hst3 ht3 hor hal hT2 hw2 hbr hst2 hq3 hox3 hox2 hnx2
 obtain⟨Hnx3,Hxl2,Hxs2⟩:=hid3 hnx3 hxl2 hxs2
 clear hst3 ht3 hor hal hT2 hw2 hbr hst2 hq3 hox3 hox2 hnx2 hnx3 hxl2 hxs2 hb ha hts hps hs1 hT1
 rw[hnb,hna,hnt,hnp]
 go_upto_region 6 with fail
 try rw[Hw2.out]
 try rw[Hbr.out]
 go_wp2_with fail
 go_ret2
 exact⟨rfl,τ2,Hst3.out,⟨⟨H,L,D,F,s,cur,Ht3.out,H2.out,H3.out,H4.out,H5.out⟩⟩⟩
end Go.Proofs.YtjgacceifcnedaaGreat