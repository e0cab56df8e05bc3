/-
 Transactions: Change.
-/
import Derived.Test.YtjgacceifcnedaaGreatMTxA
import Derived.Test.YtjgacceifcnedaaGreatMTxH
set_option maxRecDepth 100000
set_option maxHeartbeats 4000000
set_option linter.all false
namespace Go.Proofs.YtjgacceifcnedaaGreat
open Go.RowKit
theorem SameLog.more {L M:LogM}(h:SameLog L M) (b:List Int):SameLog (L.more b) (M.more b) :=
 ⟨h.base,by show M.stream++b=L.stream++b;rw[h.stream],by show M.starts++[M.stream.length]=L.starts++[L.stream.length];rw[h.starts,h.stream],h.strips,h.firstS,h.lasts⟩
theorem Qsw {i k:Nat}(g:Tag) (hg:PoolTag g) (h:TcTag i k g):g=tPg i:=by
 rcases h with h|h|h|h|h
 ·exact absurd hg (fun q=>by
   rcases h with rfl|rfl|rfl <;> (rcases q with q|q|q|q|⟨j,q⟩ <;> simp[tLog,Qah,Qag,tPool,tFr,tWhere,tClk,tPg] at q))
 ·subst h;rcases hg with q|q|q|q|⟨j,q⟩ <;> simp[tOneT,tPool,tFr,tWhere,tClk,tPg] at q
 ·subst h;rcases hg with q|q|q|q|⟨j,q⟩ <;> simp[tChg,tPool,tFr,tWhere,tClk,tPg] at q
 ·exact h
 ·subst h;rcases hg with q|q|q|q|⟨j,q⟩ <;> simp[tTry,tPool,tFr,tWhere,tClk,tPg] at q
theorem tctag_mgr {i k:Nat}(g:Tag) (hg:Qai g) (h:TcTag i k g):g=tOneT k∨g=tChg k:=by
 rcases h with h|h|h|h|h
 ·rcases h with rfl|rfl|rfl <;> simp[Qai,tLog,Qah,Qag] at hg
 ·exact .inl h
 ·exact .inr h
 ·subst h;simp[Qai,tPg] at hg
 ·subst h;simp[Qai,tTry] at hg
theorem Qus {i k:Nat}(g:Tag) (h:TcTag i k g):¬DevTag g∧g≠tData:=by
 rcases h with h|h|h|h|h
 ·exact⟨Qau g h,fun e=>Qj6 (e▸.inl h)⟩
 all_goals (subst h;refine⟨?_,by simp[tOneT,tChg,tPg,tTry,tData]⟩;simp[DevTag,tOneT,tChg,tPg,tTry])
theorem Qr1 {i k:Nat}(g:Tag) (h:TcTag i k g):TxTag g:=by
 rcases h with h|h|h|h|h
 ·exact .inl (.inr (.inl h))
 ·subst h;exact .inr (.inl (by simp[Qai,tOneT]))
 ·subst h;exact .inr (.inl (by simp[Qai,tChg]))
 ·subst h;exact .inl (.inl (Qi4 i))
 ·exact .inr (.inr h)
theorem Qup {w w':World}{τ τ':Tags}{bm bl bp bf bd N:Nat}{bo:Nat→Nat}{X:List OneP}{next:Nat}{H:PoolH}{L:LogM}{D:Dev}{F:List Fr}{s:Ck.Clk.St}{cur:Nat→List Int}{n i b k:Nat}{f:Fr}(h:TG w τ bm bl bp bf bd N bo X next H L D F s cur n i b f) (hn4:n<4294967296)
 (m:Step w τ w' τ' (TcTag i k)) {Q rb:List Int} (hQ:PageAt w' τ' (tPg i) b Q) (hL:LogAt w' τ' bl bd (L.more rb)) {x y:OneP} (hy:y∈X) (e:y.txn=x.txn) (hk:x.txn=k) (hx:OneAt w' τ' (bo x.txn) x)
 (hQs:Sound Q) (hQn:pageNumber Q=n) (hrb:0<rb.length) (hcap:L.stream.length+rb.length≤127*L.strips) {ls:Nat} (hls:L.base+L.stream.length=ls) (h64:ls<18446744073709551616) :
 Calls Tryz.prog 32 #[.pointer (some ⟨bp,0,none⟩),.int .u32 (n:Int),.int .u64 (ls:Int)] w' fun e w2=>e = .returned (.bool true)∧∃τ2 F' s',TW w2 τ2 bm bl bp bf bd N bo (putX X x) next H (L.more rb) D F' s' (updC cur n (layN Q 0 (leB ls 8)))∧Step w' τ' w2 τ2 PWTag:=by
 subst hk
 have hil:=(List.getElem?_eq_some_iff.1 h.at_).1
 have hh:s.h<s.n:=by
  obtain⟨bf,hp,_⟩:=h.pool.pool.ck.is
  exact hp.hh
 obtain⟨h1,h2,h3,h4⟩:=h.held.put hh
 have hbase:=h.good.base
 have hpa:=h.pool.pool.setPageS h.at_ h.pg m (fun g hg hS=>Qsw g hg hS) hQ
 have hpw:PoolW w' τ' bp bf bd H (L.more rb) D (F.set i {f with pg:=some (b,Q)}) s:=⟨hpa,by rw[h.hbl];exact hL,h.pool.dev.step m (fun g hg=>Qus g hg)⟩
 have hmg:=h.mgr.setOne m hy e (fun g hg hS=>tctag_mgr g hg hS) hx
 have hf1:(F.set i {f with pg:=some (b,Q)})[i]?=some {f with pg:=some (b,Q)}:=List.getElem?_set_self hil
 obtain⟨nv,hnv⟩:∃nv,(if f.first=0 then ls else f.first)=nv:=⟨_,rfl⟩
 have hnv0:0<nv:=by rw[←hnv];split <;> omega
 have:=Qzh hpw.pool n ls hn4 (i:=i) ((Qa6 hpw.pool.one n i).2 ⟨_,hf1,Qd7.2 ⟨b,Q,rfl,h.fn⟩⟩) hf1 rfl h3 h1 (by omega) h64 (nv:=nv) hnv
 rw[h2] at this
 refine this.mono ?_
 rintro e w2 ⟨rfl,τ2,hp',hs'⟩
 rw[List.set_set] at hp'
 have hgp:=h.good.put h.at_ h.pg hQs (by rw[hQn,h.fn]) rb hrb hcap (by rw[hls,show (2:Nat) ^ 64=18446744073709551616 from by decide];exact h64) hnv0
 rw[hls,h.fn] at hgp
 have hsw:Step w' τ' w2 τ2 PWTag:=hs'.mono (fun _ h=>.inl h)
 rw[h.fn] at hp'
 refine⟨rfl,τ2,_,_,⟨hpw.turn hp' hs',hmg.step hsw (fun t ht hq=>(Qi3 hq).1 ht),hgp,h4 _ (by rw[List.length_set]) (fun j f' g' hf' hg'=>?_),h.hn,h.hbl⟩,hsw⟩
 rcases set_get hil hg' with ⟨rfl,rfl⟩|⟨_,hg2⟩
 ·rw[h.at_] at hf'
  cases hf'
  rw[h.pg];rfl
 ·rw[hf'] at hg2
  cases hg2
  rfl
def Qz9 (w:World) (τ:Tags) (bm bl bp bf bd N:Nat) (bo:Nat→Nat) (X:List OneP) (next:Nat) (st:Nat) (L:LogM) (cur:Nat→List Int) (x:OneP) (n:Nat) (c:ChangeP) (e:Ending) (w':World):Prop :=
 ∃τ' H' L' D' F' s',H'.st≤st+1∧Step w τ w' τ' TxTag ∧
 ((c.has=false∧c.had=false∧e = .returned (.int .u16 0)∧TW w' τ' bm bl bp bf bd N bo X next H' L' D' F' s' cur∧SameLog L L') ∨
 ((c.has=true∨c.had=true)∧¬L.stream.length+Qak c+(resv X+Qak c)≤L.strips*127∧e = .returned (.int .u16 80)∧TW w' τ' bm bl bp bf bd N bo X next H' L' D' F' s' cur∧SameLog L L') ∨
 ((c.has=true∨c.had=true)∧L.stream.length+Qak c+(resv X+Qak c)≤L.strips*127∧e = .returned (.int .u16 0)∧∃Q,DoneP (cur n) Q c.slot c.now∧TW w' τ' bm bl bp bf bd N bo (putX X (x.changed (L.base+L.stream.length) (Qak c))) next H' L' D' F' s' (updC cur n (layN Q 0 (leB (L.base+L.stream.length) 8)))∧SameLog (L.more (encR (Qcp c x))) L'))
theorem Quo {w:World}{τ:Tags}{bm bl bp bf bd N:Nat}{bo:Nat→Nat}{X:List OneP}{next:Nat}{H:PoolH}{L:LogM}{D:Dev}{F:List Fr}{s:Ck.Clk.St}{cur:Nat→List Int}(h:TW w τ bm bl bp bf bd N bo X next H L D F s cur) (hst:H.st+1<18446744073709551616) {x:OneP}(hx:x∈X) (hs:x.state=1) (n:Nat) (hn:n<N) (hN:N≤512) (hst100:L.starts.length≤100000) (hlast:x.last<18446744073709551616) (hxl:x.ch.length<1000) (hsm:Small (cur n)) (h64:L.base+L.stream.length<18446744073709551616)
 (sl:Nat) (hs12:sl<12) (has:Bool) {pd:Option Addr} {cd:Nat} {m:List Int} (hd:Bytes w τ tData (.slice pd m.length cd) m) (hm4:m.length≤4) (hm0:0<m.length) :
 Calls Tryz.prog 29 #[.pointer (some ⟨bm,0,none⟩),.int .u32 (x.txn:Int),.int .u32 (n:Int),.int .i64 (sl:Int),.bool has,.slice pd m.length cd] w (Qz9 w τ bm bl bp bf bd N bo X next H.st L cur x n (chgOf n (cur n) sl has m)):=by
 have hlow:=h.mgr.low x hx
 have hnx:=h.mgr.nx
 have hr:=Qju h.mgr hx hs x.txn rfl (by omega)
 obtain⟨ba,ho,-⟩:=h.mgr.is
 have c1:=ho.at 1 (v:=.pointer (some ⟨bp,0,none⟩)) rfl
 have hget:=Qr0 h hst n hn
 have hsnd:=(h.good.page n hn).1
 have hnum:=(h.good.page n hn).2.1
 obtain⟨H_h,Hr,Hget,Hd,Hsm,Hsnd,Hnum⟩:=hid7 h hr hget hd hsm hsnd hnum
 clear h hr hget hd hsm hsnd hnum ho
 go_enter Tryz.func29,Tryz.ntmps29
 go_wp2_with fail
 refine Hr.out.mono ?_
 rintro e w1 ⟨rfl,rfl⟩
 go_wp2_with fail
 refine Hget.out.mono ?_
 rintro e w1 ⟨b,rfl,τ1,H1,L1,D1,F1,s1,i,f,hg1,hst1,hsl,hs1⟩
 have hd1:=Hd.out.step hs1 Qhd
 have hch:=Qt4 hg1.mgr (hg1.hbl▸hg1.pool.log) hx (by rw[hsl.starts];exact hst100) hlast hxl hg1.page Hsnd.out Hsm.out n (by omega) sl hs12 has hd1 hm4 hm0
 have hsz:(encR (Qcp (chgOf n (cur n) sl has m) x)).length=Qak (chgOf n (cur n) sl has m):=Qdt _ _
 have hcap0:0<Qak (chgOf n (cur n) sl has m):=by unfold Qak;omega
 have hcsl:(chgOf n (cur n) sl has m).slot=sl:=rfl
 generalize chgOf n (cur n) sl has m=c at *
 obtain⟨ba1,ho1,-⟩:=hg1.mgr.is
 have c11:=ho1.at 1 (v:=.pointer (some ⟨bp,0,none⟩)) rfl
 clear ho1
 have he1:=hsl.base
 have he2:=hsl.stream
 have he4:=hsl.strips
 have hsq:Step w τ w1 τ1 TxTag:=hs1.mono (fun _ h=>.inl h)
 have e3:=hg1.good.base
 obtain⟨ls,hls⟩:∃ls,L1.base+L1.stream.length=ls:=⟨_,rfl⟩
 have h64':ls<18446744073709551616:=by rw[←hls,he1,he2];exact h64
 unfold Qwr at hch
 rw[hls] at hch
 obtain⟨Hch,Hg1,Hsl,Hsq,He1,He2,He4,Hls⟩:=hid8 hch hg1 hsl hsq he1 he2 he4 hls
 clear hch hg1 hsl hsq he1 he2 he4 hls hs1 hd1
 go_wp2_with fail
 refine Hch.out.mono ?_
 rintro e w2 (⟨q1,q2,rfl,τ2,hs2⟩|⟨q1,q2,rfl,τ2,hs2⟩|⟨q1,q2,rfl,Q,τ2,hdn,hpQ,hlQ,hoQ,hs2⟩)
 ·have hg2:=Hg1.out.step hs2 (fun _ h=>h.elim)
  have hput:=Qrz hg2 (by omega)
  obtain⟨ba2,ho2,-⟩:=hg2.mgr.is
  have c21:=ho2.at 1 (v:=.pointer (some ⟨bp,0,none⟩)) rfl
  clear ho2
  have hs2':=Hsq.out.trans (hs2.mono (T:=TxTag) (fun _ h=>h.elim))
  have Hput:=Lib.hid hput
  have Hs2':=Lib.hid hs2'
  clear hput hs2' hs2 hg2
  go_wp2_with fail
  refine Hput.out.mono ?_
  rintro e w3 ⟨rfl,s3,ht3,hs3⟩
  go_wp2_with fail
  go_ret
  exact⟨τ2,H1,L1,D1,F1,s3,hst1,Hs2'.out.trans (hs3.mono (fun _ h=>.inl h)),.inl ⟨q1,q2,rfl,ht3,Hsl.out⟩⟩
 ·have hg2:=Hg1.out.step hs2 (fun g h=>by subst h;exact⟨fun q=>(Qi3 q).2 rfl,by simp[Qai,tTry],by simp[tTry,tData]⟩)
  have hput:=Qrz hg2 (by omega)
  obtain⟨ba2,ho2,-⟩:=hg2.mgr.is
  have c21:=ho2.at 1 (v:=.pointer (some ⟨bp,0,none⟩)) rfl
  clear ho2
  have hs2':=Hsq.out.trans (hs2.mono (T:=TxTag) (fun _ h=>.inr (.inr h)))
  have Hput:=Lib.hid hput
  have Hs2':=Lib.hid hs2'
  clear hput hs2' hs2 hg2
  go_wp2_with fail
  refine Hput.out.mono ?_
  rintro e w3 ⟨rfl,s3,ht3,hs3⟩
  go_wp2_with fail
  go_ret
  exact⟨τ2,H1,L1,D1,F1,s3,hst1,Hs2'.out.trans (hs3.mono (fun _ h=>.inl h)),.inr (.inl ⟨q1,by rw[←He2.out,←He4.out];exact q2,rfl,ht3,Hsl.out⟩)⟩
 ·have hput:=Qup Hg1.out (by omega) hs2 hpQ hlQ hx (x:=x.changed ls (Qak c)) rfl rfl hoQ hdn.sound (by rw[hdn.num];exact Hnum.out) (by rw[hsz];exact hcap0) (by rw[hsz];omega) Hls.out h64'
  obtain⟨ba2,ho2,-⟩:=Hg1.out.mgr.is
  have c21:=(ho2.step hs2 (fun q=>by rcases tctag_mgr _ (by simp[Qai,tMgr]) q with q|q <;> simp[tMgr,tOneT,tChg] at q)).at 1 (v:=.pointer (some ⟨bp,0,none⟩)) rfl
  clear ho2
  have hs2':=Hsq.out.trans (hs2.mono (T:=TxTag) Qr1)
  have Hput:=Lib.hid hput
  have Hs2':=Lib.hid hs2'
  have Hdn:=Lib.hid hdn
  clear hput hs2' hdn hs2 hpQ hlQ hoQ
  go_wp2_with fail
  refine Hput.out.mono ?_
  rintro e w3 ⟨rfl,τ3,F3,s3,ht3,hs3⟩
  go_wp2_with fail
  go_ret
  exact⟨τ3,H1,_,D1,F3,s3,hst1,Hs2'.out.trans (hs3.mono (fun _ h=>.inl h)),.inr (.inr ⟨q1,by rw[←He2.out,←He4.out];exact q2,rfl,Q,Hdn.out,by rw[←He1.out,←He2.out,Hls.out];exact ht3,Hsl.out.more _⟩)⟩
end Go.Proofs.YtjgacceifcnedaaGreat
namespace Go.Proofs.YtjgacceifcnedaaGreat
open Go.RowKit Go.Maps
def Qic (n:Nat):RecP:=⟨1,n,0,0,noChange,[],[]⟩
theorem Qm5 (n:Nat):(encR (Qic n)).length=27:=by
 rw[Qbh]
 rfl
def begOne (n lsn:Nat):OneP:=⟨n,lsn,lsn,1,lsn,[]⟩
def boPut (bo:Nat→Nat) (n b:Nat):Nat→Nat:=fun k=>if k=n then b else bo k
def Jbc (w:World) (τ:Tags) (bm bl bp bf bd N:Nat) (bo:Nat→Nat) (X:List OneP) (next:Nat) (H:PoolH) (L:LogM) (D:Dev) (F:List Fr) (s:Ck.Clk.St) (cur:Nat→List Int) (e:Ending) (w':World):Prop :=
 ∃τ',Step w τ w' τ' TxTag ∧
 ((¬L.stream.length+27+(resv X+54)≤L.strips*127∧e = .returned (.tuple #[.int .u32 0,.int .u16 80])∧TW w' τ' bm bl bp bf bd N bo X next H L D F s cur) ∨
 (L.stream.length+27+(resv X+54)≤L.strips*127∧e = .returned (.tuple #[.int .u32 (next:Int),.int .u16 0])∧∃nb,TW w' τ' bm bl bp bf bd N (boPut bo next nb) (X++[begOne next (L.base+L.stream.length)]) (next+1) H (L.more (encR (Qic next))) D F s cur))
theorem Qhn {w:World}{τ:Tags}{bm:Nat}{g:Tag}{N:Nat}{f:Nat→Option Nat}(hm:PMap w τ bm g N f) (hN:N≤100000) (k v:Nat) (hk:k<N)
 {ops:Array Oper} {rest:List Oper} {o:Oper} {a:Act} {Q:Exit→Act→World→Prop} (hgd:o.guard=none) (m x y:Operand)
 (hop:o.op = .mapUpdate 96 m x y) (he:a.eval m = .map (some bm)) (hx:a.eval x = .int .u32 (k:Int)) (hy:a.eval y = .pointer (some ⟨v,0,none⟩))
 (h:∀w',PMap w' τ bm g N (updO f k (some v))→Step w τ w' τ (fun t=>t=g)→wpList Tryz.prog ops Q rest (a.put o.dst undef) w'):wpList Tryz.prog ops Q (o::rest) a w:=by
 refine wpList_plain hgd fun K' hK'=>?_
 obtain⟨w',hrun,h1,h2⟩:=hm.store k v hN hk
 unfold Oper.wp
 simp[execOp,hop,he,hx,hy,hrun,Result.andThen]
 exact hK' _ _ (h _ h1 h2)
theorem Qud (bo:Nat→Nat) (X:List OneP) (n lsn nb:Nat) (hno:∀x∈X,x.txn≠n):updO (fOf bo X) n (some nb)=fOf (boPut bo n nb) (X++[begOne n lsn]):=by
 funext k
 unfold updO fOf boPut
 by_cases e:k=n
 ·subst e
  have:k∈OneP.ids (X++[begOne k lsn]):=List.mem_map.2 ⟨begOne k lsn,by simp,rfl⟩
  rw[if_pos rfl,if_pos this,if_pos rfl]
 ·rw[if_neg e]
  have:k∈OneP.ids (X++[begOne n lsn])↔k∈OneP.ids X:=by
   unfold OneP.ids
   rw[List.map_append,List.mem_append]
   refine⟨fun h=>h.elim id (fun h=>?_),.inl⟩
   have:k=n:=by simpa [begOne] using h
   exact absurd this e
  by_cases hk:k∈OneP.ids X
  ·rw[if_pos hk,if_pos (this.2 hk),if_neg e]
  ·rw[if_neg hk,if_neg (fun h=>hk (this.1 h))]
theorem Qwh {w w':World}{τ τ':Tags}{bm bl bp:Nat}{bo:Nat→Nat}{X:List OneP}{next:Nat}(h:MgrAt w τ bm bl bp bo X next) (hnx:next≤899) (hX:X.length<64) {lsn nb ba:Nat}(ho:Own w' τ' bm tMgr 98 [.pointer (some ⟨bl,0,none⟩),.pointer (some ⟨bp,0,none⟩),.map (some ba),.int .u32 ((next+1:Nat):Int)]) (hp:PMap w' τ' ba tAllM 1000 (updO (fOf bo X) next (some nb)))
 {S:Tag→Prop} (m:Step w τ w' τ' S) (hS:∀g,S g→g=tMgr∨g=tAllM∨¬Qai g) (hx:Own w' τ' nb (tOneT next) 103 ((begOne next lsn).cells (.slice none 0 0))):MgrAt w' τ' bm bl bp (boPut bo next nb) (X++[begOne next lsn]) (next+1):=by
 have hno:∀x∈X,x.txn≠next:=fun x hx e=>by have:=h.low x hx;omega
 refine⟨⟨ba,ho,by rw[←Qud bo X next lsn nb hno];exact hp⟩,fun x hxm=>?_,?_,fun x hxm=>?_,by omega,by rw[List.length_append];show X.length+1≤64;omega⟩
 ·rcases List.mem_append.1 hxm with h1|h1
  ·have e:boPut bo next nb x.txn=bo x.txn:=if_neg (hno x h1)
   rw[e]
   have no:∀g,Qai g→g≠tMgr→g≠tAllM→¬S g:=fun g a b c d=>by
    rcases hS g d with q|q|q
    ·exact b q
    ·exact c q
    ·exact q a
   exact(h.ones x h1).step m (no _ (by simp[Qai,tOneT]) (by simp[tOneT,tMgr]) (by simp[tOneT,tAllM])) (no _ (by simp[Qai,tChg]) (by simp[tChg,tMgr]) (by simp[tChg,tAllM]))
  ·rw[List.mem_singleton.1 h1]
   have e:boPut bo next nb (begOne next lsn).txn=nb:=if_pos rfl
   rw[e]
   exact⟨⟨_,hx,NS.nil _ _ _ _ _ _ _⟩,Nat.zero_le _,fun y hy=>by cases hy⟩
 ·unfold OneP.ids
  rw[List.map_append,List.nodup_append]
  refine⟨h.nodup,by simp,fun a ha b hb e=>?_⟩
  obtain⟨x,hx,rfl⟩:=List.mem_map.1 ha
  have:b=next:=by simpa [begOne] using hb
  exact hno x hx (e.trans this)
 ·rcases List.mem_append.1 hxm with h1|h1
  ·have:=h.low x h1;omega
  ·rw[List.mem_singleton.1 h1];show next<next+1;omega
theorem Good.more {N st:Nat}{L:LogM}{D:Dev}{F:List Fr}{cur:Nat→List Int}(h:Good N st L D F cur) (b:List Int) (hb:0<b.length) (hcap:L.stream.length+b.length≤127*L.strips):Good N st (L.more b) D F cur where
 calm:=h.calm
 f1:=h.f1
 f0:=h.f0
 cap:=by show (L.stream++b).length≤127*L.strips;rw[List.length_append];exact hcap
 lasts:=by show L.lasts≤(L.stream++b).length;rw[List.length_append];have:=h.lasts;omega
 rise:=h.rise.more b hb
 base:=h.base
 page:=fun n hn=>⟨(h.page n hn).1,(h.page n hn).2.1,(h.page n hn).2.2.imp id (fun ⟨x,hx,e⟩=>⟨x,List.mem_append_left _ hx,e⟩)⟩
 home:=fun n hn=>h.home n hn
 frame:=h.frame
 none:=h.none
 one:=h.one
 spare:=h.spare
theorem TW.logged {w w':World}{τ τ':Tags}{S:Tag→Prop}{bm bl bp bf bd N:Nat}{bo bo':Nat→Nat}{X X':List OneP}{next next':Nat}{H:PoolH}{L:LogM}{D:Dev}{F:List Fr}{s:Ck.Clk.St}{cur:Nat→List Int}(h:TW w τ bm bl bp bf bd N bo X next H L D F s cur) (m:Step w τ w' τ' S) (hS:∀g,S g→LogTag g∨Qai g) {b:List Int}(hl:LogAt w' τ' bl bd (L.more b)) (hb:0<b.length) (hcap:L.stream.length+b.length≤127*L.strips) (hm:MgrAt w' τ' bm bl bp bo' X' next'):TW w' τ' bm bl bp bf bd N bo' X' next' H (L.more b) D F s cur:=by
 refine⟨⟨h.pool.pool.step m (fun g hg q=>?_),by rw[h.hbl];exact hl,h.pool.dev.step m (fun g q=>?_)⟩,hm,h.good.more b hb hcap,h.clock,h.hn,h.hbl⟩
 ·rcases hS g q with q|q
  ·exact Qbo q hg
  ·exact(Qi3 (.inl hg)).1 q
 ·rcases hS g q with q|q
  ·exact⟨Qau g q,fun e=>Qj6 (e▸.inl q)⟩
  ·refine⟨fun hd=>?_,fun e=>?_⟩
   ·unfold Qai at q
    rcases hd with hd|hd|hd|hd <;> omega
   ·subst e
    simp[Qai,tData] at q
theorem Qu5 {w:World}{τ:Tags}{bm bl bp:Nat}{bo:Nat→Nat}{X:List OneP}{next:Nat}(hm:MgrAt w τ bm bl bp bo X next):resv X≤70000000:=by
 rw[Qqn hm.nodup]
 have h1:=Qki (Qh1 X) 1000054 (OneP.ids X) (fun k hk=>by
  obtain⟨y,hy,rfl⟩:=List.mem_map.1 hk
  rw[Qgk hm.nodup hy];exact(hm.ones y hy).need_le)
 have h2:(OneP.ids X).length≤64:=by have:=hm.many;unfold OneP.ids;rw[List.length_map];exact this
 have h3:=Nat.mul_le_mul_right 1000054 h2
 omega
theorem Qwx {w:World}{τ:Tags}{bm bl bp bf bd N:Nat}{bo:Nat→Nat}{X:List OneP}{next:Nat}{H:PoolH}{L:LogM}{D:Dev}{F:List Fr}{s:Ck.Clk.St}{cur:Nat→List Int}(h:TW w τ bm bl bp bf bd N bo X next H L D F s cur) (hnx:next≤899) (hX:X.length<64) (hst100:L.starts.length≤100000) (h64:L.base+L.stream.length<18446744073709551616) :
 Calls Tryz.prog 9 #[.pointer (some ⟨bm,0,none⟩)] w (Jbc w τ bm bl bp bf bd N bo X next H L D F s cur):=by
 obtain⟨ba,ho,hp⟩:=h.mgr.is
 have c0:=ho.at 0 (v:=.pointer (some ⟨bl,0,none⟩)) rfl
 have c1:=ho.at 1 (v:=.pointer (some ⟨bp,0,none⟩)) rfl
 have c2:=ho.at 2 (v:=.map (some ba)) rfl
 have c3:=ho.at 3 (v:=.int .u32 (next:Int)) rfl
 have hno:∀x∈X,x.txn≠next:=fun x hx e=>by have:=h.mgr.low x hx;omega
 have hlen:=hp.len (by omega) h.mgr.nodup (fun k=>Qri k) 3
 have hlk:=hp.look next (by omega)
 rw[Qvz hno] at hlk
 have hil:(OneP.ids X).length=X.length:=by unfold OneP.ids;rw[List.length_map]
 rw[hil] at hlen
 obtain⟨nX,hnX⟩:∃n,X.length=n:=⟨_,rfl⟩
 rw[hnX] at hlen hil
 have hX2:nX<64:=by omega
 change _=Result.ok (Value.pointer none) w at hlk
 have hdr:Step w τ w.drew τ nil:=(Step.refl w τ nil).drew
 have hlen':=(hp.step hdr (fun h=>h)).len (by omega) h.mgr.nodup (fun k=>Qri k) 3
 have hlk':=(hp.step hdr (fun h=>h)).look next (by omega)
 rw[Qvz hno] at hlk'
 change _=Result.ok (Value.pointer none) w.drew at hlk'
 rw[hil] at hlen'
 have hge:decide ((64:Int)≤(nX:Int))=false:=decide_eq_false (by omega)
 have hge':¬(64≤nX):=by omega
 have hn1:((next:Int)==4294967295)=false:=beq_eq_false_iff_ne.2 (by omega)
 have hS1:w.drew.cell? ⟨bm,2,none⟩=some (.map (some ba))∧w.drew.cell? ⟨bm,3,none⟩=some (.int .u32 (next:Int))∧(Builtin.len_ #[96] 3 #[.map (some ba)]).run Tryz.prog w.drew = .ok (.int .i64 (nX:Int)) w.drew∧(Instr.lookup 96 (.map (some ba)) (.int .u32 (next:Int)) false).run Tryz.prog w.drew = .ok (.pointer none) w.drew:=⟨ho.drew.at 2 rfl,ho.drew.at 3 rfl,hlen',hlk'⟩
 obtain⟨H_h,Ho,Hp,Hno,HX,HnX⟩:=hid6 h ho hp hno hX hnX
 clear h ho hp hno hX hnX
 go_enter Tryz.func9,Tryz.ntmps9
 go_wp2_with fail
 refine Qaf (S:=fun W:World=>W.cell? ⟨bm,2,none⟩=some (.map (some ba))∧W.cell? ⟨bm,3,none⟩=some (.int .u32 (next:Int))∧(Builtin.len_ #[96] 3 #[.map (some ba)]).run Tryz.prog W = .ok (.int .i64 (nX:Int)) W∧(Instr.lookup 96 (.map (some ba)) (.int .u32 (next:Int)) false).run Tryz.prog W = .ok (.pointer none) W) (by kernel_rfl) ?_
 refine tk0 [0,1,2,3,4,5,6] ?_
 iterate 7
  refine tks (v:=?_) rfl (Or.inl ⟨by rfl,?_⟩) (by assumption) ?_
  rotate_left
  ·intro w hSw;(try dsimp only at hSw);go_simp
   all_goals with_reducible rfl
  try simp only[Act.put,lz1,lz2,lz3]
 refine tk9 ?_
 try simp only[lz4,lz5,lz6,lz1,lz2,lz3]
 refine tk0 [7,8,9,10,11,12,13] ?_
 iterate 7
  refine tks (v:=?_) rfl (Or.inl ⟨by rfl,?_⟩) (by assumption) ?_
  rotate_left
  ·intro w hSw;(try dsimp only at hSw);go_simp
   all_goals with_reducible rfl
  try simp only[Act.put,lz1,lz2,lz3]
 refine tk9 ?_
 try simp only[lz4,lz5,lz6,lz1,lz2,lz3]
 refine tk0 [14,15,16,17,18,19,20,21] ?_
 iterate 8
  refine tks (v:=?_) rfl (Or.inl ⟨by rfl,?_⟩) (by assumption) ?_
  rotate_left
  ·intro w hSw;(try dsimp only at hSw);go_simp
   all_goals with_reducible rfl
  try simp only[Act.put,lz1,lz2,lz3]
 refine tk9 ?_
 try simp only[lz4,lz5,lz6,lz1,lz2,lz3]
 refine tk0 [22,23,24] ?_
 iterate 3
  refine tks (v:=?_) rfl (Or.inl ⟨by rfl,?_⟩) (by assumption) ?_
  rotate_left
  ·intro w hSw;(try dsimp only at hSw);go_simp
   all_goals with_reducible rfl
  try simp only[Act.put,lz1,lz2,lz3]
 refine tk9 ?_
 refine Qad (by kernel_rfl) ?_ _
 clear hS1 hlen hlk hlen' hlk' c0 c1 c2 c3
 have hT1:=H_h.out.nil hdr
 have ho1:=Ho.out.step hdr (fun h=>h)
 have hp1:=Hp.out.step hdr (fun h=>h)
 generalize w.drew=w1 at *
 have hd1:Step w1 τ w1.drew τ nil:=(Step.refl w1 τ nil).drew
 have hrs:=Qde (hT1.mgr.nil hd1)
 have hrb:=Qu5 hT1.mgr
 have c0:=ho1.at 0 (v:=.pointer (some ⟨bl,0,none⟩)) rfl
 have c3:=ho1.at 3 (v:=.int .u32 (next:Int)) rfl
 have hS2:w1.drew.cell? ⟨bm,0,none⟩=some (.pointer (some ⟨bl,0,none⟩)):=(ho1.step hd1 (fun h=>h)).at 0 rfl
 have hadd:IntKind.u64.wrap ((resv X:Int)+54)=(resv X:Int)+54:=by
  have:=Qer (a:=resv X) (b:=54) (by omega)
  rw[Int.natCast_add] at this
  exact this
 obtain⟨HT1,Ho1,Hp1,Hd1,Hrs,Hdr,Hrb⟩:=hid7 hT1 ho1 hp1 hd1 hrs hdr hrb
 clear hT1 ho1 hp1 hd1 hrs hdr hrb H_h Ho Hp
 go_wp2_with fail
 refine Qaf (S:=fun W:World=>W.cell? ⟨bm,0,none⟩=some (.pointer (some ⟨bl,0,none⟩))) (by kernel_rfl) ?_
 refine tk0 [0,1,2,3,4,5,6] ?_
 iterate 7
  refine tks (v:=?_) rfl (Or.inl ⟨by rfl,?_⟩) (by assumption) ?_
  rotate_left
  ·intro w hSw;(try dsimp only at hSw);go_simp
   all_goals with_reducible rfl
  try simp only[Act.put,lz1,lz2,lz3]
 refine tk9 ?_
 try simp only[lz4,lz5,lz6,lz1,lz2,lz3]
 refine tk1 7 rfl fun K hK=>?_
 go_simp
 go_at_call 27
 refine Hrs.out.mono ?_
 rintro e w2 ⟨rfl,T2,hs2⟩
 have hq2:=Hd1.out.trans hs2
 have ho2:=Ho1.out.step hq2 (fun h=>h)
 have hT2:=HT1.out.nil hq2
 have hp2:=Hp1.out.step hq2 (fun h=>h)
 have hS3:w2.cell? ⟨bm,0,none⟩=some (.pointer (some ⟨bl,0,none⟩)):=ho2.at 0 rfl
 obtain⟨Ho2,HT2,Hp2,Hq2⟩:=hid4 ho2 hT2 hp2 hq2
 clear ho2 hT2 hp2 hq2 hs2 hS2
 refine hK.out _ _ (fun _=>hS3) ?_
 clear hK K
 refine tk (i:=8) (v:=?_) rfl (Or.inl ⟨by rfl,?_⟩) (by assumption) ?_
 rotate_left
 ·intro w hSw;(try dsimp only at hSw);go_simp
  all_goals with_reducible rfl
 try simp only[Act.put,lz1,lz2,lz3]
 try simp only[lz4,lz5,lz6,lz1,lz2,lz3]
 have hvr:RecI w2 T2 (.agg #[.int .u8 1,.int .u32 (next:Int),.int .u64 0,.int .u64 0,.int .u32 0,.int .u16 0,.bool false,.bool false,.slice none 0 0,.slice none 0 0,.slice none 0 0,.slice none 0 0]) (Qic next):=⟨⟨none,0,none,0,none,0,none,0,tBox,tBox,0,rfl,Bytes.empty _ _ _,Bytes.empty _ _ _,NS.nil _ _ _ _ _ _ _,NS.nil _ _ _ _ _ _ _,by simp[WrT,tBox,tWr,tWb],by simp[WrT,tBox,tWr,tWb]⟩,by show 1<256;omega,by show next<4294967296;omega,by show 0<18446744073709551616;omega,by show 0<18446744073709551616;omega,by show 0<4294967296;omega,by show 0<65536;omega⟩
 have hmay:mayB (Qic next)=true:=by rfl
 have hsz:=Qm5 next
 have Hsz:=Lib.hid hsz
 have hlog:LogAt w2 T2 bl bd L:=HT2.out.hbl▸HT2.out.pool.log
 have hsp:resv X+54<18446744073709551616:=by have:=Hrb.out;omega
 by_cases hroom:L.stream.length+27+(resv X+54)≤L.strips*127
 ·have hap:=Qi0 hlog hst100 hvr hmay (by rw[hsz];omega) (fun h=>by cases h) (resv X+54) (by rw[hsz];exact hroom)
  rw[Int.natCast_add] at hap
  have Hap:=Lib.hid hap
  clear hap hvr hlog
  refine tk1 9 rfl fun K hK=>?_
  go_simp
  go_at_call 37
  refine Hap.out.mono ?_
  rintro e w3 ⟨rfl,T3,hl3,hs3⟩
  obtain⟨lsn,hlsn⟩:∃lsn,L.base+L.stream.length=lsn:=⟨_,rfl⟩
  rw[hlsn]
  have ho3:=Ho2.out.step hs3 (by simp[LogTag,tMgr,tLog,Qah,Qag])
  have hp3:=Hp2.out.step hs3 (by simp[LogTag,tAllM,tLog,Qah,Qag])
  have hS4:w3.cell? ⟨bm,0,none⟩=some (.pointer (some ⟨bl,0,none⟩)):=ho3.at 0 rfl
  obtain⟨Ho3,Hp3,Hl3,Hs3,Hlsn⟩:=hid5 ho3 hp3 hl3 hs3 hlsn
  clear ho3 hp3 hl3 hs3 hlsn
  refine hK.out _ _ (fun _=>hS4) ?_
  clear hK K
  refine tk0 [10,11,12] ?_
  iterate 3
   refine tks (v:=?_) rfl (Or.inl ⟨by rfl,?_⟩) (by assumption) ?_
   rotate_left
   ·intro w hSw;(try dsimp only at hSw);go_simp
    all_goals with_reducible rfl
   try simp only[Act.put,lz1,lz2,lz3]
  refine tk9 ?_
  try simp only[lz4,lz5,lz6,lz1,lz2,lz3]
  refine tk1 13 rfl fun K hK=>?_
  go_simp
  refine hK.out _ _ (fun _=>hS4) ?_
  clear hK K
  refine tk1 14 rfl fun K hK=>?_
  go_simp
  refine hK.out _ _ (fun h=>absurd h (by decide +kernel)) ?_
  clear hK K
  refine Qad (by kernel_rfl) ?_ _
  clear hS4 c0 c3
  have c2:=Ho3.out.at 2 (v:=.map (some ba)) rfl
  have hal:=(Step.refl w3 T3 nil).alloc (.cells #[.int .u32 (next:Int),.int .u64 (lsn:Int),.int .u64 (lsn:Int),.int .u8 1,.int .u64 (lsn:Int),.slice none 0 0] 103) (tOneT next)
  have hoN:=Own.born w3 T3 (tOneT next) 103 #[.int .u32 (next:Int),.int .u64 (lsn:Int),.int .u64 (lsn:Int),.int .u8 1,.int .u64 (lsn:Int),.slice none 0 0]
  have hp4:=Hp3.out.step hal (fun h=>h)
  have ho4:=Ho3.out.step hal (fun h=>h)
  generalize T3.put w3.heap.size (tOneT next)=T4 at *
  have hadd32:IntKind.u32.wrap ((next:Int)+1)=(next:Int)+1:=by simp[IntKind.wrap,IntKind.bits,IntKind.signed];omega
  obtain⟨Hal,HoN,Hp4,Ho4⟩:=hid4 hal hoN hp4 ho4
  clear hal hoN hp4 ho4
  go_wp2_with (at_mapUpdate;go_loud (refine Qhn Hp4.out (by omega) next w3.heap.size (by omega) rfl _ _ _ rfl rfl rfl rfl ?_;intro w5 hp5 hs5;have ho5:=Ho4.out.step hs5 (by simp[tMgr,tAllM]);have e3:=ho5.at 3 (v:=.int .u32 (next:Int)) rfl;have z3:=ho5.fz 3;have hoN5:=HoN.out.step hs5 (by simp[tOneT,tAllM]);have hq5:Step w5 T4 (w5.setCell ⟨bm,3,none⟩ (.int .u32 ((next:Int)+1))) T4 (fun t=>t=tMgr):=(Step.refl w5 T4 (fun t=>t=tMgr)).set (o:=3) ho5.tag rfl _;have ho6:=ho5.set 3 (.int .u32 ((next:Int)+1));have hp6:=hp5.step hq5 (by simp[tAllM,tMgr]);have hoN6:=hoN5.step hq5 (by simp[tOneT,tMgr]);have hst6:=(Hal.out.mono (T:=fun t=>t=tMgr∨t=tAllM) (fun _ h=>h.elim)).trans ((hs5.mono (T:=fun t=>t=tMgr∨t=tAllM) (fun _ h=>.inr h)).trans (hq5.mono (fun _ h=>.inl h)));obtain⟨Ho6,Hp6,HoN6,Hst6⟩:=hid4 ho6 hp6 hoN6 hst6;clear ho6 hp6 hoN6 hst6;clear hp5 hs5 ho5 hoN5 hq5))
  go_ret2
  have hmg:=Qwh (HT2.out.mgr.step Hs3.out (fun g hg q=>by rcases q with q|q|q <;> (subst q;simp[Qai,tLog,Qah,Qag] at hg))) hnx HX.out (lsn:=lsn) (nb:=w3.heap.size) Ho6.out Hp6.out Hst6.out (fun g hg=>hg.elim .inl (fun h=>.inr (.inl h))) HoN6.out
  refine⟨T4,?_,.inr ⟨hroom,rfl,w3.heap.size,?_⟩⟩
  ·exact((Hdr.out.trans Hq2.out).mono (T:=TxTag) (fun _ h=>h.elim)).trans ((Hs3.out.mono (T:=TxTag) (fun g h=>.inl (.inr (.inl h)))).trans (Hst6.out.mono (fun g h=>.inr (.inl (by rcases h with h|h <;> (subst h;simp[Qai,tMgr,tAllM]))))))
  ·rw[Hlsn.out]
   exact HT2.out.logged ((Hs3.out.mono (T:=fun g=>LogTag g∨Qai g) (fun g h=>.inl h)).trans (Hst6.out.mono (fun g h=>.inr (by rcases h with h|h <;> (subst h;simp[Qai,tMgr,tAllM]))))) (fun g h=>h) (Hl3.out.step Hst6.out (fun g hg q=>by rcases hg with h|h|h <;> (subst h;rcases q with q|q <;> simp[tLog,Qah,Qag,tMgr,tAllM] at q))) (by rw[Hsz.out];omega) (by rw[Hsz.out];omega) hmg
 ·have hap:=Qg1 hlog hst100 hvr hmay (by rw[hsz];omega) (fun h=>by cases h) (resv X+54) hsp (by rw[hsz];exact hroom)
  rw[Int.natCast_add] at hap
  have Hap:=Lib.hid hap
  clear hap hvr hlog
  refine tk1 9 rfl fun K hK=>?_
  go_simp
  go_at_call 37
  refine Hap.out.mono ?_
  rintro e w3 ⟨rfl,T3,hs3⟩
  have hT3:=HT2.out.nil hs3
  have hS4:w3.cell? ⟨bm,0,none⟩=some (.pointer (some ⟨bl,0,none⟩)):=(Ho2.out.step hs3 (fun h=>h)).at 0 rfl
  have hst3:=(Hdr.out.trans Hq2.out).trans hs3
  obtain⟨HT3,Hst3⟩:=hid2 hT3 hst3
  clear hT3 hst3 hs3
  refine hK.out _ _ (fun _=>hS4) ?_
  clear hK K
  refine tk0 [10,11,12] ?_
  iterate 3
   refine tks (v:=?_) rfl (Or.inl ⟨by rfl,?_⟩) (by assumption) ?_
   rotate_left
   ·intro w hSw;(try dsimp only at hSw);go_simp
    all_goals with_reducible rfl
   try simp only[Act.put,lz1,lz2,lz3]
  refine tk9 ?_
  try simp only[lz4,lz5,lz6,lz1,lz2,lz3]
  refine tk1 13 rfl fun K hK=>?_
  go_simp
  refine hK.out _ _ (fun _=>hS4) ?_
  clear hK K
  refine tk1 14 rfl fun K hK=>?_
  go_simp
  refine hK.out _ _ (fun h=>absurd h (by decide +kernel)) ?_
  clear hK K
  refine Qad (by kernel_rfl) ?_ _
  go_wp2_with fail
  go_ret2
  exact⟨T3,Hst3.out.mono (fun _ h=>h.elim),.inl ⟨hroom,rfl,HT3.out⟩⟩
end Go.Proofs.YtjgacceifcnedaaGreat