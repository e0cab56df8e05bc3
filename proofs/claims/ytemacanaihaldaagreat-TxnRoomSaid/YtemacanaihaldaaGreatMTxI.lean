/-
 Transactions: the world: manager,pool,log and device;Get and Put of a page in it.
-/
import Derived.Test.YtemacanaihaldaaGreatMTxA
import Derived.Test.YtemacanaihaldaaGreatMSortM
set_option linter.all false
namespace Go.Proofs.YtemacanaihaldaaGreat
variable {D:Dev}{L:LogM}{N bd bf bl bm bp next:Nat}{w w':World}{τ τ':Tags}
open Go.RowKit
def TxTag (g:Tag):Prop:=PWTag g\/Qai g\/g=(209,0)
structure TW (w:World) (τ:Tags) (bm bl bp bf bd N:Nat) (bo:Nat->Nat) (X:List OneP) (next:Nat) (H:PoolH) (L:LogM) (D:Dev) (F:List Fr) (s:Ck.Clk.St) (cur:Nat->List Int):Prop where
 pool:PoolW w τ bp bf bd H L D F s
 mgr:MgrAt w τ bm bl bp bo X next
 good:Good N H.st L D F cur
 clock:Clock F s
 hn:H.n=N
 hbl:H.bl=bl
structure TG (w:World) (τ:Tags) (bm bl bp bf bd N:Nat) (bo:Nat->Nat) (X:List OneP) (next:Nat) (H:PoolH) (L:LogM) (D:Dev) (F:List Fr) (s:Ck.Clk.St) (cur:Nat->List Int) (n i b:Nat) (f:Fr):Prop where
 pool:PoolW w τ bp bf bd H L D F s
 mgr:MgrAt w τ bm bl bp bo X next
 good:Good N H.st L D F cur
 held:Held F s i
 hn:H.n=N
 hbl:H.bl=bl
 at_:F[i]?=some f
 pg:f.pg=some (b,cur n)
 fn:f.n=n
 nN:n<N
theorem Qi3 {g:Tag}(h:PWTag g):¬Qai g/\g≠(209,0):=by
 rcases h with h|h|h
 ·rcases h with rfl|rfl|rfl|rfl|⟨i,rfl⟩ <;> simp[Qai,tPool,tFr,tWhere,tClk,tPg]
 ·rcases h with rfl|rfl|rfl <;> simp[Qai,tLog,Qah,Qag]
 ·obtain⟨a,b⟩:=g
  unfold Qai
  rcases h with h|h|h|h
  all_goals (refine⟨by omega,fun e=>?_⟩;cases e;omega)
theorem Qhd:¬PWTag tData:=by
 rintro(h|h|h)
 ·rcases h with h|h|h|h|⟨i,h⟩ <;> simp[tData,tPool,tFr,tWhere,tClk,tPg] at h
 ·rcases h with h|h|h <;> simp[tData,tLog,Qah,Qag] at h
 ·rcases h with h|h|h|h <;> simp[tData] at h
theorem TG.page {e:Nat->Nat} {X:List OneP} {H:PoolH} {F:List Fr} {s:Ck.Clk.St} {d:Nat->List Int} {n i b:Nat} {f:Fr}(h:TG w τ bm bl bp bf bd N e X next H L D F s d n i b f):PageAt w τ (tPg i) b (d n) :=
 h.pool.pool.pg i b (d n) (by rw[h.at_];exact h.pg)
theorem TW.nil {d:Nat->Nat} {X:List OneP} {H:PoolH} {F:List Fr} {s:Ck.Clk.St} {b:Nat->List Int}(h:TW w τ bm bl bp bf bd N d X next H L D F s b) (m:Step w τ w' τ' Go.Proofs.YtemacanaihaldaaGreat.nil):TW w' τ' bm bl bp bf bd N d X next H L D F s b :=
 ⟨h.pool.step m (fun _ h=>h.elim),h.mgr.nil m,h.good,h.clock,h.hn,h.hbl⟩
theorem TG.step {S:Tag->Prop} {l:Nat->Nat} {X:List OneP} {H:PoolH} {F:List Fr} {s:Ck.Clk.St} {e:Nat->List Int} {n i b:Nat} {f:Fr}(h:TG w τ bm bl bp bf bd N l X next H L D F s e n i b f) (m:Step w τ w' τ' S) (j:∀g,S g->¬PWTag g/\¬Qai g/\g≠tData):TG w' τ' bm bl bp bf bd N l X next H L D F s e n i b f :=
 ⟨h.pool.step m (fun g d=>⟨fun k=>(j g d).1 (.inl k),fun k=>(j g d).1 (.inr (.inl k)),fun k=>(j g d).1 (.inr (.inr k)),(j g d).2.2⟩),h.mgr.step m (fun g d o=>(j g o).2.1 d),h.good,h.held,h.hn,h.hbl,h.at_,h.pg,h.fn,h.nN⟩
theorem Qr0 {p:Nat->Nat} {X:List OneP} {H:PoolH} {F:List Fr} {s:Ck.Clk.St} {d:Nat->List Int}(h:TW w τ bm bl bp bf bd N p X next H L D F s d) (l:H.st+1<18446744073709551616) (n:Nat) (hn:n<N) :
 Calls Tryz.prog 15 #[.pointer (some ⟨bp,0,none⟩),.int .u32 (n:Int)] w fun e w'=>∃b,e = .returned (.tuple #[.pointer (some ⟨b,0,none⟩),.int .u16 0])/\∃τ' j k m o s' i f,TG w' τ' bm bl bp bf bd N p X next j k m o s' d n i b f/\j.st<=H.st+1/\SameLog L k/\Step w τ w' τ' PWTag:=by
 refine(Qxw h.pool h.good h.clock h.hn l n hn).mono ?_
 rintro e w' ⟨b,rfl,τ',j,k,m,o,s',i,f,g⟩
 exact⟨b,rfl,τ',j,k,m,o,s',i,f,⟨g.pool,h.mgr.step g.step (fun t q r=>(Qi3 r).1 q),g.good,g.held,g.hn,g.hl.trans h.hbl,g.at_,g.pg,g.fn,hn⟩,g.st.2,g.log,g.step⟩
theorem Qrz {q:Nat->Nat} {X:List OneP} {H:PoolH} {F:List Fr} {s:Ck.Clk.St} {d:Nat->List Int} {n i b:Nat} {f:Fr}(h:TG w τ bm bl bp bf bd N q X next H L D F s d n i b f) (o:n<4294967296) :
 Calls Tryz.prog 16 #[.pointer (some ⟨bp,0,none⟩),.int .u32 (n:Int),.int .u64 0] w fun e w'=>e = .returned (.bool true)/\∃s',TW w' τ bm bl bp bf bd N q X next H L D F s' d/\Step w τ w' τ PWTag:=by
 have hh:s.h<s.n:=by
  obtain⟨bf,p,_⟩:=h.pool.pool.ck.is
  exact p.hh
 obtain⟨h1,h2,r,x⟩:=h.held.put hh
 have y:Qaq F n=some i:=(Qa6 h.pool.pool.one n i).2 ⟨f,h.at_,Qd7.2 ⟨b,d n,h.pg,h.fn⟩⟩
 have:=Qxd h.pool.pool n o y h.held.lt r
 rw[h2,decide_eq_true h1,if_neg h1] at this
 refine this.mono ?_
 rintro e w' ⟨rfl,p,z⟩
 have l:Step w τ w' τ PoolTag:=z.mono (fun g k=>.inr (.inr (.inr (.inl k))))
 have m:Step w τ w' τ PWTag:=l.mono (fun _ k=>.inl k)
 exact⟨rfl,_,⟨h.pool.turn p l,h.mgr.step m (fun t B C=>(Qi3 C).1 B),h.good,x F rfl (fun j f g E k=>by rw[E] at k;cases k;rfl),h.hn,h.hbl⟩,m⟩
theorem PoolAt.setPageS {S:Tag->Prop} {H:PoolH} {F:List Fr} {s:Ck.Clk.St}(h:PoolAt w τ bp bf H F s) {i:Nat}{f:Fr}(p:F[i]?=some f) {b:Nat}{P Q:List Int}(k:f.pg=some (b,P)) (m:Step w τ w' τ' S) (C:∀g,PoolTag g->S g->g=tPg i) (E:PageAt w' τ' (tPg i) b Q) :
 PoolAt w' τ' bp bf H (F.set i {f with pg:=some (b,Q)}) s:=by
 obtain⟨hi,hfi⟩:=Z4 p
 have d:∀(j:Nat) (g:Fr),(F.set i {f with pg:=some (b,Q)})[j]?=some g->∃l,F[j]?=some l/\(∀n,g.has n=l.has n)/\(j≠i->g=l):=fun j g r=>by
  by_cases e:i=j
  ·subst e
   rw[List.getElem?_set_self hi] at r
   cases r
   exact⟨f,p,fun n=>Qoa _ _ _ _ k n,fun h=>absurd rfl h⟩
  ·rw[List.getElem?_set_ne e] at r
   exact⟨g,r,fun _=>rfl,fun _=>rfl⟩
 have no:∀g,PoolTag g->g≠tPg i->¬S g:=fun g h1 h2 G=>h2 (C g h1 G)
 refine⟨h.hd.step m (no _ (.inl rfl) (by simp[tPool,tPg])),by rw[Y1];exact h.vf,by rw[Qjc p k];exact h.fr.step m (no _ (.inr (.inl rfl)) (by simp[tFr,tPg])),?_,by rw[Qiy p k];exact h.mp.step m (no _ (.inr (.inr (.inl rfl))) (by simp[tWhere,tPg])),h.ck.step m (no _ (.inr (.inr (.inr (.inl rfl)))) (by simp[tClk,tPg])),h.n1,by rw[Y1];exact h.k1,by rw[Y1];exact h.sn,h.st,?_,?_⟩
 ·intro j c R o
  by_cases e:i=j
  ·subst e
   rw[List.getElem?_set_self hi] at o
   cases o
   exact E
  ·rw[List.getElem?_set_ne e] at o
   exact(h.pg j c R o).step m (no _ (.inr (.inr (.inr (.inr ⟨j,rfl⟩)))) (by intro q;apply e;simp[tPg] at q;omega))
 ·intro a c n g g2 x o h1 h2
  obtain⟨l,y,z,_⟩:=d a g x
  obtain⟨B,I,J,_⟩:=d c g2 o
  exact h.one a c n l B y I (by rw[<-z];exact h1) (by rw[<-J];exact h2)
 ·intro a n g x h1
  obtain⟨l,y,z,_⟩:=d a g x
  exact h.low a n l y (by rw[<-z];exact h1)
def putX (X:List OneP) (x:OneP):List OneP:=X.map (fun y=>if y.txn=x.txn then x else y)
theorem Qr8 (X:List OneP) (x:OneP):OneP.ids (putX X x)=OneP.ids X:=by
 unfold OneP.ids putX
 rw[List.map_map]
 refine List.map_congr_left (fun y _=>?_)
 show (if y.txn=x.txn then x else y).txn=y.txn
 by_cases e:y.txn=x.txn
 ·rw[if_pos e,e]
 ·rw[if_neg e]
theorem Qxe (b:Nat->Nat) (X:List OneP) (x:OneP):fOf b (putX X x)=fOf b X:=by
 funext k
 unfold fOf
 rw[Qr8]
theorem putX_mem {X:List OneP} {x y:OneP}(h:y∈putX X x):(y=x)\/(y∈X/\y.txn≠x.txn):=by
 obtain⟨z,b,rfl⟩:=List.mem_map.1 h
 by_cases e:z.txn=x.txn
 ·rw[if_pos e];exact .inl rfl
 ·rw[if_neg e];exact .inr ⟨b,e⟩
theorem Qge {X:List OneP} {x y:OneP}(b:y∈X) (e:y.txn=x.txn):x∈putX X x:=List.mem_map.2 ⟨y,b,by rw[if_pos e]⟩
theorem Jh4 {X:List OneP}(hn:(OneP.ids X).Nodup) {x y:OneP}(h:y∈X) (e:y.txn=x.txn):resv (putX X x)+y.need=resv X+x.need:=by
 induction X with
 | nil=>cases h
 | cons z X ih =>
   have b:z.txn ∉ OneP.ids X/\(OneP.ids X).Nodup:=List.nodup_cons.1 hn
   have d:∀(X:List OneP),x.txn ∉ OneP.ids X->putX X x=X:=fun X i=>by
    have h1:∀u∈X,(fun y:OneP=>if y.txn=x.txn then x else y) u=id u:=fun u hu=>if_neg (fun q:u.txn=x.txn=>i (by rw[<-q];exact List.mem_map.2 ⟨u,hu,rfl⟩))
    unfold putX
    rw[List.map_congr_left h1,List.map_id]
   rcases List.mem_cons.1 h with rfl|h
   ·have h1:putX (y::X) x=x::X:=by
     show (if y.txn=x.txn then x else y)::putX X x=_
     rw[if_pos e,d X (e▸b.1)]
    rw[h1]
    show x.need+resv X+y.need=y.need+resv X+x.need
    omega
   ·have j:z.txn≠x.txn:=fun q=>b.1 (by rw[q,<-e];exact List.mem_map.2 ⟨y,h,rfl⟩)
    have h1:putX (z::X) x=z::putX X x:=by
     show (if z.txn=x.txn then x else z)::putX X x=_
     rw[if_neg j]
    rw[h1]
    have:=ih b.2 h
    show z.need+resv (putX X x)+y.need=z.need+resv X+x.need
    omega
theorem MgrAt.setOne {S:Tag->Prop} {b:Nat->Nat} {X:List OneP}(h:MgrAt w τ bm bl bp b X next) (m:Step w τ w' τ' S) {x y:OneP}(i:y∈X) (e:y.txn=x.txn) (j:∀g,Qai g->S g->g=tOneT x.txn\/g=tChg x.txn) (k:OneAt w' τ' (b x.txn) x):MgrAt w' τ' bm bl bp b (putX X x) next:=by
 obtain⟨l,o,p⟩:=h.is
 have no:∀g,Qai g->(g≠tOneT x.txn/\g≠tChg x.txn)->¬S g:=fun g h1 h2 q=>(j g h1 q).elim h2.1 h2.2
 refine⟨⟨l,o.step m (no _ (by simp[Qai,tMgr]) (by simp[tMgr,tOneT,tChg])),by rw[Qxe];exact p.step m (no _ (by simp[Qai,tAllM]) (by simp[tAllM,tOneT,tChg]))⟩,fun z d=>?_,by rw[Qr8];exact h.nodup,fun z d=>?_,h.nx,by unfold putX;rw[Y0];exact h.many⟩
 ·rcases putX_mem d with rfl|⟨h1,h2⟩
  ·exact k
  ·exact(h.ones z h1).step m (no _ (by simp[Qai,tOneT]) (by simp[tOneT,tChg];omega)) (no _ (by simp[Qai,tChg]) (by simp[tOneT,tChg];omega))
 ·rcases putX_mem d with rfl|⟨h1,h2⟩
  ·rw[<-e];exact h.low y i
  ·exact h.low z h1
