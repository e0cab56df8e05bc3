/-
 Transactions: the world: manager,pool,log and device;Get and Put of a page in it.
-/
import Derived.Test.YtociicnopccppaaGreatMRdC
import Derived.Test.YtociicnopccppaaGreatMSortM
set_option linter.all false
namespace Go.Proofs.YtociicnopccppaaGreat
variable {D:Dev}{L:qac}{N bd bf bl bm bp next:Nat}{w w':World}{τ τ':qa1}
open Go.RowKit
def qex (g:Tag):Prop:=qbe g\/Qai g\/g=(209,0)
structure TW (w:World) (τ:qa1) (bm bl bp bf bd N:Nat) (bo:Nat->Nat) (X:List qa9) (next:Nat) (H:qaq) (L:qac) (D:Dev) (F:List Fr) (s:Ck.Clk.St) (cur:Nat->List Int):Prop where
 pool:qbz w τ bp bf bd H L D F s
 mgr:qbr w τ bm bl bp bo X next
 good:Good N H.st L D F cur
 clock:Clock F s
 hn:H.n=N
 hbl:H.bl=bl
structure TG (w:World) (τ:qa1) (bm bl bp bf bd N:Nat) (bo:Nat->Nat) (X:List qa9) (next:Nat) (H:qaq) (L:qac) (D:Dev) (F:List Fr) (s:Ck.Clk.St) (cur:Nat->List Int) (n i b:Nat) (f:Fr):Prop where
 pool:qbz w τ bp bf bd H L D F s
 mgr:qbr w τ bm bl bp bo X next
 good:Good N H.st L D F cur
 held:Held F s i
 hn:H.n=N
 hbl:H.bl=bl
 at_:F[i]?=some f
 pg:f.pg=some (b,cur n)
 fn:f.n=n
 nN:n<N
theorem Qi3 {g:Tag}(h:qbe g):¬Qai g/\g≠(209,0):=by
 rcases h with h|h|h
 ·rcases h with rfl|rfl|rfl|rfl|⟨i,rfl⟩ <;> simp[Qai,qcd,tFr,qbi,qdk,tPg]
 ·rcases h with rfl|rfl|rfl <;> simp[Qai,qb1,qa5,qa6]
 ·obtain⟨a,b⟩:=g
  unfold Qai
  rcases h with h|h|h|h
  all_goals (refine⟨oM,fun e=>?_⟩;cases e;omega)
theorem Qhd:¬qbe qa2:=by
 rintro(h|h|h)
 ·rcases h with h|h|h|h|⟨i,h⟩ <;> simp[qa2,qcd,tFr,qbi,qdk,tPg] at h
 ·rcases h with h|h|h <;> simp[qa2,qb1,qa5,qa6] at h
 ·rcases h with h|h|h|h <;> simp[qa2] at h
theorem TG.page {bo:Nat->Nat} {X:List qa9} {H:qaq} {F:List Fr} {s:Ck.Clk.St} {cur:Nat->List Int} {n i b:Nat} {f:Fr}(h:TG w τ bm bl bp bf bd N bo X next H L D F s cur n i b f):qag w τ (tPg i) b (cur n) :=
 h.pool.pool.pg i b (cur n) (by rw[h.at_];exact h.pg)
theorem TW.nil {bo:Nat->Nat} {X:List qa9} {H:qaq} {F:List Fr} {s:Ck.Clk.St} {cur:Nat->List Int}(h:TW w τ bm bl bp bf bd N bo X next H L D F s cur) (m:Step w τ w' τ' Go.Proofs.YtociicnopccppaaGreat.nil):TW w' τ' bm bl bp bf bd N bo X next H L D F s cur :=
 ⟨h.pool.step m zE,h.mgr.nil m,h.good,h.clock,h.hn,h.hbl⟩
theorem TG.step {S:Tag->Prop} {bo:Nat->Nat} {X:List qa9} {H:qaq} {F:List Fr} {s:Ck.Clk.St} {cur:Nat->List Int} {n i b:Nat} {f:Fr}(h:TG w τ bm bl bp bf bd N bo X next H L D F s cur n i b f) (m:Step w τ w' τ' S) (c:∀g,S g->¬qbe g/\¬Qai g/\g≠qa2):TG w' τ' bm bl bp bf bd N bo X next H L D F s cur n i b f :=
 ⟨h.pool.step m (fun g a=>⟨fun k=>(c g a).1 (.inl k),fun k=>(c g a).1 (.inr (.inl k)),fun k=>(c g a).1 (.inr (.inr k)),(c g a).2.2⟩),h.mgr.step m (fun g a d=>(c g d).2.1 a),h.good,h.held,h.hn,h.hbl,h.at_,h.pg,h.fn,h.nN⟩
theorem Qr0 {bo:Nat->Nat} {X:List qa9} {H:qaq} {F:List Fr} {s:Ck.Clk.St} {cur:Nat->List Int}(h:TW w τ bm bl bp bf bd N bo X next H L D F s cur) (d:H.st+1<18446744073709551616) (n:Nat) (hn:n<N) :
 Calls Tryz.prog 54 #[.pointer (some ⟨bp,0,none⟩),.int .u32 n] w fun e w'=>∃b,e = .returned (.tuple #[.pointer (some ⟨b,0,none⟩),.int .u16 0])/\∃τ' a c j k s' i f,TG w' τ' bm bl bp bf bd N bo X next a c j k s' cur n i b f/\a.st<=H.st+1/\qas L c/\Step w τ w' τ' qbe:=by
 refine(Qxw h.pool h.good h.clock h.hn d n hn).mono ?_
 rintro e w' ⟨b,rfl,τ',a,c,j,k,s',i,f,g⟩
 exact⟨b,rfl,τ',a,c,j,k,s',i,f,⟨g.pool,h.mgr.step g.step (fun t l o=>(Qi3 o).1 l),g.good,g.held,g.hn,g.hl.trans h.hbl,g.at_,g.pg,g.fn,hn⟩,g.st.2,g.log,g.step⟩
theorem Qrz {bo:Nat->Nat} {X:List qa9} {H:qaq} {F:List Fr} {s:Ck.Clk.St} {cur:Nat->List Int} {n i b:Nat} {f:Fr}(h:TG w τ bm bl bp bf bd N bo X next H L D F s cur n i b f) (k:n<4294967296) :
 Calls Tryz.prog 56 #[.pointer (some ⟨bp,0,none⟩),.int .u32 n,.int .u64 0] w fun e w'=>e = .returned (.bool true)/\∃s',TW w' τ bm bl bp bf bd N bo X next H L D F s' cur/\Step w τ w' τ qbe:=by
 have hh:s.h<s.n:=by
  obtain⟨bf,l,_⟩:=h.pool.pool.ck.is
  exact l.hh
 obtain⟨h1,h2,o,p⟩:=h.held.put hh
 have q:Qaq F n=some i:=(Qa6 h.pool.pool.one n i).2 ⟨f,h.at_,Qd7.2 ⟨b,cur n,h.pg,h.fn⟩⟩
 have:=Qxd h.pool.pool n k q h.held.lt o
 rw[h2,decide_eq_true h1,if_neg h1] at this
 refine this.mono ?_
 rintro e w' ⟨rfl,l,r⟩
 have c:Step w τ w' τ qb3:=r.mono (fun g a=>.inr (.inr (.inr (.inl a))))
 have d:Step w τ w' τ qbe:=c.mono (fun _ a=>.inl a)
 exact⟨rfl,_,⟨h.pool.turn l c,h.mgr.step d (fun t x y=>(Qi3 y).1 x),h.good,p F rfl (fun j f g z a=>by rw[z] at a;cases a;rfl),h.hn,h.hbl⟩,d⟩
theorem qau.qj8 {S:Tag->Prop} {H:qaq} {F:List Fr} {s:Ck.Clk.St}(h:qau w τ bp bf H F s) {i:Nat}{f:Fr}(p:F[i]?=some f) {b:Nat}{P Q:List Int}(k:f.pg=some (b,P)) (m:Step w τ w' τ' S) (C:∀g,qb3 g->S g->g=tPg i) (E:qag w' τ' (tPg i) b Q) :
 qau w' τ' bp bf H (F.set i {f with pg:=some (b,Q)}) s:=by
 obtain⟨hi,hfi⟩:=Z4 p
 have d:∀(j:Nat) (g:Fr),(F.set i {f with pg:=some (b,Q)})[j]?=some g->∃l,F[j]?=some l/\(∀n,g.has n=l.has n)/\(j≠i->g=l):=fun j g r=>by
  by_cases e:i=j
  ·subst e
   rw[List.getElem?_set_self hi] at r
   cases r
   exact⟨f,p,fun n=>Qoa _ _ _ _ k n,fun h=>absurd rfl h⟩
  ·rw[List.getElem?_set_ne e] at r
   exact⟨g,r,fun _=>rfl,fun _=>rfl⟩
 have no:∀g,qb3 g->g≠tPg i->¬S g:=fun g h1 h2 G=>h2 (C g h1 G)
 refine⟨h.hd.step m (no _ (.inl rfl) (by simp[qcd,tPg])),by rw[Y1];exact h.vf,by rw[Qjc p k];exact h.fr.step m (no _ (.inr (.inl rfl)) (by simp[tFr,tPg])),?_,by rw[Qiy p k];exact h.mp.step m (no _ (.inr (.inr (.inl rfl))) (by simp[qbi,tPg])),h.ck.step m (no _ (.inr (.inr (.inr (.inl rfl)))) (by simp[qdk,tPg])),h.n1,by rw[Y1];exact h.k1,by rw[Y1];exact h.sn,h.st,?_,?_⟩
 ·intro j c R o
  by_cases e:i=j
  ·subst e
   rw[List.getElem?_set_self hi] at o
   cases o
   exact E
  ·rw[List.getElem?_set_ne e] at o
   exact(h.pg j c R o).step m (no _ (.inr (.inr (.inr (.inr ⟨j,rfl⟩)))) (by intro q;apply e;simp[tPg] at q;omega))
 ·intro a c n g I x o h1 h2
  obtain⟨l,y,z,_⟩:=d a g x
  obtain⟨B,J,M,_⟩:=d c I o
  exact h.one a c n l B y J (by rw[<-z];exact h1) (by rw[<-M];exact h2)
 ·intro a n g x h1
  obtain⟨l,y,z,_⟩:=d a g x
  exact h.low a n l y (by rw[<-z];exact h1)
def qee (X:List qa9) (x:qa9):List qa9:=X.map (fun y=>if y.txn=x.txn then x else y)
theorem Qr8 (X:List qa9) (x:qa9):qa9.ids (qee X x)=qa9.ids X:=by
 unfold qa9.ids qee
 rw[List.map_map]
 refine List.map_congr_left (fun y _=>?_)
 show (if y.txn=x.txn then x else y).txn=y.txn
 by_cases e:y.txn=x.txn
 ·rw[if_pos e,e]
 ·rw[if_neg e]
theorem Qxe (bo:Nat->Nat) (X:List qa9) (x:qa9):fOf bo (qee X x)=fOf bo X:=by
 funext k
 unfold fOf
 rw[Qr8]
theorem qfu {X:List qa9} {x y:qa9}(h:y∈qee X x):(y=x)\/(y∈X/\y.txn≠x.txn):=by
 obtain⟨z,a,rfl⟩:=List.mem_map.1 h
 by_cases e:z.txn=x.txn
 ·rw[if_pos e];exact .inl rfl
 ·rw[if_neg e];exact .inr ⟨a,e⟩
theorem Qge {X:List qa9} {x y:qa9}(a:y∈X) (e:y.txn=x.txn):x∈qee X x:=List.mem_map.2 ⟨y,a,by rw[if_pos e]⟩
theorem Jh4 {X:List qa9}(hn:(qa9.ids X).Nodup) {x y:qa9}(c:y∈X) (e:y.txn=x.txn):qci (qee X x)+y.need=qci X+x.need:=by
 induction X with
 | nil=>cases c
 | cons z X ih =>
   have a:z.txn ∉ qa9.ids X/\(qa9.ids X).Nodup:=List.nodup_cons.1 hn
   have b:∀(X:List qa9),x.txn ∉ qa9.ids X->qee X x=X:=fun X d=>by
    have h1:∀u∈X,(fun y:qa9=>if y.txn=x.txn then x else y) u=id u:=fun u g=>if_neg (fun q:u.txn=x.txn=>d (by rw[<-q];exact List.mem_map.2 ⟨u,g,rfl⟩))
    unfold qee
    rw[List.map_congr_left h1,List.map_id]
   rcases List.mem_cons.1 c with rfl|c
   ·have h1:qee (y::X) x=x::X:=by
     show (if y.txn=x.txn then x else y)::qee X x=_
     rw[if_pos e,b X (e▸a.1)]
    rw[h1]
    show x.need+qci X+y.need=y.need+qci X+x.need
    omega
   ·have h:z.txn≠x.txn:=fun q=>a.1 (by rw[q,<-e];exact List.mem_map.2 ⟨y,c,rfl⟩)
    have h1:qee (z::X) x=z::qee X x:=by
     show (if z.txn=x.txn then x else z)::qee X x=_
     rw[if_neg h]
    rw[h1]
    have:=ih a.2 c
    show z.need+qci (qee X x)+y.need=z.need+qci X+x.need
    omega
theorem qbr.qfz {S:Tag->Prop} {bo:Nat->Nat} {X:List qa9}(h:qbr w τ bm bl bp bo X next) (m:Step w τ w' τ' S) {x y:qa9}(b:y∈X) (e:y.txn=x.txn) (c:∀g,Qai g->S g->g=qab x.txn\/g=qd3 x.txn) (d:qel w' τ' (bo x.txn) x):qbr w' τ' bm bl bp bo (qee X x) next:=by
 obtain⟨i,j,k⟩:=h.is
 have no:∀g,Qai g->(g≠qab x.txn/\g≠qd3 x.txn)->¬S g:=fun g h1 h2 l=>(c g h1 l).elim h2.1 h2.2
 refine⟨⟨i,j.step m (no _ (by simp[Qai,qe4]) (by simp[qe4,qab,qd3])),by rw[Qxe];exact k.step m (no _ (by simp[Qai,qc8]) (by simp[qc8,qab,qd3]))⟩,fun z a=>?_,by rw[Qr8];exact h.nodup,fun z a=>?_,h.nx,by unfold qee;rw[Y0];exact h.many⟩
 ·rcases qfu a with rfl|⟨h1,h2⟩
  ·exact d
  ·exact(h.ones z h1).step m (no _ (by simp[Qai,qab]) (by simp[qab,qd3];omega)) (no _ (by simp[Qai,qd3]) (by simp[qab,qd3];omega))
 ·rcases qfu a with rfl|⟨h1,h2⟩
  ·rw[<-e];exact h.low y b
  ·exact h.low z h1
