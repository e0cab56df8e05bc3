/-
 Transactions,the laws: many at once: Begin,a change,Abort,a checkpoint,a page's writing,whoever asks.
-/
import Derived.Test.YtemacanaihaldaaGreatML15B
import Derived.Test.YtemacanaihaldaaGreatMCheckA
set_option linter.all false
namespace Go.Proofs.YtemacanaihaldaaGreat
open Go.RowKit Go.Maps
def PendF:=Nat->List (Nat×ChangeP)
def Jg3 (P:PendF) (k:Nat) (l:List (Nat×ChangeP)):PendF:=fun j=>if j=k then l else P j
theorem Jgz (P:PendF) (k:Nat) (l:List (Nat×ChangeP)):Jg3 P k l k=l:=if_pos rfl
theorem Jgv (P:PendF) {k j:Nat}(l:List (Nat×ChangeP)) (h:j≠k):Jg3 P k l j=P j:=if_neg h
theorem Jhl (l:List (Nat×ChangeP)):36*l.length<=Qbf l:=by
 induction l with
 | nil=>exact Z0 _
 | cons y l ih =>
   rw[Qcy,Y4]
   have:36<=Qak y.2:=by unfold Qak;omega
   omega
theorem Jhg {X:List OneP}{x:OneP}(h:x∈X):x.need<=resv X:=by
 unfold resv
 induction X with
 | nil=>cases h
 | cons y X ih =>
   rw[X1,List.sum_cons]
   rcases List.mem_cons.1 h with rfl|h
   ·omega
   ·have:=ih h
    omega
theorem Jg9 {X:List OneP}(hn:(OneP.ids X).Nodup) {x:OneP}(h:x∈X):resv (dropX X x.txn)+x.need=resv X/\(dropX X x.txn).length+1=X.length:=by
 induction X with
 | nil=>cases h
 | cons y X ih =>
   unfold OneP.ids at hn
   rw[X1,List.nodup_cons] at hn
   by_cases e:y.txn=x.txn
   ·have b:y=x:=by
     rcases List.mem_cons.1 h with rfl|h
     ·rfl
     ·exact absurd (List.mem_map.2 ⟨x,h,e.symm⟩) hn.1
    subst b
    have hd:dropX (y::X) y.txn=X:=by
     unfold dropX
     rw[List.filter_cons_of_neg (by simp)]
     refine List.filter_eq_self.2 (fun z d=>?_)
     have:z.txn≠y.txn:=fun e=>hn.1 (List.mem_map.2 ⟨z,d,e⟩)
     simpa using this
    rw[hd]
    unfold resv
    rw[X1,List.sum_cons,Y4]
    omega
   ·have j:x∈X:=by
     rcases List.mem_cons.1 h with rfl|h
     ·exact absurd rfl e
     ·exact h
    obtain⟨h1,h2⟩:=ih hn.2 j
    have hd:dropX (y::X) x.txn=y::dropX X x.txn:=by
     unfold dropX
     rw[List.filter_cons_of_pos (by simpa using e)]
    rw[hd]
    unfold resv at *
    rw[X1,List.sum_cons,X1,List.sum_cons,Y4,Y4]
    omega
structure Many (w:World) (τ:Tags) (I:Ids) (bo:Nat->Nat) (X:List OneP) (next:Nat) (R:List RecP) (V:SlotV) (st:Nat) (P:PendF):Prop where
 tz:TZ w τ I bo X next R V st
 one:∀x∈X,x.state=1/\Trail R x.undo (P x.txn)/\Trail R x.last (P x.txn)/\x.ch=chOf (P x.txn)
 ok:∀k,∀z∈P k,ChgOk I.N z.2/\z.2.slot/3=k%4
 none:∀k,(∀x∈X,x.txn≠k)->P k=[]
 big:∀k,¬(1<=k/\k<=4)->P k=[]
 view:∀k,1<=k/\k<=4->∀p t,p<I.N->t/3=k%4->undoV V (P k) p t=[]
 room:(recsB R).length+resv X<=I.S*127
 N:1<=I.N/\I.N<=512
 S:I.S<=200
section
variable {w w' : World} {τ τ' : Tags} {I : Ids} {bo bo' : Nat -> Nat} {X : List OneP} {next : Nat} {R T : List RecP} {V : SlotV} {st st' : Nat} {P : PendF}
theorem Many.retz (h:Many w τ I bo X next R V st P) (d:TZ w' τ' I bo X next (R++T) V st') (e:(recsB (R++T)).length+resv X<=I.S*127):Many w' τ' I bo X next (R++T) V st' P :=
 ⟨d,fun x b=>⟨(h.one x b).1,(h.one x b).2.1.app T,(h.one x b).2.2.1.app T,(h.one x b).2.2.2⟩,h.ok,h.none,h.big,h.view,e,h.N,h.S⟩
theorem Many.retz0 (h:Many w τ I bo X next R V st P) (b:TZ w' τ' I bo X next R V st'):Many w' τ' I bo X next R V st' P :=
 ⟨b,h.one,h.ok,h.none,h.big,h.view,h.room,h.N,h.S⟩
theorem Many.begun (h:Many w τ I bo X next R V st P) (m:TZ w' τ' I bo' (X++[begOne next (1+(recsB R).length)]) (next+1) (R++[Qic next]) V st') (hr:(recsB R).length+27+(resv X+54)<=I.S*127) :
 Many w' τ' I bo' (X++[begOne next (1+(recsB R).length)]) (next+1) (R++[Qic next]) V st' P:=by
 have d:=h.tz.mgr.low
 have j:P next=[]:=h.none next (fun x b e=>by have:=d x b;omega)
 have l:=RecAt.new R (Qic next)
 refine⟨m,fun x b=>?_,h.ok,fun k hk=>h.none k (fun x b=>hk x (List.mem_append_left _ b)),h.big,h.view,?_,h.N,h.S⟩
 ·rcases List.mem_append.1 b with b|b
  ·exact⟨(h.one x b).1,(h.one x b).2.1.app _,(h.one x b).2.2.1.app _,(h.one x b).2.2.2⟩
  ·rw[Y8 b]
   show _/\Trail _ _ (P next)/\Trail _ _ (P next)/\_=chOf (P next)
   rw[j]
   exact⟨rfl,.stop l rfl,.stop l rfl,rfl⟩
 ·rw[Qb0,Qm5]
  unfold resv at *
  rw[List.map_append,List.sum_append]
  show _+(_+(54+0+0))<=_
  omega
theorem Many.changed (h:Many w τ I bo X next R V st P) {x:OneP}(B:x∈X) {k:Nat}(hk:x.txn=k) (m:1<=k/\k<=4) {c:ChangeP}(L:ChgOk I.N c) (G:c.slot/3=k%4) (M:c.before=V c.page c.slot)
 (hr:(recsB R).length+Qak c+(resv X+Qak c)<=I.S*127) (b:TZ w' τ' I bo (putX X (x.changed (1+(recsB R).length) (Qak c))) next (R++[Qcp c x]) (putV V c.page c.slot c.now) st') :
 Many w' τ' I bo (putX X (x.changed (1+(recsB R).length) (Qak c))) next (R++[Qcp c x]) (putV V c.page c.slot c.now) st' (Jg3 P k ((1+(recsB R).length,c)::P k)):=by
 subst hk
 obtain⟨g1,g2,g3,g4⟩:=h.one x B
 have C:=RecAt.new R (Qcp c x)
 have o:Trail (R++[Qcp c x]) (1+(recsB R).length) ((1+(recsB R).length,c)::P x.txn):=by
  have hll:=g3.low
  exact Trail.chg C rfl (by show x.last<_;omega) (g3.app _)
 have r:OneP.ids (putX X (x.changed (1+(recsB R).length) (Qak c)))=OneP.ids X:=Qr8 _ _
 refine⟨b,fun y d=>?_,fun j z b=>?_,fun j l=>?_,fun j l=>?_,fun j l p t J D=>?_,?_,h.N,h.S⟩
 ·rcases putX_mem d with rfl|⟨d,E⟩
  ·show _/\Trail _ _ (Jg3 P x.txn _ x.txn)/\Trail _ _ (Jg3 P x.txn _ x.txn)/\_=chOf (Jg3 P x.txn _ x.txn)
   rw[Jgz]
   refine⟨g1,o,o,?_⟩
   show x.ch++[(1+(recsB R).length,Qak c)]=_
   rw[g4,Qh9]
  ·have s:y.txn≠x.txn:=E
   rw[Jgv _ _ s]
   exact⟨(h.one y d).1,(h.one y d).2.1.app _,(h.one y d).2.2.1.app _,(h.one y d).2.2.2⟩
 ·by_cases e:j=x.txn
  ·subst e
   rw[Jgz] at b
   rcases List.mem_cons.1 b with rfl|b
   ·exact⟨L,G⟩
   ·exact h.ok _ z b
  ·rw[Jgv _ _ e] at b
   exact h.ok j z b
 ·have e:j≠x.txn:=fun e=>l _ (Qge B rfl) e.symm
  rw[Jgv _ _ e]
  refine h.none j (fun y d O=>?_)
  have:j∈OneP.ids (putX X (x.changed (1+(recsB R).length) (Qak c))):=by rw[r];exact List.mem_map.2 ⟨y,d,O⟩
  obtain⟨U,F,Y⟩:=List.mem_map.1 this
  exact l U F Y
 ·have e:j≠x.txn:=fun e=>l (by rw[e];exact m)
  rw[Jgv _ _ e]
  exact h.big j l
 ·by_cases e:j=x.txn
  ·subst e
   rw[Jgz,Quj V _ c c.now M]
   exact h.view _ m p t J D
  ·rw[Jgv _ _ e,<-h.view j l p t J D]
   refine Qkb _ (Qku _ _ (fun q=>?_))
   rw[q.2,G] at D
   omega
 ·have hneed:=Jh4 h.tz.mgr.nodup B (x:=x.changed (1+(recsB R).length) (Qak c)) rfl
  have hn2:(x.changed (1+(recsB R).length) (Qak c)).need=x.need+Qak c:=by
   show 54+((x.ch++[(_,Qak c)]).map Prod.snd).sum=54+(x.ch.map Prod.snd).sum+Qak c
   rw[List.map_append,List.sum_append]
   show 54+(_+(Qak c+0))=_
   omega
  rw[Qb0,Qdt]
  omega
theorem Many.need (h:Many w τ I bo X next R V st P) {x:OneP}(b:x∈X):x.need=54+Qbf (P x.txn):=by
 unfold OneP.need
 rw[(h.one x b).2.2.2,Qya]
theorem Many.lenP (h:Many w τ I bo X next R V st P) {x:OneP}(b:x∈X):(P x.txn).length<=706:=by
 have h1:=h.room
 have h2:=Jhl (P x.txn)
 have h3:I.S*127<=200*127:=Y7 _ h.S
 have h4:=h.need b
 have h5:=Jhg b
 omega
theorem Many.aborted (h:Many w τ I bo X next R V st P) {x:OneP}(o:x∈X) (d:TZ w' τ' I bo (dropX X x.txn) next (R++T) (undoV V (P x.txn)) st') (hl:(recsB (R++T)).length<=(recsB R).length+54+Qbf (P x.txn)) :
 Many w' τ' I bo (dropX X x.txn) next (R++T) (undoV V (P x.txn)) st' (Jg3 P x.txn []):=by
 have hdr:=Jg9 h.tz.mgr.nodup o
 have hnd:=h.need o
 have hroom:=h.room
 refine⟨d,fun y b=>?_,fun j z d=>?_,fun j k=>?_,fun j k=>?_,fun j k p t r l=>?_,by omega,h.N,h.S⟩
 ·obtain⟨b,m⟩:=Qpt.1 b
  rw[Jgv _ _ m]
  exact⟨(h.one y b).1,(h.one y b).2.1.app _,(h.one y b).2.2.1.app _,(h.one y b).2.2.2⟩
 ·by_cases e:j=x.txn
  ·subst e
   rw[Jgz] at d
   cases d
  ·rw[Jgv _ _ e] at d
   exact h.ok j z d
 ·by_cases e:j=x.txn
  ·subst e
   exact Jgz _ _ _
  ·rw[Jgv _ _ e]
   exact h.none j (fun y b s=>k y (Qpt.2 ⟨b,by rw[s];exact e⟩) s)
 ·by_cases e:j=x.txn
  ·subst e
   exact Jgz _ _ _
  ·rw[Jgv _ _ e]
   exact h.big j k
 ·by_cases e:j=x.txn
  ·subst e
   rw[Jgz]
   exact h.view _ k p t r l
  ·rw[Jgv _ _ e,<-h.view j k p t r l]
   refine Qkb _ (Qka _ (fun y b q=>?_))
   have h1:=(h.ok x.txn y b).2
   rw[q.2,h1] at l
   by_cases B:1<=x.txn/\x.txn<=4
   ·omega
   ·rw[h.big _ B] at b
    cases b
theorem Many.done (h:Many w τ I bo [] next R V st P):TZ w τ I bo [] next R (fun _ _=>[]) st:=by
 have e:∀k,P k=[]:=fun k=>h.none k (fun x l=>absurd l (by simp))
 have m:∀p,p<I.N->∀t,V p t=[]:=fun p b t=>by
  by_cases o:12<=t
  ·exact(h.tz.slot4 b t).2 o
  ·by_cases h0:t/3=0
   ·have:=h.view 4 (by omega) p t b (by omega)
    rw[e] at this
    exact this
   ·have:=h.view (t/3) (by omega) p t b (by omega)
    rw[e] at this
    exact this
 obtain⟨H,L,D,F,s,d,h1,h2,q,r,j⟩:=h.tz.is
 exact⟨⟨H,L,D,F,s,d,h1,h2,q,r,fun n hn=>⟨(j n hn).1,fun t=>((j n hn).2 t).trans (m n hn t)⟩⟩⟩
end
def MnyI (I:Ids) (i:Nat) (w:World) (τ:Tags):Prop:=∃bo X next R V st P,Many w τ I bo X next R V st P/\1<=next/\next<=1+i/\X.length<=i/\st<=1000*(i+1)
section
variable {w : World} {τ : Tags} {I : Ids} {i : Nat}
def MnyD (I:Ids) (i:Nat) (w:World) (τ:Tags) (w':World):Prop:=∃τ',MnyI I (i+1) w' τ'/\Step w τ w' τ' TyTag
theorem MnyI.nil {w':World}{τ':Tags}(h:MnyI I i w τ) (m:Step w τ w' τ' Go.Proofs.YtemacanaihaldaaGreat.nil):MnyI I i w' τ':=by
 obtain⟨bo,X,next,R,V,st,P,h,h1⟩:=h
 exact⟨bo,X,next,R,V,st,P,h.retz0 (h.tz.nil m),h1⟩
theorem Jiw (h:MnyI I i w τ) (hi:i<=60) {n:Nat}(hn:1<=n/\n<=4) {kd nn pg:Nat}{sl:Int}{p:Option Addr}{m c k at_:Nat}(E:kd<256) (F:pg<4294967296) (hk:k<256) :
 Calls Tryz.prog 27 #[.pointer (some ⟨I.bm,0,none⟩),.int .u32 (n:Int),.agg (OpV kd nn pg sl p m c k at_)] w fun e w'=>(∃v,e = .returned (.int .u16 v))/\MnyD I i w τ w':=by
 obtain⟨bo,X,next,R,V,st,P,h,h1,h2,h3,h4⟩:=h
 have o:pg%I.N<I.N:=Y9 _ (by have:=h.N;omega)
 have y:st<=1000000:=by omega
 refine Qzl h.tz y h.N n (by omega) (C:=fun e w'=>(∃v,e = .returned (.int .u16 v))/\MnyD I i w τ w') E F hk (fun W T q z U=>?_)
 have l:=h.retz0 (h.tz.nil z)
 by_cases r:∃x∈X,x.txn=n
 ·obtain⟨x,r,B⟩:=r
  have D:=Qqz k
  have d:=l.one x r
  have hlow:=d.2.2.1.low
  have O:=Qkf l.tz y r d.1 (by omega) (by rw[d.2.2.2,Qyb];have:=l.lenP r;omega) o h.N.2 (Qim n k) (decide (0<kd%5)) U D.2 D.1
  rw[B] at O
  have G:=Qwa (V:=V) o (Qim n k) (h.tz.slot4 o _).1 (decide (0<kd%5)) D.2 D.1
  have J:(chgV V (pg%I.N) (ownSlot n k) (decide (0<kd%5)) (Qbu k)).slot/3=n%4:=by show (3*n+k%3)%12/3=n%4;omega
  have L:(chgV V (pg%I.N) (ownSlot n k) (decide (0<kd%5)) (Qbu k)).before=V (chgV V (pg%I.N) (ownSlot n k) (decide (0<kd%5)) (Qbu k)).page (chgV V (pg%I.N) (ownSlot n k) (decide (0<kd%5)) (Qbu k)).slot:=rfl
  generalize chgV V (pg%I.N) (ownSlot n k) (decide (0<kd%5)) (Qbu k)=cg at *
  refine O.mono ?_
  rintro e w' ⟨τ',b,⟨-,-,rfl,j⟩|⟨-,-,rfl,j⟩|⟨-,s,rfl,j⟩⟩
  ·exact⟨⟨⟨_,rfl⟩,τ',⟨bo,X,next,R,V,_,P,l.retz0 j,h1,by omega,by omega,by omega⟩,(z.mono (fun _ h=>h.elim)).trans (b.mono (fun _ h=>.inl h))⟩,⟨_,rfl⟩,τ',b.mono (fun _ h=>.inl h)⟩
  ·exact⟨⟨⟨_,rfl⟩,τ',⟨bo,X,next,R,V,_,P,l.retz0 j,h1,by omega,by omega,by omega⟩,(z.mono (fun _ h=>h.elim)).trans (b.mono (fun _ h=>.inl h))⟩,⟨_,rfl⟩,τ',b.mono (fun _ h=>.inl h)⟩
  ·exact⟨⟨⟨_,rfl⟩,τ',⟨bo,_,next,_,_,_,_,l.changed r B hn G J L s j,h1,by omega,by unfold putX;rw[Y0];omega,by omega⟩,(z.mono (fun _ h=>h.elim)).trans (b.mono (fun _ h=>.inl h))⟩,⟨_,rfl⟩,τ',b.mono (fun _ h=>.inl h)⟩
 ·refine(Qrn l.tz.mgr n (by omega) (fun x M e=>r ⟨x,M,e⟩) _ _ _ _ _ _).mono ?_
  rintro e w' ⟨rfl,rfl⟩
  exact⟨⟨⟨_,rfl⟩,T,⟨bo,X,next,R,V,_,P,l,h1,by omega,by omega,by omega⟩,z.mono (fun _ h=>h.elim)⟩,⟨_,rfl⟩,T,Step.refl _ _ _⟩
theorem Jie (h:MnyI I i w τ) (hi:i<=60):Calls Tryz.prog 22 #[.pointer (some ⟨I.bm,0,none⟩)] w fun e w'=>(∃a b,e = .returned (.tuple #[.int .u32 a,.int .u16 b]))/\MnyD I i w τ w':=by
 obtain⟨bo,X,next,R,V,st,P,h,h1,h2,h3,h4⟩:=h
 refine(Qry h.tz (by omega) (by omega)).mono ?_
 rintro e w' ⟨τ',j,⟨-,rfl,d⟩|⟨k,rfl,nb,d⟩⟩
 ·exact⟨⟨_,_,rfl⟩,τ',⟨bo,X,next,R,V,_,P,h.retz0 d,h1,by omega,by omega,by omega⟩,j⟩
 ·exact⟨⟨_,_,rfl⟩,τ',⟨_,_,_,_,V,_,P,h.begun d k,by omega,by omega,by rw[Z6,List.length_singleton];omega,by omega⟩,j⟩
theorem Jif (h:MnyI I i w τ) (hi:i<=60) {n:Nat}(hn:n<4294967296):Calls Tryz.prog 23 #[.pointer (some ⟨I.bm,0,none⟩),.int .u32 (n:Int)] w fun e w'=>(∃v,e = .returned (.int .u16 v))/\MnyD I i w τ w':=by
 obtain⟨bo,X,next,R,V,st,P,h,h1,h2,h3,h4⟩:=h
 by_cases d:∃x∈X,x.txn=n
 ·obtain⟨x,d,rfl⟩:=d
  have b:=h.one x d
  have hlow:=b.2.2.1.low
  have hlen:=h.lenP d
  have hneed:=h.need d
  have hrm:=Jhg d
  have hroom:=h.room
  refine(Qww h.tz d b.1 b.2.1 b.2.2.2 (fun z j=>(h.ok _ z j).1) (by omega) (by omega) (by omega) h.N.2).mono ?_
  rintro e w' ⟨rfl,τ',T,l,j,hl⟩
  have hdr:=Jg9 h.tz.mgr.nodup d
  exact⟨⟨_,rfl⟩,τ',⟨bo,_,next,_,_,_,_,h.aborted d j hl,h1,by omega,by omega,by omega⟩,l⟩
 ·refine(Jci h.tz.mgr n hn (fun x k e=>d ⟨x,k,e⟩)).mono ?_
  rintro e w' ⟨rfl,rfl⟩
  exact⟨⟨_,rfl⟩,τ,⟨bo,X,next,R,V,_,P,h,h1,by omega,by omega,by omega⟩,Step.refl _ _ _⟩
theorem Jid (h:MnyI I i w τ) {B:Nat}(d:SortC B) (hi:i<=B) (hB6:B<=60):Calls Tryz.prog 24 #[.pointer (some ⟨I.bm,0,none⟩)] w fun e w'=>(∃v,e = .returned (.int .u16 v))/\MnyD I i w τ w':=by
 obtain⟨bo,X,next,R,V,st,P,h,h1,h2,h3,h4⟩:=h
 have hlen:=h.tz.len
 refine(Jia h.tz (fun x b=>⟨(h.one x b).1,by have:=(h.one x b).2.2.1.low;omega,by have:=(h.one x b).2.1.low;omega⟩) d (by omega) h.room).mono ?_
 rintro e w' ⟨er,τ',T,rfl,j,k,l,-⟩
 exact⟨⟨_,rfl⟩,τ',⟨bo,X,next,_,V,_,P,h.retz k l,h1,by omega,by omega,by omega⟩,j⟩
theorem Jic (h:MnyI I i w τ) (hi:i<=60) {n:Nat}(hn:n<4294967296):Calls Tryz.prog 26 #[.pointer (some ⟨I.bp,0,none⟩),.int .u32 (n:Int)] w fun e w'=>(∃v,e = .returned (.bool v))/\MnyD I i w τ w':=by
 obtain⟨bo,X,next,R,V,st,P,h,h1,h2,h3,h4⟩:=h
 refine(Jh9 h.tz (by omega) n hn).mono ?_
 rintro e w' ⟨v,τ',rfl,b,d⟩
 exact⟨⟨_,rfl⟩,τ',⟨bo,X,next,R,V,_,P,h.retz0 d,h1,by omega,by omega,by omega⟩,b⟩
theorem Jin (h:MnyI I i w τ):Calls Tryz.prog 25 #[.pointer (some ⟨I.bm,0,none⟩)] w fun e w'=>e = .returned (.pointer (some ⟨I.bp,0,none⟩))/\w=w':=by
 obtain⟨bo,X,next,R,V,st,P,h,-⟩:=h
 exact Qhg h.tz.mgr
end
