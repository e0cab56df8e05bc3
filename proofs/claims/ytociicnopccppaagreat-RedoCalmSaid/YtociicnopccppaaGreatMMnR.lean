/-
 Transactions that run,commit and are given up,as run of the laws of restarts has them: what each may undo,what there is room for,who has not ended by the log.
-/
import Derived.Test.YtociicnopccppaaGreatML15A
import Derived.Test.YtociicnopccppaaGreatMCheckA
set_option linter.all false
namespace Go.Proofs.YtociicnopccppaaGreat
open Go.RowKit Go.Maps
def qij:=Nat->List (Nat×qa7)
def Jg3 (P:qij) (k:Nat) (l:List (Nat×qa7)):qij:=fun j=>if j=k then l else P j
theorem Jgz (P:qij) (k:Nat) (l:List (Nat×qa7)):Jg3 P k l k=l:=if_pos rfl
theorem Jgv (P:qij) {k j:Nat}(l:List (Nat×qa7)) (h:j≠k):Jg3 P k l j=P j:=if_neg h
theorem Jhl (l:List (Nat×qa7)):36*l.length<=Qbf l:=by
 induction l with
 | nil=>exact Z0 _
 | cons y l ih =>
   rw[Qcy,Y4]
   have:36<=Qak y.2:=by unfold Qak;omega
   omega
theorem Jhg {X:List qa9}{x:qa9}(h:x∈X):x.need<=qci X:=by
 unfold qci
 induction X with
 | nil=>cases h
 | cons y X ih =>
   rw[X0,List.sum_cons]
   rcases List.mem_cons.1 h with rfl|h
   ·omega
   ·have:=ih h
    omega
structure qgc (w:World) (τ:qa1) (I:Ids) (bo:Nat->Nat) (X:List qa9) (next:Nat) (R:List qak) (V:qbd) (st:Nat) (P:qij):Prop where
 tz:TZ w τ I bo X next R V st
 one:∀x∈X,x.state=1/\Trail R x.undo (P x.txn)/\Trail R x.last (P x.txn)/\x.ch=qh0 (P x.txn)
 ok:∀x∈X,∀z∈P x.txn,qed I.N z.2
 cls:(X.map (fun x=>x.txn%4)).Nodup
 alive:∀k,alive qgg R k->k∈qa9.ids X
 txn:∀r∈R,r.txn<next
 room:(qae R).length+qci X<=I.S*127
 N:1<=I.N/\I.N<=6
 S:30<=I.S/\I.S<=200
section
variable {w w' : World} {τ τ' : qa1} {I : Ids} {bo bo' : Nat -> Nat} {X : List qa9} {next : Nat} {R T : List qak} {V V' : qbd} {st st' : Nat} {P : qij}
theorem qgc.retz (h:qgc w τ I bo X next R V st P) (c:TZ w' τ' I bo X next (R++T) V st') (b:(qae (R++T)).length+qci X<=I.S*127) (d:∀k,Go.Proofs.YtociicnopccppaaGreat.alive (Go.Proofs.YtociicnopccppaaGreat.alive qgg R) T k->k∈qa9.ids X) (e:∀r∈T,r.txn<next):qgc w' τ' I bo X next (R++T) V st' P :=
 ⟨c,fun x a=>⟨(h.one x a).1,(h.one x a).2.1.app T,(h.one x a).2.2.1.app T,(h.one x a).2.2.2⟩,h.ok,h.cls,fun k g=>d k (by rw[<-Jji];exact g),fun r b=>(List.mem_append.1 b).elim (h.txn r) (e r),b,h.N,h.S⟩
theorem qgc.qif (h:qgc w τ I bo X next R V st P) (a:TZ w' τ' I bo X next R V st'):qgc w' τ' I bo X next R V st' P :=
 ⟨a,h.one,h.ok,h.cls,h.alive,h.txn,h.room,h.N,h.S⟩
theorem qgc.begun (h:qgc w τ I bo X next R V st P) (n:TZ w' τ' I bo' (X++[qdp next (1+(qae R).length)]) (next+1) (R++[Qic next]) V st') (g:(qae R).length+27+(qci X+54)<=I.S*127) (q:∀x∈X,x.txn%4≠next%4) :
 qgc w' τ' I bo' (X++[qdp next (1+(qae R).length)]) (next+1) (R++[Qic next]) V st' (Jg3 P next []):=by
 have j:=h.tz.mgr.low
 have l:∀x∈X,x.txn≠next:=fun x c e=>by have:=j x c;omega
 have p:=qdm.new R (Qic next)
 refine⟨n,fun x c=>?_,fun x c=>?_,?_,fun k d=>?_,fun r g=>?_,?_,h.N,h.S⟩
 ·rcases List.mem_append.1 c with c|c
  ·rw[Jgv _ _ (l x c)]
   exact⟨(h.one x c).1,(h.one x c).2.1.app _,(h.one x c).2.2.1.app _,(h.one x c).2.2.2⟩
  ·rw[Y8 c]
   show _/\Trail _ _ (Jg3 P next [] next)/\Trail _ _ (Jg3 P next [] next)/\_=qh0 (Jg3 P next [] next)
   rw[Jgz]
   exact⟨rfl,.stop p rfl,.stop p rfl,rfl⟩
 ·rcases List.mem_append.1 c with c|c
  ·rw[Jgv _ _ (l x c)]
   exact h.ok x c
  ·rw[Y8 c]
   show ∀z∈Jg3 P next [] next,_
   rw[Jgz]
   exact fun z n=>absurd n sM
 ·rw[List.map_append,List.nodup_append]
  refine⟨h.cls,sM,fun a s b y e=>?_⟩
  obtain⟨x,c,rfl⟩:=List.mem_map.1 s
  have o:b=next%4:=by simpa [qdp] using y
  exact q x c (by rw[e,o])
 ·rw[Jjk] at d
  unfold Ji1 at d
  rw[if_neg (by show ¬(1:Nat)=8;omega),if_pos (show (Qic next).kind=1 from rfl)] at d
  unfold qa9.ids
  rw[List.map_append,List.mem_append]
  rcases d with d|d
  ·exact .inl (h.alive k d)
  ·exact .inr (by rw[d];simp[Qic,qdp])
 ·rcases List.mem_append.1 g with g|g
  ·have:=h.txn r g;omega
  ·rw[Y8 g]
   show next<next+1
   omega
 ·rw[Qb0,Qm5]
  unfold qci at *
  rw[List.map_append,List.sum_append]
  show _+(_+(54+0+0))<=_
  omega
theorem qgc.changed (h:qgc w τ I bo X next R V st P) {x:qa9}(n:x∈X) {c:qa7}(B:qed I.N c)
 (j:(qae R).length+Qak c+(qci X+Qak c)<=I.S*127) (o:TZ w' τ' I bo (qee X (x.changed (1+(qae R).length) (Qak c))) next (R++[Qcp c x]) V' st') :
 qgc w' τ' I bo (qee X (x.changed (1+(qae R).length) (Qak c))) next (R++[Qcp c x]) V' st' (Jg3 P x.txn ((1+(qae R).length,c)::P x.txn)):=by
 obtain⟨C,g2,q,D⟩:=h.one x n
 have p:=qdm.new R (Qcp c x)
 have l:Trail (R++[Qcp c x]) (1+(qae R).length) ((1+(qae R).length,c)::P x.txn):=by
  have hll:=q.low
  exact Trail.chg p rfl (by show x.last<_;omega) (q.app _)
 have d:qa9.ids (qee X (x.changed (1+(qae R).length) (Qak c)))=qa9.ids X:=Qr8 _ _
 refine⟨o,fun y b=>?_,fun y b=>?_,?_,fun k s=>?_,fun r j=>?_,?_,h.N,h.S⟩
 ·rcases qfu b with rfl|⟨b,g⟩
  ·show _/\Trail _ _ (Jg3 P x.txn _ x.txn)/\Trail _ _ (Jg3 P x.txn _ x.txn)/\_=qh0 (Jg3 P x.txn _ x.txn)
   rw[Jgz]
   refine⟨C,l,l,?_⟩
   show x.ch++[(1+(qae R).length,Qak c)]=_
   rw[D,Qh9]
  ·have a:y.txn≠x.txn:=g
   rw[Jgv _ _ a]
   exact⟨(h.one y b).1,(h.one y b).2.1.app _,(h.one y b).2.2.1.app _,(h.one y b).2.2.2⟩
 ·rcases qfu b with rfl|⟨b,g⟩
  ·show ∀z∈Jg3 P x.txn _ x.txn,_
   rw[Jgz]
   exact fun z o=>(List.mem_cons.1 o).elim (fun e=>by rw[e];exact B) (h.ok x n z)
  ·have a:y.txn≠x.txn:=g
   rw[Jgv _ _ a]
   exact h.ok y b
 ·have e:(qee X (x.changed (1+(qae R).length) (Qak c))).map (fun x=>x.txn%4)=X.map (fun x=>x.txn%4):=by
   have:=congrArg (List.map (fun k=>k%4)) d
   unfold qa9.ids at this
   rw[List.map_map,List.map_map] at this
   exact this
  rw[e]
  exact h.cls
 ·rw[d]
  rw[Jjk] at s
  exact h.alive k s
 ·rcases List.mem_append.1 j with j|j
  ·exact h.txn r j
  ·rw[Y8 j]
   exact h.tz.mgr.low x n
 ·have hneed:=Jh4 h.tz.mgr.nodup n (x:=x.changed (1+(qae R).length) (Qak c)) rfl
  have hn2:(x.changed (1+(qae R).length) (Qak c)).need=x.need+Qak c:=by
   show 54+((x.ch++[(_,Qak c)]).map Prod.snd).sum=54+(x.ch.map Prod.snd).sum+Qak c
   rw[List.map_append,List.sum_append]
   show 54+(_+(Qak c+0))=_
   omega
  rw[Qb0,Qdt]
  omega
theorem qgc.need (h:qgc w τ I bo X next R V st P) {x:qa9}(a:x∈X):x.need=54+Qbf (P x.txn):=by
 unfold qa9.need
 rw[(h.one x a).2.2.2,Qya]
theorem qgc.lenP (h:qgc w τ I bo X next R V st P) {x:qa9}(a:x∈X):(P x.txn).length<=706:=by
 have h1:=h.room
 have h2:=Jhl (P x.txn)
 have h3:I.S*127<=200*127:=Y7 _ h.S.2
 have h4:=h.need a
 have h5:=Jhg a
 omega
theorem qgc.ended (h:qgc w τ I bo X next R V st P) {x:qa9}(j:x∈X) {q:qak}(n:TZ w' τ' I bo (qcx X x.txn) next (R++(T++[q])) V' st') (hl:(qae (R++(T++[q]))).length<=(qae R).length+x.need) (l:∀r∈T,(r.kind=3\/r.kind=5\/r.kind=4)/\r.txn=x.txn) (d:q.kind=6/\q.txn=x.txn) :
 qgc w' τ' I bo (qcx X x.txn) next (R++(T++[q])) V' st' P:=by
 have hdr:=Jkx h.tz.mgr.nodup j
 have hroom:=h.room
 have b:=h.tz.mgr.low x j
 refine⟨n,fun y c=>?_,fun y c=>?_,?_,fun k g=>?_,fun r a=>?_,oM,h.N,h.S⟩
 ·obtain⟨c,hne⟩:=Qpt.1 c
  exact⟨(h.one y c).1,(h.one y c).2.1.app _,(h.one y c).2.2.1.app _,(h.one y c).2.2.2⟩
 ·exact h.ok y (Qpt.1 c).1
 ·unfold qcx
  exact h.cls.sublist ((List.filter_sublist).map _)
 ·rw[<-Y9,Jjk,Jji,Jkq _ (fun r a=>by
   rcases (l r a).1 with e|e|e <;> (rw[e];decide))] at g
  unfold Ji1 at g
  rw[if_neg (by rw[d.1];omega),if_neg (by rw[d.1];omega),if_pos d.1,d.2] at g
  rw[Qpu]
  exact List.mem_filter.2 ⟨h.alive k g.1,by simpa using g.2⟩
 ·rcases List.mem_append.1 a with a|a
  ·exact h.txn r a
  ·rcases List.mem_append.1 a with a|a
   ·rw[(l r a).2];exact b
   ·rw[Y8 a,d.2];exact b
theorem qgc.four (h:qgc w τ I bo X next R V st P):X.length<=4:=by
 have:=Qk7 4 _ h.cls (fun k a=>by
  obtain⟨x,-,rfl⟩:=List.mem_map.1 a
  omega)
 rwa [Y0] at this
end
structure qdj (I:Ids) (i:Nat) (w:World) (τ:qa1) (X:List qa9) (next:Nat):Prop where
 is:∃bo R V st P,qgc w τ I bo X next R V st P/\st<=1000*(i+1)
 lo:1<=next
 hi:next<=1+i
section
variable {w : World} {τ : qa1} {I : Ids} {i : Nat} {X : List qa9} {next : Nat}
theorem qdj.nil {w':World}{τ':qa1}(h:qdj I i w τ X next) (m:Step w τ w' τ' Go.Proofs.YtociicnopccppaaGreat.nil):qdj I i w' τ' X next:=by
 obtain⟨bo,R,V,st,P,h1,h2⟩:=h.is
 exact⟨⟨bo,R,V,st,P,h1.qif (h1.tz.nil m),h2⟩,h.lo,h.hi⟩
theorem qdj.more (h:qdj I i w τ X next):qdj I (i+1) w τ X next:=by
 obtain⟨bo,R,V,st,P,h1,h2⟩:=h.is
 exact⟨⟨bo,R,V,st,P,h1,oM⟩,h.lo,by have:=h.hi;omega⟩
theorem Jle (h:qdj I i w τ X next) (hi:i<=60) {k:Nat}(r:k∈qa9.ids X) {n sl:Nat}(hn:n<I.N) (g:sl<12) (has:Bool) {q:Option Addr}{cd:Nat}{m:List Int}(hd:Bytes w τ qa2 (.slice q m.length cd) m) (j:m.length<=4) (l:0<m.length) :
 Calls Tryz.prog 39 #[.pointer (some ⟨I.bm,0,none⟩),.int .u32 k,.int .u32 n,.int .i64 sl,.bool has,.slice q m.length cd] w fun e w'=>(∃v:Nat,e = .returned (.int .u16 v))/\∃τ' X',qa9.ids X'=qa9.ids X/\qdj I (i+1) w' τ' X' next/\Step w τ w' τ' qbj:=by
 obtain⟨bo,R,V,st,P,h1,h2⟩:=h.is
 obtain⟨x,o,rfl⟩:=List.mem_map.1 r
 have a:=h1.one x o
 have hlow:=a.2.2.1.low
 have hh:=h.hi
 have hN:=h1.N
 have s:=Qkf h1.tz oM o a.1 oM (by rw[a.2.2.2,Qyb];have:=h1.lenP o;omega) hn oM g has hd j l
 have p:=Qwa (V:=V) hn g (h1.tz.slot4 hn _).1 has j l
 generalize qjm V n sl has m=cg at *
 refine s.mono ?_
 rintro e w' ⟨τ',c,⟨-,-,rfl,b⟩|⟨-,-,rfl,b⟩|⟨-,d,rfl,b⟩⟩
 ·exact⟨⟨0,rfl⟩,τ',X,rfl,⟨⟨bo,R,V,_,P,h1.qif b,oM⟩,h.lo,oM⟩,c.mono (fun _ h=>.inl h)⟩
 ·exact⟨⟨80,rfl⟩,τ',X,rfl,⟨⟨bo,R,V,_,P,h1.qif b,oM⟩,h.lo,oM⟩,c.mono (fun _ h=>.inl h)⟩
 ·exact⟨⟨0,rfl⟩,τ',_,Qr8 _ _,⟨⟨bo,_,_,_,_,h1.changed o p d b,oM⟩,h.lo,oM⟩,c.mono (fun _ h=>.inl h)⟩
theorem Jlv (h:qdj I i w τ X next) (hi:i<=60) (d:∀k∈qa9.ids X,k%4≠next%4):Calls Tryz.prog 33 #[.pointer (some ⟨I.bm,0,none⟩)] w fun e w' =>
 ∃τ',Step w τ w' τ' qbj/\((∃v:Nat,v≠0/\e = .returned (.tuple #[.int .u32 0,.int .u16 v])/\qdj I (i+1) w' τ' X next)\/(e = .returned (.tuple #[.int .u32 next,.int .u16 0])/\∃b,qa9.ids b=qa9.ids X++[next]/\qdj I (i+1) w' τ' b (next+1))):=by
 obtain⟨bo,R,V,st,P,h1,h2⟩:=h.is
 have hh:=h.hi
 refine(Qry h1.tz oM (by have:=h1.four;omega)).mono ?_
 rintro e w' ⟨τ',c,⟨-,rfl,a⟩|⟨g,rfl,nb,a⟩⟩
 ·exact⟨τ',c,.inl ⟨80,oM,rfl,⟨⟨bo,R,V,_,P,h1.qif a,oM⟩,h.lo,oM⟩⟩⟩
 ·exact⟨τ',c,.inr ⟨rfl,_,by unfold qa9.ids;rw[List.map_append];rfl,⟨⟨_,_,V,_,_,h1.begun a g (fun x j=>d _ (List.mem_map.2 ⟨x,j,rfl⟩)),oM⟩,by have:=h.lo;omega,oM⟩⟩⟩
theorem Jks (h:qdj I i w τ X next) (hi:i<=70) {k:Nat}(g:k∈qa9.ids X):Calls Tryz.prog 12 #[.pointer (some ⟨I.bm,0,none⟩),.int .u32 k] w fun e w'=>e = .returned (.int .u16 0)/\∃τ',qdj I (i+1) w' τ' (qcx X k) next/\Step w τ w' τ' qbj:=by
 obtain⟨bo,R,V,st,P,h1,h2⟩:=h.is
 obtain⟨x,b,rfl⟩:=List.mem_map.1 g
 have hh:=h.hi
 have a:=h1.one x b
 have hlow:=a.2.2.1.low
 have hlen:=h1.lenP b
 have hneed:=h1.need b
 have hrm:=Jhg b
 have hroom:=h1.room
 have hN:=h1.N
 refine(Qww h1.tz b a.1 a.2.1 a.2.2.2 (h1.ok x b) oM oM oM oM).mono ?_
 rintro e w' ⟨rfl,τ',T,j,l,hl,T',q,rfl,c,n⟩
 exact⟨rfl,τ',⟨⟨bo,_,_,_,P,h1.ended b l oM (fun r d=>⟨(c r d).1.elim .inl (fun e=>.inr (.inl e)),(c r d).2⟩) n,oM⟩,h.lo,oM⟩,j⟩
theorem Jld (h:qdj I i w τ X next) (hi:i<=60) {k:Nat}(g:k∈qa9.ids X):Calls Tryz.prog 34 #[.pointer (some ⟨I.bm,0,none⟩),.int .u32 k] w fun e w'=>e = .returned (.int .u16 0)/\∃τ',qdj I (i+1) w' τ' (qcx X k) next/\Step w τ w' τ' qbj:=by
 obtain⟨bo,R,V,st,P,h1,h2⟩:=h.is
 obtain⟨x,b,rfl⟩:=List.mem_map.1 g
 have hh:=h.hi
 have a:=h1.one x b
 have hlow:=a.2.2.1.low
 have hneed:=h1.need b
 have hrm:=Jhg b
 have hroom:=h1.room
 refine(Jcj h1.tz b a.1 oM oM).mono ?_
 rintro e w' ⟨rfl,τ',j,l⟩
 have c:=l.tz
 have n:=Qb0 R (Qb6 4 x)
 have d:=Qb0 (R++[Qb6 4 x]) (Qb6 6 {x with last:=1+(qae R).length})
 rw[Qgg _ oM] at n d
 rw[Y9] at c d
 exact⟨rfl,τ',⟨⟨bo,_,V,st,P,h1.ended b c (by rw[d];omega) (fun r o=>by rw[Y8 o];exact⟨.inr (.inr rfl),rfl⟩) ⟨rfl,rfl⟩,oM⟩,h.lo,oM⟩,j⟩
theorem Jlu (h:qdj I i w τ X next) {B:Nat}(hB:qfo B) (j:4<=B) (hi:i<=60):Calls Tryz.prog 36 #[.pointer (some ⟨I.bm,0,none⟩)] w fun e w'=>(∃v,e = .returned (.int .u16 v))/\∃τ',qdj I (i+1) w' τ' X next/\Step w τ w' τ' qbj:=by
 obtain⟨bo,R,V,st,P,h1,h2⟩:=h.is
 have hh:=h.hi
 have hlen:=h1.tz.len
 have hlo:=h.lo
 refine(Jia h1.tz (fun x c=>⟨(h1.one x c).1,by have:=(h1.one x c).2.2.1.low;omega,by have:=(h1.one x c).2.1.low;omega⟩) hB (Y3 h1.four j) h1.room).mono ?_
 rintro e w' ⟨er,τ',T,rfl,l,n,b,d⟩
 refine⟨⟨_,rfl⟩,τ',⟨⟨bo,_,V,_,P,h1.retz n b (fun k a=>?_) (fun r b=>?_),oM⟩,h.lo,oM⟩,l⟩
 ·rcases d with rfl|⟨ts,ps,rfl,g⟩
  ·exact h1.alive k a
  ·change Ji1 (Ji1 (alive qgg R) qb6) (Jgw ts ps) k at a
   unfold Ji1 at a
   rw[if_pos (show (Jgw ts ps).kind=8 from rfl)] at a
   rcases a with a|⟨t,o,rfl⟩
   ·exact h1.alive k a
   ·obtain⟨x,c,rfl⟩:=List.mem_map.1 (g.mem_iff.1 o)
    exact List.mem_map.2 ⟨x,c,rfl⟩
 ·rcases d with rfl|⟨ts,ps,rfl,g⟩
  ·exact absurd b sM
  ·have:r.txn=0:=by
    rcases List.mem_cons.1 b with rfl|b
    ·rfl
    ·rw[Y8 b];rfl
   omega
theorem Jlt (h:qdj I i w τ X next) (hi:i<=60) {n:Nat}(hn:n<4294967296):Calls Tryz.prog 37 #[.pointer (some ⟨I.bp,0,none⟩),.int .u32 n] w fun e w'=>(∃v,e = .returned (.bool v))/\∃τ',qdj I (i+1) w' τ' X next/\Step w τ w' τ' qbj:=by
 obtain⟨bo,R,V,st,P,h1,h2⟩:=h.is
 have hh:=h.hi
 refine(Jh9 h1.tz oM n hn).mono ?_
 rintro e w' ⟨v,τ',rfl,a,b⟩
 exact⟨⟨_,rfl⟩,τ',⟨⟨bo,R,V,_,P,h1.qif b,oM⟩,h.lo,oM⟩,a⟩
theorem qdj.mgr (h:qdj I i w τ X next):∃bo,qbr w τ I.bm I.bl I.bp bo X next:=by
 obtain⟨bo,R,V,st,P,h1,h2⟩:=h.is
 exact⟨bo,h1.tz.mgr⟩
end
