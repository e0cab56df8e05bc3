/-
 Pages: data that lie apart;the head that fits them;settle makes it (plain).
-/
import Derived.Test.YtemacanaihaldaaGreatMInts
set_option linter.all false
namespace Go.Proofs.YtemacanaihaldaaGreat
variable {P Q:List Int}{g:Tag}{n0 t:Nat}{v:Value}{w:World}{τ:Tags}
open Go.RowKit
def headTo (P:List Int):Nat->Nat×Nat
 | 0=>(0,448)
 | q+1=>if 0<pLen P q then (q+1,min (headTo P q).2 (pOff P q)) else headTo P q
theorem Qgl(hl:∀s,pLen Q s=pLen P s) (b:∀s,pOff Q s=pOff P s) (q:Nat):headTo Q q=headTo P q:=by
 induction q with
 | zero=>rfl
 | succ q ih =>
   show (if 0<pLen Q q then (q+1,min (headTo Q q).2 (pOff Q q)) else headTo Q q)=(if 0<pLen P q then (q+1,min (headTo P q).2 (pOff P q)) else headTo P q)
   rw[ih,hl,b]
theorem Qo4 (P:List Int) (l m:List Nat) (i:Nat) (hi:i<=l.length):setTo P (l++m) i=setTo P l i:=by
 induction i with
 | zero=>rfl
 | succ i ih =>
   have e:(l++m).getD i 0=l.getD i 0:=by
    rw[Z5,Z5,Y5 (by omega)]
   show ((l++m).getD i 0+1,min (setTo P (l++m) i).2 (pOff P ((l++m).getD i 0)))=(l.getD i 0+1,min (setTo P l i).2 (pOff P (l.getD i 0)))
   rw[e,ih (by omega)]
theorem Qs4 (P:List Int) (q:Nat):setTo P (Qas P q) (Qas P q).length=headTo P q:=by
 induction q with
 | zero=>rfl
 | succ q ih =>
   rw[Qf8]
   by_cases h:0<pLen P q
   ·rw[if_pos h,Z6]
    show ((Qas P q++[q]).getD (Qas P q).length 0+1,min (setTo P (Qas P q++[q]) (Qas P q).length).2 (pOff P ((Qas P q++[q]).getD (Qas P q).length 0)))=if 0<pLen P q then (q+1,min (headTo P q).2 (pOff P q)) else headTo P q
    have e:(Qas P q++[q]).getD (Qas P q).length 0=q:=by
     rw[Z5,Y6 (Z0 _)];simp
    rw[e,Qo4 _ _ _ _ (Z0 _),ih,if_pos h]
   ·rw[if_neg h,List.append_nil,ih]
    show _=if 0<pLen P q then (q+1,min (headTo P q).2 (pOff P q)) else headTo P q
    rw[if_neg h]
structure HeadIs (P:List Int) (q:Nat) (c m:Nat):Prop where
 le:c<=q
 all:∀s,s<q->0<pLen P s->s<c
 last:c=0\/0<pLen P (c-1)
 low:∀s,s<q->0<pLen P s->m<=pOff P s
 is:m=448\/∃s,s<q/\0<pLen P s/\m=pOff P s
 top:m<=448
theorem Qcn (P:List Int) (q:Nat):HeadIs P q (headTo P q).1 (headTo P q).2:=by
 induction q with
 | zero=>exact⟨Z0 _,fun s h=>by omega,.inl rfl,fun s h=>by omega,.inl rfl,Z0 _⟩
 | succ q ih =>
   have e:headTo P (q+1)=if 0<pLen P q then (q+1,min (headTo P q).2 (pOff P q)) else headTo P q:=rfl
   by_cases h:0<pLen P q
   ·rw[e,if_pos h]
    refine⟨Z0 _,fun s d _=>d,.inr (by simpa using h),fun s d b=>?_,?_,?_⟩
    ·show min (headTo P q).2 (pOff P q)<=_
     by_cases k:s=q
     ·subst k;exact Nat.min_le_right _ _
     ·exact Y3 (Nat.min_le_left _ _) (ih.low s (by omega) b)
    ·show min (headTo P q).2 (pOff P q)=448\/_
     rcases Nat.le_total (headTo P q).2 (pOff P q) with i|i
     ·rw[Nat.min_eq_left i]
      rcases ih.is with h1|⟨s,h1,h2,j⟩
      ·exact .inl h1
      ·exact .inr ⟨s,by omega,h2,j⟩
     ·rw[Nat.min_eq_right i]
      exact .inr ⟨q,by omega,h,rfl⟩
    ·exact Y3 (Nat.min_le_left _ _) ih.top
   ·rw[e,if_neg h]
    refine⟨Nat.le_succ_of_le ih.le,fun s d b=>?_,ih.last,fun s d b=>?_,?_,ih.top⟩
    ·have:s≠q:=fun e=>h (e▸b)
     exact ih.all s (by omega) b
    ·have:s≠q:=fun e=>h (e▸b)
     exact ih.low s (by omega) b
    ·rcases ih.is with h1|⟨s,h1,h2,j⟩
     ·exact .inl h1
     ·exact .inr ⟨s,by omega,h2,j⟩
theorem Qrc (P:List Int) (c:Nat) (h:∀s,c<=s->¬0<pLen P s) (d:Nat):headTo P (c+d)=headTo P c:=by
 induction d with
 | zero=>rfl
 | succ d ih =>
   show (if 0<pLen P (c+d) then (c+d+1,min (headTo P (c+d)).2 (pOff P (c+d))) else headTo P (c+d))=_
   rw[if_neg (h _ (by omega)),ih]
theorem Qb7 {s:Nat}(h:pageCount P<=s):pLen P s=0:=if_neg (by omega)
theorem Qsa {s:Nat}(h:pageCount P<=s):pOff P s=0:=if_neg (by omega)
structure Tidy (P:List Int):Prop where
 len:P.length=448
 isB:IsB P
 lies:Lies P
 none:∀s,pLen P s=0->pOff P s=0
 small:∀s,pLen P s<=64
 apart:∀s t,s≠t->0<pLen P s->0<pLen P t->pOff P s+pLen P s<=pOff P t\/pOff P t+pLen P t<=pOff P s
 zero:∀i,16+4*pageCount P<=i->i<448->(∀s,i<pOff P s\/pOff P s+pLen P s<=i)->P[i]?=some 0
structure Sound (P:List Int):Prop where
 tidy:Tidy P
 head:headTo P (pageCount P)=(pageCount P,pageLow P)
theorem Qte (P:List Int):pSettle P=layN (layN P 12 (leB (headTo P (pageCount P)).1 2)) 14 (leB (headTo P (pageCount P)).2 2):=by
 unfold pSettle Qab
 rw[Qs4]
theorem Qxo {l:List Int}(h:IsB l) (k:Nat) (hz:leN l k=0) (j:Nat) (hj:j<k):l.getD j 0=0:=by
 induction k with
 | zero=>omega
 | succ k ih =>
   have e:leN l (k+1)=leN l k+(l.getD k 0).toNat*2 ^ (8*k):=rfl
   by_cases hk:j=k
   ·subst hk
    have h1:(l.getD j 0).toNat*2 ^ (8*j)=0:=by omega
    have h2:0<2 ^ (8*j):=Nat.pow_pos (by decide)
    have h3:(l.getD j 0).toNat=0:=by
     rcases Nat.mul_eq_zero.1 h1 with h|h
     ·exact h
     ·omega
    have:=h.at j
    omega
   ·exact ih (by omega) (by omega)
theorem Qmt(h:IsB P) {a k:Nat}(d:pageN P a k=0) (j:Nat) (b:j<k) (hl:a+j<P.length):P[a+j]?=some 0:=by
 have h1:=Qxo (l:=(P.drop a).take k) (fun x e=>h x (List.mem_of_mem_drop (List.mem_of_mem_take e))) k d j b
 rw[Z5,List.getElem?_take,if_pos b,List.getElem?_drop,Z3 hl] at h1
 rw[Z3 hl]
 exact congrArg some h1
structure Settled (P Q:List Int):Prop where
 len:Q.length=448
 isB:IsB Q
 off:∀s,pOff Q s=pOff P s
 plen:∀s,pLen Q s=pLen P s
 num:pageNumber Q=pageNumber P
 lsn:pageLSN Q=pageLSN P
 count:pageCount Q=(headTo P (pageCount P)).1
 low:pageLow Q=(headTo P (pageCount P)).2
 get:∀i,16<=i->Q[i]?=P[i]?
theorem Qek(hl:P.length=448) (q:IsB P) (hc:pageCount P<=40) (hn:∀s,pLen P s=0->pOff P s=0):Settled P (pSettle P):=by
 have hi:=Qcn P (pageCount P)
 rw[Qte]
 generalize o:(headTo P (pageCount P)).1=c at *
 generalize p:(headTo P (pageCount P)).2=m at *
 have h1:12+(leB c 2).length<=P.length:=by rw[Qaa];omega
 have h2:14+(leB m 2).length<=(layN P 12 (leB c 2)).length:=by rw[Qae _ _ _ h1,Qaa];omega
 have b:∀a k,a+k<=12\/16<=a->pageN (layN (layN P 12 (leB c 2)) 14 (leB m 2)) a k=pageN P a k:=fun a k h=>by
  rw[Qaj h2 (by rw[Qaa];omega),Qaj h1 (by rw[Qaa];omega)]
 have hcl:=hi.le
 have d:pageCount (layN (layN P 12 (leB c 2)) 14 (leB m 2))=c:=by
  unfold pageCount
  rw[Qaj h2 (.inl (Z0 _))]
  unfold pageN
  rw[Qdh h1 rfl (by rw[Qaa]),Qdl c 2 2 (Z0 _)]
  exact Nat.mod_eq_of_lt (by omega)
 refine⟨by rw[Qae _ _ _ h2,Qae _ _ _ h1,hl],Qaw (Qaw q (Qan _ _) _) (Qan _ _) _,fun s=>?_,fun s=>?_,b _ _ (.inl (by omega)),b _ _ (.inl (by omega)),d.trans o.symm,?_,fun i hi=>?_⟩
 ·unfold pOff
  rw[d]
  by_cases j:s<c
  ·rw[if_pos j,if_pos (by omega)]
   exact b _ _ (.inr (by omega))
  ·rw[if_neg j]
   by_cases l:s<pageCount P
   ·rw[if_pos l]
    have h0:pLen P s=0:=by
     rcases Nat.eq_zero_or_pos (pLen P s) with h|h
     ·exact h
     ·exact absurd (hi.all s l h) j
    have:=hn s h0
    unfold pOff at this
    rw[if_pos l] at this
    exact this.symm
   ·rw[if_neg l]
 ·have e:pLen P s=if s<pageCount P then pageN P (18+4*s) 2 else 0:=rfl
  by_cases j:s<c
  ·rw[e,if_pos (by omega)]
   unfold pLen
   rw[d,if_pos j]
   exact b _ _ (.inr (by omega))
  ·unfold pLen
   rw[d,if_neg j]
   by_cases l:s<pageCount P
   ·rcases Nat.eq_zero_or_pos (pLen P s) with h|h
    ·exact h.symm
    ·exact absurd (hi.all s l h) j
   ·rw[if_neg l]
 ·rw[p]
  unfold pageLow pageN
  rw[Qdh h2 rfl (by rw[Qaa]),Qdl m 2 2 (Z0 _)]
  have:=hi.top
  exact Nat.mod_eq_of_lt (by omega)
 ·rw[Qa1 h2,if_neg (by rw[Qaa];omega),Qa1 h1,if_neg (by rw[Qaa];omega)]
theorem Tidy.settle(h:Tidy P):Sound (pSettle P):=by
 have b:=Qek h.len h.isB h.lies.fit.count h.none
 have hi:=Qcn P (pageCount P)
 generalize pSettle P=Q at *
 have j:pageCount Q<=pageCount P:=by rw[b.count];exact hi.le
 refine⟨⟨b.len,b.isB,⟨⟨Y3 j h.lies.fit.count,fun s=>by rw[b.off,b.plen];exact h.lies.fit.ends s⟩,fun s o=>?_⟩,fun s=>by rw[b.off,b.plen];exact h.none s,fun s=>by rw[b.plen];exact h.small s,fun s t k=>by rw[b.off,b.plen,b.off,b.plen];exact h.apart s t k,fun i hi1 l p=>?_⟩,?_⟩
 ·rw[b.plen] at o
  rw[b.off]
  have:=h.lies.behind s o
  omega
 ·rw[b.get i (by omega)]
  by_cases q:16+4*pageCount P<=i
  ·exact h.zero i q l (fun s=>by have:=p s;rw[b.off,b.plen] at this;exact this)
  ·have e:(i-16)/4<pageCount P:=by omega
   have m:pageCount Q<=(i-16)/4:=by omega
   have h0:pLen P ((i-16)/4)=0:=by
    rw[<-b.plen];exact Qb7 m
   have h1:=h.none _ h0
   have r:pageN P (16+4*((i-16)/4)) 2=0:=by
    unfold pOff at h1;rw[if_pos e] at h1;exact h1
   have x:pageN P (18+4*((i-16)/4)) 2=0:=by
    unfold pLen at h0;rw[if_pos e] at h0;exact h0
   have hl:=h.len
   by_cases y:i%4<2
   ·have:=Qmt h.isB r (i%4) y (by omega)
    rw[show 16+4*((i-16)/4)+i%4=i by omega] at this
    exact this
   ·have:=Qmt h.isB x (i%4-2) (by omega) (by omega)
    rw[show 18+4*((i-16)/4)+(i%4-2)=i by omega] at this
    exact this
 ·rw[Qgl b.plen b.off,b.low]
  have d:=Qrc P (pageCount Q) (fun s z=>by rw[<-b.plen,Qb7 z];omega) (pageCount P-pageCount Q)
  rw[show pageCount Q+(pageCount P-pageCount Q)=pageCount P by omega] at d
  rw[<-d,b.count]
theorem Qgi(h:P.length=448) (s o n:Nat) (hs:s<=107) (i:Nat) (hi:i<16+4*s\/20+4*s<=i):(pList P s o n)[i]?=P[i]?:=by
 have h1:16+4*s+(leB o 2).length<=P.length:=by rw[Qaa];omega
 have h2:18+4*s+(leB n 2).length<=(layN P (16+4*s) (leB o 2)).length:=by rw[Qae _ _ _ h1,Qaa];omega
 unfold pList
 rw[Qa1 h2,if_neg (by rw[Qaa];omega),Qa1 h1,if_neg (by rw[Qaa];omega)]
theorem Qk5(h:IsB P) (s o n:Nat):IsB (pList P s o n):=Qaw (Qaw h (Qan _ _) _) (Qan _ _) _
theorem Qex (n:Nat):IsB (List.replicate n 0):=fun x b=>by rw[List.eq_of_mem_replicate b];exact⟨by decide,by decide⟩
theorem Qd2(hl:pLen Q t=pLen P t) (d:0<pLen P t->pOff Q t=pOff P t) (h:∀j,j<pLen P t->Q[pOff P t+j]?=P[pOff P t+j]?):pData Q t=pData P t:=by
 unfold pData
 rw[hl]
 refine List.ext_getElem? fun j=>?_
 rw[List.getElem?_take,List.getElem?_take]
 by_cases b:j<pLen P t
 ·rw[if_pos b,if_pos b,List.getElem?_drop,List.getElem?_drop,d (by omega)];exact h j b
 ·rw[if_neg b,if_neg b]
theorem Qny {m:List Int}(hl:pLen Q t=m.length) (h:∀j,j<m.length->Q[pOff Q t+j]?=m[j]?):pData Q t=m:=by
 unfold pData
 rw[hl]
 refine List.ext_getElem? fun j=>?_
 rw[List.getElem?_take]
 by_cases b:j<m.length
 ·rw[if_pos b,List.getElem?_drop];exact h j b
 ·rw[if_neg b,List.getElem?_eq_none (by omega)]
theorem Qe7(h:pLen P t=0):pData P t=[]:=by unfold pData;rw[h];rfl
theorem Settled.data(b:Settled P Q) (hl:Lies P) (t:Nat):pData Q t=pData P t :=
 Qd2 (b.plen t) (fun _=>b.off t) (fun j hj=>b.get _ (by have:=hl.behind t (by omega);omega))
def pWipe (P:List Int) (s:Nat):List Int:=pList (layN P (pOff P s) (List.replicate (pLen P s) 0)) s 0 0
theorem Qu8 (P:List Int) (s:Nat):Qi7 P s=pSettle (pWipe P s):=rfl
structure Wiped (P Q:List Int) (s:Nat):Prop where
 len:Q.length=448
 isB:IsB Q
 count:pageCount Q=pageCount P
 off:∀t,pOff Q t=if t=s then 0 else pOff P t
 plen:∀t,pLen Q t=if t=s then 0 else pLen P t
 num:pageNumber Q=pageNumber P
 lsn:pageLSN Q=pageLSN P
 get:∀i,16+4*pageCount P<=i->Q[i]?=if pOff P s<=i/\i<pOff P s+pLen P s then some 0 else P[i]?
theorem Tidy.wipe(h:Tidy P) {s:Nat}(l:0<pLen P s):Wiped P (pWipe P s) s:=by
 have j:s<pageCount P:=by
  rcases Nat.lt_or_ge s (pageCount P) with h1|h1
  ·exact h1
  ·rw[Qb7 h1] at l;omega
 have hc:=h.lies.fit.count
 have b:pOff P s+(List.replicate (pLen P s) (0:Int)).length<=P.length:=by rw[Z7,h.len];exact h.lies.fit.ends s
 have k:=h.lies.behind s l
 have d:=Qae P (pOff P s) (List.replicate (pLen P s) 0) b
 rw[h.len] at d
 refine⟨Qgh d s 0 0 (by omega),Qk5 (Qaw h.isB (Qex _) _) _ _ _,?_,fun t=>?_,fun t=>?_,?_,?_,fun i hi=>?_⟩
 ·unfold pWipe;rw[Qcc d s 0 0 (by omega),Qa9 b k]
 ·unfold pWipe
  rw[Qe5 d s 0 0 (by omega) (by omega),Qem b k,Qa9 b k]
  by_cases e:t=s
  ·rw[if_pos ⟨e,j⟩,if_pos e]
  ·rw[if_neg (fun h=>e h.1),if_neg e]
 ·unfold pWipe
  rw[Qe6 d s 0 0 (by omega) (by omega),Qen b k,Qa9 b k]
  by_cases e:t=s
  ·rw[if_pos ⟨e,j⟩,if_pos e]
  ·rw[if_neg (fun h=>e h.1),if_neg e]
 ·unfold pWipe pageNumber
  rw[Qbq d s 0 0 (by omega) (.inl (by omega)),Qaj b (.inl (by omega))]
 ·unfold pWipe pageLSN
  rw[Qbq d s 0 0 (by omega) (.inl (by omega)),Qaj b (.inl (by omega))]
 ·unfold pWipe
  rw[Qgi d s 0 0 (by omega) i (.inr (by omega)),Qa1 b,Z7]
  by_cases e:pOff P s<=i/\i<pOff P s+pLen P s
  ·rw[if_pos e,if_pos e,List.getElem?_replicate,if_pos (by omega)]
  ·rw[if_neg e,if_neg e]
theorem Tidy.wiped(h:Tidy P) {s:Nat}(m:0<pLen P s):Tidy (pWipe P s):=by
 have b:=h.wipe m
 generalize pWipe P s=Q at *
 refine⟨b.len,b.isB,⟨⟨by rw[b.count];exact h.lies.fit.count,fun t=>?_⟩,fun t d=>?_⟩,fun t d=>?_,fun t=>?_,fun t u k h1 h2=>?_,fun i h1 h2 o=>?_⟩
 ·rw[b.off,b.plen]
  by_cases e:t=s
  ·rw[if_pos e,if_pos e];omega
  ·rw[if_neg e,if_neg e];exact h.lies.fit.ends t
 ·rw[b.plen] at d
  rw[b.count,b.off]
  by_cases e:t=s
  ·rw[if_pos e] at d;omega
  ·rw[if_neg e] at d
   rw[if_neg e];exact h.lies.behind t d
 ·rw[b.plen] at d
  rw[b.off]
  by_cases e:t=s
  ·rw[if_pos e]
  ·rw[if_neg e] at d
   rw[if_neg e];exact h.none t d
 ·rw[b.plen]
  by_cases e:t=s
  ·rw[if_pos e];omega
  ·rw[if_neg e];exact h.small t
 ·rw[b.plen] at h1 h2
  by_cases e:t=s
  ·rw[if_pos e] at h1;omega
  ·by_cases j:u=s
   ·rw[if_pos j] at h2;omega
   ·rw[if_neg e] at h1
    rw[if_neg j] at h2
    rw[b.off,b.off,b.plen,b.plen,if_neg e,if_neg e,if_neg j,if_neg j]
    exact h.apart t u k h1 h2
 ·rw[b.count] at h1
  rw[b.get i h1]
  by_cases e:pOff P s<=i/\i<pOff P s+pLen P s
  ·rw[if_pos e]
  ·rw[if_neg e]
   refine h.zero i h1 h2 (fun t=>?_)
   by_cases l:t=s
   ·subst l;omega
   ·have:=o t
    rw[b.off,b.plen,if_neg l,if_neg l] at this
    exact this
structure Cleared (P Q:List Int) (s:Nat):Prop where
 sound:Sound Q
 plen:∀t,pLen Q t=if t=s then 0 else pLen P t
 count:pageCount Q<=pageCount P
 num:pageNumber Q=pageNumber P
 lsn:pageLSN Q=pageLSN P
 data:∀t,pData Q t=if t=s then [] else pData P t
theorem Tidy.clear(h:Tidy P) {s:Nat}(k:0<pLen P s):Cleared P (Qi7 P s) s:=by
 have b:=h.wipe k
 have i:=h.wiped k
 rw[Qu8]
 have d:=Qek i.len i.isB i.lies.fit.count i.none
 refine⟨i.settle,fun t=>by rw[d.plen,b.plen],?_,d.num.trans b.num,d.lsn.trans b.lsn,fun t=>?_⟩
 ·rw[d.count,<-b.count]
  exact(Qcn _ _).le
 ·by_cases e:t=s
  ·rw[if_pos e];exact Qe7 (by rw[d.plen,b.plen,if_pos e])
  ·rw[if_neg e]
   refine Qd2 (by rw[d.plen,b.plen,if_neg e]) (fun _=>by rw[d.off,b.off,if_neg e]) (fun j hj=>?_)
   have hb:=h.lies.behind t (by omega)
   have hap:=h.apart s t (fun q=>e q.symm) k (by omega)
   rw[d.get _ (by omega),b.get _ (by omega),if_neg (by omega)]
theorem Sound.over {m:List Int}(h:Sound P) {s:Nat}(o:0<pLen P s) (p:m.length=pLen P s) (y:IsB m):Sound (layN P (pOff P s) m)/\pageNumber (layN P (pOff P s) m)=pageNumber P/\pageLSN (layN P (pOff P s) m)=pageLSN P/\∀t,pData (layN P (pOff P s) m) t=if t=s then m else pData P t:=by
 have b:pOff P s+m.length<=P.length:=by rw[p,h.tidy.len];exact h.tidy.lies.fit.ends s
 have k:=h.tidy.lies.behind s o
 have d:=Qem b k
 have hl:=Qen b k
 have r:=Qa9 b k
 refine⟨⟨⟨by rw[Qae _ _ _ b];exact h.tidy.len,Qaw h.tidy.isB y _,h.tidy.lies.laid b k,fun t=>by rw[d,hl];exact h.tidy.none t,fun t=>by rw[hl];exact h.tidy.small t,fun t u l=>by rw[hl,hl,d,d];exact h.tidy.apart t u l,fun i h1 h2 x=>?_⟩,?_⟩,Qaj b (.inl (by omega)),Qaj b (.inl (by omega)),fun t=>?_⟩
 ·rw[r] at h1
  have z:=x s
  rw[d,hl] at z
  rw[Qa1 b,if_neg (by omega)]
  exact h.tidy.zero i h1 h2 (fun t=>by have:=x t;rw[d,hl] at this;exact this)
 ·rw[Qgl hl d,r]
  have:pageLow (layN P (pOff P s) m)=pageLow P:=Qaj b (.inl (by omega))
  rw[this];exact h.head
 ·by_cases e:t=s
  ·subst e
   rw[if_pos rfl]
   refine Qny (by rw[hl,p]) (fun j B=>?_)
   rw[d,Qa1 b,if_pos (by omega),Nat.add_sub_cancel_left]
  ·rw[if_neg e]
   refine Qd2 (hl t) (fun _=>d t) (fun j B=>?_)
   have hap:=h.tidy.apart s t (fun q=>e q.symm) o (by omega)
   rw[Qa1 b,if_neg (by omega)]
def pMore (P:List Int) (s:Nat):List Int:=layN P 12 (leB (max (pageCount P) (s+1)) 2)
def pLaid (P:List Int) (s:Nat) (m:List Int):List Int:=pList (layN (pMore P s) (pageLow P-m.length) m) s (pageLow P-m.length) m.length
theorem Sound.low(h:Sound P) (s:Nat) (b:0<pLen P s):pageLow P<=pOff P s:=by
 have hi:=Qcn P (pageCount P)
 rw[h.head] at hi
 refine hi.low s ?_ b
 rcases Nat.lt_or_ge s (pageCount P) with h1|h1
 ·exact h1
 ·rw[Qb7 h1] at b;omega
theorem Sound.top(h:Sound P):pageLow P<=448:=by
 have hi:=Qcn P (pageCount P)
 rw[h.head] at hi
 exact hi.top
theorem Sound.more(h:Sound P) {s:Nat}(hs:s<40) (hroom:16+4*max (pageCount P) (s+1)<=pageLow P) :
 Tidy (pMore P s)/\pageCount (pMore P s)=max (pageCount P) (s+1)/\(∀t,pOff (pMore P s) t=pOff P t)/\(∀t,pLen (pMore P s) t=pLen P t)/\pageNumber (pMore P s)=pageNumber P/\pageLSN (pMore P s)=pageLSN P/\(∀i,16<=i->(pMore P s)[i]?=P[i]?):=by
 have hc40:=h.tidy.lies.fit.count
 have m:=h.tidy.len
 have htop:=h.top
 have h1:12+(leB (max (pageCount P) (s+1)) 2).length<=P.length:=by rw[Qaa];omega
 have e:∀a k,a+k<=12\/14<=a->pageN (pMore P s) a k=pageN P a k:=fun a k h=>by
  unfold pMore
  rw[Qaj h1 (by rw[Qaa];omega)]
 have j:pageCount (pMore P s)=max (pageCount P) (s+1):=by
  unfold pMore
  show pageN _ _ _=_
  unfold pageN
  rw[Qdh h1 rfl (by rw[Qaa]),Qdl _ 2 2 (Z0 _)]
  exact Nat.mod_eq_of_lt (by omega)
 have o:∀i,14<=i->(pMore P s)[i]?=P[i]?:=fun i hi=>by
  unfold pMore
  rw[Qa1 h1,if_neg (by rw[Qaa];omega)]
 have x:∀i,16+4*pageCount P<=i->i<pageLow P->P[i]?=some 0:=fun i h1 h2=>h.tidy.zero i h1 (by omega) (fun t=>by
  rcases Nat.eq_zero_or_pos (pLen P t) with h0|h0
  ·have:=h.tidy.none t h0;omega
  ·have:=h.low t h0;omega)
 have p:∀a,16+4*pageCount P<=a->a+2<=pageLow P->pageN P a 2=0:=fun a h1 h2=>by
  have z:=x a h1 (by omega)
  have B:=x (a+1) (by omega) (by omega)
  unfold pageN
  show (0+(((P.drop a).take 2).getD 0 0).toNat*2 ^ (8*0))+(((P.drop a).take 2).getD 1 0).toNat*2 ^ (8*1)=0
  rw[Z5,Z5,List.getElem?_take,List.getElem?_take,if_pos (by omega),if_pos (by omega),List.getElem?_drop,List.getElem?_drop,Nat.add_zero,z,B]
  rfl
 have b:∀t,pOff (pMore P s) t=pOff P t:=fun t=>by
  unfold pOff
  rw[j]
  by_cases h2:t<pageCount P
  ·rw[if_pos (by omega),if_pos h2];exact e _ _ (.inr (by omega))
  ·rw[if_neg h2]
   by_cases l:t<max (pageCount P) (s+1)
   ·rw[if_pos l,e _ _ (.inr (by omega))];exact p _ (by omega) (by omega)
   ·rw[if_neg l]
 have d:∀t,pLen (pMore P s) t=pLen P t:=fun t=>by
  unfold pLen
  rw[j]
  by_cases h2:t<pageCount P
  ·rw[if_pos (by omega),if_pos h2];exact e _ _ (.inr (by omega))
  ·rw[if_neg h2]
   by_cases l:t<max (pageCount P) (s+1)
   ·rw[if_pos l,e _ _ (.inr (by omega))];exact p _ (by omega) (by omega)
   ·rw[if_neg l]
 refine⟨⟨by unfold pMore;rw[Qae _ _ _ h1,m],Qaw h.tidy.isB (Qan _ _) _,⟨⟨by rw[j];omega,fun t=>by rw[b,d];exact h.tidy.lies.fit.ends t⟩,fun t y=>?_⟩,fun t=>by rw[b,d];exact h.tidy.none t,fun t=>by rw[d];exact h.tidy.small t,fun t u q=>by rw[d,d,b,b];exact h.tidy.apart t u q,fun i h2 l r=>?_⟩,j,b,d,e _ _ (.inl (by omega)),e _ _ (.inl (by omega)),fun i hi=>o i (by omega)⟩
 ·rw[d] at y
  rw[j,b]
  have:=h.low t y;omega
 ·rw[j] at h2
  rw[o i (by omega)]
  exact h.tidy.zero i (by omega) l (fun t=>by have:=r t;rw[b,d] at this;exact this)
theorem Sound.laid {m:List Int}(h:Sound P) {s:Nat}(G:s<40) (h0:pLen P s=0) (hm0:0<m.length) (I:m.length<=64) (J:IsB m) (hroom:16+4*max (pageCount P) (s+1)+m.length<=pageLow P) :
 Tidy (pLaid P s m)/\pageNumber (pLaid P s m)=pageNumber P/\pageLSN (pLaid P s m)=pageLSN P/\∀t,pData (pLaid P s m) t=if t=s then m else pData P t:=by
 obtain⟨y,E,L,hl,q,r,x⟩:=h.more G (by omega)
 have htop:=h.top
 have l:=h.low
 unfold pLaid
 generalize pMore P s=Q at *
 generalize hat:pageLow P-m.length=a at *
 have d:a+m.length<=Q.length:=by rw[y.len];omega
 have z:16+4*pageCount Q<=a:=by rw[E];omega
 have b:=Qae Q a m d
 rw[y.len] at b
 have M:=Qem d z
 have p:=Qen d z
 have B:=Qa9 d z
 have f1:∀t,pOff (pList (layN Q a m) s a m.length) t=if t=s then a else pOff P t:=fun t=>by
  rw[Qe5 b s a m.length (by omega) (by omega),M,B,L]
  by_cases e:t=s
  ·rw[if_pos ⟨e,by omega⟩,if_pos e]
  ·rw[if_neg (fun h=>e h.1),if_neg e]
 have f2:∀t,pLen (pList (layN Q a m) s a m.length) t=if t=s then m.length else pLen P t:=fun t=>by
  rw[Qe6 b s a m.length (by omega) (by omega),p,B,hl]
  by_cases e:t=s
  ·rw[if_pos ⟨e,by omega⟩,if_pos e]
  ·rw[if_neg (fun h=>e h.1),if_neg e]
 have f3:pageCount (pList (layN Q a m) s a m.length)=max (pageCount P) (s+1):=by rw[Qcc b s a m.length (by omega),B,E]
 have f4:∀i,16+4*max (pageCount P) (s+1)<=i->(pList (layN Q a m) s a m.length)[i]?=if a<=i/\i<a+m.length then m[i-a]? else P[i]?:=fun i hi=>by
  rw[Qgi b s a m.length (by omega) i (.inr (by omega)),Qa1 d,x i (by omega)]
 have f5:pageNumber (pList (layN Q a m) s a m.length)=pageNumber P:=by
  rw[<-q]
  unfold pageNumber
  rw[Qbq b s a m.length (by omega) (.inl (by omega)),Qaj d (.inl (by omega))]
 have f6:pageLSN (pList (layN Q a m) s a m.length)=pageLSN P:=by
  rw[<-r]
  unfold pageLSN
  rw[Qbq b s a m.length (by omega) (.inl (by omega)),Qaj d (.inl (by omega))]
 refine⟨⟨Qgh b s a m.length (by omega),Qk5 (Qaw y.isB J _) _ _ _,⟨⟨by rw[f3];have:=h.tidy.lies.fit.count;omega,fun t=>?_⟩,fun t k=>?_⟩,fun t k=>?_,fun t=>?_,fun t u o h1 h2=>?_,fun i h1 h2 F=>?_⟩,f5,f6,fun t=>?_⟩
 ·rw[f1,f2]
  by_cases e:t=s
  ·rw[if_pos e,if_pos e];omega
  ·rw[if_neg e,if_neg e];exact h.tidy.lies.fit.ends t
 ·rw[f2] at k
  rw[f3,f1]
  by_cases e:t=s
  ·rw[if_pos e];omega
  ·rw[if_neg e] at k
   rw[if_neg e]
   have:=l t k;omega
 ·rw[f2] at k
  rw[f1]
  by_cases e:t=s
  ·rw[if_pos e] at k;omega
  ·rw[if_neg e] at k
   rw[if_neg e];exact h.tidy.none t k
 ·rw[f2]
  by_cases e:t=s
  ·rw[if_pos e];exact I
  ·rw[if_neg e];exact h.tidy.small t
 ·rw[f2] at h1 h2
  rw[f1,f1,f2,f2]
  by_cases e:t=s
  ·subst e
   rw[if_neg (fun e=>o e.symm)] at h2
   rw[if_pos rfl,if_pos rfl,if_neg (fun e=>o e.symm),if_neg (fun e=>o e.symm)]
   have:=l u h2;omega
  ·rw[if_neg e] at h1
   rw[if_neg e,if_neg e]
   by_cases p:u=s
   ·subst p
    rw[if_pos rfl,if_pos rfl]
    have:=l t h1;omega
   ·rw[if_neg p] at h2
    rw[if_neg p,if_neg p]
    exact h.tidy.apart t u o h1 h2
 ·rw[f3] at h1
  have C:=F s
  rw[f1,f2,if_pos rfl,if_pos rfl] at C
  rw[f4 i h1,if_neg (by omega)]
  refine h.tidy.zero i (by omega) h2 (fun t=>?_)
  by_cases D:t=s
  ·subst D
   have:=h.tidy.none t h0;omega
  ·have:=F t
   rw[f1,f2,if_neg D,if_neg D] at this
   exact this
 ·by_cases e:t=s
  ·subst e
   rw[if_pos rfl]
   refine Qny (by rw[f2,if_pos rfl]) (fun j N=>?_)
   rw[f1,if_pos rfl,f4 _ (by omega),if_pos (by omega),Nat.add_sub_cancel_left]
  ·rw[if_neg e]
   refine Qd2 (by rw[f2,if_neg e]) (fun _=>by rw[f1,if_neg e]) (fun j N=>?_)
   have hlt:=l t (by omega)
   rw[f4 _ (by omega),if_neg (by omega)]
def Qcr (P:List Int) (l:List Nat):Nat->List Int
 | 0=>P
 | i+1=>layN (Qcr P l i) (pOff P (l.getD i 0)) (List.replicate (pLen P (l.getD i 0)) 0)
structure Wipes (P Q:List Int):Prop where
 len:Q.length=448
 isB:IsB Q
 lies:Lies Q
 count:pageCount Q=pageCount P
 off:∀t,pOff Q t=pOff P t
 plen:∀t,pLen Q t=pLen P t
 num:pageNumber Q=pageNumber P
 lsn:pageLSN Q=pageLSN P
theorem Wipes.refl(h:Tidy P):Wipes P P:=⟨h.len,h.isB,h.lies,rfl,fun _=>rfl,fun _=>rfl,rfl,rfl⟩
theorem Wipes.one(h:Wipes P Q) {s:Nat}(i:0<pLen P s):Wipes P (layN Q (pOff P s) (List.replicate (pLen P s) 0)):=by
 have e:0<pLen Q s:=by rw[h.plen];exact i
 rw[<-h.off,<-h.plen]
 have b:pOff Q s+(List.replicate (pLen Q s) (0:Int)).length<=Q.length:=by rw[Z7,h.len];exact h.lies.fit.ends s
 have d:=h.lies.behind s e
 exact⟨by rw[Qae _ _ _ b];exact h.len,Qaw h.isB (Qex _) _,h.lies.laid b d,(Qa9 b d).trans h.count,fun t=>(Qem b d t).trans (h.off t),fun t=>(Qen b d t).trans (h.plen t),(Qaj b (.inl (by omega))).trans h.num,(Qaj b (.inl (by omega))).trans h.lsn⟩
theorem Qf3(h:Tidy P) {l:List Nat}(hl:∀s∈l,0<pLen P s) (i:Nat) (hi:i<=l.length):Wipes P (Qcr P l i):=by
 induction i with
 | zero=>exact Wipes.refl h
 | succ i ih =>
   refine(ih (by omega)).one (hl _ ?_)
   rw[Z5,Z3 (by omega)]
   exact List.getElem_mem _
theorem Qsu(h:Tidy P) {l:List Nat}(hl:∀s∈l,0<pLen P s) (k:Nat) (h1:16+4*pageCount P<=k) (h2:k<448) (i:Nat) (hi:i<=l.length) (hk:∀t,(∀j,j<i->l.getD j 0≠t)->k<pOff P t\/pOff P t+pLen P t<=k):(Qcr P l i)[k]?=some 0:=by
 induction i with
 | zero=>exact h.zero k h1 h2 (fun t=>hk t (fun j m=>by omega))
 | succ i ih =>
   have o:=Qf3 h hl i (by omega)
   have hp:0<pLen P (l.getD i 0):=hl _ (by
    rw[Z5,Z3 (by omega)]
    exact List.getElem_mem _)
   have b:pOff P (l.getD i 0)+(List.replicate (pLen P (l.getD i 0)) (0:Int)).length<=(Qcr P l i).length:=by rw[Z7,o.len];exact h.lies.fit.ends _
   show (layN (Qcr P l i) _ _)[k]?=_
   rw[Qa1 b,Z7]
   by_cases e:pOff P (l.getD i 0)<=k/\k<pOff P (l.getD i 0)+pLen P (l.getD i 0)
   ·rw[if_pos e,List.getElem?_replicate,if_pos (by omega)]
   ·rw[if_neg e]
    refine ih (by omega) (fun t p=>?_)
    by_cases d:l.getD i 0=t
    ·subst d;omega
    ·refine hk t (fun j m=>?_)
     by_cases q:j=i
     ·subst q;exact d
     ·exact p j (by omega)
theorem Qp2(h:Tidy P) {l:List Nat}(hl:∀s∈l,0<pLen P s) (t:Nat) (i:Nat) (hi:i<=l.length) (k:∀j,j<i->l.getD j 0≠t):pData (Qcr P l i) t=pData P t:=by
 induction i with
 | zero=>rfl
 | succ i ih =>
   have b:=Qf3 h hl i (by omega)
   have o:0<pLen P (l.getD i 0):=hl _ (by
    rw[Z5,Z3 (by omega)]
    exact List.getElem_mem _)
   have d:pOff P (l.getD i 0)+(List.replicate (pLen P (l.getD i 0)) (0:Int)).length<=(Qcr P l i).length:=by rw[Z7,b.len];exact h.lies.fit.ends _
   have e:=Qf3 h hl (i+1) hi
   rw[<-ih (by omega) (fun j m=>k j (by omega))]
   refine Qd2 ((e.plen t).trans (b.plen t).symm) (fun _=>(e.off t).trans (b.off t).symm) (fun j m=>?_)
   rw[b.plen] at m
   rw[b.off]
   have hap:=h.apart _ t (k i (by omega)) o (by omega)
   show (layN (Qcr P l i) _ _)[_]?=_
   rw[Qa1 d,Z7,if_neg (by omega)]
def sumTo (P:List Int) (l:List Nat):Nat->Nat
 | 0=>0
 | i+1=>sumTo P l i+pLen P (l.getD i 0)
theorem Qox (P:List Int) (l m:List Nat) (i:Nat) (hi:i<=l.length):sumTo P (l++m) i=sumTo P l i:=by
 induction i with
 | zero=>rfl
 | succ i ih =>
   have e:(l++m).getD i 0=l.getD i 0:=by
    rw[Z5,Z5,Y5 (by omega)]
   show sumTo P (l++m) i+pLen P ((l++m).getD i 0)=sumTo P l i+pLen P (l.getD i 0)
   rw[e,ih (by omega)]
theorem Qgs (P:List Int) (q:Nat):sumTo P (Qas P q) (Qas P q).length=usedTo P q:=by
 induction q with
 | zero=>rfl
 | succ q ih =>
   rw[Qf8]
   by_cases h:0<pLen P q
   ·rw[if_pos h,Z6]
    show sumTo P (Qas P q++[q]) (Qas P q).length+pLen P ((Qas P q++[q]).getD (Qas P q).length 0)=usedTo P q+pLen P q
    have e:(Qas P q++[q]).getD (Qas P q).length 0=q:=by
     rw[Z5,Y6 (Z0 _)];simp
    rw[e,Qox _ _ _ _ (Z0 _),ih]
   ·rw[if_neg h,List.append_nil,ih]
    show usedTo P q=usedTo P q+pLen P q
    omega
theorem Qcf (P:List Int) (l:List Nat) {i j:Nat}(h:i<=j):sumTo P l i<=sumTo P l j:=by
 induction j with
 | zero =>
    obtain rfl:i=0:=by omega
    exact Z0 _
 | succ j ih =>
   by_cases e:i=j+1
   ·rw[e];exact Z0 _
   ·exact Y3 (ih (by omega)) (Nat.le_add_right _ _)
def offTo (P:List Int) (l:List Nat):Nat->Nat->Nat
 | 0,t=>pOff P t
 | i+1,t=>if t=l.getD i 0 then 448-sumTo P l (i+1) else offTo P l i t
def Qm6 (l:List Nat):Prop:=∀i j,i<j->j<l.length->l.getD i 0<l.getD j 0
theorem Qb2 (P:List Int) (q:Nat):Qm6 (Qas P q):=by
 intro i j b d
 have h1:List.Pairwise (·<·) (Qas P q):=List.pairwise_lt_range.filter _
 have:=List.pairwise_iff_getElem.1 h1 i j (by omega) d b
 rw[Z5,Z5,Z3 (by omega),Z3 d]
 exact this
theorem Qn0 (P:List Int) {l:List Nat}(b:Qm6 l) (i j:Nat) (hj:j<i) (hi:i<=l.length):offTo P l i (l.getD j 0)=448-sumTo P l (j+1):=by
 induction i with
 | zero=>omega
 | succ i ih =>
   show (if l.getD j 0=l.getD i 0 then 448-sumTo P l (i+1) else offTo P l i (l.getD j 0))=_
   by_cases e:j=i
   ·subst e;rw[if_pos rfl]
   ·have:=b j i (by omega) (by omega)
    rw[if_neg (by omega)]
    exact ih (by omega) (by omega)
theorem Qpg (P:List Int) {l:List Nat}(t:Nat) (b:t ∉ l) (i:Nat) (hi:i<=l.length):offTo P l i t=pOff P t:=by
 induction i with
 | zero=>rfl
 | succ i ih =>
   show (if t=l.getD i 0 then 448-sumTo P l (i+1) else offTo P l i t)=_
   rw[if_neg (fun e=>b (by
    rw[e,Z5,Z3 (by omega)]
    exact List.getElem_mem _))]
   exact ih (by omega)
structure Packs (P R:List Int) (l:List Nat) (i:Nat):Prop where
 len:R.length=448
 isB:IsB R
 count:pageCount R=pageCount P
 plen:∀t,pLen R t=pLen P t
 off:∀t,pOff R t=offTo P l i t
 get:∀k,16+4*pageCount P<=k->k<448-sumTo P l i->R[k]?=some 0
 num:pageNumber R=pageNumber P
 lsn:pageLSN R=pageLSN P
 data:∀j,j<i->pData R (l.getD j 0)=pData P (l.getD j 0)
theorem Qha {q:Nat}(d:t<q) (e:0<pLen P t):∃j,j<(Qas P q).length/\(Qas P q).getD j 0=t:=by
 have h:t∈Qas P q:=List.mem_filter.2 ⟨List.mem_range.2 d,by simpa using e⟩
 obtain⟨j,b,i⟩:=List.mem_iff_getElem.1 h
 exact⟨j,b,by rw[Z5,Z3 b];exact i⟩
theorem Qdr:∀s∈Qab P,0<pLen P s:=fun s b=>(Qcx b).2
theorem Packs.start(h:Tidy P):Packs P (Qcr P (Qab P) (Qab P).length) (Qab P) 0:=by
 have b:=Qf3 h (l:=Qab P) Qdr _ (Z0 _)
 refine⟨b.len,b.isB,b.count,b.plen,b.off,fun k h1 h2=>Qsu h Qdr k h1 h2 _ (Z0 _) (fun t m=>?_),b.num,b.lsn,fun j i=>by omega⟩
 rcases Nat.eq_zero_or_pos (pLen P t) with h0|h0
 ·have:=h.none t h0;omega
 ·have d:t<pageCount P:=by
   rcases Nat.lt_or_ge t (pageCount P) with e|e
   ·exact e
   ·rw[Qb7 e] at h0;omega
  obtain⟨j,i,o⟩:=Qha (P:=P) d h0
  exact absurd o (m j i)
theorem Packs.next {R m:List Int}(h:Tidy P) (hroom:16+4*pageCount P+pUsed P<=448) {i:Nat}(hi:i<(Qab P).length) (l:Packs P R (Qab P) i) {s a:Nat}(y:s=(Qab P).getD i 0) (I:a=448-sumTo P (Qab P) (i+1)) (B:m.length=pLen P s) (C:m=pData P s) (J:IsB m) :
 Packs P (pList (layN R a m) s a m.length) (Qab P) (i+1):=by
 have z:s∈Qab P:=by
  rw[y,Z5,Z3 hi]
  exact List.getElem_mem _
 obtain⟨D,hsp⟩:=Qcx z
 have hc40:=h.lies.fit.count
 have hsum:sumTo P (Qab P) (i+1)=sumTo P (Qab P) i+pLen P s:=by rw[y];rfl
 have hle:sumTo P (Qab P) (i+1)<=pUsed P:=by
  unfold pUsed
  rw[<-Qgs]
  exact Qcf P _ hi
 have b:a+m.length<=R.length:=by rw[l.len,B];omega
 have q:16+4*pageCount R<=a:=by rw[l.count];omega
 have d:=Qae R a m b
 rw[l.len] at d
 have o:s<pageCount (layN R a m):=by rw[Qa9 b q,l.count];exact D
 have hpl:pLen P s<=64:=h.small s
 refine⟨Qgh d s a _ (by omega),Qk5 (Qaw l.isB J _) _ _ _,by rw[Qcc d s a _ (by omega),Qa9 b q,l.count],fun t=>?_,fun t=>?_,fun k h1 h2=>?_,?_,?_,fun j hj=>?_⟩
 ·rw[Qe6 d s a _ (by omega) (by omega),Qen b q,l.plen]
  by_cases e:t=s
  ·rw[if_pos ⟨e,o⟩,e,B]
  ·rw[if_neg (fun h=>e h.1)]
 ·rw[Qe5 d s a _ (by omega) (by omega),Qem b q,l.off]
  show _=if t=(Qab P).getD i 0 then 448-sumTo P (Qab P) (i+1) else offTo P (Qab P) i t
  rw[<-y,<-I]
  by_cases e:t=s
  ·rw[if_pos ⟨e,o⟩,if_pos e]
  ·rw[if_neg (fun h=>e h.1),if_neg e]
 ·rw[Qgi d s a _ (by omega) k (.inr (by omega)),Qa1 b,if_neg (by omega)]
  exact l.get k h1 (by omega)
 ·rw[<-l.num]
  unfold pageNumber
  rw[Qbq d s a _ (by omega) (.inl (by omega)),Qaj b (.inl (by omega))]
 ·rw[<-l.lsn]
  unfold pageLSN
  rw[Qbq d s a _ (by omega) (.inl (by omega)),Qaj b (.inl (by omega))]
 ·have r:∀t,pLen (pList (layN R a m) s a m.length) t=pLen P t:=fun t=>by
   rw[Qe6 d s a _ (by omega) (by omega),Qen b q,l.plen]
   by_cases e:t=s
   ·rw[if_pos ⟨e,o⟩,e,B]
   ·rw[if_neg (fun h=>e h.1)]
  have x:∀t,pOff (pList (layN R a m) s a m.length) t=if t=s then a else pOff R t:=fun t=>by
   rw[Qe5 d s a _ (by omega) (by omega),Qem b q]
   by_cases e:t=s
   ·rw[if_pos ⟨e,o⟩,if_pos e]
   ·rw[if_neg (fun h=>e h.1),if_neg e]
  by_cases e:j=i
  ·subst e
   rw[<-y,<-C]
   refine Qny (by rw[r,B]) (fun k hk=>?_)
   rw[x,if_pos rfl,Qgi d s a _ (by omega) _ (.inr (by rw[l.count] at q;omega)),Qa1 b,if_pos (by omega),Nat.add_sub_cancel_left]
  ·have p:j<i:=by omega
   have E:(Qab P).getD j 0≠s:=by have:=Qb2 P (pageCount P) j i p hi;show (Qab P).getD j 0≠s;rw[y];exact Nat.ne_of_lt this
   rw[<-l.data j p]
   have F:=Qn0 P (Qb2 P (pageCount P)) i j p (Nat.le_of_lt hi)
   have hmono:=Qcf P (Qab P) (show j+1<=i from p)
   refine Qd2 ((r _).trans (l.plen _).symm) (fun _=>by rw[x,if_neg E]) (fun k hk=>?_)
   have G:pOff R ((Qab P).getD j 0)=448-sumTo P (Qab P) (j+1):=by rw[l.off];exact F
   rw[G,Qgi d s a _ (by omega) _ (.inr (by rw[l.count] at q;omega)),Qa1 b,if_neg (by omega)]
theorem Packs.tidy {R:List Int}(h:Tidy P) (hroom:16+4*pageCount P+pUsed P<=448) (e:Packs P R (Qab P) (Qab P).length):Tidy R:=by
 have q:Qm6 (Qab P):=Qb2 P _
 have r:sumTo P (Qab P) (Qab P).length=pUsed P:=Qgs P _
 have l:∀t,0<pLen P t->∃j,j<(Qab P).length/\(Qab P).getD j 0=t:=fun t z=>by
  refine Qha ?_ z
  rcases Nat.lt_or_ge t (pageCount P) with s|s
  ·exact s
  ·rw[Qb7 s] at z;omega
 have b:∀j,j<(Qab P).length->pOff R ((Qab P).getD j 0)=448-sumTo P (Qab P) (j+1):=fun j m=>by
  rw[e.off];exact Qn0 P q _ j m (Z0 _)
 have d:∀j,j<(Qab P).length->sumTo P (Qab P) (j+1)=sumTo P (Qab P) j+pLen P ((Qab P).getD j 0)/\sumTo P (Qab P) (j+1)<=pUsed P:=fun j m=>⟨rfl,by rw[<-r];exact Qcf P _ m⟩
 have o:∀t,pLen R t=0->pOff R t=0:=fun t x=>by
  rw[e.plen] at x
  rw[e.off,Qpg P t (fun B=>by have:=Qdr t B;omega) _ (Z0 _)]
  exact h.none t x
 refine⟨e.len,e.isB,⟨⟨by rw[e.count];exact h.lies.fit.count,fun t=>?_⟩,fun t x=>?_⟩,o,fun t=>by rw[e.plen];exact h.small t,fun t u y h1 h2=>?_,fun k h1 h2 C=>?_⟩
 ·rcases Nat.eq_zero_or_pos (pLen R t) with h0|h0
  ·rw[o t h0,h0];omega
  ·rw[e.plen] at h0 ⊢
   obtain⟨j,m,rfl⟩:=l t h0
   rw[b j m]
   have:=d j m;omega
 ·rw[e.plen] at x
  obtain⟨j,m,rfl⟩:=l t x
  rw[e.count,b j m]
  have:=d j m;omega
 ·rw[e.plen] at h1 h2 ⊢
  rw[e.plen]
  obtain⟨j,m,rfl⟩:=l t h1
  obtain⟨k,hk,rfl⟩:=l u h2
  rw[b j m,b k hk]
  have a1:=d j m
  have a2:=d k hk
  rcases Nat.lt_trichotomy j k with p|p|p
  ·have:=Qcf P (Qab P) (show j+1<=k from p);omega
  ·subst p;exact absurd rfl y
  ·have:=Qcf P (Qab P) (show k+1<=j from p);omega
 ·rw[e.count] at h1
  rcases Nat.lt_or_ge k (448-sumTo P (Qab P) (Qab P).length) with s|s
  ·exact e.get k h1 s
  ·exfalso
   have key:∀i,i<=(Qab P).length->¬(448-sumTo P (Qab P) i<=k):=by
    intro i
    induction i with
    | zero=>intro _ hk;exact absurd hk (by show ¬(448-0<=k);omega)
    | succ i ih =>
      intro hi hk
      have h4:=ih (by omega)
      have D:=C ((Qab P).getD i 0)
      rw[b i (by omega),e.plen] at D
      have:=d i (by omega);omega
   exact key _ (Z0 _) s
structure Packed (P Q:List Int):Prop where
 sound:Sound Q
 plen:∀t,pLen Q t=pLen P t
 count:pageCount Q<=pageCount P
 low:pageLow Q=448-pUsed P
 num:pageNumber Q=pageNumber P
 lsn:pageLSN Q=pageLSN P
 data:∀t,pData Q t=pData P t
theorem Packs.done {R:List Int}(h:Tidy P) (o:16+4*pageCount P+pUsed P<=448) (e:Packs P R (Qab P) (Qab P).length):Packed P (pSettle R):=by
 have p:Qm6 (Qab P):=Qb2 P _
 have d:sumTo P (Qab P) (Qab P).length=pUsed P:=Qgs P _
 have k:∀t,0<pLen P t->∃j,j<(Qab P).length/\(Qab P).getD j 0=t:=fun t z=>by
  refine Qha ?_ z
  rcases Nat.lt_or_ge t (pageCount P) with q|q
  ·exact q
  ·rw[Qb7 q] at z;omega
 have l:∀j,j<(Qab P).length->pOff R ((Qab P).getD j 0)=448-sumTo P (Qab P) (j+1):=fun j i=>by
  rw[e.off];exact Qn0 P p _ j i (Z0 _)
 have hsum:∀j,j<(Qab P).length->sumTo P (Qab P) (j+1)=sumTo P (Qab P) j+pLen P ((Qab P).getD j 0)/\sumTo P (Qab P) (j+1)<=pUsed P:=fun j i=>⟨rfl,by rw[<-d];exact Qcf P _ i⟩
 have hnone:∀t,pLen R t=0->pOff R t=0:=fun t B=>by
  rw[e.plen] at B
  rw[e.off,Qpg P t (fun x=>by have:=Qdr t x;omega) _ (Z0 _)]
  exact h.none t B
 have b:=e.tidy h o
 have r:=Qek b.len b.isB b.lies.fit.count b.none
 refine⟨b.settle,fun t=>(r.plen t).trans (e.plen t),by rw[r.count,<-e.count];exact(Qcn _ _).le,?_,r.num.trans e.num,r.lsn.trans e.lsn,fun t=>?_⟩
 rotate_left
 ·rw[r.data b.lies]
  rcases Nat.eq_zero_or_pos (pLen P t) with h0|h0
  ·rw[Qe7 h0,Qe7 (by rw[e.plen];exact h0)]
  ·obtain⟨j,i,rfl⟩:=k t h0
   exact e.data j i
 rw[r.low,e.count]
 have hi:=Qcn R (pageCount P)
 generalize (headTo R (pageCount P)).2=m at *
 generalize (headTo R (pageCount P)).1=c at *
 rw[<-d]
 have hU:sumTo P (Qab P) (Qab P).length<=448:=by rw[d];omega
 by_cases y:(Qab P).length=0
 ·rw[y]
  show m=448-0
  rcases hi.is with h1|⟨s,h1,h2,q⟩
  ·omega
  ·rw[e.plen] at h2
   obtain⟨j,i,_⟩:=k s h2
   omega
 ·have i:(Qab P).length-1<(Qab P).length:=by omega
  have x:(Qab P).getD ((Qab P).length-1) 0∈Qab P:=by
   rw[Z5,Z3 i]
   exact List.getElem_mem _
  have h1:=hi.low _ (Qcx x).1 (by rw[e.plen];exact(Qcx x).2)
  rw[l _ i,show (Qab P).length-1+1=(Qab P).length by omega] at h1
  rcases hi.is with h2|⟨s,h2,q,C⟩
  ·omega
  ·rw[e.plen] at q
   obtain⟨j,i,rfl⟩:=k s q
   rw[l j i] at C
   have:=Qcf P (Qab P) (show j+1<=(Qab P).length from i)
   omega
structure NV (n0:Nat) (w:World) (τ:Tags) (g:Tag) (v:Value) (ls:List (List Int)):Prop where
 row:∃xs,Buf w τ g 37 1 v ls.length xs/\∀(k:Nat) (x:List Int),ls[k]?=some x->∃u,xs[k]?=some u/\Bytes w τ tData u x
 low:∀k,v.ownBlock=some k->n0<=k
theorem NV.nil (n0:Nat) (w:World) (τ:Tags) (g:Tag):NV n0 w τ g (.slice none 0 0) []:=⟨⟨[],Buf.nil _ _ _ _ _,fun k x h=>by simp at h⟩,fun k hk=>by simp[Value.ownBlock] at hk⟩
theorem NV.step {d:World} {b:Tags} {S:Tag->Prop} {ls:List (List Int)}(h:NV n0 w τ g v ls) (m:Step w τ d b S) (e:¬S g) (hd:¬S tData):NV n0 d b g v ls:=by
 obtain⟨i,j,l⟩:=h.row
 exact⟨⟨i,j.step m e,fun k x hk=>by
  obtain⟨u,h1,h2⟩:=l k x hk
  exact⟨u,h1,h2.step m hd⟩⟩,h.low⟩
theorem NV.alloc {ls:List (List Int)}(h:NV n0 w τ g v ls) (o:Obj):NV n0 (w.alloc o) τ g v ls:=h.step ((Step.refl w τ Go.Proofs.YtemacanaihaldaaGreat.nil).alloc' o) (fun h=>h) (fun h=>h)
theorem NV.val {ls:List (List Int)}(h:NV n0 w τ g v ls):∃p c,v = .slice p ls.length c:=by
 obtain⟨xs,b,-⟩:=h.row
 exact Buf.len b
theorem NV.read {ls:List (List Int)}(h:NV n0 w τ g v ls):∃p c,v = .slice p ls.length c/\ls.length<=maxLen/\∀i,i<ls.length->∃b u,p=some ⟨b,0,none⟩/\w.cell? ⟨b,i,none⟩=some u/\Bytes w τ tData u (ls.getD i []):=by
 obtain⟨xs,⟨h1,⟨rfl,h2⟩|⟨b,cap,ys,rfl,e,h3,h4,h5⟩⟩,j⟩:=h.row
 ·refine⟨none,0,by rw[h2],by rw[h2];exact Z9 _,fun i hi=>by omega⟩
 ·refine⟨_,cap,rfl,by omega,fun i hi=>?_⟩
  obtain⟨u,d,k⟩:=j i (ls.getD i []) (by rw[Z5,Z3 hi];rfl)
  refine⟨b,u,rfl,e.at i ?_,k⟩
  rw[Y5 (Z4 d).1]
  exact d
theorem Qni {s:World} {r:Tags} {S:Tag->Prop}(l:Step s r w τ S) {g:Tag}(R:g≠tData) {v u:Value}{ls:List (List Int)}{x:List Int}(d:NV s.heap.size w τ g v ls) (U:Bytes w τ tData u x) (hsz:ls.length<=1000000000) {k:Nat}
 (hk:w.heap[k]?=some (.cells #[u] 37 (0,0))) (X:TypeId) :
 ∃z m b,(Builtin.append_ #[52,52] X #[v,.slice (some ⟨k,0,none⟩) 1 1]).run Tryz.prog w = .ok z m/\NV s.heap.size m b g z (ls++[x])/\Step s r m b S/\Step w τ m b (fun t=>t=g):=by
 obtain⟨i0,hi,C,D,E⟩:=info_parts Tryz.infoU8s
 obtain⟨B,i,F⟩:=d.row
 obtain⟨p,c,rfl,_⟩:=U.any
 obtain⟨z,m,b,hr,G,Y,Z,I⟩:=Qap (P:=Tryz.prog) w τ g 52 X 37 i0 (.slice none 0 0) 1 24 Tryz.underlying52 hi C D E rfl (by decide) v ls.length B i
  (some ⟨k,0,none⟩) 1 1 [.slice p x.length c] rfl (fun h=>by cases h) (by
    intro ad had;cases had;exact World.news_of_block (cs:=#[.slice p x.length c]) (t := 37) (fr:=(0,0)) hk) (by simp[Value.oneCell']) (by unfold maxLen;omega) (by omega)
 have o:Step w τ m b (fun t=>t=g):=⟨Z.mono (fun k hk J=>(i.own k J).1),Y⟩
 have hxl:B.length=ls.length:=by have:=i.1;omega
 refine⟨z,m,b,hr,⟨⟨B++[.slice p x.length c],by rw[Z6];exact G,fun j y q=>?_⟩,fun k hk=>?_⟩,⟨l.mod.seq Z (fun k hk J=>absurd (d.low k J) (by omega)),l.ext.trans Y l.size⟩,o⟩
 ·by_cases L:j<ls.length
  ·rw[Y5 L] at q
   obtain⟨u,hu,M⟩:=F j y q
   exact⟨u,by rw[Y5 (by omega)];exact hu,M.step o (fun e=>R e.symm)⟩
  ·rw[Y6 (by omega)] at q
   have N:j-ls.length=0:=by
    have:=(Z4 q).1
    simp at this;omega
   rw[N] at q
   have O:x=y:=by simpa using q
   subst O
   exact⟨_,by rw[Y6 (by omega),show j-B.length=0 by omega];rfl,U.step o (fun e=>R e.symm)⟩
 ·rcases I k hk with h|h
  ·exact d.low k h
  ·have:=l.size;omega
theorem Qcv {j:World} {e:Tags} {S:Tag->Prop}(l:Step j e w τ S) {g:Tag}(r:g≠tData) {v u:Value}{ls:List (List Int)}{x:List Int}(i:NV j.heap.size w τ g v ls) (z:Bytes w τ tData u x) (m:ls.length<=1000000000) {kb:Nat}(p:kb=w.heap.size)
 {ops:Array Oper} {rest:List Oper} {o:Oper} {a:Act} {Q:Exit->Act->World->Prop} (q:o.guard=none) (s y:Operand)
 (B:o.op = .call {callee:=.builtin .append,args:=#[s,y],argTypes:=#[52,52]}) (C:a.eval s=v) (D:a.eval y = .slice (some ⟨kb,0,none⟩) 1 1)
 (h:∀k d b,NV j.heap.size d b g k (ls++[x])->Step j e d b S->Step w τ d b (fun t=>t=g)->wpList Tryz.prog ops Q rest (a.put o.dst k) d):wpList Tryz.prog ops Q (o::rest) a (w.alloc (.cells #[u] 37)):=by
 subst p
 refine wpList_plain q fun K E=>?_
 obtain⟨k,d,b,F,h2,G,I⟩:=Qni (l.alloc' (.cells #[u] 37)) r (i.alloc _) (z.alloc _) m (heap_alloc_new w _) o.type
 unfold Oper.wp execOp
 simp only[B,resolve,invoke,builtin,Sem.run_bind,Sem.run_pure,Result.andThen_ok,List.map_toArray,X1,List.map_nil,C,D,F]
 exact E _ _ (h k d b h2 G (((Step.refl w τ _).alloc' _).trans I))
