/-
 Pages: data that lie apart;the head that fits them;settle makes it (plain).
-/
import Derived.Test.YtemacanaihaldaaGreatMInts
set_option linter.all false
namespace Go.Proofs.YtemacanaihaldaaGreat
variable {P Q:List Int}{g:Tag}{n0 t:Nat}{v:Value}{w:World}{τ:Tags}
open Go.RowKit
def headTo (P:List Int):Nat→Nat×Nat
 | 0=>(0,448)
 | q+1=>if 0<pLen P q then (q+1,min (headTo P q).2 (pOff P q)) else headTo P q
theorem Qgl(hl:∀s,pLen Q s=pLen P s) (ho:∀s,pOff Q s=pOff P s) (q:Nat):headTo Q q=headTo P q:=by
 induction q with
 | zero=>rfl
 | succ q ih =>
   show (if 0<pLen Q q then (q+1,min (headTo Q q).2 (pOff Q q)) else headTo Q q)=(if 0<pLen P q then (q+1,min (headTo P q).2 (pOff P q)) else headTo P q)
   rw[ih,hl,ho]
theorem Qo4 (P:List Int) (l m:List Nat) (i:Nat) (hi:i≤l.length):setTo P (l++m) i=setTo P l i:=by
 induction i with
 | zero=>rfl
 | succ i ih =>
   have e:(l++m).getD i 0=l.getD i 0:=by
    rw[List.getD_eq_getElem?_getD,List.getD_eq_getElem?_getD,List.getElem?_append_left (by omega)]
   show ((l++m).getD i 0+1,min (setTo P (l++m) i).2 (pOff P ((l++m).getD i 0)))=(l.getD i 0+1,min (setTo P l i).2 (pOff P (l.getD i 0)))
   rw[e,ih (by omega)]
theorem Qs4 (P:List Int) (q:Nat):setTo P (Qas P q) (Qas P q).length=headTo P q:=by
 induction q with
 | zero=>rfl
 | succ q ih =>
   rw[Qf8]
   by_cases h:0<pLen P q
   ·rw[if_pos h,List.length_append]
    show ((Qas P q++[q]).getD (Qas P q).length 0+1,min (setTo P (Qas P q++[q]) (Qas P q).length).2 (pOff P ((Qas P q++[q]).getD (Qas P q).length 0)))=if 0<pLen P q then (q+1,min (headTo P q).2 (pOff P q)) else headTo P q
    have e:(Qas P q++[q]).getD (Qas P q).length 0=q:=by
     rw[List.getD_eq_getElem?_getD,List.getElem?_append_right (Nat.le_refl _)];simp
    rw[e,Qo4 _ _ _ _ (Nat.le_refl _),ih,if_pos h]
   ·rw[if_neg h,List.append_nil,ih]
    show _=if 0<pLen P q then (q+1,min (headTo P q).2 (pOff P q)) else headTo P q
    rw[if_neg h]
structure HeadIs (P:List Int) (q:Nat) (c m:Nat):Prop where
 le:c≤q
 all:∀s,s<q→0<pLen P s→s<c
 last:c=0∨0<pLen P (c-1)
 low:∀s,s<q→0<pLen P s→m≤pOff P s
 is:m=448∨∃s,s<q∧0<pLen P s∧m=pOff P s
 top:m≤448
theorem Qcn (P:List Int) (q:Nat):HeadIs P q (headTo P q).1 (headTo P q).2:=by
 induction q with
 | zero=>exact⟨Nat.le_refl _,fun s h=>by omega,.inl rfl,fun s h=>by omega,.inl rfl,Nat.le_refl _⟩
 | succ q ih =>
   have e:headTo P (q+1)=if 0<pLen P q then (q+1,min (headTo P q).2 (pOff P q)) else headTo P q:=rfl
   by_cases h:0<pLen P q
   ·rw[e,if_pos h]
    refine⟨Nat.le_refl _,fun s hs _=>hs,.inr (by simpa using h),fun s hs hp=>?_,?_,?_⟩
    ·show min (headTo P q).2 (pOff P q)≤_
     by_cases hq:s=q
     ·subst hq;exact Nat.min_le_right _ _
     ·exact Nat.le_trans (Nat.min_le_left _ _) (ih.low s (by omega) hp)
    ·show min (headTo P q).2 (pOff P q)=448∨_
     rcases Nat.le_total (headTo P q).2 (pOff P q) with hm|hm
     ·rw[Nat.min_eq_left hm]
      rcases ih.is with h1|⟨s,h1,h2,h3⟩
      ·exact .inl h1
      ·exact .inr ⟨s,by omega,h2,h3⟩
     ·rw[Nat.min_eq_right hm]
      exact .inr ⟨q,by omega,h,rfl⟩
    ·exact Nat.le_trans (Nat.min_le_left _ _) ih.top
   ·rw[e,if_neg h]
    refine⟨Nat.le_succ_of_le ih.le,fun s hs hp=>?_,ih.last,fun s hs hp=>?_,?_,ih.top⟩
    ·have:s≠q:=fun e=>h (e▸hp)
     exact ih.all s (by omega) hp
    ·have:s≠q:=fun e=>h (e▸hp)
     exact ih.low s (by omega) hp
    ·rcases ih.is with h1|⟨s,h1,h2,h3⟩
     ·exact .inl h1
     ·exact .inr ⟨s,by omega,h2,h3⟩
theorem Qrc (P:List Int) (c:Nat) (h:∀s,c≤s→¬0<pLen P s) (d:Nat):headTo P (c+d)=headTo P c:=by
 induction d with
 | zero=>rfl
 | succ d ih =>
   show (if 0<pLen P (c+d) then (c+d+1,min (headTo P (c+d)).2 (pOff P (c+d))) else headTo P (c+d))=_
   rw[if_neg (h _ (by omega)),ih]
theorem Qb7 {s:Nat}(h:pageCount P≤s):pLen P s=0:=if_neg (by omega)
theorem Qsa {s:Nat}(h:pageCount P≤s):pOff P s=0:=if_neg (by omega)
structure Tidy (P:List Int):Prop where
 len:P.length=448
 isB:IsB P
 lies:Lies P
 none:∀s,pLen P s=0→pOff P s=0
 small:∀s,pLen P s≤64
 apart:∀s t,s≠t→0<pLen P s→0<pLen P t→pOff P s+pLen P s≤pOff P t∨pOff P t+pLen P t≤pOff P s
 zero:∀i,16+4*pageCount P≤i→i<448→(∀s,i<pOff P s∨pOff P s+pLen P s≤i)→P[i]?=some 0
structure Sound (P:List Int):Prop where
 tidy:Tidy P
 head:headTo P (pageCount P)=(pageCount P,pageLow P)
theorem Qte (P:List Int):pSettle P=layN (layN P 12 (leB (headTo P (pageCount P)).1 2)) 14 (leB (headTo P (pageCount P)).2 2):=by
 unfold pSettle Qab
 rw[Qs4]
theorem Qxo {l:List Int}(h:IsB l) (k:Nat) (hz:leN l k=0) (j:Nat) (hj:j<k):l.getD j 0=0:=by
 induction k with
 | zero=>omega
 | succ k ih =>
   have e:leN l (k+1)=leN l k+(l.getD k 0).toNat*2 ^ (8*k):=rfl
   by_cases hk:j=k
   ·subst hk
    have h1:(l.getD j 0).toNat*2 ^ (8*j)=0:=by omega
    have h2:0<2 ^ (8*j):=Nat.pow_pos (by decide)
    have h3:(l.getD j 0).toNat=0:=by
     rcases Nat.mul_eq_zero.1 h1 with h|h
     ·exact h
     ·omega
    have:=h.at j
    omega
   ·exact ih (by omega) (by omega)
theorem Qmt(h:IsB P) {a k:Nat}(hz:pageN P a k=0) (j:Nat) (hj:j<k) (hl:a+j<P.length):P[a+j]?=some 0:=by
 have h1:=Qxo (l:=(P.drop a).take k) (fun x hx=>h x (List.mem_of_mem_drop (List.mem_of_mem_take hx))) k hz j hj
 rw[List.getD_eq_getElem?_getD,List.getElem?_take,if_pos hj,List.getElem?_drop,List.getElem?_eq_getElem hl] at h1
 rw[List.getElem?_eq_getElem hl]
 exact congrArg some h1
structure Settled (P Q:List Int):Prop where
 len:Q.length=448
 isB:IsB Q
 off:∀s,pOff Q s=pOff P s
 plen:∀s,pLen Q s=pLen P s
 num:pageNumber Q=pageNumber P
 lsn:pageLSN Q=pageLSN P
 count:pageCount Q=(headTo P (pageCount P)).1
 low:pageLow Q=(headTo P (pageCount P)).2
 get:∀i,16≤i→Q[i]?=P[i]?
theorem Qek(hl:P.length=448) (hB:IsB P) (hc:pageCount P≤40) (hn:∀s,pLen P s=0→pOff P s=0):Settled P (pSettle P):=by
 have hi:=Qcn P (pageCount P)
 rw[Qte]
 generalize hce:(headTo P (pageCount P)).1=c at *
 generalize hme:(headTo P (pageCount P)).2=m at *
 have h1:12+(leB c 2).length≤P.length:=by rw[Qaa];omega
 have h2:14+(leB m 2).length≤(layN P 12 (leB c 2)).length:=by rw[Qae _ _ _ h1,Qaa];omega
 have hap:∀a k,a+k≤12∨16≤a→pageN (layN (layN P 12 (leB c 2)) 14 (leB m 2)) a k=pageN P a k:=fun a k h=>by
  rw[Qaj h2 (by rw[Qaa];omega),Qaj h1 (by rw[Qaa];omega)]
 have hcl:=hi.le
 have hct:pageCount (layN (layN P 12 (leB c 2)) 14 (leB m 2))=c:=by
  unfold pageCount
  rw[Qaj h2 (.inl (Nat.le_refl _))]
  unfold pageN
  rw[Qdh h1 rfl (by rw[Qaa]),Qdl c 2 2 (Nat.le_refl _)]
  exact Nat.mod_eq_of_lt (by omega)
 refine⟨by rw[Qae _ _ _ h2,Qae _ _ _ h1,hl],Qaw (Qaw hB (Qan _ _) _) (Qan _ _) _,fun s=>?_,fun s=>?_,hap _ _ (.inl (by omega)),hap _ _ (.inl (by omega)),hct.trans hce.symm,?_,fun i hi=>?_⟩
 ·unfold pOff
  rw[hct]
  by_cases hs:s<c
  ·rw[if_pos hs,if_pos (by omega)]
   exact hap _ _ (.inr (by omega))
  ·rw[if_neg hs]
   by_cases hq:s<pageCount P
   ·rw[if_pos hq]
    have h0:pLen P s=0:=by
     rcases Nat.eq_zero_or_pos (pLen P s) with h|h
     ·exact h
     ·exact absurd (hi.all s hq h) hs
    have:=hn s h0
    unfold pOff at this
    rw[if_pos hq] at this
    exact this.symm
   ·rw[if_neg hq]
 ·have e:pLen P s=if s<pageCount P then pageN P (18+4*s) 2 else 0:=rfl
  by_cases hs:s<c
  ·rw[e,if_pos (by omega)]
   unfold pLen
   rw[hct,if_pos hs]
   exact hap _ _ (.inr (by omega))
  ·unfold pLen
   rw[hct,if_neg hs]
   by_cases hq:s<pageCount P
   ·rcases Nat.eq_zero_or_pos (pLen P s) with h|h
    ·exact h.symm
    ·exact absurd (hi.all s hq h) hs
   ·rw[if_neg hq]
 ·rw[hme]
  unfold pageLow pageN
  rw[Qdh h2 rfl (by rw[Qaa]),Qdl m 2 2 (Nat.le_refl _)]
  have:=hi.top
  exact Nat.mod_eq_of_lt (by omega)
 ·rw[Qa1 h2,if_neg (by rw[Qaa];omega),Qa1 h1,if_neg (by rw[Qaa];omega)]
theorem Tidy.settle(h:Tidy P):Sound (pSettle P):=by
 have hs:=Qek h.len h.isB h.lies.fit.count h.none
 have hi:=Qcn P (pageCount P)
 generalize pSettle P=Q at *
 have hcl:pageCount Q≤pageCount P:=by rw[hs.count];exact hi.le
 refine⟨⟨hs.len,hs.isB,⟨⟨Nat.le_trans hcl h.lies.fit.count,fun s=>by rw[hs.off,hs.plen];exact h.lies.fit.ends s⟩,fun s hp=>?_⟩,fun s=>by rw[hs.off,hs.plen];exact h.none s,fun s=>by rw[hs.plen];exact h.small s,fun s t hst=>by rw[hs.off,hs.plen,hs.off,hs.plen];exact h.apart s t hst,fun i hi1 hi2 hz=>?_⟩,?_⟩
 ·rw[hs.plen] at hp
  rw[hs.off]
  have:=h.lies.behind s hp
  omega
 ·rw[hs.get i (by omega)]
  by_cases hb:16+4*pageCount P≤i
  ·exact h.zero i hb hi2 (fun s=>by have:=hz s;rw[hs.off,hs.plen] at this;exact this)
  ·have hlt:(i-16)/4<pageCount P:=by omega
   have hcq:pageCount Q≤(i-16)/4:=by omega
   have h0:pLen P ((i-16)/4)=0:=by
    rw[←hs.plen];exact Qb7 hcq
   have h1:=h.none _ h0
   have e1:pageN P (16+4*((i-16)/4)) 2=0:=by
    unfold pOff at h1;rw[if_pos hlt] at h1;exact h1
   have e2:pageN P (18+4*((i-16)/4)) 2=0:=by
    unfold pLen at h0;rw[if_pos hlt] at h0;exact h0
   have hl:=h.len
   by_cases hm:i%4<2
   ·have:=Qmt h.isB e1 (i%4) hm (by omega)
    rw[show 16+4*((i-16)/4)+i%4=i by omega] at this
    exact this
   ·have:=Qmt h.isB e2 (i%4-2) (by omega) (by omega)
    rw[show 18+4*((i-16)/4)+(i%4-2)=i by omega] at this
    exact this
 ·rw[Qgl hs.plen hs.off,hs.low]
  have hmore:=Qrc P (pageCount Q) (fun s hc=>by rw[←hs.plen,Qb7 hc];omega) (pageCount P-pageCount Q)
  rw[show pageCount Q+(pageCount P-pageCount Q)=pageCount P by omega] at hmore
  rw[←hmore,hs.count]
theorem Qgi(h:P.length=448) (s o n:Nat) (hs:s≤107) (i:Nat) (hi:i<16+4*s∨20+4*s≤i):(pList P s o n)[i]?=P[i]?:=by
 have h1:16+4*s+(leB o 2).length≤P.length:=by rw[Qaa];omega
 have h2:18+4*s+(leB n 2).length≤(layN P (16+4*s) (leB o 2)).length:=by rw[Qae _ _ _ h1,Qaa];omega
 unfold pList
 rw[Qa1 h2,if_neg (by rw[Qaa];omega),Qa1 h1,if_neg (by rw[Qaa];omega)]
theorem Qk5(h:IsB P) (s o n:Nat):IsB (pList P s o n):=Qaw (Qaw h (Qan _ _) _) (Qan _ _) _
theorem Qex (n:Nat):IsB (List.replicate n 0):=fun x hx=>by rw[List.eq_of_mem_replicate hx];exact⟨by decide,by decide⟩
theorem Qd2(hl:pLen Q t=pLen P t) (ho:0<pLen P t→pOff Q t=pOff P t) (h:∀j,j<pLen P t→Q[pOff P t+j]?=P[pOff P t+j]?):pData Q t=pData P t:=by
 unfold pData
 rw[hl]
 refine List.ext_getElem? fun j=>?_
 rw[List.getElem?_take,List.getElem?_take]
 by_cases hj:j<pLen P t
 ·rw[if_pos hj,if_pos hj,List.getElem?_drop,List.getElem?_drop,ho (by omega)];exact h j hj
 ·rw[if_neg hj,if_neg hj]
theorem Qny {m:List Int}(hl:pLen Q t=m.length) (h:∀j,j<m.length→Q[pOff Q t+j]?=m[j]?):pData Q t=m:=by
 unfold pData
 rw[hl]
 refine List.ext_getElem? fun j=>?_
 rw[List.getElem?_take]
 by_cases hj:j<m.length
 ·rw[if_pos hj,List.getElem?_drop];exact h j hj
 ·rw[if_neg hj,List.getElem?_eq_none (by omega)]
theorem Qe7(h:pLen P t=0):pData P t=[]:=by unfold pData;rw[h];rfl
theorem Settled.data(hs:Settled P Q) (hl:Lies P) (t:Nat):pData Q t=pData P t :=
 Qd2 (hs.plen t) (fun _=>hs.off t) (fun j hj=>hs.get _ (by have:=hl.behind t (by omega);omega))
def pWipe (P:List Int) (s:Nat):List Int:=pList (layN P (pOff P s) (List.replicate (pLen P s) 0)) s 0 0
theorem Qu8 (P:List Int) (s:Nat):Qi7 P s=pSettle (pWipe P s):=rfl
structure Wiped (P Q:List Int) (s:Nat):Prop where
 len:Q.length=448
 isB:IsB Q
 count:pageCount Q=pageCount P
 off:∀t,pOff Q t=if t=s then 0 else pOff P t
 plen:∀t,pLen Q t=if t=s then 0 else pLen P t
 num:pageNumber Q=pageNumber P
 lsn:pageLSN Q=pageLSN P
 get:∀i,16+4*pageCount P≤i→Q[i]?=if pOff P s≤i∧i<pOff P s+pLen P s then some 0 else P[i]?
theorem Tidy.wipe(h:Tidy P) {s:Nat}(hp:0<pLen P s):Wiped P (pWipe P s) s:=by
 have hsc:s<pageCount P:=by
  rcases Nat.lt_or_ge s (pageCount P) with h1|h1
  ·exact h1
  ·rw[Qb7 h1] at hp;omega
 have hc:=h.lies.fit.count
 have hlay:pOff P s+(List.replicate (pLen P s) (0:Int)).length≤P.length:=by rw[List.length_replicate,h.len];exact h.lies.fit.ends s
 have hb:=h.lies.behind s hp
 have hlen:=Qae P (pOff P s) (List.replicate (pLen P s) 0) hlay
 rw[h.len] at hlen
 refine⟨Qgh hlen s 0 0 (by omega),Qk5 (Qaw h.isB (Qex _) _) _ _ _,?_,fun t=>?_,fun t=>?_,?_,?_,fun i hi=>?_⟩
 ·unfold pWipe;rw[Qcc hlen s 0 0 (by omega),Qa9 hlay hb]
 ·unfold pWipe
  rw[Qe5 hlen s 0 0 (by omega) (by omega),Qem hlay hb,Qa9 hlay hb]
  by_cases e:t=s
  ·rw[if_pos ⟨e,hsc⟩,if_pos e]
  ·rw[if_neg (fun h=>e h.1),if_neg e]
 ·unfold pWipe
  rw[Qe6 hlen s 0 0 (by omega) (by omega),Qen hlay hb,Qa9 hlay hb]
  by_cases e:t=s
  ·rw[if_pos ⟨e,hsc⟩,if_pos e]
  ·rw[if_neg (fun h=>e h.1),if_neg e]
 ·unfold pWipe pageNumber
  rw[Qbq hlen s 0 0 (by omega) (.inl (by omega)),Qaj hlay (.inl (by omega))]
 ·unfold pWipe pageLSN
  rw[Qbq hlen s 0 0 (by omega) (.inl (by omega)),Qaj hlay (.inl (by omega))]
 ·unfold pWipe
  rw[Qgi hlen s 0 0 (by omega) i (.inr (by omega)),Qa1 hlay,List.length_replicate]
  by_cases e:pOff P s≤i∧i<pOff P s+pLen P s
  ·rw[if_pos e,if_pos e,List.getElem?_replicate,if_pos (by omega)]
  ·rw[if_neg e,if_neg e]
theorem Tidy.wiped(h:Tidy P) {s:Nat}(hp:0<pLen P s):Tidy (pWipe P s):=by
 have hw:=h.wipe hp
 generalize pWipe P s=Q at *
 refine⟨hw.len,hw.isB,⟨⟨by rw[hw.count];exact h.lies.fit.count,fun t=>?_⟩,fun t ht=>?_⟩,fun t ht=>?_,fun t=>?_,fun t u htu h1 h2=>?_,fun i h1 h2 hz=>?_⟩
 ·rw[hw.off,hw.plen]
  by_cases e:t=s
  ·rw[if_pos e,if_pos e];omega
  ·rw[if_neg e,if_neg e];exact h.lies.fit.ends t
 ·rw[hw.plen] at ht
  rw[hw.count,hw.off]
  by_cases e:t=s
  ·rw[if_pos e] at ht;omega
  ·rw[if_neg e] at ht
   rw[if_neg e];exact h.lies.behind t ht
 ·rw[hw.plen] at ht
  rw[hw.off]
  by_cases e:t=s
  ·rw[if_pos e]
  ·rw[if_neg e] at ht
   rw[if_neg e];exact h.none t ht
 ·rw[hw.plen]
  by_cases e:t=s
  ·rw[if_pos e];omega
  ·rw[if_neg e];exact h.small t
 ·rw[hw.plen] at h1 h2
  by_cases e:t=s
  ·rw[if_pos e] at h1;omega
  ·by_cases e2:u=s
   ·rw[if_pos e2] at h2;omega
   ·rw[if_neg e] at h1
    rw[if_neg e2] at h2
    rw[hw.off,hw.off,hw.plen,hw.plen,if_neg e,if_neg e,if_neg e2,if_neg e2]
    exact h.apart t u htu h1 h2
 ·rw[hw.count] at h1
  rw[hw.get i h1]
  by_cases e:pOff P s≤i∧i<pOff P s+pLen P s
  ·rw[if_pos e]
  ·rw[if_neg e]
   refine h.zero i h1 h2 (fun t=>?_)
   by_cases et:t=s
   ·subst et;omega
   ·have:=hz t
    rw[hw.off,hw.plen,if_neg et,if_neg et] at this
    exact this
structure Cleared (P Q:List Int) (s:Nat):Prop where
 sound:Sound Q
 plen:∀t,pLen Q t=if t=s then 0 else pLen P t
 count:pageCount Q≤pageCount P
 num:pageNumber Q=pageNumber P
 lsn:pageLSN Q=pageLSN P
 data:∀t,pData Q t=if t=s then [] else pData P t
theorem Tidy.clear(h:Tidy P) {s:Nat}(hp:0<pLen P s):Cleared P (Qi7 P s) s:=by
 have hw:=h.wipe hp
 have ht:=h.wiped hp
 rw[Qu8]
 have hs:=Qek ht.len ht.isB ht.lies.fit.count ht.none
 refine⟨ht.settle,fun t=>by rw[hs.plen,hw.plen],?_,hs.num.trans hw.num,hs.lsn.trans hw.lsn,fun t=>?_⟩
 ·rw[hs.count,←hw.count]
  exact(Qcn _ _).le
 ·by_cases e:t=s
  ·rw[if_pos e];exact Qe7 (by rw[hs.plen,hw.plen,if_pos e])
  ·rw[if_neg e]
   refine Qd2 (by rw[hs.plen,hw.plen,if_neg e]) (fun _=>by rw[hs.off,hw.off,if_neg e]) (fun j hj=>?_)
   have hb:=h.lies.behind t (by omega)
   have hap:=h.apart s t (fun q=>e q.symm) hp (by omega)
   rw[hs.get _ (by omega),hw.get _ (by omega),if_neg (by omega)]
theorem Sound.over {m:List Int}(h:Sound P) {s:Nat}(hp:0<pLen P s) (hm:m.length=pLen P s) (hB:IsB m):Sound (layN P (pOff P s) m)∧pageNumber (layN P (pOff P s) m)=pageNumber P∧pageLSN (layN P (pOff P s) m)=pageLSN P∧∀t,pData (layN P (pOff P s) m) t=if t=s then m else pData P t:=by
 have hlay:pOff P s+m.length≤P.length:=by rw[hm,h.tidy.len];exact h.tidy.lies.fit.ends s
 have hb:=h.tidy.lies.behind s hp
 have ho:=Qem hlay hb
 have hl:=Qen hlay hb
 have hc:=Qa9 hlay hb
 refine⟨⟨⟨by rw[Qae _ _ _ hlay];exact h.tidy.len,Qaw h.tidy.isB hB _,h.tidy.lies.laid hlay hb,fun t=>by rw[ho,hl];exact h.tidy.none t,fun t=>by rw[hl];exact h.tidy.small t,fun t u htu=>by rw[hl,hl,ho,ho];exact h.tidy.apart t u htu,fun i h1 h2 hz=>?_⟩,?_⟩,Qaj hlay (.inl (by omega)),Qaj hlay (.inl (by omega)),fun t=>?_⟩
 ·rw[hc] at h1
  have h3:=hz s
  rw[ho,hl] at h3
  rw[Qa1 hlay,if_neg (by omega)]
  exact h.tidy.zero i h1 h2 (fun t=>by have:=hz t;rw[ho,hl] at this;exact this)
 ·rw[Qgl hl ho,hc]
  have:pageLow (layN P (pOff P s) m)=pageLow P:=Qaj hlay (.inl (by omega))
  rw[this];exact h.head
 ·by_cases e:t=s
  ·subst e
   rw[if_pos rfl]
   refine Qny (by rw[hl,hm]) (fun j hj=>?_)
   rw[ho,Qa1 hlay,if_pos (by omega),Nat.add_sub_cancel_left]
  ·rw[if_neg e]
   refine Qd2 (hl t) (fun _=>ho t) (fun j hj=>?_)
   have hap:=h.tidy.apart s t (fun q=>e q.symm) hp (by omega)
   rw[Qa1 hlay,if_neg (by omega)]
def pMore (P:List Int) (s:Nat):List Int:=layN P 12 (leB (max (pageCount P) (s+1)) 2)
def pLaid (P:List Int) (s:Nat) (m:List Int):List Int:=pList (layN (pMore P s) (pageLow P-m.length) m) s (pageLow P-m.length) m.length
theorem Sound.low(h:Sound P) (s:Nat) (hs:0<pLen P s):pageLow P≤pOff P s:=by
 have hi:=Qcn P (pageCount P)
 rw[h.head] at hi
 refine hi.low s ?_ hs
 rcases Nat.lt_or_ge s (pageCount P) with h1|h1
 ·exact h1
 ·rw[Qb7 h1] at hs;omega
theorem Sound.top(h:Sound P):pageLow P≤448:=by
 have hi:=Qcn P (pageCount P)
 rw[h.head] at hi
 exact hi.top
theorem Sound.more(h:Sound P) {s:Nat}(hs:s<40) (hroom:16+4*max (pageCount P) (s+1)≤pageLow P) :
 Tidy (pMore P s)∧pageCount (pMore P s)=max (pageCount P) (s+1)∧(∀t,pOff (pMore P s) t=pOff P t)∧(∀t,pLen (pMore P s) t=pLen P t)∧pageNumber (pMore P s)=pageNumber P∧pageLSN (pMore P s)=pageLSN P∧(∀i,16≤i→(pMore P s)[i]?=P[i]?):=by
 have hc40:=h.tidy.lies.fit.count
 have hlen:=h.tidy.len
 have htop:=h.top
 have h1:12+(leB (max (pageCount P) (s+1)) 2).length≤P.length:=by rw[Qaa];omega
 have hap:∀a k,a+k≤12∨14≤a→pageN (pMore P s) a k=pageN P a k:=fun a k h=>by
  unfold pMore
  rw[Qaj h1 (by rw[Qaa];omega)]
 have hct:pageCount (pMore P s)=max (pageCount P) (s+1):=by
  unfold pMore
  show pageN _ _ _=_
  unfold pageN
  rw[Qdh h1 rfl (by rw[Qaa]),Qdl _ 2 2 (Nat.le_refl _)]
  exact Nat.mod_eq_of_lt (by omega)
 have hgt:∀i,14≤i→(pMore P s)[i]?=P[i]?:=fun i hi=>by
  unfold pMore
  rw[Qa1 h1,if_neg (by rw[Qaa];omega)]
 have hz:∀i,16+4*pageCount P≤i→i<pageLow P→P[i]?=some 0:=fun i h1 h2=>h.tidy.zero i h1 (by omega) (fun t=>by
  rcases Nat.eq_zero_or_pos (pLen P t) with h0|h0
  ·have:=h.tidy.none t h0;omega
  ·have:=h.low t h0;omega)
 have hzn:∀a,16+4*pageCount P≤a→a+2≤pageLow P→pageN P a 2=0:=fun a h1 h2=>by
  have e0:=hz a h1 (by omega)
  have e1:=hz (a+1) (by omega) (by omega)
  unfold pageN
  show (0+(((P.drop a).take 2).getD 0 0).toNat*2 ^ (8*0))+(((P.drop a).take 2).getD 1 0).toNat*2 ^ (8*1)=0
  rw[List.getD_eq_getElem?_getD,List.getD_eq_getElem?_getD,List.getElem?_take,List.getElem?_take,if_pos (by omega),if_pos (by omega),List.getElem?_drop,List.getElem?_drop,Nat.add_zero,e0,e1]
  rfl
 have hoff:∀t,pOff (pMore P s) t=pOff P t:=fun t=>by
  unfold pOff
  rw[hct]
  by_cases h2:t<pageCount P
  ·rw[if_pos (by omega),if_pos h2];exact hap _ _ (.inr (by omega))
  ·rw[if_neg h2]
   by_cases h3:t<max (pageCount P) (s+1)
   ·rw[if_pos h3,hap _ _ (.inr (by omega))];exact hzn _ (by omega) (by omega)
   ·rw[if_neg h3]
 have hpl:∀t,pLen (pMore P s) t=pLen P t:=fun t=>by
  unfold pLen
  rw[hct]
  by_cases h2:t<pageCount P
  ·rw[if_pos (by omega),if_pos h2];exact hap _ _ (.inr (by omega))
  ·rw[if_neg h2]
   by_cases h3:t<max (pageCount P) (s+1)
   ·rw[if_pos h3,hap _ _ (.inr (by omega))];exact hzn _ (by omega) (by omega)
   ·rw[if_neg h3]
 refine⟨⟨by unfold pMore;rw[Qae _ _ _ h1,hlen],Qaw h.tidy.isB (Qan _ _) _,⟨⟨by rw[hct];omega,fun t=>by rw[hoff,hpl];exact h.tidy.lies.fit.ends t⟩,fun t ht=>?_⟩,fun t=>by rw[hoff,hpl];exact h.tidy.none t,fun t=>by rw[hpl];exact h.tidy.small t,fun t u htu=>by rw[hpl,hpl,hoff,hoff];exact h.tidy.apart t u htu,fun i h2 h3 hz2=>?_⟩,hct,hoff,hpl,hap _ _ (.inl (by omega)),hap _ _ (.inl (by omega)),fun i hi=>hgt i (by omega)⟩
 ·rw[hpl] at ht
  rw[hct,hoff]
  have:=h.low t ht;omega
 ·rw[hct] at h2
  rw[hgt i (by omega)]
  exact h.tidy.zero i (by omega) h3 (fun t=>by have:=hz2 t;rw[hoff,hpl] at this;exact this)
theorem Sound.laid {m:List Int}(h:Sound P) {s:Nat}(hs:s<40) (h0:pLen P s=0) (hm0:0<m.length) (hm:m.length≤64) (hB:IsB m) (hroom:16+4*max (pageCount P) (s+1)+m.length≤pageLow P) :
 Tidy (pLaid P s m)∧pageNumber (pLaid P s m)=pageNumber P∧pageLSN (pLaid P s m)=pageLSN P∧∀t,pData (pLaid P s m) t=if t=s then m else pData P t:=by
 obtain⟨ht,hc,ho,hl,hnum,hlsn,hget⟩:=h.more hs (by omega)
 have htop:=h.top
 have hlow:=h.low
 unfold pLaid
 generalize pMore P s=Q at *
 generalize hat:pageLow P-m.length=a at *
 have hlay:a+m.length≤Q.length:=by rw[ht.len];omega
 have hb:16+4*pageCount Q≤a:=by rw[hc];omega
 have hlen:=Qae Q a m hlay
 rw[ht.len] at hlen
 have e1:=Qem hlay hb
 have e2:=Qen hlay hb
 have e3:=Qa9 hlay hb
 have f1:∀t,pOff (pList (layN Q a m) s a m.length) t=if t=s then a else pOff P t:=fun t=>by
  rw[Qe5 hlen s a m.length (by omega) (by omega),e1,e3,ho]
  by_cases e:t=s
  ·rw[if_pos ⟨e,by omega⟩,if_pos e]
  ·rw[if_neg (fun h=>e h.1),if_neg e]
 have f2:∀t,pLen (pList (layN Q a m) s a m.length) t=if t=s then m.length else pLen P t:=fun t=>by
  rw[Qe6 hlen s a m.length (by omega) (by omega),e2,e3,hl]
  by_cases e:t=s
  ·rw[if_pos ⟨e,by omega⟩,if_pos e]
  ·rw[if_neg (fun h=>e h.1),if_neg e]
 have f3:pageCount (pList (layN Q a m) s a m.length)=max (pageCount P) (s+1):=by rw[Qcc hlen s a m.length (by omega),e3,hc]
 have f4:∀i,16+4*max (pageCount P) (s+1)≤i→(pList (layN Q a m) s a m.length)[i]?=if a≤i∧i<a+m.length then m[i-a]? else P[i]?:=fun i hi=>by
  rw[Qgi hlen s a m.length (by omega) i (.inr (by omega)),Qa1 hlay,hget i (by omega)]
 have f5:pageNumber (pList (layN Q a m) s a m.length)=pageNumber P:=by
  rw[←hnum]
  unfold pageNumber
  rw[Qbq hlen s a m.length (by omega) (.inl (by omega)),Qaj hlay (.inl (by omega))]
 have f6:pageLSN (pList (layN Q a m) s a m.length)=pageLSN P:=by
  rw[←hlsn]
  unfold pageLSN
  rw[Qbq hlen s a m.length (by omega) (.inl (by omega)),Qaj hlay (.inl (by omega))]
 refine⟨⟨Qgh hlen s a m.length (by omega),Qk5 (Qaw ht.isB hB _) _ _ _,⟨⟨by rw[f3];have:=h.tidy.lies.fit.count;omega,fun t=>?_⟩,fun t ht1=>?_⟩,fun t ht1=>?_,fun t=>?_,fun t u htu h1 h2=>?_,fun i h1 h2 hz=>?_⟩,f5,f6,fun t=>?_⟩
 ·rw[f1,f2]
  by_cases e:t=s
  ·rw[if_pos e,if_pos e];omega
  ·rw[if_neg e,if_neg e];exact h.tidy.lies.fit.ends t
 ·rw[f2] at ht1
  rw[f3,f1]
  by_cases e:t=s
  ·rw[if_pos e];omega
  ·rw[if_neg e] at ht1
   rw[if_neg e]
   have:=hlow t ht1;omega
 ·rw[f2] at ht1
  rw[f1]
  by_cases e:t=s
  ·rw[if_pos e] at ht1;omega
  ·rw[if_neg e] at ht1
   rw[if_neg e];exact h.tidy.none t ht1
 ·rw[f2]
  by_cases e:t=s
  ·rw[if_pos e];exact hm
  ·rw[if_neg e];exact h.tidy.small t
 ·rw[f2] at h1 h2
  rw[f1,f1,f2,f2]
  by_cases e:t=s
  ·subst e
   rw[if_neg (fun e=>htu e.symm)] at h2
   rw[if_pos rfl,if_pos rfl,if_neg (fun e=>htu e.symm),if_neg (fun e=>htu e.symm)]
   have:=hlow u h2;omega
  ·rw[if_neg e] at h1
   rw[if_neg e,if_neg e]
   by_cases e2:u=s
   ·subst e2
    rw[if_pos rfl,if_pos rfl]
    have:=hlow t h1;omega
   ·rw[if_neg e2] at h2
    rw[if_neg e2,if_neg e2]
    exact h.tidy.apart t u htu h1 h2
 ·rw[f3] at h1
  have hzs:=hz s
  rw[f1,f2,if_pos rfl,if_pos rfl] at hzs
  rw[f4 i h1,if_neg (by omega)]
  refine h.tidy.zero i (by omega) h2 (fun t=>?_)
  by_cases et:t=s
  ·subst et
   have:=h.tidy.none t h0;omega
  ·have:=hz t
   rw[f1,f2,if_neg et,if_neg et] at this
   exact this
 ·by_cases e:t=s
  ·subst e
   rw[if_pos rfl]
   refine Qny (by rw[f2,if_pos rfl]) (fun j hj=>?_)
   rw[f1,if_pos rfl,f4 _ (by omega),if_pos (by omega),Nat.add_sub_cancel_left]
  ·rw[if_neg e]
   refine Qd2 (by rw[f2,if_neg e]) (fun _=>by rw[f1,if_neg e]) (fun j hj=>?_)
   have hlt:=hlow t (by omega)
   rw[f4 _ (by omega),if_neg (by omega)]
def Qcr (P:List Int) (l:List Nat):Nat→List Int
 | 0=>P
 | i+1=>layN (Qcr P l i) (pOff P (l.getD i 0)) (List.replicate (pLen P (l.getD i 0)) 0)
structure Wipes (P Q:List Int):Prop where
 len:Q.length=448
 isB:IsB Q
 lies:Lies Q
 count:pageCount Q=pageCount P
 off:∀t,pOff Q t=pOff P t
 plen:∀t,pLen Q t=pLen P t
 num:pageNumber Q=pageNumber P
 lsn:pageLSN Q=pageLSN P
theorem Wipes.refl(h:Tidy P):Wipes P P:=⟨h.len,h.isB,h.lies,rfl,fun _=>rfl,fun _=>rfl,rfl,rfl⟩
theorem Wipes.one(h:Wipes P Q) {s:Nat}(hp:0<pLen P s):Wipes P (layN Q (pOff P s) (List.replicate (pLen P s) 0)):=by
 have hp':0<pLen Q s:=by rw[h.plen];exact hp
 rw[←h.off,←h.plen]
 have hlay:pOff Q s+(List.replicate (pLen Q s) (0:Int)).length≤Q.length:=by rw[List.length_replicate,h.len];exact h.lies.fit.ends s
 have hb:=h.lies.behind s hp'
 exact⟨by rw[Qae _ _ _ hlay];exact h.len,Qaw h.isB (Qex _) _,h.lies.laid hlay hb,(Qa9 hlay hb).trans h.count,fun t=>(Qem hlay hb t).trans (h.off t),fun t=>(Qen hlay hb t).trans (h.plen t),(Qaj hlay (.inl (by omega))).trans h.num,(Qaj hlay (.inl (by omega))).trans h.lsn⟩
theorem Qf3(h:Tidy P) {l:List Nat}(hl:∀s∈l,0<pLen P s) (i:Nat) (hi:i≤l.length):Wipes P (Qcr P l i):=by
 induction i with
 | zero=>exact Wipes.refl h
 | succ i ih =>
   refine(ih (by omega)).one (hl _ ?_)
   rw[List.getD_eq_getElem?_getD,List.getElem?_eq_getElem (by omega)]
   exact List.getElem_mem _
theorem Qsu(h:Tidy P) {l:List Nat}(hl:∀s∈l,0<pLen P s) (k:Nat) (h1:16+4*pageCount P≤k) (h2:k<448) (i:Nat) (hi:i≤l.length) (hk:∀t,(∀j,j<i→l.getD j 0≠t)→k<pOff P t∨pOff P t+pLen P t≤k):(Qcr P l i)[k]?=some 0:=by
 induction i with
 | zero=>exact h.zero k h1 h2 (fun t=>hk t (fun j hj=>by omega))
 | succ i ih =>
   have hw:=Qf3 h hl i (by omega)
   have hp:0<pLen P (l.getD i 0):=hl _ (by
    rw[List.getD_eq_getElem?_getD,List.getElem?_eq_getElem (by omega)]
    exact List.getElem_mem _)
   have hlay:pOff P (l.getD i 0)+(List.replicate (pLen P (l.getD i 0)) (0:Int)).length≤(Qcr P l i).length:=by rw[List.length_replicate,hw.len];exact h.lies.fit.ends _
   show (layN (Qcr P l i) _ _)[k]?=_
   rw[Qa1 hlay,List.length_replicate]
   by_cases e:pOff P (l.getD i 0)≤k∧k<pOff P (l.getD i 0)+pLen P (l.getD i 0)
   ·rw[if_pos e,List.getElem?_replicate,if_pos (by omega)]
   ·rw[if_neg e]
    refine ih (by omega) (fun t ht=>?_)
    by_cases et:l.getD i 0=t
    ·subst et;omega
    ·refine hk t (fun j hj=>?_)
     by_cases ej:j=i
     ·subst ej;exact et
     ·exact ht j (by omega)
theorem Qp2(h:Tidy P) {l:List Nat}(hl:∀s∈l,0<pLen P s) (t:Nat) (i:Nat) (hi:i≤l.length) (ht:∀j,j<i→l.getD j 0≠t):pData (Qcr P l i) t=pData P t:=by
 induction i with
 | zero=>rfl
 | succ i ih =>
   have hw:=Qf3 h hl i (by omega)
   have hp:0<pLen P (l.getD i 0):=hl _ (by
    rw[List.getD_eq_getElem?_getD,List.getElem?_eq_getElem (by omega)]
    exact List.getElem_mem _)
   have hlay:pOff P (l.getD i 0)+(List.replicate (pLen P (l.getD i 0)) (0:Int)).length≤(Qcr P l i).length:=by rw[List.length_replicate,hw.len];exact h.lies.fit.ends _
   have hw1:=Qf3 h hl (i+1) hi
   rw[←ih (by omega) (fun j hj=>ht j (by omega))]
   refine Qd2 ((hw1.plen t).trans (hw.plen t).symm) (fun _=>(hw1.off t).trans (hw.off t).symm) (fun j hj=>?_)
   rw[hw.plen] at hj
   rw[hw.off]
   have hap:=h.apart _ t (ht i (by omega)) hp (by omega)
   show (layN (Qcr P l i) _ _)[_]?=_
   rw[Qa1 hlay,List.length_replicate,if_neg (by omega)]
def sumTo (P:List Int) (l:List Nat):Nat→Nat
 | 0=>0
 | i+1=>sumTo P l i+pLen P (l.getD i 0)
theorem Qox (P:List Int) (l m:List Nat) (i:Nat) (hi:i≤l.length):sumTo P (l++m) i=sumTo P l i:=by
 induction i with
 | zero=>rfl
 | succ i ih =>
   have e:(l++m).getD i 0=l.getD i 0:=by
    rw[List.getD_eq_getElem?_getD,List.getD_eq_getElem?_getD,List.getElem?_append_left (by omega)]
   show sumTo P (l++m) i+pLen P ((l++m).getD i 0)=sumTo P l i+pLen P (l.getD i 0)
   rw[e,ih (by omega)]
theorem Qgs (P:List Int) (q:Nat):sumTo P (Qas P q) (Qas P q).length=usedTo P q:=by
 induction q with
 | zero=>rfl
 | succ q ih =>
   rw[Qf8]
   by_cases h:0<pLen P q
   ·rw[if_pos h,List.length_append]
    show sumTo P (Qas P q++[q]) (Qas P q).length+pLen P ((Qas P q++[q]).getD (Qas P q).length 0)=usedTo P q+pLen P q
    have e:(Qas P q++[q]).getD (Qas P q).length 0=q:=by
     rw[List.getD_eq_getElem?_getD,List.getElem?_append_right (Nat.le_refl _)];simp
    rw[e,Qox _ _ _ _ (Nat.le_refl _),ih]
   ·rw[if_neg h,List.append_nil,ih]
    show usedTo P q=usedTo P q+pLen P q
    omega
theorem Qcf (P:List Int) (l:List Nat) {i j:Nat}(h:i≤j):sumTo P l i≤sumTo P l j:=by
 induction j with
 | zero =>
    obtain rfl:i=0:=by omega
    exact Nat.le_refl _
 | succ j ih =>
   by_cases e:i=j+1
   ·rw[e];exact Nat.le_refl _
   ·exact Nat.le_trans (ih (by omega)) (Nat.le_add_right _ _)
def offTo (P:List Int) (l:List Nat):Nat→Nat→Nat
 | 0,t=>pOff P t
 | i+1,t=>if t=l.getD i 0 then 448-sumTo P l (i+1) else offTo P l i t
def Qm6 (l:List Nat):Prop:=∀i j,i<j→j<l.length→l.getD i 0<l.getD j 0
theorem Qb2 (P:List Int) (q:Nat):Qm6 (Qas P q):=by
 intro i j hij hj
 have h1:List.Pairwise (·<·) (Qas P q):=List.pairwise_lt_range.filter _
 have:=List.pairwise_iff_getElem.1 h1 i j (by omega) hj hij
 rw[List.getD_eq_getElem?_getD,List.getD_eq_getElem?_getD,List.getElem?_eq_getElem (by omega),List.getElem?_eq_getElem hj]
 exact this
theorem Qn0 (P:List Int) {l:List Nat}(hr:Qm6 l) (i j:Nat) (hj:j<i) (hi:i≤l.length):offTo P l i (l.getD j 0)=448-sumTo P l (j+1):=by
 induction i with
 | zero=>omega
 | succ i ih =>
   show (if l.getD j 0=l.getD i 0 then 448-sumTo P l (i+1) else offTo P l i (l.getD j 0))=_
   by_cases e:j=i
   ·subst e;rw[if_pos rfl]
   ·have:=hr j i (by omega) (by omega)
    rw[if_neg (by omega)]
    exact ih (by omega) (by omega)
theorem Qpg (P:List Int) {l:List Nat}(t:Nat) (ht:t ∉ l) (i:Nat) (hi:i≤l.length):offTo P l i t=pOff P t:=by
 induction i with
 | zero=>rfl
 | succ i ih =>
   show (if t=l.getD i 0 then 448-sumTo P l (i+1) else offTo P l i t)=_
   rw[if_neg (fun e=>ht (by
    rw[e,List.getD_eq_getElem?_getD,List.getElem?_eq_getElem (by omega)]
    exact List.getElem_mem _))]
   exact ih (by omega)
structure Packs (P R:List Int) (l:List Nat) (i:Nat):Prop where
 len:R.length=448
 isB:IsB R
 count:pageCount R=pageCount P
 plen:∀t,pLen R t=pLen P t
 off:∀t,pOff R t=offTo P l i t
 get:∀k,16+4*pageCount P≤k→k<448-sumTo P l i→R[k]?=some 0
 num:pageNumber R=pageNumber P
 lsn:pageLSN R=pageLSN P
 data:∀j,j<i→pData R (l.getD j 0)=pData P (l.getD j 0)
theorem Qha {q:Nat}(ht:t<q) (hp:0<pLen P t):∃j,j<(Qas P q).length∧(Qas P q).getD j 0=t:=by
 have hm:t∈Qas P q:=List.mem_filter.2 ⟨List.mem_range.2 ht,by simpa using hp⟩
 obtain⟨j,hj,he⟩:=List.mem_iff_getElem.1 hm
 exact⟨j,hj,by rw[List.getD_eq_getElem?_getD,List.getElem?_eq_getElem hj];exact he⟩
theorem Qdr:∀s∈Qab P,0<pLen P s:=fun s hs=>(Qcx hs).2
theorem Packs.start(h:Tidy P):Packs P (Qcr P (Qab P) (Qab P).length) (Qab P) 0:=by
 have hw:=Qf3 h (l:=Qab P) Qdr _ (Nat.le_refl _)
 refine⟨hw.len,hw.isB,hw.count,hw.plen,hw.off,fun k h1 h2=>Qsu h Qdr k h1 h2 _ (Nat.le_refl _) (fun t ht=>?_),hw.num,hw.lsn,fun j hj=>by omega⟩
 rcases Nat.eq_zero_or_pos (pLen P t) with h0|h0
 ·have:=h.none t h0;omega
 ·have htc:t<pageCount P:=by
   rcases Nat.lt_or_ge t (pageCount P) with h3|h3
   ·exact h3
   ·rw[Qb7 h3] at h0;omega
  obtain⟨j,hj,he⟩:=Qha (P:=P) htc h0
  exact absurd he (ht j hj)
theorem Packs.next {R m:List Int}(h:Tidy P) (hroom:16+4*pageCount P+pUsed P≤448) {i:Nat}(hi:i<(Qab P).length) (hr:Packs P R (Qab P) i) {s a:Nat}(hs:s=(Qab P).getD i 0) (ha:a=448-sumTo P (Qab P) (i+1)) (hm:m.length=pLen P s) (hmd:m=pData P s) (hB:IsB m) :
 Packs P (pList (layN R a m) s a m.length) (Qab P) (i+1):=by
 have hmem:s∈Qab P:=by
  rw[hs,List.getD_eq_getElem?_getD,List.getElem?_eq_getElem hi]
  exact List.getElem_mem _
 obtain⟨hsc,hsp⟩:=Qcx hmem
 have hc40:=h.lies.fit.count
 have hsum:sumTo P (Qab P) (i+1)=sumTo P (Qab P) i+pLen P s:=by rw[hs];rfl
 have hle:sumTo P (Qab P) (i+1)≤pUsed P:=by
  unfold pUsed
  rw[←Qgs]
  exact Qcf P _ hi
 have hlay:a+m.length≤R.length:=by rw[hr.len,hm];omega
 have hb:16+4*pageCount R≤a:=by rw[hr.count];omega
 have hlen:=Qae R a m hlay
 rw[hr.len] at hlen
 have hsc':s<pageCount (layN R a m):=by rw[Qa9 hlay hb,hr.count];exact hsc
 have hpl:pLen P s≤64:=h.small s
 refine⟨Qgh hlen s a _ (by omega),Qk5 (Qaw hr.isB hB _) _ _ _,by rw[Qcc hlen s a _ (by omega),Qa9 hlay hb,hr.count],fun t=>?_,fun t=>?_,fun k h1 h2=>?_,?_,?_,fun j hj=>?_⟩
 ·rw[Qe6 hlen s a _ (by omega) (by omega),Qen hlay hb,hr.plen]
  by_cases e:t=s
  ·rw[if_pos ⟨e,hsc'⟩,e,hm]
  ·rw[if_neg (fun h=>e h.1)]
 ·rw[Qe5 hlen s a _ (by omega) (by omega),Qem hlay hb,hr.off]
  show _=if t=(Qab P).getD i 0 then 448-sumTo P (Qab P) (i+1) else offTo P (Qab P) i t
  rw[←hs,←ha]
  by_cases e:t=s
  ·rw[if_pos ⟨e,hsc'⟩,if_pos e]
  ·rw[if_neg (fun h=>e h.1),if_neg e]
 ·rw[Qgi hlen s a _ (by omega) k (.inr (by omega)),Qa1 hlay,if_neg (by omega)]
  exact hr.get k h1 (by omega)
 ·rw[←hr.num]
  unfold pageNumber
  rw[Qbq hlen s a _ (by omega) (.inl (by omega)),Qaj hlay (.inl (by omega))]
 ·rw[←hr.lsn]
  unfold pageLSN
  rw[Qbq hlen s a _ (by omega) (.inl (by omega)),Qaj hlay (.inl (by omega))]
 ·have hpl2:∀t,pLen (pList (layN R a m) s a m.length) t=pLen P t:=fun t=>by
   rw[Qe6 hlen s a _ (by omega) (by omega),Qen hlay hb,hr.plen]
   by_cases e:t=s
   ·rw[if_pos ⟨e,hsc'⟩,e,hm]
   ·rw[if_neg (fun h=>e h.1)]
  have hof2:∀t,pOff (pList (layN R a m) s a m.length) t=if t=s then a else pOff R t:=fun t=>by
   rw[Qe5 hlen s a _ (by omega) (by omega),Qem hlay hb]
   by_cases e:t=s
   ·rw[if_pos ⟨e,hsc'⟩,if_pos e]
   ·rw[if_neg (fun h=>e h.1),if_neg e]
  by_cases e:j=i
  ·subst e
   rw[←hs,←hmd]
   refine Qny (by rw[hpl2,hm]) (fun k hk=>?_)
   rw[hof2,if_pos rfl,Qgi hlen s a _ (by omega) _ (.inr (by rw[hr.count] at hb;omega)),Qa1 hlay,if_pos (by omega),Nat.add_sub_cancel_left]
  ·have hji:j<i:=by omega
   have hne:(Qab P).getD j 0≠s:=by have:=Qb2 P (pageCount P) j i hji hi;show (Qab P).getD j 0≠s;rw[hs];exact Nat.ne_of_lt this
   rw[←hr.data j hji]
   have hoj:=Qn0 P (Qb2 P (pageCount P)) i j hji (Nat.le_of_lt hi)
   have hmono:=Qcf P (Qab P) (show j+1≤i from hji)
   refine Qd2 ((hpl2 _).trans (hr.plen _).symm) (fun _=>by rw[hof2,if_neg hne]) (fun k hk=>?_)
   have hoR:pOff R ((Qab P).getD j 0)=448-sumTo P (Qab P) (j+1):=by rw[hr.off];exact hoj
   rw[hoR,Qgi hlen s a _ (by omega) _ (.inr (by rw[hr.count] at hb;omega)),Qa1 hlay,if_neg (by omega)]
theorem Packs.tidy {R:List Int}(h:Tidy P) (hroom:16+4*pageCount P+pUsed P≤448) (hr:Packs P R (Qab P) (Qab P).length):Tidy R:=by
 have hrise:Qm6 (Qab P):=Qb2 P _
 have hsumU:sumTo P (Qab P) (Qab P).length=pUsed P:=Qgs P _
 have hget:∀t,0<pLen P t→∃j,j<(Qab P).length∧(Qab P).getD j 0=t:=fun t hp=>by
  refine Qha ?_ hp
  rcases Nat.lt_or_ge t (pageCount P) with h3|h3
  ·exact h3
  ·rw[Qb7 h3] at hp;omega
 have hoff:∀j,j<(Qab P).length→pOff R ((Qab P).getD j 0)=448-sumTo P (Qab P) (j+1):=fun j hj=>by
  rw[hr.off];exact Qn0 P hrise _ j hj (Nat.le_refl _)
 have hsum:∀j,j<(Qab P).length→sumTo P (Qab P) (j+1)=sumTo P (Qab P) j+pLen P ((Qab P).getD j 0)∧sumTo P (Qab P) (j+1)≤pUsed P:=fun j hj=>⟨rfl,by rw[←hsumU];exact Qcf P _ hj⟩
 have hnone:∀t,pLen R t=0→pOff R t=0:=fun t ht=>by
  rw[hr.plen] at ht
  rw[hr.off,Qpg P t (fun hm=>by have:=Qdr t hm;omega) _ (Nat.le_refl _)]
  exact h.none t ht
 refine⟨hr.len,hr.isB,⟨⟨by rw[hr.count];exact h.lies.fit.count,fun t=>?_⟩,fun t ht=>?_⟩,hnone,fun t=>by rw[hr.plen];exact h.small t,fun t u htu h1 h2=>?_,fun k h1 h2 hz=>?_⟩
 ·rcases Nat.eq_zero_or_pos (pLen R t) with h0|h0
  ·rw[hnone t h0,h0];omega
  ·rw[hr.plen] at h0 ⊢
   obtain⟨j,hj,rfl⟩:=hget t h0
   rw[hoff j hj]
   have:=hsum j hj;omega
 ·rw[hr.plen] at ht
  obtain⟨j,hj,rfl⟩:=hget t ht
  rw[hr.count,hoff j hj]
  have:=hsum j hj;omega
 ·rw[hr.plen] at h1 h2 ⊢
  rw[hr.plen]
  obtain⟨j,hj,rfl⟩:=hget t h1
  obtain⟨k,hk,rfl⟩:=hget u h2
  rw[hoff j hj,hoff k hk]
  have a1:=hsum j hj
  have a2:=hsum k hk
  rcases Nat.lt_trichotomy j k with hjk|hjk|hjk
  ·have:=Qcf P (Qab P) (show j+1≤k from hjk);omega
  ·subst hjk;exact absurd rfl htu
  ·have:=Qcf P (Qab P) (show k+1≤j from hjk);omega
 ·rw[hr.count] at h1
  rcases Nat.lt_or_ge k (448-sumTo P (Qab P) (Qab P).length) with h3|h3
  ·exact hr.get k h1 h3
  ·exfalso
   have key:∀i,i≤(Qab P).length→¬(448-sumTo P (Qab P) i≤k):=by
    intro i
    induction i with
    | zero=>intro _ hk;exact absurd hk (by show ¬(448-0≤k);omega)
    | succ i ih =>
      intro hi hk
      have h4:=ih (by omega)
      have h5:=hz ((Qab P).getD i 0)
      rw[hoff i (by omega),hr.plen] at h5
      have:=hsum i (by omega);omega
   exact key _ (Nat.le_refl _) h3
structure Packed (P Q:List Int):Prop where
 sound:Sound Q
 plen:∀t,pLen Q t=pLen P t
 count:pageCount Q≤pageCount P
 low:pageLow Q=448-pUsed P
 num:pageNumber Q=pageNumber P
 lsn:pageLSN Q=pageLSN P
 data:∀t,pData Q t=pData P t
theorem Packs.done {R:List Int}(h:Tidy P) (hroom:16+4*pageCount P+pUsed P≤448) (hr:Packs P R (Qab P) (Qab P).length):Packed P (pSettle R):=by
 have hrise:Qm6 (Qab P):=Qb2 P _
 have hsumU:sumTo P (Qab P) (Qab P).length=pUsed P:=Qgs P _
 have hget:∀t,0<pLen P t→∃j,j<(Qab P).length∧(Qab P).getD j 0=t:=fun t hp=>by
  refine Qha ?_ hp
  rcases Nat.lt_or_ge t (pageCount P) with h3|h3
  ·exact h3
  ·rw[Qb7 h3] at hp;omega
 have hoff:∀j,j<(Qab P).length→pOff R ((Qab P).getD j 0)=448-sumTo P (Qab P) (j+1):=fun j hj=>by
  rw[hr.off];exact Qn0 P hrise _ j hj (Nat.le_refl _)
 have hsum:∀j,j<(Qab P).length→sumTo P (Qab P) (j+1)=sumTo P (Qab P) j+pLen P ((Qab P).getD j 0)∧sumTo P (Qab P) (j+1)≤pUsed P:=fun j hj=>⟨rfl,by rw[←hsumU];exact Qcf P _ hj⟩
 have hnone:∀t,pLen R t=0→pOff R t=0:=fun t ht=>by
  rw[hr.plen] at ht
  rw[hr.off,Qpg P t (fun hm=>by have:=Qdr t hm;omega) _ (Nat.le_refl _)]
  exact h.none t ht
 have htidy:=hr.tidy h hroom
 have hs:=Qek htidy.len htidy.isB htidy.lies.fit.count htidy.none
 refine⟨htidy.settle,fun t=>(hs.plen t).trans (hr.plen t),by rw[hs.count,←hr.count];exact(Qcn _ _).le,?_,hs.num.trans hr.num,hs.lsn.trans hr.lsn,fun t=>?_⟩
 rotate_left
 ·rw[hs.data htidy.lies]
  rcases Nat.eq_zero_or_pos (pLen P t) with h0|h0
  ·rw[Qe7 h0,Qe7 (by rw[hr.plen];exact h0)]
  ·obtain⟨j,hj,rfl⟩:=hget t h0
   exact hr.data j hj
 rw[hs.low,hr.count]
 have hi:=Qcn R (pageCount P)
 generalize (headTo R (pageCount P)).2=m at *
 generalize (headTo R (pageCount P)).1=c at *
 rw[←hsumU]
 have hU:sumTo P (Qab P) (Qab P).length≤448:=by rw[hsumU];omega
 by_cases hl0:(Qab P).length=0
 ·rw[hl0]
  show m=448-0
  rcases hi.is with h1|⟨s,h1,h2,h3⟩
  ·omega
  ·rw[hr.plen] at h2
   obtain⟨j,hj,_⟩:=hget s h2
   omega
 ·have hj:(Qab P).length-1<(Qab P).length:=by omega
  have hm:(Qab P).getD ((Qab P).length-1) 0∈Qab P:=by
   rw[List.getD_eq_getElem?_getD,List.getElem?_eq_getElem hj]
   exact List.getElem_mem _
  have h1:=hi.low _ (Qcx hm).1 (by rw[hr.plen];exact(Qcx hm).2)
  rw[hoff _ hj,show (Qab P).length-1+1=(Qab P).length by omega] at h1
  rcases hi.is with h2|⟨s,h2,h3,h4⟩
  ·omega
  ·rw[hr.plen] at h3
   obtain⟨j,hj,rfl⟩:=hget s h3
   rw[hoff j hj] at h4
   have:=Qcf P (Qab P) (show j+1≤(Qab P).length from hj)
   omega
structure NV (n0:Nat) (w:World) (τ:Tags) (g:Tag) (v:Value) (ls:List (List Int)):Prop where
 row:∃xs,Buf w τ g 37 1 v ls.length xs∧∀(k:Nat) (x:List Int),ls[k]?=some x→∃u,xs[k]?=some u∧Bytes w τ tData u x
 low:∀k,v.ownBlock=some k→n0≤k
theorem NV.nil (n0:Nat) (w:World) (τ:Tags) (g:Tag):NV n0 w τ g (.slice none 0 0) []:=⟨⟨[],Buf.nil _ _ _ _ _,fun k x h=>by simp at h⟩,fun k hk=>by simp[Value.ownBlock] at hk⟩
theorem NV.step {w':World} {τ':Tags} {S:Tag→Prop} {ls:List (List Int)}(h:NV n0 w τ g v ls) (m:Step w τ w' τ' S) (hs:¬S g) (hd:¬S tData):NV n0 w' τ' g v ls:=by
 obtain⟨xs,hb,hx⟩:=h.row
 exact⟨⟨xs,hb.step m hs,fun k x hk=>by
  obtain⟨u,h1,h2⟩:=hx k x hk
  exact⟨u,h1,h2.step m hd⟩⟩,h.low⟩
theorem NV.alloc {ls:List (List Int)}(h:NV n0 w τ g v ls) (o:Obj):NV n0 (w.alloc o) τ g v ls:=h.step ((Step.refl w τ Go.Proofs.YtemacanaihaldaaGreat.nil).alloc' o) (fun h=>h) (fun h=>h)
theorem NV.val {ls:List (List Int)}(h:NV n0 w τ g v ls):∃p c,v = .slice p ls.length c:=by
 obtain⟨xs,hb,-⟩:=h.row
 exact Buf.len hb
theorem NV.read {ls:List (List Int)}(h:NV n0 w τ g v ls):∃p c,v = .slice p ls.length c∧ls.length≤maxLen∧∀i,i<ls.length→∃b u,p=some ⟨b,0,none⟩∧w.cell? ⟨b,i,none⟩=some u∧Bytes w τ tData u (ls.getD i []):=by
 obtain⟨xs,⟨h1,⟨rfl,h2⟩|⟨b,cap,ys,rfl,ho,h3,h4,h5⟩⟩,hx⟩:=h.row
 ·refine⟨none,0,by rw[h2],by rw[h2];exact Nat.zero_le _,fun i hi=>by omega⟩
 ·refine⟨_,cap,rfl,by omega,fun i hi=>?_⟩
  obtain⟨u,e1,e2⟩:=hx i (ls.getD i []) (by rw[List.getD_eq_getElem?_getD,List.getElem?_eq_getElem hi];rfl)
  refine⟨b,u,rfl,ho.at i ?_,e2⟩
  rw[List.getElem?_append_left (List.getElem?_eq_some_iff.1 e1).1]
  exact e1
theorem Qni {w0:World} {τ0:Tags} {S:Tag→Prop}(hst:Step w0 τ0 w τ S) {g:Tag}(hg:g≠tData) {v u:Value}{ls:List (List Int)}{x:List Int}(hown:NV w0.heap.size w τ g v ls) (hb:Bytes w τ tData u x) (hsz:ls.length≤1000000000) {k:Nat}
 (hk:w.heap[k]?=some (.cells #[u] 37 (0,0))) (ty:TypeId) :
 ∃v' w' τ',(Builtin.append_ #[52,52] ty #[v,.slice (some ⟨k,0,none⟩) 1 1]).run Tryz.prog w = .ok v' w'∧NV w0.heap.size w' τ' g v' (ls++[x])∧Step w0 τ0 w' τ' S∧Step w τ w' τ' (fun t=>t=g):=by
 obtain⟨i0,hi,hz0,hz1,hz2⟩:=info_parts Tryz.infoU8s
 obtain⟨xs,hbuf,hxs⟩:=hown.row
 obtain⟨p,c,rfl,_⟩:=hb.any
 obtain⟨v',w',τ',hr,hb',he,hm,hnw⟩:=Qap (P:=Tryz.prog) w τ g 52 ty 37 i0 (.slice none 0 0) 1 24 Tryz.underlying52 hi hz0 hz1 hz2 rfl (by decide) v ls.length xs hbuf
  (some ⟨k,0,none⟩) 1 1 [.slice p x.length c] rfl (fun h=>by cases h) (by
    intro ad had;cases had;exact World.news_of_block (cs:=#[.slice p x.length c]) (t := 37) (fr:=(0,0)) hk) (by simp[Value.oneCell']) (by unfold maxLen;omega) (by omega)
 have hmd:Step w τ w' τ' (fun t=>t=g):=⟨hm.mono (fun k hk hS=>(hbuf.own k hS).1),he⟩
 have hxl:xs.length=ls.length:=by have:=hbuf.1;omega
 refine⟨v',w',τ',hr,⟨⟨xs++[.slice p x.length c],by rw[List.length_append];exact hb',fun j y hj=>?_⟩,fun k hk=>?_⟩,⟨hst.mod.seq hm (fun k hk hS=>absurd (hown.low k hS) (by omega)),hst.ext.trans he hst.size⟩,hmd⟩
 ·by_cases hlt:j<ls.length
  ·rw[List.getElem?_append_left hlt] at hj
   obtain⟨u,hu,hbu⟩:=hxs j y hj
   exact⟨u,by rw[List.getElem?_append_left (by omega)];exact hu,hbu.step hmd (fun e=>hg e.symm)⟩
  ·rw[List.getElem?_append_right (by omega)] at hj
   have hj0:j-ls.length=0:=by
    have:=(List.getElem?_eq_some_iff.1 hj).1
    simp at this;omega
   rw[hj0] at hj
   have hxy:x=y:=by simpa using hj
   subst hxy
   exact⟨_,by rw[List.getElem?_append_right (by omega),show j-xs.length=0 by omega];rfl,hb.step hmd (fun e=>hg e.symm)⟩
 ·rcases hnw k hk with h|h
  ·exact hown.low k h
  ·have:=hst.size;omega
theorem Qcv {w0:World} {τ0:Tags} {S:Tag→Prop}(hst:Step w0 τ0 w τ S) {g:Tag}(hg:g≠tData) {v u:Value}{ls:List (List Int)}{x:List Int}(hown:NV w0.heap.size w τ g v ls) (hb:Bytes w τ tData u x) (hsz:ls.length≤1000000000) {kb:Nat}(hkb:kb=w.heap.size)
 {ops:Array Oper} {rest:List Oper} {o:Oper} {a:Act} {Q:Exit→Act→World→Prop} (hgd:o.guard=none) (s y:Operand)
 (ho:o.op = .call {callee:=.builtin .append,args:=#[s,y],argTypes:=#[52,52]}) (hs:a.eval s=v) (hy:a.eval y = .slice (some ⟨kb,0,none⟩) 1 1)
 (h:∀v' w' τ',NV w0.heap.size w' τ' g v' (ls++[x])→Step w0 τ0 w' τ' S→Step w τ w' τ' (fun t=>t=g)→wpList Tryz.prog ops Q rest (a.put o.dst v') w'):wpList Tryz.prog ops Q (o::rest) a (w.alloc (.cells #[u] 37)):=by
 subst hkb
 refine wpList_plain hgd fun K hK=>?_
 obtain⟨v',w',τ',hr,h2,h3,h4⟩:=Qni (hst.alloc' (.cells #[u] 37)) hg (hown.alloc _) (hb.alloc _) hsz (heap_alloc_new w _) o.type
 unfold Oper.wp execOp
 simp only[ho,resolve,invoke,builtin,Sem.run_bind,Sem.run_pure,Result.andThen_ok,List.map_toArray,List.map_cons,List.map_nil,hs,hy,hr]
 exact hK _ _ (h v' w' τ' h2 h3 (((Step.refl w τ _).alloc' _).trans h4))
end Go.Proofs.YtemacanaihaldaaGreat