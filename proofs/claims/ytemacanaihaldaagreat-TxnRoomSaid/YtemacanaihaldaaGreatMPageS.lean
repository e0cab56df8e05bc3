/-
 Pages: an empty page is sound;a stamp leaves a page sound (plain).
-/
import Derived.Test.YtemacanaihaldaaGreatMPageN
import Derived.Test.YtemacanaihaldaaGreatMPoolD
set_option maxRecDepth 100000
set_option maxHeartbeats 4000000
set_option linter.all false
namespace Go.Proofs.YtemacanaihaldaaGreat
variable {P:List Int}{g:Tag}{n:Nat}{w:World}{τ:Tags}
open Go.RowKit
theorem Qa2:zeros448.length=448:=Z7
theorem Qog (n:Nat):(emptyPage n).length=448:=by
 unfold emptyPage
 have h1:8+(leB n 4).length<=zeros448.length:=by rw[Qaa,Qa2];omega
 rw[Qae _ _ _ (by rw[Qae _ _ _ h1,Qaa,Qa2];omega),Qae _ _ _ h1,Qa2]
theorem Qoh (n:Nat):IsB (emptyPage n):=Qaw (Qaw Qda (Qan _ _) _) (Qan _ _) _
theorem Qoi (n i:Nat) (hi:16<=i) (h2:i<448):(emptyPage n)[i]?=some 0:=by
 unfold emptyPage
 have h1:8+(leB n 4).length<=zeros448.length:=by rw[Qaa,Qa2];omega
 have b:14+(leB 448 2).length<=(layN zeros448 8 (leB n 4)).length:=by rw[Qae _ _ _ h1,Qaa,Qa2];omega
 rw[Qa1 b,if_neg (by rw[Qaa];omega),Qa1 h1,if_neg (by rw[Qaa];omega)]
 unfold zeros448
 rw[List.getElem?_replicate,if_pos h2]
theorem Qof (n:Nat):pageLow (emptyPage n)=448:=by
 unfold emptyPage
 have h1:8+(leB n 4).length<=zeros448.length:=by rw[Qaa,Qa2];omega
 have b:14+(leB 448 2).length<=(layN zeros448 8 (leB n 4)).length:=by rw[Qae _ _ _ h1,Qaa,Qa2];omega
 unfold pageLow pageN
 rw[Qdh b rfl (by rw[Qaa]),Qdl 448 2 2 (Z0 _)]
theorem Qjo (n:Nat) (hn:n<4294967296):pageNumber (emptyPage n)=n:=by
 unfold emptyPage
 have h1:8+(leB n 4).length<=zeros448.length:=by rw[Qaa,Qa2];omega
 have b:14+(leB 448 2).length<=(layN zeros448 8 (leB n 4)).length:=by rw[Qae _ _ _ h1,Qaa,Qa2];omega
 unfold pageNumber
 rw[Qaj b (.inl (by omega))]
 unfold pageN
 rw[Qdh h1 rfl (by rw[Qaa]),Qdl n 4 4 (Z0 _)]
 exact Nat.mod_eq_of_lt hn
theorem emptyPage_lsn (n:Nat):pageLSN (emptyPage n)=0:=by
 unfold emptyPage
 have h1:8+(leB n 4).length<=zeros448.length:=by rw[Qaa,Qa2];omega
 have b:14+(leB 448 2).length<=(layN zeros448 8 (leB n 4)).length:=by rw[Qae _ _ _ h1,Qaa,Qa2];omega
 unfold pageLSN
 rw[Qaj b (.inl (by omega)),Qaj h1 (.inl (by omega))]
 decide +kernel
theorem Qlq (n:Nat) (hn:n<4294967296):Sound (emptyPage n):=by
 have b:=Qea n hn
 have hl:∀t,pLen (emptyPage n) t=0:=fun t=>Qb7 (by rw[b];exact Z9 _)
 have e:∀t,pOff (emptyPage n) t=0:=fun t=>Qsa (by rw[b];exact Z9 _)
 refine⟨⟨Qog n,Qoh n,⟨Qps n hn,fun s d=>by rw[hl] at d;omega⟩,fun s _=>e s,fun s=>by rw[hl];omega,fun s t _ d=>by rw[hl] at d;omega,fun i h1 h2 _=>Qoi n i (by omega) h2⟩,?_⟩
 rw[b,Qof];rfl
theorem Sound.stamp(h:Sound P) (n:Nat) (hn:n<2 ^ 64):Sound (layN P 0 (leB n 8))/\pageNumber (layN P 0 (leB n 8))=pageNumber P/\pageLSN (layN P 0 (leB n 8))=n/\∀t,pData (layN P 0 (leB n 8)) t=pData P t:=by
 have l:=h.tidy.len
 have h1:0+(leB n 8).length<=P.length:=by rw[Qaa];omega
 have b:∀a k,8<=a->pageN (layN P 0 (leB n 8)) a k=pageN P a k:=fun a k h=>Qaj h1 (.inr (by rw[Qaa];omega))
 have e:pageCount (layN P 0 (leB n 8))=pageCount P:=b _ _ (by omega)
 have d:∀t,pOff (layN P 0 (leB n 8)) t=pOff P t:=fun t=>by
  unfold pOff;rw[e,b _ _ (by omega)]
 have hl:∀t,pLen (layN P 0 (leB n 8)) t=pLen P t:=fun t=>by
  unfold pLen;rw[e,b _ _ (by omega)]
 refine⟨⟨⟨by rw[Qae _ _ _ h1,l],Qaw h.tidy.isB (Qan _ _) _,⟨⟨by rw[e];exact h.tidy.lies.fit.count,fun t=>by rw[d,hl];exact h.tidy.lies.fit.ends t⟩,fun t=>by rw[d,hl,e];exact h.tidy.lies.behind t⟩,fun t=>by rw[d,hl];exact h.tidy.none t,fun t=>by rw[hl];exact h.tidy.small t,fun t u m=>by rw[hl,hl,d,d];exact h.tidy.apart t u m,fun i h2 o p=>?_⟩,?_⟩,b _ _ (by omega),?_,fun t=>Qd2 (hl t) (fun _=>d t) (fun j hj=>?_)⟩
 ·rw[e] at h2
  rw[Qa1 h1,if_neg (by rw[Qaa];omega)]
  exact h.tidy.zero i h2 o (fun t=>by have:=p t;rw[d,hl] at this;exact this)
 ·rw[Qgl hl d,e,h.head]
  have:pageLow (layN P 0 (leB n 8))=pageLow P:=b _ _ (by omega)
  rw[this]
 ·unfold pageLSN pageN
  rw[Qdh h1 rfl (by rw[Qaa]),Qdl n 8 8 (Z0 _)]
  exact Nat.mod_eq_of_lt hn
 ·have hb:=h.tidy.lies.behind t (by omega)
  rw[Qa1 h1,if_neg (by rw[Qaa];omega)]
theorem Qp5 {c:Nat}(h:∀s,c<=s->pLen P s=0) (d:Nat):usedTo P (c+d)=usedTo P c:=by
 induction d with
 | zero=>rfl
 | succ d ih=>show usedTo P (c+d)+pLen P (c+d)=_;rw[ih,h _ (by omega)];omega
theorem Qsv {Q:List Int} {s:Nat}(hl:∀t,pLen Q t=if t=s then 0 else pLen P t) (q:Nat):usedTo Q q+(if s<q then pLen P s else 0)=usedTo P q:=by
 induction q with
 | zero=>rfl
 | succ q ih =>
   show usedTo Q q+pLen Q q+_=usedTo P q+pLen P q
   rw[hl]
   by_cases e:q=s
   ·subst e
    rw[if_pos rfl,if_pos (by omega)]
    rw[if_neg (by omega)] at ih
    omega
   ·rw[if_neg e]
    by_cases b:s<q
    ·rw[if_pos b] at ih
     rw[if_pos (by omega)];omega
    ·rw[if_neg b] at ih
     rw[if_neg (by omega)];omega
theorem Qqx {Q:List Int} {s:Nat}(h:Cleared P Q s) (d:0<pLen P s):pUsed Q+pLen P s=pUsed P:=by
 have b:s<pageCount P:=by
  rcases Nat.lt_or_ge s (pageCount P) with h1|h1
  ·exact h1
  ·rw[Qb7 h1] at d;omega
 have h1:=Qsv h.plen (pageCount P)
 rw[if_pos b] at h1
 have h2:=Qp5 (P:=Q) (c:=pageCount Q) (fun t e=>Qb7 e) (pageCount P-pageCount Q)
 rw[show pageCount Q+(pageCount P-pageCount Q)=pageCount P by have:=h.count;omega] at h2
 unfold pUsed
 omega
def tAll:Tag:=(93,0)
theorem Qtg (P:List Int) (o n:Nat):over (u8s P) o (u8s (List.replicate n 0))=u8s (layN P o (List.replicate n 0)):=by
 have:=Qby P (List.replicate n 0) o n (by rw[Z7])
 rw[List.take_of_length_le (by rw[Z7];exact Z0 _)] at this
 exact this
theorem Qme {l:List (List Int)} {x:List Int} {j:Nat}(h:j<l.length):(l++[x]).getD j []=l.getD j []:=by
 rw[Z5,Z5,Y5 h]
theorem Qmf {l:List (List Int)} {x:List Int} {j:Nat}(h:j=l.length):(l++[x]).getD j []=x:=by
 subst h
 rw[Z5,Y6 (Z0 _),Nat.sub_self];rfl
theorem Qk4 {b:Nat}(hg:g≠tOut/\g≠tData/\g≠tAll) (h:PageAt w τ g b P) (E:Tidy P) (z:16+4*pageCount P+pUsed P<=448) :
 Calls Tryz.prog 198 #[.pointer (some ⟨b,0,none⟩)] w fun e w'=>e = .returned (.tuple #[])/\∃Q bp,PageAt w' bp g b Q/\Packed P Q/\Step w τ w' bp (fun t=>t=g):=by
 have h1:=Qfl h E.lies.fit
 have hc:=E.lies.fit.count
 have ap:∀i,i<(Qab P).length->(Qab P).getD i 0<pageCount P/\0<pLen P ((Qab P).getD i 0):=fun i hi=>by
  have hm:(Qab P).getD i 0∈Qab P:=by
   rw[Z5,Z3 hi]
   exact List.getElem_mem _
  exact Qcx hm
 have bq:∀i,i<=(Qab P).length->Wipes P (Qcr P (Qab P) i):=fun i hi=>Qf3 E Qdr i hi
 have bs:∀i,Qcr P (Qab P) (i+1)=layN (Qcr P (Qab P) i) (pOff P ((Qab P).getD i 0)) (List.replicate (pLen P ((Qab P).getD i 0)) 0):=fun i=>rfl
 have bv:Qcr P (Qab P) 0=P:=rfl
 have J:=E.lies.fit.ends
 have aq:=Packs.start E
 have y:∀(R m:List Int) (i:Nat),i<(Qab P).length->Packs P R (Qab P) i->m=pData P ((Qab P).getD i 0)->IsB m->Packs P (pList (layN R (448-sumTo P (Qab P) (i+1)) m) ((Qab P).getD i 0) (448-sumTo P (Qab P) (i+1)) m.length) (Qab P) (i+1) :=
  fun R m i hi hr hm hB=>hr.next E z hi rfl rfl (by rw[hm];exact Qbm E.lies.fit E.len _) hm hB
 have bw:∀i,i<(Qab P).length->pData (Qcr P (Qab P) i) ((Qab P).getD i 0)=pData P ((Qab P).getD i 0):=fun i hi=>Qp2 E Qdr _ i (Nat.le_of_lt hi) (fun j hj=>Nat.ne_of_lt (Qb2 P (pageCount P) j i hj hi))
 have ar:∀s,(pData P s).length=pLen P s:=fun s=>Qbm E.lies.fit E.len s
 have av:∀R,Packs P R (Qab P) (Qab P).length->Tidy R/\Packed P (pSettle R):=fun R hr=>⟨hr.tidy E z,hr.done E z⟩
 have aw:∀i,i<(Qab P).length->sumTo P (Qab P) (i+1)=sumTo P (Qab P) i+pLen P ((Qab P).getD i 0)/\16+4*pageCount P+sumTo P (Qab P) (i+1)<=448:=fun i hi=>by
  refine⟨rfl,?_⟩
  have h1:sumTo P (Qab P) (i+1)<=sumTo P (Qab P) (Qab P).length:=Qcf P _ hi
  have h2:sumTo P (Qab P) (Qab P).length=pUsed P:=Qgs P _
  omega
 have bz:=Qes P (pageCount P)
 have hsl2:(Qab P).length<=40:=Y3 bz hc
 generalize hl:Qab P=l at *
 generalize hn:l.length=n at *
 obtain⟨H1,ax,c3,dr,b8,c4,L,c5,c6,Hn,Hl,dt⟩:=hid12 h1 ap bq bs J aq y av aw hn hl bv
 obtain⟨dv,c7⟩:=hid2 bw ar
 clear h1 ap bq bs J aq y av aw hn hl bv bw ar
 obtain⟨dw,Ht⟩:=hid2 h E
 clear h E z bz
 obtain⟨ai,c8,b9⟩:=hg
 go_enter Tryz.func198,Tryz.ntmps198
 go_wp2_with fail
 refine H1.out.mono ?_
 rintro e w1 ⟨v1,τ1,rfl,bb,c9⟩
 obtain⟨p1,c1,dx,dy,-⟩:=bb.buf.read
 subst dx
 rw[Hn.out] at dy
 have cb:=Hn.out
 obtain⟨cc,cd⟩:=hid2 bb c9
 clear bb c9 H1
 rw[cb]
 clear cb
 go_wp2_with fail
 go_loopw [3,15] (fun m v wr=>∃(i:Nat) (p:Tags) (ds:List (List Int)),i<=n/\v = .int .i64 (i:Int)/\ds.length=i/\(∀j,j<i->ds.getD j []=pData P (l.getD j 0))/\NV w1.heap.size wr p tAll m ds/\PageAt wr p g b (Qcr P l i)/\Step w1 τ1 wr p (fun t=>t=g)) (fun _ v _=>n-(intOf v).toNat)
 case atStart=>exact⟨0,τ1,[],Z9 _,rfl,rfl,fun j hj=>by omega,NV.nil _ _ _ _,by rw[dt.out];exact dw.out.step cd.out (fun h=>h),Step.refl _ _ _⟩
 case round =>
  obtain⟨i,p,ds,hi,rfl,M,aj,N,q,O⟩:=hrel
  by_cases r:i<n
  ·obtain⟨p',c',U,_,X⟩:=(cc.out.step O (fun e=>ai e.symm)).buf.read
   rw[Hn.out] at U
   cases U
   obtain⟨br,rfl,bc⟩:=X i (by rw[Hn.out];exact r)
   clear X
   obtain⟨ay,I⟩:=ax.out i r
   have hw:=c3.out i hi
   have ce:=dr.out i
   have dz:=b8.out (l.getD i 0)
   have Y:=Qi5 q hw.lies.fit (l.getD i 0) (by omega) tData
   have F:=Qbm hw.lies.fit hw.len (l.getD i 0)
   have be:=hw.plen (l.getD i 0)
   have cf:=hw.off (l.getD i 0)
   have Z:=fun (W:World) (T:Tags) (hp:PageAt W T g b (Qcr P l i))=>Qbx hp hw.lies.fit (l.getD i 0) (by omega)
   rw[be] at Y F
   simp only[be,cf] at Z
   have cg:=c3.out (i+1) r
   generalize hQ:Qcr P l i=Q at *
   generalize e0:Qcr P l (i+1)=Qn at *
   generalize hs:l.getD i 0=s at *
   have a1:=dv.out i r
   rw[hQ,hs] at a1
   generalize ci:pData Q s=x at *
   generalize bf:pLen P s=len at *
   generalize pOff P s=o at *
   have cj:ds.length<=1000000000:=by omega
   have bg:=Qtg Q o len
   rw[<-ce] at bg
   obtain⟨pm,cm,rfl⟩:=N.val
   have hln0:¬len=0:=by omega
   have hln1:¬(len:Int)=0:=by omega
   obtain⟨az,ck,ak,a6,al,Hdlen,e1,e2,cn,bh,C,co⟩:=hid12 Y Z N q O F cj bg cg aj M a1
   have Hxx:=Z2 ci
   clear Y Z N q O F cj bg cg aj M a1 ci hw ce be cf
   go_wp2_with fail
   refine az.out.mono ?_
   rintro e w2 ⟨u,bi,rfl,B,am⟩
   obtain⟨pu,cu,rfl,-,-⟩:=B.any
   have d:=al.out.trans (am.mono (T:=fun t=>t=g) (fun _ h=>h.elim))
   have b0:=ak.out.step am (fun h=>h) (fun h=>h)
   have b1:=a6.out.step am (fun h=>h)
   obtain⟨e3,D,cp,cq⟩:=hid4 B d b0 b1
   clear B d b0 b1 am az
   go_wp2_with (at_builtin;refine Qcv D.out (by decide) cp.out e3.out e1.out rfl rfl _ _ rfl rfl rfl ?_;intro v3 w3 cr b2 b3 a7;have a8:=cq.out.step a7 (fun h=>b9 h);have cs:=ck.out _ _ a8;obtain⟨ct,cv,b4,e4⟩:=hid4 b2 b3 a8 cs;clear b2 b3 a8 cs;clear a7)
   refine e4.out.mono ?_
   rintro e w4 ⟨o',rfl,e5,rfl⟩
   obtain rfl:=e5 I
   have G:=b4.out.own
   have cw:=fun (c:Nat) (ty:TypeId)=>Qht G I (off:=o') (by rw[Qac,b4.out.len];exact dz) (c:=c) ty
   rw[e2.out] at cw
   have aa:=Z2 G
   clear G
   go_wp2_with fail
   go_round
   case rel =>
    have hq:=(Step.refl w3 cr (fun t=>t=g)).row aa.out.tag (.inl rfl) (u8s Qn).toArray
    refine⟨i+1,cr,ds++[x],by omega,by simp,by rw[Z6,C.out];rfl,fun j hj=>?_,ct.out.step hq (fun h=>b9 h.symm) (fun h=>c8 h.symm),?_,cv.out.trans hq⟩
    ·by_cases e:j<ds.length
     ·rw[Qme e];exact bh.out j (by rw[<-C.out];exact e)
     ·have ej:j=i:=by have:=C.out;omega
      rw[Qmf (by have:=C.out;omega),ej,hs];exact co.out
    ·rw[e0]
     exact⟨aa.out.row' _,cn.out.isB,cn.out.len⟩
   case measure=>simp[intOf];omega
  ·have e6:i=n:=by omega
   subst e6
   obtain⟨ak,a6,al,bh,C⟩:=hid5 N q O aj M
   clear N q O aj M
   generalize hwr:wr=w2 at *
   generalize hτr:p=bi at *
   obtain⟨pm,cm,rfl⟩:=ak.out.val
   rw[C.out]
   go_wp2_with fail
   go_loopw [8,35] (fun a v wr=>∃(k:Nat) (p:Tags) (R:List Int),k<=i/\v = .int .i64 (k:Int)/\a = .int .i64 ((448-sumTo P l k:Nat):Int)/\Packs P R l k/\PageAt wr p g b R/\Step w2 bi wr p (fun t=>t=g)) (fun _ v _=>i-(intOf v).toNat)
   case atStart=>exact⟨0,bi,_,Z9 _,rfl,rfl,c4.out,a6.out,Step.refl _ _ _⟩
   case round =>
    obtain⟨k,p,R,hk,rfl,rfl,an,q,d⟩:=hrel
    by_cases r:k<i
    ·obtain⟨p',c',U,_,X⟩:=((cc.out.step al.out (fun e=>ai e.symm)).step d (fun e=>ai e.symm)).buf.read
     rw[Hn.out] at U
     cases U
     obtain⟨br,rfl,bc⟩:=X k (by rw[Hn.out];exact r)
     clear X
     obtain⟨pa,ca,e7,-,cx⟩:=(ak.out.step d (fun e=>b9 e.symm) (fun e=>c8 e.symm)).read
     cases e7
     obtain⟨ba,u,rfl,e8,B⟩:=cx k (by rw[C.out];exact r)
     clear cx
     obtain⟨pu,cu,rfl,-,-⟩:=B.any
     have ao:=bh.out k r
     have ab:=ao
     replace ab:(ds.getD k []).length=pLen P (l.getD k 0):=by rw[ao];exact c7.out _
     have bj:=B.isB
     obtain⟨ay,I⟩:=ax.out k r
     obtain⟨cy,cz⟩:=c6.out k r
     have y:=L.out R (ds.getD k []) k r an ao bj
     rw[ab] at e8 B y
     generalize hm:ds.getD k []=m at *
     generalize hs:l.getD k 0=s at *
     have ac:=an.len
     have hsml:pLen P s<=64:=Ht.out.small s
     generalize bf:pLen P s=len at *
     generalize da:448-sumTo P l k=x at *
     generalize db:448-sumTo P l (k+1)=a at *
     have hax:((x:Nat):Int)-(len:Int)=((a:Nat):Int):=by omega
     have ad:a+len<=448:=by omega
     have hle:a<=448:=by omega
     have hlei:(a:Int)<=448:=by omega
     have hne:¬a=448:=by omega
     have hne':¬448=a:=by omega
     have b5:len=Nat.min m.length (448-a):=by rw[ab];exact(Nat.min_eq_left (by omega)).symm
     have dc:a+len<=(u8s R).length:=by rw[Qac,q.len];exact ad
     have b6:=(Step.refl wr p (fun t=>t=g)).drew
     have dd:=q.own.drew
     have de:=B.drew
     have df:s<=107:=by omega
     have M:=C.out
     clear ao
     obtain⟨L,dh,e9,a6,D,di,ea,dj,eb,ec,ae,Hm⟩:=hid12 y ab bj q d b5 dc b6 dd de ac hm
     obtain⟨Hs,Hln,Hx0,ed⟩:=hid4 hs bf da db
     clear y ab bj q d b5 dc b6 dd de ac hm hs bf da db an cy cz ay I B
     go_wp2_with fail
     go_region_law (first
      | (refine Qbb dj.out eb.out (.inl rfl) ec.out len di.out ea.out rfl _ _ rfl rfl rfl ?_
         intro w3 bk a7 ee
         rw[Qby _ _ _ _ dh.out.symm] at bk
         have dk:=Qej a7 (.inl rfl) ⟨bk,Qaw a6.out.isB e9.out a,by rw[Qae _ _ _ (by rw[dh.out,ae.out];exact ad)];exact ae.out⟩ s a len df (by omega) (by omega)
         have ef:=Z2 dk
         clear dk
         clear bk a7 ee)
      | (go_simp
         go_at_call 199
         refine ef.out.mono ?_
         rintro e w4 ⟨rfl,bl,af,ag,-⟩
         obtain⟨bm,bn⟩:=hid2 af ag
         clear af ag))
     go_wp2_with fail
     go_round
     case rel=>exact⟨k+1,bl,_,by omega,by simp,by rw[ed.out],L.out,bm.out,D.out.trans bn.out⟩
     case measure=>simp[intOf];omega
    ·have eg:k=i:=by omega
     subst eg
     obtain⟨dl,dm⟩:=c5.out R an
     have dn:=Qc7 (Step.refl wr p (fun t=>t=g)) (.inl rfl) ai q dl.lies.fit
     clear dl
     obtain⟨eh,ei,D⟩:=hid3 dn dm d
     clear dn dm d
     go_wp2_with fail
     refine eh.out.mono ?_
     rintro e w4 ⟨rfl,bl,af,ag,-⟩
     obtain⟨bm,bn⟩:=hid2 af ag
     clear af ag
     go_wp2_with fail
     go_returns
     exact⟨rfl,_,bl,bm.out,ei.out,((cd.out.mono (T:=fun t=>t=g) (fun _ h=>h.elim)).trans al.out).trans (D.out.trans bn.out)⟩
theorem Qfn (w:World) (c:Nat) (hc:c<=1000):Calls Tryz.prog 195 #[.int .i64 (c:Int)] w fun e b=>e = .returned (.int .i64 (16+4*(c:Int)))/\w=b:=by
 go_enter Tryz.func195,Tryz.ntmps195
 go_wp2_with fail
 go_ret
 exact⟨rfl,rfl⟩
structure SetR (P Q:List Int) (i:Int) (m:List Int) (er:Nat):Prop where
 ok:er=0->Sound Q/\pageNumber Q=pageNumber P/\pageLSN Q=pageLSN P/\∀t:Nat,pData Q t=if (t:Int)=i then m else pData P t
 no:er≠0->Q=P
 le:er<65536
 room:∀s:Nat,i=(s:Int)->s<40->0<m.length->m.length<=64->16+4*max (pageCount P) (s+1)+pUsed P+m.length<=448->er=0
def SetD (w:World) (τ:Tags) (g:Tag) (b:Nat) (P:List Int) (i:Int) (m:List Int) (e:Ending) (w':World):Prop:=∃er Q τ',e = .returned (.int .u16 ((er:Nat):Int))/\SetR P Q i m er/\PageAt w' τ' g b Q/\Step w τ w' τ' (fun t=>t=g)
theorem SetR.bad (P:List Int) (i:Int) (m:List Int) (b:Nat) (h:b≠0) (hl:b<65536) (d:∀s:Nat,i=(s:Int)->s<40->0<m.length->m.length<=64->448<16+4*max (pageCount P) (s+1)+pUsed P+m.length):SetR P P i m b:=⟨fun e=>absurd e h,fun _=>rfl,hl,fun s h1 h2 j k h5=>by have:=d s h1 h2 j k;omega⟩
theorem Qqv {b:Nat}(h:PageAt w τ g b P) (i:Int) (p:Option Addr) (k c:Nat) (m:List Int) (hmk:m.length=k) (hbad:i<0\/40<=i\/k=0\/64<k) (hk:k<=maxLen) :
 Calls Tryz.prog 115 #[.pointer (some ⟨b,0,none⟩),.int .i64 i,.slice p k c] w (SetD w τ g b P i m):=by
 have d:=Z2 h
 clear h
 by_cases h1:i<0
 ·go_enter Tryz.func115,Tryz.ntmps115
  go_wp2_with fail
  go_ret
  exact⟨91,P,τ,rfl,SetR.bad P i m 91 (by omega) (by omega) (fun s _ _ _ _=>by omega),d.out,Step.refl _ _ _⟩
 ·by_cases h2:40<=i
  ·go_enter Tryz.func115,Tryz.ntmps115
   go_wp2_with fail
   go_ret
   exact⟨91,P,τ,rfl,SetR.bad P i m 91 (by omega) (by omega) (fun s _ _ _ _=>by omega),d.out,Step.refl _ _ _⟩
  ·by_cases e:k=0
   ·subst e
    go_enter Tryz.func115,Tryz.ntmps115
    go_wp2_with fail
    go_ret
    exact⟨91,P,τ,rfl,SetR.bad P i m 91 (by omega) (by omega) (fun s _ _ _ _=>by omega),d.out,Step.refl _ _ _⟩
   ·have h4:(64:Int)<(k:Int):=by omega
    have h5:¬(k:Int)=0:=by omega
    go_enter Tryz.func115,Tryz.ntmps115
    go_wp2_with fail
    go_ret
    exact⟨91,P,τ,rfl,SetR.bad P i m 91 (by omega) (by omega) (fun s _ _ _ _=>by omega),d.out,Step.refl _ _ _⟩
structure Room (P P2:List Int) (s k:Nat):Prop where
 sound:Sound P2
 plen:pLen P2 s=0
 num:pageNumber P2=pageNumber P
 lsn:pageLSN P2=pageLSN P
 room:16+4*max (pageCount P2) (s+1)+k<=pageLow P2
 data:∀t,t≠s->pData P2 t=pData P t
theorem Room.done {d m:List Int} {s:Nat}(h:Room P d s m.length) (j:s<40) (h0:0<m.length) (i:m.length<=64) (k:IsB m):SetR P (pSettle (pLaid d s m)) s m 0/\Tidy (pLaid d s m):=by
 obtain⟨b,hn,hl,hd⟩:=h.sound.laid j h.plen h0 i k h.room
 have hh:=Qek b.len b.isB b.lies.fit.count b.none
 exact⟨⟨fun _=>⟨b.settle,hh.num.trans (hn.trans h.num),hh.lsn.trans (hl.trans h.lsn),fun t=>by
  rw[hh.data b.lies,hd]
  by_cases e:t=s
  ·rw[if_pos e,if_pos (by omega)]
  ·rw[if_neg e,if_neg (by omega)];exact h.data t e⟩,fun e=>absurd rfl e,by omega,fun _ _ _ _ _ _=>rfl⟩,b⟩
structure Gone (P P1:List Int) (s:Nat):Prop where
 sound:Sound P1
 plen:pLen P1 s=0
 num:pageNumber P1=pageNumber P
 lsn:pageLSN P1=pageLSN P
 count:pageCount P1<=pageCount P
 used:pUsed P1+pLen P s=pUsed P
 data:∀t,t≠s->pData P1 t=pData P t
theorem Sound.gone(h:Sound P) (s:Nat):Gone P (if 0<pLen P s then Qi7 P s else P) s:=by
 by_cases d:0<pLen P s
 ·rw[if_pos d]
  have b:=h.tidy.clear d
  exact⟨b.sound,by rw[b.plen,if_pos rfl],b.num,b.lsn,b.count,Qqx b d,fun t e=>by rw[b.data,if_neg e]⟩
 ·rw[if_neg d]
  exact⟨h,by omega,rfl,rfl,Z0 _,by omega,fun _ _=>rfl⟩
theorem Gone.room {b:List Int} {s k:Nat}(h:Gone P b s) (hlow:16+4*max (pageCount P) (s+1)+k<=pageLow b):Room P b s k:=⟨h.sound,h.plen,h.num,h.lsn,by have:=h.count;omega,h.data⟩
theorem Gone.packed {d e:List Int} {s k:Nat}(h:Gone P d s) (b:Packed d e) (hfit:16+4*max (pageCount P) (s+1)+pUsed d+k<=448):Room P e s k :=
 ⟨b.sound,by rw[b.plen];exact h.plen,b.num.trans h.num,b.lsn.trans h.lsn,by rw[b.low];have:=h.count;have:=b.count;omega,fun t i=>(b.data t).trans (h.data t i)⟩
theorem Qq3 (a b c:Nat) (h:max a b=c):(max (a:Int) (b:Int))=(c:Int):=by omega
theorem Qpd {b:Nat}(hg:g≠tOut/\g≠tData/\g≠tAll) (h:PageAt w τ g b P) (ht:Sound P) (s:Nat) (hs:s<40) {v:Value}{g2:Tag}{m:List Int}(hb:Bytes w τ g2 v m) (ac:g2≠g) (h0:0<m.length) (c7:m.length<=64) :
 Calls Tryz.prog 115 #[.pointer (some ⟨b,0,none⟩),.int .i64 (s:Int),v] w (SetD w τ g b P s m):=by
 obtain⟨b2,cz,da⟩:=hg
 obtain⟨p,c,rfl,-,-⟩:=hb.any
 have bh:=hb.isB
 have F:=ht.tidy.lies.fit
 have hc40:=F.count
 have b8:=Qbx h F s (by omega)
 have b9:=Qax h
 have ba:=Qpc h F
 have bb:=Qfn w (max (pageCount P) (s+1)) (by omega)
 have db:=Qq3 (pageCount P) (s+1) _ rfl
 rw[show ((s+1:Nat):Int)=(s:Int)+1 by omega] at db
 have ad:=fun (hp:0<pLen P s) (hm:m.length=pLen P s)=>ht.over hp hm bh
 have bc:=Qhx (Step.refl w τ (fun t=>t=g)) (.inl rfl) b2 h ht.tidy.lies s (by omega)
 have X:=ht.gone s
 have bi:=F.ends s
 have c8:=h.len
 have husl:pUsed P<=18000:=by
  have bj:∀i,usedTo P i<=i*448:=by
   intro i
   induction i with
   | zero=>simp[usedTo]
   | succ i ih=>have:=F.ends i;unfold usedTo;omega
  have:=bj (pageCount P)
  unfold pUsed
  omega
 have hlu:pLen P s<=pUsed P:=by have:=X.used;omega
 generalize c9:(if 0<pLen P s then Qi7 P s else P)=I at *
 generalize ca:max (pageCount P) (s+1)=cm at *
 have hcm100:cm<=40:=by omega
 have hcmc:pageCount P<=cm:=by omega
 have hcms:s+1<=cm:=by omega
 generalize cb:pUsed P=us at *
 generalize cc:pOff P s=o at *
 generalize cd:pLen P s=len at *
 generalize hk:m.length=k at *
 generalize ce:pageCount P=pc at *
 have hk0:¬k=0:=by omega
 have hk1:¬(64:Int)<(k:Int):=by omega
 have b3:¬(s:Int)<0:=by omega
 have ab:¬(40:Int)<=(s:Int):=by omega
 have hk2:¬(k:Int)=0:=by omega
 obtain⟨ae,af,ag,ah,bk,be,l,ai,b4,b5,Hpo,cf⟩:=hid12 b8 b9 ba bb ad bc X bh ca cb cc cd
 obtain⟨J,aj,HP1⟩:=hid3 hk ce c9
 clear b8 b9 ba bb ad bc X bh ca cb cc cd hk ce c9
 obtain⟨ak,Ht,Hb⟩:=hid3 h ht hb
 clear h ht hb F
 by_cases hful:448<16+4*cm+us-len+k
 ·have a1:(448:Int)<16+4*(cm:Int)+(us:Int)-(len:Int)+(k:Int):=by omega
  go_enter Tryz.func115,Tryz.ntmps115
  go_wp2_with fail
  refine ae.out.mono ?_
  rintro e D ⟨o',rfl,b6,rfl⟩
  go_wp2_with fail
  refine af.out.mono ?_
  rintro e D ⟨rfl,rfl⟩
  go_wp2_with fail
  refine ah.out.mono ?_
  rintro e D ⟨rfl,rfl⟩
  go_wp2_with fail
  refine ag.out.mono ?_
  rintro e D ⟨rfl,rfl⟩
  go_wp2_with fail
  go_ret
  exact⟨92,P,τ,rfl,SetR.bad P s m 92 (by omega) (by omega) (fun t h1 _ _ _=>by have h2:s=t:=(by omega);subst h2;have:=aj.out;have:=b4.out;have:=b5.out;have:=J.out;rw[aj.out,b5.out,b4.out,J.out];omega),ak.out,Step.refl _ _ _⟩
 ·have a1:¬(448:Int)<16+4*(cm:Int)+(us:Int)-(len:Int)+(k:Int):=by omega
  by_cases bl:len=k
  ·subst bl
   have q:len=Nat.min m.length len:=by rw[J.out];exact(Nat.min_self _).symm
   have L:o+len<=(u8s P).length:=by rw[Qac,c8];exact bi
   have N:=fun (ty:TypeId)=>Qcg ak.out.own (off:=o) (dLen:=len) (dCap:=448-o) Hb.out len q L ty
   rw[Qby _ _ _ _ J.out.symm] at N
   have hq:=bk.out h0 rfl
   have ch:=ak.out.own.row' (u8s (layN P o m))
   have E:=(Step.refl w τ (fun t=>t=g)).row ak.out.own.tag (.inl rfl) (u8s (layN P o m)).toArray
   obtain⟨de,al,Hq⟩:=hid3 ch E hq
   clear ch E hq q L
   go_enter Tryz.func115,Tryz.ntmps115
   go_wp2_with fail
   refine ae.out.mono ?_
   rintro e D ⟨o',rfl,b6,rfl⟩
   obtain rfl:=b6 h0
   go_wp2_with fail
   refine af.out.mono ?_
   rintro e D ⟨rfl,rfl⟩
   go_wp2_with fail
   refine ah.out.mono ?_
   rintro e D ⟨rfl,rfl⟩
   go_wp2_with fail
   refine ag.out.mono ?_
   rintro e D ⟨rfl,rfl⟩
   go_wp2_with fail
   go_ret
   exact⟨0,layN P o' m,τ,rfl,⟨fun _=>⟨Hq.out.1,Hq.out.2.1,Hq.out.2.2.1,fun t=>by rw[Hq.out.2.2.2];exact if e:t=s then (by rw[if_pos e,if_pos (by omega)]) else (by rw[if_neg e,if_neg (by omega)])⟩,fun e=>absurd rfl e,by omega,fun _ _ _ _ _ _=>rfl⟩,⟨de.out,Qaw ak.out.isB ai.out _,Hq.out.1.tidy.len⟩,al.out⟩
  ·have hsame':¬(len:Int)=(k:Int):=by omega
   go_enter Tryz.func115,Tryz.ntmps115
   go_wp2_with fail
   refine ae.out.mono ?_
   rintro e D ⟨o',rfl,b6,rfl⟩
   clear b6
   go_wp2_with fail
   refine af.out.mono ?_
   rintro e D ⟨rfl,rfl⟩
   go_wp2_with fail
   refine ah.out.mono ?_
   rintro e D ⟨rfl,rfl⟩
   go_wp2_with fail
   refine ag.out.mono ?_
   rintro e D ⟨rfl,rfl⟩
   go_wp2_with fail
   refine be.out.mono ?_
   rintro e w1 ⟨rfl,τ1,bm,b3,-⟩
   have cj:=l.out.sound
   have ck:=Qfm bm
   have bf:=Qfn w1 cm (by omega)
   have htop:=cj.top
   have b7:=l.out.count
   have am:=l.out.used
   have cn:=Hb.out.step b3 (fun e=>ac e)
   generalize co:pageLow I=lo at *
   obtain⟨cp,cq,df,cr,cs,dh⟩:=hid6 bm b3 ck bf cn co
   clear bm b3 ck bf cn co be cj
   go_wp2_with fail
   refine df.out.mono ?_
   rintro e D ⟨rfl,rfl⟩
   go_wp2_with fail
   refine cr.out.mono ?_
   rintro e D ⟨rfl,rfl⟩
   by_cases bn:(lo:Int)-(16+4*(cm:Int))<(k:Int)
   ·have ct:=Qk4 ⟨b2,cz,da⟩ cp.out l.out.sound.tidy (by rw[aj.out] at b7;rw[b5.out,cf.out] at am;omega)
    have cv:=Z2 ct
    clear ct
    go_wp2_with fail
    refine cv.out.mono ?_
    rintro e w2 ⟨rfl,O,τ2,r,bg,ab⟩
    have d:=l.out.packed bg (k:=k) (by rw[aj.out,b4.out];rw[b5.out,cf.out] at am;omega)
    clear bg bn cv
    have R:=Qfm r
    have U:=Qax r
    have Y:=d.sound.top
    have bo:=d.room
    have a6:=d.sound.tidy.lies.fit.count
    obtain⟨x,y⟩:=(show Room P _ s m.length by rw[J.out];exact d).done hs (by rw[J.out];exact h0) (by rw[J.out];exact c7) ai.out
    have z:=Qbp (Step.refl _ _ (fun t=>t=g)) (.inl rfl) r 12 2 (max (pageCount O) (s+1)) (by omega) (by omega) (by omega) (by omega)
    change Calls _ _ _ _ (fun e D=>e = .returned (.tuple #[])/\∃bp,PageAt D bp g b (pMore O s)/\_/\_) at z
    have an:=Qq3 (pageCount O) (s+1) _ rfl
    rw[show ((s+1:Nat):Int)=(s:Int)+1 by omega] at an
    have di:=Qam (max (pageCount O) (s+1)) (by omega)
    have B:pLaid O s m=pList (layN (pMore O s) (pageLow O-k) m) s (pageLow O-k) k:=by unfold pLaid;rw[J.out]
    have dj:((pageLow O:Nat):Int)-(k:Int)=((pageLow O-k:Nat):Int):=by omega
    have C:pageLow O-k+k<=448:=by omega
    generalize pLaid O s m=Z at *
    generalize pMore O s=M at *
    generalize ao:pageLow O-k=a at *
    generalize pageLow O=lo2 at *
    generalize max (pageCount O) (s+1)=c2 at *
    generalize pageCount O=pc2 at *
    obtain⟨dk,ap,bq,aq,ar,a7,a8,av,aa⟩:=hid9 r ab d R U x y z B
    clear r ab d R U x y z B bo a6 Y ao
    go_wp2_with fail
    refine aq.out.mono ?_
    rintro e D ⟨rfl,rfl⟩
    go_wp2_with fail
    refine ar.out.mono ?_
    rintro e D ⟨rfl,rfl⟩
    go_wp2_with fail
    refine av.out.mono ?_
    rintro e w3 ⟨rfl,br,j,E,-⟩
    have bj:a<=448:=by omega
    have cw:(a:Int)<=448:=by omega
    have dm:¬a=448:=by omega
    have cx:¬448=a:=by omega
    have q:k=Nat.min m.length (448-a):=by rw[J.out];exact(Nat.min_eq_left (by omega)).symm
    have L:a+k<=(u8s M).length:=by rw[Qac,j.len];exact C
    have N:=fun (ty:TypeId)=>Qcg j.own (off:=a) (dLen:=448-a) (dCap:=448-a) ((cs.out.step ap.out (fun e=>ac e)).step E (fun e=>ac e)) k q L ty
    rw[Qby _ _ _ _ J.out.symm] at N
    have aw:=(Step.refl w3 br (fun t=>t=g)).row j.own.tag (.inl rfl) (u8s (layN M a m)).toArray
    have ax:=Qej aw (.inl rfl) ⟨j.own.row' (u8s (layN M a m)),Qaw j.isB ai.out a,by rw[Qae _ _ _ (by rw[J.out,j.len];exact C)];exact j.len⟩ s a k (by omega) (by omega) (by omega)
    obtain⟨dn,al,bs⟩:=hid3 j E ax
    clear j E ax q L aw
    go_wp2_with fail
    refine bs.out.mono ?_
    rintro e w5 ⟨rfl,bv,G,ay,-⟩
    rw[<-aa.out] at G
    have az:=Qc7 (Step.refl w5 bv (fun t=>t=g)) (.inl rfl) b2 G a8.out.lies.fit
    obtain⟨dq,bw,bz⟩:=hid3 G ay az
    clear G ay az
    all_goals go_wp2_with fail
    all_goals refine bz.out.mono ?_
    all_goals rintro e w6 ⟨rfl,c3,b0,b1,-⟩
    all_goals (obtain⟨c4,c5⟩:=hid2 b0 b1;clear b0 b1)
    all_goals go_wp2_with fail
    all_goals go_returns
    all_goals exact⟨0,_,c3,rfl,a7.out,c4.out,((cq.out.trans ap.out).trans al.out).trans (bw.out.trans c5.out)⟩
   ·have d:=l.out.room (k:=k) (by rw[aj.out,b4.out,dh.out];omega)
    have r:=cp.out
    have ab:=Step.refl w1 τ1 (fun t=>t=g)
    have R:=Qfm r
    have U:=Qax r
    have Y:=d.sound.top
    have bo:=d.room
    have a6:=d.sound.tidy.lies.fit.count
    obtain⟨x,y⟩:=(show Room P _ s m.length by rw[J.out];exact d).done hs (by rw[J.out];exact h0) (by rw[J.out];exact c7) ai.out
    have z:=Qbp (Step.refl _ _ (fun t=>t=g)) (.inl rfl) r 12 2 (max (pageCount I) (s+1)) (by omega) (by omega) (by omega) (by omega)
    change Calls _ _ _ _ (fun e D=>e = .returned (.tuple #[])/\∃bp,PageAt D bp g b (pMore I s)/\_/\_) at z
    have an:=Qq3 (pageCount I) (s+1) _ rfl
    rw[show ((s+1:Nat):Int)=(s:Int)+1 by omega] at an
    have di:=Qam (max (pageCount I) (s+1)) (by omega)
    have B:pLaid I s m=pList (layN (pMore I s) (pageLow I-k) m) s (pageLow I-k) k:=by unfold pLaid;rw[J.out]
    have dj:((pageLow I:Nat):Int)-(k:Int)=((pageLow I-k:Nat):Int):=by omega
    have C:pageLow I-k+k<=448:=by omega
    generalize pLaid I s m=Z at *
    generalize pMore I s=M at *
    generalize ao:pageLow I-k=a at *
    generalize pageLow I=lo2 at *
    generalize max (pageCount I) (s+1)=c2 at *
    generalize pageCount I=pc2 at *
    obtain⟨dk,ap,bq,aq,ar,a7,a8,av,aa⟩:=hid9 r ab d R U x y z B
    clear r ab d R U x y z B bo a6 Y ao
    go_wp2_with fail
    refine aq.out.mono ?_
    rintro e D ⟨rfl,rfl⟩
    go_wp2_with fail
    refine ar.out.mono ?_
    rintro e D ⟨rfl,rfl⟩
    go_wp2_with fail
    refine av.out.mono ?_
    rintro e w3 ⟨rfl,br,j,E,-⟩
    have bj:a<=448:=by omega
    have cw:(a:Int)<=448:=by omega
    have dm:¬a=448:=by omega
    have cx:¬448=a:=by omega
    have q:k=Nat.min m.length (448-a):=by rw[J.out];exact(Nat.min_eq_left (by omega)).symm
    have L:a+k<=(u8s M).length:=by rw[Qac,j.len];exact C
    have N:=fun (ty:TypeId)=>Qcg j.own (off:=a) (dLen:=448-a) (dCap:=448-a) ((cs.out.step ap.out (fun e=>ac e)).step E (fun e=>ac e)) k q L ty
    rw[Qby _ _ _ _ J.out.symm] at N
    have aw:=(Step.refl w3 br (fun t=>t=g)).row j.own.tag (.inl rfl) (u8s (layN M a m)).toArray
    have ax:=Qej aw (.inl rfl) ⟨j.own.row' (u8s (layN M a m)),Qaw j.isB ai.out a,by rw[Qae _ _ _ (by rw[J.out,j.len];exact C)];exact j.len⟩ s a k (by omega) (by omega) (by omega)
    obtain⟨dn,al,bs⟩:=hid3 j E ax
    clear j E ax q L aw
    go_wp2_with fail
    refine bs.out.mono ?_
    rintro e w5 ⟨rfl,bv,G,ay,-⟩
    rw[<-aa.out] at G
    have az:=Qc7 (Step.refl w5 bv (fun t=>t=g)) (.inl rfl) b2 G a8.out.lies.fit
    obtain⟨dq,bw,bz⟩:=hid3 G ay az
    clear G ay az
    all_goals go_wp2_with fail
    all_goals refine bz.out.mono ?_
    all_goals rintro e w6 ⟨rfl,c3,b0,b1,-⟩
    all_goals (obtain⟨c4,c5⟩:=hid2 b0 b1;clear b0 b1)
    all_goals go_wp2_with fail
    all_goals go_returns
    all_goals exact⟨0,_,c3,rfl,a7.out,c4.out,((cq.out.trans ap.out).trans al.out).trans (bw.out.trans c5.out)⟩
theorem Qk1 {b:Nat}(k:g≠tOut/\g≠tData/\g≠tAll) (h:PageAt w τ g b P) (l:Sound P) (i:Int) {v:Value}{g2:Tag}{m:List Int}(j:Bytes w τ g2 v m) (e:g2≠g) :
 Calls Tryz.prog 115 #[.pointer (some ⟨b,0,none⟩),.int .i64 i,v] w (SetD w τ g b P i m):=by
 by_cases d:i<0\/40<=i\/m.length=0\/64<m.length
 ·obtain⟨p,c,rfl,h1,h2⟩:=j.any
  exact Qqv h i p m.length c m rfl d (by omega)
 ·obtain⟨s,rfl⟩:∃s:Nat,i=(s:Int):=⟨i.toNat,by omega⟩
  exact Qpd k h l s (by omega) j e (by omega) (by omega)
def bools (T:Nat->Bool) (n:Nat):List Value:=(List.range n).map (fun i=>Value.bool (T i))
theorem Qgq (T:Nat->Bool) (n:Nat):(bools T n).length=n:=by simp[bools]
theorem Qfv (T:Nat->Bool) (n i:Nat) (h:i<n):(bools T n)[i]?=some (.bool (T i)):=by
 unfold bools
 rw[List.getElem?_map,List.getElem?_range h];rfl
def anyTo (T:Nat->Bool) (o:Nat):Nat->Bool
 | 0=>false
 | n+1=>anyTo T o n || T (o+n)
theorem Quc {b o c:Nat} {T:Nat->Bool}(y:∀i,i<n->w.cell? ⟨b,o+i,none⟩=some (.bool (T (o+i)))) (hn:n<=1000) :
 Calls Tryz.prog 292 #[.slice (some ⟨b,o,none⟩) n c,.bool true] w fun e B=>(∃r:Int,e = .returned (.int .i64 r)/\decide (0<=r)=anyTo T o n)/\w=B:=by
 have C:=Z2 y
 clear y
 go_enter Tryz.func292,Tryz.ntmps292
 go_wp2_with fail
 go_loopw [8] (fun v wr=>∃(i:Nat),i<=n/\v = .int .i64 (i:Int)/\anyTo T o i=false/\wr=w) (fun v _=>n-(intOf v).toNat)
 case atStart=>exact⟨0,Z9 _,rfl,rfl,rfl⟩
 case round =>
  obtain⟨i,hi,rfl,h,rfl⟩:=hrel
  by_cases q:i<n
  ·have j:=C.out i q
   have k:anyTo T o (i+1)=(anyTo T o i || T (o+i)):=rfl
   rw[h,Bool.false_or] at k
   cases p:T (o+i) with
   | true =>
     rw[p] at j k
     have l:∀d,anyTo T o (i+1+d)=true:=by
      intro d
      induction d with
      | zero=>exact k
      | succ d ih=>show (anyTo T o (i+1+d) || _)=true;rw[ih];rfl
     have s:=l (n-(i+1))
     rw[show i+1+(n-(i+1))=n by omega] at s
     obtain⟨z,D,m,E⟩:=hid4 k s h p
     clear k s h p l
     go_wp2_with fail
     go_returns
     exact⟨⟨(i:Int),rfl,by rw[D.out];simp⟩,rfl⟩
   | false =>
     rw[p] at j k
     obtain⟨z,m,E⟩:=hid3 k h p
     clear k h p
     go_wp2_with fail
     go_round
     case rel=>exact⟨i+1,by omega,by simp,z.out,trivial⟩
     case measure=>simp[intOf];omega
  ·have x:i=n:=by omega
   subst x
   have m:=Z2 h
   clear h
   go_wp2_with fail
   go_returns
   exact⟨⟨-1,rfl,by rw[m.out];rfl⟩,rfl⟩
theorem Qon {b o c:Nat} {T:Nat->Bool}(d:∀i,i<n->w.cell? ⟨b,o+i,none⟩=some (.bool (T (o+i)))) (hn:n<=1000) :
 Calls Tryz.prog 256 #[.slice (some ⟨b,o,none⟩) n c,.bool true] w fun e h=>e = .returned (.bool (anyTo T o n))/\w=h:=by
 have h1:=Quc (c:=c) d hn
 generalize anyTo T o n=a at *
 have j:=Z2 h1
 clear h1 d
 go_enter Tryz.func256,Tryz.ntmps256
 go_wp2_with fail
 refine j.out.mono ?_
 rintro e h ⟨⟨r,rfl,k⟩,rfl⟩
 go_wp2_with fail
 go_ret
 exact⟨by rw[<-k];rfl,rfl⟩
def markT (T:Nat->Bool) (a n:Nat):Nat->Bool:=fun i=>T i || (decide (a<=i) && decide (i<a+n))
theorem Qtk (T:Nat->Bool) (a:Nat):markT T a 0=T:=by
 funext i
 unfold markT
 have:(decide (a<=i) && decide (i<a+0))=false:=by
  rw[Bool.and_eq_false_iff]
  by_cases h:a<=i
  ·exact .inr (by simp;omega)
  ·exact .inl (by simpa using h)
 rw[this,Bool.or_false]
theorem Qua (T:Nat->Bool) (a j n:Nat) (h:a+j<n):(bools (markT T a j) n).set (a+j) (.bool true)=bools (markT T a (j+1)) n:=by
 apply List.ext_getElem?
 intro i
 by_cases hi:i<n
 ·by_cases e:i=a+j
  ·subst e
   rw[List.getElem?_set_self (by rw[Qgq];exact h),Qfv _ _ _ hi]
   congr 2
   unfold markT
   rw[decide_eq_true (show a<=a+j by omega),decide_eq_true (show a+j<a+(j+1) by omega)];simp
  ·rw[List.getElem?_set_ne (fun q=>e q.symm),Qfv _ _ _ hi,Qfv _ _ _ hi]
   congr 2
   unfold markT
   congr 2
   by_cases h2:i<a+j
   ·rw[decide_eq_true h2,decide_eq_true (by omega)]
   ·rw[decide_eq_false h2,decide_eq_false (by omega)]
 ·rw[List.getElem?_eq_none (by rw[Y1,Qgq];omega),List.getElem?_eq_none (by rw[Qgq];omega)]
def Qe4 (P:List Int) (st:Option ((Nat->Bool)×Nat)) (s:Nat):Option ((Nat->Bool)×Nat) :=
 match st with
 | none=>none
 | some (T,low) =>
   if pLen P s=0/\pOff P s=0 then some (T,low)
   else if pLen P s=0\/64<pLen P s\/pOff P s<16+4*pageCount P\/448<pOff P s+pLen P s then none
   else if anyTo T (pOff P s) (pLen P s)=true then none
   else some (markT T (pOff P s) (pLen P s),min low (pOff P s))
def soundTo (P:List Int):Nat->Option ((Nat->Bool)×Nat)
 | 0=>some (fun _=>false,448)
 | s+1=>Qe4 P (soundTo P s) s
def Qb9 (P:List Int) (T:Nat->Bool) (a:Nat):Nat->Bool
 | 0=>true
 | n+1=>Qb9 P T a n && (T (a+n) || decide (P.getD (a+n) 0=0))
def Qjr (P:List Int) (low:Nat):Bool:=decide (low=pageLow P) && (decide (pageCount P=0) || decide (0<pLen P (pageCount P-1)))
def Qeh (P:List Int):Bool :=
 if 40<pageCount P then false else
 match soundTo P (pageCount P) with
 | none=>false
 | some (T,low)=>Qb9 P T (16+4*pageCount P) (448-(16+4*pageCount P)) && Qjr P low
theorem Qo0 {s:Nat}(h:soundTo P s=none) (d:Nat):soundTo P (s+d)=none:=by
 induction d with
 | zero=>exact h
 | succ d ih=>show Qe4 P (soundTo P (s+d)) _=none;rw[ih];rfl
theorem Qqh {s:Nat}(h:soundTo P s=none) (hs:s<=pageCount P):Qeh P=false:=by
 unfold Qeh
 split
 ·rfl
 ·have:=Qo0 h (pageCount P-s)
  rw[show s+(pageCount P-s)=pageCount P by omega] at this
  rw[this]
theorem Qm7 {T:Nat->Bool} {a:Nat}(h:Qb9 P T a n=false) (d:Nat):Qb9 P T a (n+d)=false:=by
 induction d with
 | zero=>exact h
 | succ d ih=>show (Qb9 P T a (n+d) && _)=false;rw[ih];rfl
theorem Qo1 {T:Nat->Bool} {low:Nat}(b:soundTo P (pageCount P)=some (T,low)) (h:Qb9 P T (16+4*pageCount P) n=false) (hn:n<=448-(16+4*pageCount P)):Qeh P=false:=by
 unfold Qeh
 split
 ·rfl
 ·rw[b]
  have:=Qm7 h (448-(16+4*pageCount P)-n)
  rw[show n+(448-(16+4*pageCount P)-n)=448-(16+4*pageCount P) by omega] at this
  show (Qb9 P T _ _ && _)=false
  rw[this];rfl
theorem Qmn {T:Nat->Bool} {low:Nat}(h40:pageCount P<=40) (b:soundTo P (pageCount P)=some (T,low)) (h:Qb9 P T (16+4*pageCount P) (448-(16+4*pageCount P))=true):Qeh P=Qjr P low:=by
 unfold Qeh
 rw[if_neg (by omega),b]
 show (Qb9 P T _ _ && _)=_
 rw[h,Bool.true_and]
theorem Sound.soundTo(h:Sound P) (q:Nat) (hq:q<=pageCount P):soundTo P q=some (fun i=>(List.range q).any (fun s=>decide (pOff P s<=i) && decide (i<pOff P s+pLen P s)),(headTo P q).2):=by
 induction q with
 | zero=>rfl
 | succ q ih =>
   show Qe4 P (Go.Proofs.YtemacanaihaldaaGreat.soundTo P q) q=_
   rw[ih (by omega)]
   have e:headTo P (q+1)=if 0<pLen P q then (q+1,min (headTo P q).2 (pOff P q)) else headTo P q:=rfl
   have b:∀i,(List.range (q+1)).any (fun s=>decide (pOff P s<=i) && decide (i<pOff P s+pLen P s))=((List.range q).any (fun s=>decide (pOff P s<=i) && decide (i<pOff P s+pLen P s)) || (decide (pOff P q<=i) && decide (i<pOff P q+pLen P q))):=fun i=>by
    rw[List.range_succ,List.any_append];simp
   simp only[b]
   unfold Qe4
   dsimp only
   by_cases h0:pLen P q=0
   ·have j:=h.tidy.none q h0
    rw[if_pos ⟨h0,j⟩,e,if_neg (by omega)]
    congr 2
    funext i
    rw[h0,Nat.add_zero]
    have:(decide (pOff P q<=i) && decide (i<pOff P q))=false:=by
     rw[Bool.and_eq_false_iff]
     by_cases hh:pOff P q<=i
     ·exact .inr (by simp;omega)
     ·exact .inl (by simpa using hh)
    rw[this,Bool.or_false]
   ·have hb:=h.tidy.lies.behind q (by omega)
    have hen:=h.tidy.lies.fit.ends q
    have h64:=h.tidy.small q
    rw[if_neg (by omega),if_neg (by omega)]
    have d:anyTo (fun i=>(List.range q).any (fun s=>decide (pOff P s<=i) && decide (i<pOff P s+pLen P s))) (pOff P q) (pLen P q)=false:=by
     have key:∀n,n<=pLen P q->anyTo (fun i=>(List.range q).any (fun s=>decide (pOff P s<=i) && decide (i<pOff P s+pLen P s))) (pOff P q) n=false:=by
      intro n
      induction n with
      | zero=>intro _;rfl
      | succ n ihn =>
        intro hn
        show (anyTo _ _ n || _)=false
        rw[ihn (by omega),Bool.false_or,List.any_eq_false]
        intro s k
        have hsq:=List.mem_range.1 k
        simp only[Bool.and_eq_true,decide_eq_true_eq,not_and]
        intro h1 h2
        have:=h.tidy.apart s q (by omega) (by omega) (by omega)
        omega
     exact key _ (Z0 _)
    rw[if_neg (by rw[d];simp),e,if_pos (show 0<pLen P q by omega)]
    rfl
theorem Sound.yes(h:Sound P):Qeh P=true:=by
 have d:=h.soundTo (pageCount P) (Z0 _)
 have e:=h.tidy.lies.fit.count
 rw[Qmn e d]
 ·unfold Qjr
  have hh:=h.head
  rw[hh]
  have hi:=Qcn P (pageCount P)
  rw[hh] at hi
  rw[decide_eq_true rfl,Bool.true_and]
  rcases hi.last with h1|h1
  ·rw[decide_eq_true h1];rfl
  ·rw[decide_eq_true h1,Bool.or_true]
 ·have key:∀n,n<=448-(16+4*pageCount P)->Qb9 P (fun i=>(List.range (pageCount P)).any (fun s=>decide (pOff P s<=i) && decide (i<pOff P s+pLen P s))) (16+4*pageCount P) n=true:=by
   intro n
   induction n with
   | zero=>intro _;rfl
   | succ n ih =>
     intro hn
     show (Qb9 _ _ _ n && _)=true
     rw[ih (by omega),Bool.true_and]
     cases b:(List.range (pageCount P)).any (fun s=>decide (pOff P s<=16+4*pageCount P+n) && decide (16+4*pageCount P+n<pOff P s+pLen P s)) with
     | true =>
       show ((List.range (pageCount P)).any (fun s=>decide (pOff P s<=16+4*pageCount P+n) && decide (16+4*pageCount P+n<pOff P s+pLen P s)) || _)=true
       rw[b];rfl
     | false =>
       show ((List.range (pageCount P)).any (fun s=>decide (pOff P s<=16+4*pageCount P+n) && decide (16+4*pageCount P+n<pOff P s+pLen P s)) || _)=true
       rw[b,Bool.false_or]
       rw[List.any_eq_false] at b
       have j:=h.tidy.zero (16+4*pageCount P+n) (by omega) (by omega) (fun s=>by
        rcases Nat.lt_or_ge s (pageCount P) with h1|h1
        ·have:=b s (List.mem_range.2 h1)
         simp only[Bool.and_eq_true,decide_eq_true_eq,not_and] at this
         omega
        ·rw[Qsa h1,Qb7 h1];omega)
       rw[Z5,j];rfl
  exact key _ (Z0 _)
def tTak:Tag:=(94,0)
theorem Qj3:Tryz.zeroCells357 = (bools (fun _=>false) 448).toArray:=by kernel_rfl
theorem Qnr {b:Nat}(h:PageAt w τ g b P) :
 Calls Tryz.prog 201 #[.pointer (some ⟨b,0,none⟩)] w fun e F=>e = .returned (.bool (Qeh P))/\∃c3,Step w τ F c3 nil:=by
 have ae:=Qax h
 by_cases c4:40<pageCount P
 ·have hb:Qeh P=false:=by unfold Qeh;rw[if_pos c4]
  rw[hb]
  generalize pageCount P=q at *
  have a1:(40:Int)<(q:Int):=by omega
  obtain⟨af,Hb⟩:=hid2 ae hb
  clear ae hb h
  go_enter Tryz.func201,Tryz.ntmps201
  go_wp2_with fail
  refine af.out.mono ?_
  rintro e F ⟨rfl,rfl⟩
  go_wp2_with fail
  go_ret
  exact⟨rfl,τ,Step.refl _ _ _⟩
 ·have ho:=Own.born w τ tTak 357 Tryz.zeroCells357
  have aw:=(Step.refl w τ nil).alloc (.cells Tryz.zeroCells357 357) tTak
  rw[Qj3] at ho
  have ag:=Qax (h.step aw (fun h=>h))
  have bj:pageCount P<=40:=by omega
  have bk:soundTo P 0=some (fun _=>false,448):=rfl
  have ah:=fun s=>Qqh (P:=P) (s:=s)
  have ai:=fun (T:Nat->Bool) (low n:Nat)=>Qo1 (P:=P) (T:=T) (low:=low) (n:=n)
  have aj:=fun (T:Nat->Bool) (low:Nat)=>Qmn (P:=P) (T:=T) (low:=low) bj
  have av:∀s,soundTo P (s+1)=Qe4 P (soundTo P s) s:=fun s=>rfl
  have ak:∀s,pOff P s<65536:=Qu7 h.isB
  have al:∀s,pLen P s<65536:=Qzk h.isB
  have h448:=h.len
  have am:∀low,Qjr P low=(decide (low=pageLow P) && (decide (pageCount P=0) || decide (0<pLen P (pageCount P-1)))):=fun low=>rfl
  generalize hB:Qeh P=B at *
  generalize hq:pageCount P=q at *
  have a1:¬(40:Int)<(q:Int):=by omega
  obtain⟨af,ax,c7,Ho,c8,ay,az,b0,bl,ba,bb,Hq⟩:=hid12 ae ag aw ho bk ah ai aj av ak al hq
  obtain⟨bc,HB⟩:=hid2 am hB
  clear ae ag aw ho bk ah ai aj av ak al hq am hB
  have c9:=Z2 h
  clear h
  go_enter Tryz.func201,Tryz.ntmps201
  go_wp2_with fail
  refine af.out.mono ?_
  rintro e F ⟨rfl,rfl⟩
  go_wp2_with fail
  refine ax.out.mono ?_
  rintro e F ⟨rfl,rfl⟩
  go_wp2_with fail
  go_loopw [4,17] (fun lo v wr=>∃(i low:Nat) (T:Nat->Bool) (G:Tags),i<=q/\v = .int .i64 (i:Int)/\lo = .int .i64 (low:Int)/\low<=448/\soundTo P i=some (T,low)/\Own wr G w.heap.size tTak 357 (bools T 448)/\Step w τ wr G nil) (fun _ v _=>q-(intOf v).toNat)
  case atStart=>exact⟨0,448,fun _=>false,_,Z9 _,rfl,rfl,Z0 _,c8.out,Ho.out,c7.out⟩
  case round =>
   obtain⟨i,low,T,G,hi,rfl,rfl,bm,hT,E,p⟩:=hrel
   have M:=c9.out.step p (fun h=>h)
   by_cases ca:i<q
   ·have r:=Qgu M i (by omega) (by rw[Hq.out];omega)
    have I:=Qax M
    rw[Hq.out] at I
    have L:=Qfn wr q (by omega)
    have z:=bl.out i
    rw[hT] at z
    have ho16:=ba.out i
    have hn16:=bb.out i
    have J:=ay.out (i+1)
    unfold Qe4 at z
    simp only[Hq.out] at z
    generalize hpo:pOff P i=o at *
    generalize hpl:pLen P i=n at *
    by_cases Z:n=0/\o=0
    ·rw[if_pos Z] at z
     obtain⟨rfl,rfl⟩:=Z
     obtain⟨D,bd,ab,l,Hsnx⟩:=hid5 r z E p J
     clear r z E p J I L hT M
     go_wp2_with fail
     refine D.out.mono ?_
     rintro e F ⟨rfl,rfl⟩
     go_wp2_with fail
     go_round
     case rel=>exact⟨i+1,low,T,G,by omega,by simp,rfl,bm,bd.out,ab.out,l.out⟩
     case measure=>simp[intOf];omega
    ·rw[if_neg Z] at z
     by_cases N:n=0\/64<n\/o<16+4*q\/448<o+n
     ·rw[if_pos N] at z
      have d:=J z (by omega)
      by_cases b1:n=0
      ·subst b1
       have b2:¬(o:Int)=0:=by omega
       obtain⟨D,l,m⟩:=hid3 r p d
       clear r p d I L hT M z J E N Z
       go_wp2_with fail
       refine D.out.mono ?_
       rintro e F ⟨rfl,rfl⟩
       go_wp2_with fail
       go_returns
       exact⟨by rw[m.out];rfl,G,l.out⟩
      ·have b1':¬(n:Int)=0:=by omega
       by_cases b2:64<n
       ·have cb:(64:Int)<(n:Int):=by omega
        obtain⟨D,l,m⟩:=hid3 r p d
        clear r p d I L hT M z J E N Z
        go_wp2_with fail
        refine D.out.mono ?_
        rintro e F ⟨rfl,rfl⟩
        go_wp2_with fail
        go_returns
        exact⟨by rw[m.out];rfl,G,l.out⟩
       ·have cb:¬(64:Int)<(n:Int):=by omega
        by_cases b3:o<16+4*q
        ·have cc:(o:Int)<16+4*(q:Int):=by omega
         obtain⟨D,l,m,a6,a7⟩:=hid5 r p d I L
         clear r p d I L hT M z J E N Z
         go_wp2_with fail
         refine D.out.mono ?_
         rintro e F ⟨rfl,rfl⟩
         go_wp2_with fail
         refine a6.out.mono ?_
         rintro e F ⟨rfl,rfl⟩
         go_wp2_with fail
         refine a7.out.mono ?_
         rintro e F ⟨rfl,rfl⟩
         go_wp2_with fail
         go_returns
         exact⟨by rw[m.out];rfl,G,l.out⟩
        ·have cc:¬(o:Int)<16+4*(q:Int):=by omega
         have b4:(448:Int)<(o:Int)+(n:Int):=by omega
         obtain⟨D,l,m,a6,a7⟩:=hid5 r p d I L
         clear r p d I L hT M z J E N Z
         go_wp2_with fail
         refine D.out.mono ?_
         rintro e F ⟨rfl,rfl⟩
         go_wp2_with fail
         refine a6.out.mono ?_
         rintro e F ⟨rfl,rfl⟩
         go_wp2_with fail
         refine a7.out.mono ?_
         rintro e F ⟨rfl,rfl⟩
         go_wp2_with fail
         go_returns
         exact⟨by rw[m.out];rfl,G,l.out⟩
     ·rw[if_neg N] at z
      have b1:¬(n:Int)=0:=by omega
      have b2:¬(64:Int)<(n:Int):=by omega
      have b3:¬(o:Int)<16+4*(q:Int):=by omega
      have b4:¬(448:Int)<(o:Int)+(n:Int):=by omega
      have b5:(o:Int)+(n:Int)<=448:=by omega
      have b6:¬o=448:=by omega
      have b7:¬448=o:=by omega
      have b8:(o:Int)<=(o:Int)+(n:Int):=by omega
      have b9:(0:Int)<=(o:Int)+(n:Int):=by omega
      have b10:((o:Int)+(n:Int)).toNat=o+n:=by omega
      have b11:o+n-o=n:=by omega
      have X:=Qon (c:=448-o) (w:=wr) (b:=w.heap.size) (o:=o) (n:=n) (T:=T) (fun j hj=>E.at (o+j) (Qfv T 448 (o+j) (by omega))) (by omega)
      have k0:=E.at 0 (Qfv T 448 0 (by omega))
      cases Y:anyTo T o n with
      | true =>
        rw[Y] at z X
        rw[if_pos rfl] at z
        have d:=J z (by omega)
        obtain⟨D,l,m,a6,a7,an,bn⟩:=hid7 r p d I L X Y
        clear r p d I L X Y hT M z J E N Z
        go_wp2_with fail
        refine D.out.mono ?_
        rintro e F ⟨rfl,rfl⟩
        go_wp2_with fail
        refine a6.out.mono ?_
        rintro e F ⟨rfl,rfl⟩
        go_wp2_with fail
        refine a7.out.mono ?_
        rintro e F ⟨rfl,rfl⟩
        go_wp2_with fail
        refine an.out.mono ?_
        rintro e F ⟨rfl,rfl⟩
        go_wp2_with fail
        go_returns
        exact⟨by rw[m.out];rfl,G,l.out⟩
      | false =>
        rw[Y] at z X
        rw[if_neg (by simp)] at z
        obtain⟨D,l,a6,a7,an,bn,bd,ab⟩:=hid8 r p I L X Y z E
        clear r p I L X Y z E hT M J N Z k0
        go_wp2_with fail
        refine D.out.mono ?_
        rintro e F ⟨rfl,rfl⟩
        go_wp2_with fail
        refine a6.out.mono ?_
        rintro e F ⟨rfl,rfl⟩
        go_wp2_with fail
        refine a7.out.mono ?_
        rintro e F ⟨rfl,rfl⟩
        go_wp2_with fail
        refine an.out.mono ?_
        rintro e F ⟨rfl,rfl⟩
        go_wp2_with fail
        go_loopw [54] (fun v wr=>∃(j:Nat) (G:Tags),j<=n/\v = .int .i64 (j:Int)/\Own wr G w.heap.size tTak 357 (bools (markT T o j) 448)/\Step w τ wr G nil) (fun v _=>n-(intOf v).toNat)
        case atStart=>exact⟨0,G,Z9 _,rfl,by rw[Qtk];exact ab.out,l.out⟩
        case round =>
         obtain⟨j,bo,hj,rfl,ac,ao⟩:=hrel
         by_cases hjn:j<n
         ·have kc:=ac.at (o+j) (Qfv (markT T o j) 448 (o+j) (by omega))
          have kf:=ac.fz (o+j)
          have k1:((o:Int)+(j:Int)).toNat=o+j:=by omega
          have k2:(o:Int)+(j:Int)<448:=by omega
          have k3:(0:Int)<=(o:Int)+(j:Int):=by omega
          have be:=ac.set (o+j) (.bool true)
          rw[Qua T o j 448 (by omega)] at be
          have ah:=ao.setNew (b:=w.heap.size) (o:=o+j) (Z0 _) (.bool true)
          obtain⟨ce,ay,bp,bq⟩:=hid4 be ah ac ao
          clear be ah ac ao
          go_wp2_with fail
          go_round
          case rel=>exact⟨j+1,bo,by omega,by simp,ce.out,ay.out⟩
          case measure=>simp[intOf];omega
         ·have br:j=n:=by omega
          subst br
          have hmn:(min (low:Int) (o:Int))=((min low o:Nat):Int):=by omega
          obtain⟨bp,bq⟩:=hid2 ac ao
          clear ac ao
          go_wp2_with fail
          go_round
          case rel=>exact⟨i+1,min low o,markT T o j,bo,by omega,by simp,by simp,by omega,bd.out,bp.out,bq.out⟩
          case measure=>simp[intOf];omega
   ·have cf:i=q:=by omega
    subst cf
    have I:=Qax M
    rw[Hq.out] at I
    have L:=Qfn wr i (by omega)
    have cg:16+4*(i:Int)=((16+4*i:Nat):Int):=by omega
    rw[cg] at L
    have bs:Qb9 P T (16+4*i) 0=true:=rfl
    have ai:=az.out T low
    have aj:=b0.out T low
    generalize he:16+4*i=e at *
    have he448:e<=448:=by omega
    have bv:=Qfm M
    have bw:=bc.out low
    obtain⟨a6,a7,ab,l,Hz1,az,b0,HT,aq,ar,ch⟩:=hid11 I L E p bs ai aj hT M bv bw
    clear I L E p bs ai aj hT M bv bw
    go_wp2_with fail
    refine a6.out.mono ?_
    rintro e' F ⟨rfl,rfl⟩
    go_wp2_with fail
    refine a7.out.mono ?_
    rintro e' F ⟨rfl,rfl⟩
    go_wp2_with fail
    generalize hwr:wr=w2 at *
    go_loopw [9] (fun v wr=>∃(k:Nat),k<=448-e/\v = .int .i64 ((e+k:Nat):Int)/\Qb9 P T e k=true/\wr=w2) (fun v _=>448-(intOf v).toNat)
    case atStart=>exact⟨0,Z9 _,rfl,rfl,rfl⟩
    case round =>
     obtain⟨k,hk,rfl,R,rfl⟩:=hrel
     by_cases ca:k<448-e
     ·have kc:=ab.out.at (e+k) (Qfv T 448 (e+k) (by omega))
      have U:Qb9 P T e (k+1)=(Qb9 P T e k && (T (e+k) || decide (P.getD (e+k) 0=0))):=rfl
      rw[R,Bool.true_and] at U
      have pc:=aq.out.own.at (e+k) (Qfw P (e+k) (by omega))
      generalize hx:e+k=x at *
      have hx448:x<448:=by omega
      have hxi:(x:Int)<448:=by omega
      cases bf:T x with
      | true =>
        rw[bf] at kc U
        have bg:=Z2 U
        clear U R pc
        go_wp2_with fail
        go_round
        case rel=>exact⟨k+1,by omega,by first|(simp;omega)|omega,bg.out,trivial⟩
        case measure=>simp[intOf];omega
      | false =>
        rw[bf,Bool.false_or] at U
        rw[bf] at kc
        generalize hy:P.getD x 0=y at *
        by_cases h0:y=0
        ·subst h0
         have bg:=Z2 U
         clear U R
         go_wp2_with fail
         go_round
         case rel=>exact⟨k+1,by omega,by first|(simp;omega)|omega,bg.out,trivial⟩
         case measure=>simp[intOf];omega
        ·rw[decide_eq_false h0] at U
         have d:=az.out (k+1) HT.out U (by omega)
         have m:=Z2 d
         clear d R U
         go_wp2_with fail
         go_returns
         exact⟨by rw[m.out];rfl,G,l.out⟩
     ·have ci:e+k=448:=by omega
      have cj:k=448-e:=by omega
      rw[cj] at R
      have C:=b0.out HT.out R
      rw[ci]
      have a8:=Qax aq.out
      rw[Hq.out] at a8
      rw[ch.out] at C
      by_cases bh:i=0
      ·subst bh
       have r:=Qtc aq.out (-1) (by omega)
       generalize pageLow P=lo at *
       by_cases hl:low=lo
       ·subst hl
        rw[decide_eq_true rfl] at C
        obtain⟨aa,D,O⟩:=hid3 a8 r C
        clear a8 r C R
        go_wp2_with fail
        refine aa.out.mono ?_
        rintro e' F ⟨rfl,rfl⟩
        go_wp2_with fail
        refine D.out.mono ?_
        rintro e' F ⟨rfl,rfl⟩
        go_wp2_with fail
        refine ar.out.mono ?_
        rintro e' F ⟨rfl,rfl⟩
        go_wp2_with fail
        refine aa.out.mono ?_
        rintro e' F ⟨rfl,rfl⟩
        go_wp2_with fail
        go_returns
        exact⟨by rw[O.out];rfl,G,l.out⟩
       ·rw[decide_eq_false hl] at C
        have ck:¬(low:Int)=(lo:Int):=by omega
        obtain⟨aa,D,O⟩:=hid3 a8 r C
        clear a8 r C R
        go_wp2_with fail
        refine aa.out.mono ?_
        rintro e' F ⟨rfl,rfl⟩
        go_wp2_with fail
        refine D.out.mono ?_
        rintro e' F ⟨rfl,rfl⟩
        go_wp2_with fail
        refine ar.out.mono ?_
        rintro e' F ⟨rfl,rfl⟩
        go_wp2_with fail
        go_returns
        exact⟨by rw[O.out];rfl,G,l.out⟩
      ·have r:=Qgu aq.out (i-1) (by omega) (by rw[Hq.out];omega)
       have cm:((i-1:Nat):Int)=(i:Int)-1:=by omega
       rw[cm] at r
       rw[decide_eq_false bh,Bool.false_or] at C
       generalize pOff P (i-1)=oo at *
       generalize pLen P (i-1)=nn at *
       generalize pageLow P=lo at *
       have hi0':¬(i:Int)=0:=by omega
       by_cases hl:low=lo
       ·subst hl
        rw[decide_eq_true rfl,Bool.true_and] at C
        have bz:decide (0<(nn:Int))=decide (0<nn):=by by_cases hn:0<nn <;> simp[hn]
        obtain⟨aa,D,O⟩:=hid3 a8 r C
        clear a8 r C R
        go_wp2_with fail
        refine aa.out.mono ?_
        rintro e' F ⟨rfl,rfl⟩
        go_wp2_with fail
        refine D.out.mono ?_
        rintro e' F ⟨rfl,rfl⟩
        go_wp2_with fail
        refine ar.out.mono ?_
        rintro e' F ⟨rfl,rfl⟩
        go_wp2_with fail
        refine aa.out.mono ?_
        rintro e' F ⟨rfl,rfl⟩
        go_wp2_with fail
        go_returns
        exact⟨by rw[O.out];first|rfl|rw[bz]|(simp;intro h;exact absurd h bh),G,l.out⟩
       ·rw[decide_eq_false hl] at C
        have ck:¬(low:Int)=(lo:Int):=by omega
        obtain⟨aa,D,O⟩:=hid3 a8 r C
        clear a8 r C R
        go_wp2_with fail
        refine aa.out.mono ?_
        rintro e' F ⟨rfl,rfl⟩
        go_wp2_with fail
        refine D.out.mono ?_
        rintro e' F ⟨rfl,rfl⟩
        go_wp2_with fail
        refine ar.out.mono ?_
        rintro e' F ⟨rfl,rfl⟩
        go_wp2_with fail
        go_returns
        exact⟨by rw[O.out];rfl,G,l.out⟩
theorem Qnt {g0:Tag} {v:Value} {Z:List Int}(h:Bytes w τ g0 v Z) (hl:Z.length=448) (X:Z≠zeros448) :
 Calls Tryz.prog 117 #[v] w fun e R=>∃d,Step w τ R d nil/\((Qeh Z=true/\∃b,e = .returned (.tuple #[.pointer (some ⟨b,0,none⟩),.int .u16 0])/\w.heap.size<=b/\PageAt R d g b Z)\/(Qeh Z=false/\e = .returned (.tuple #[.pointer none,.int .u16 90]))):=by
 obtain⟨s,p,c,rfl,h1,h2,h3⟩:=h
 have x:=s
 obtain⟨y,o,rfl,i,Y⟩:=h3 (by omega)
 have hr:=Qhv Y
 have k:(Tryz.prog.info? 152).map (·.size)=some 448:=by kernel_rfl
 have m:(Tryz.prog.info? 152).map (·.size)=some (u8s Z).length:=by rw[Qac,hl];exact k
 have z:∀w,(Instr.arrayAt 152 (.slice (some ⟨y,o,none⟩) 448 c)).run Tryz.prog w = .ok (.pointer (some ⟨y,o,none⟩)) w:=fun w=>run_arrayAt w _ _ 448 _ _ c Tryz.underlying152 (by omega)
 have a6:(Instr.loadAt 152 (.pointer (some ⟨y,o,none⟩))).run Tryz.prog w = .ok (.agg (u8s Z).toArray) w:=run_loadAt_mid w y o _ _ _ hr Tryz.underlying152 rfl m
 rw[hl]
 obtain⟨Hc,Htag,Hr⟩:=hid3 Y i hr
 clear Y i hr h1 h3 s
 obtain⟨Hl,C⟩:=hid2 hl x
 clear hl x a6 k
 obtain⟨a8,D⟩:=hid2 z m
 clear z m
 go_enter Tryz.func117,Tryz.ntmps117
 go_wp2_with fail
 simp only[a8.out]
 simp only[Result.andThen_ok]
 go_step
 go_step
 refine wpList_load_mid rfl 152 _ rfl y o rfl (u8s Z) _ Hr.out Tryz.underlying152 rfl D.out ?_
 have q:(u8s Z).toArray.size=448:=by rw[List.size_toArray,Qac];exact Hl.out
 have hfold:=Qpq _ q
 have E:(w.alloc (.cells (u8s Z).toArray 154)).rangeAt w.heap.size 0 (u8s Z).toArray.toList:=by
  intro j v hv
  rw[Nat.zero_add]
  exact(Own.new w τ g 154 (u8s Z)).at j hv
 have l:(Tryz.prog.info? 152).map (·.size)=some (u8s Z).toArray.toList.length:=D.out
 generalize F:(u8s Z).toArray=cs at *
 obtain⟨aa,G,I⟩:=hid3 E l F
 clear E l F
 go_step
 go_step
 go_step
 go_step
 go_step
 go_step
 go_step
 go_step
 go_step
 go_step
 go_step
 go_step
 go_step
 go_step
 go_step
 go_step
 go_step
 go_step
 go_step
 go_step
 go_step
 go_step
 go_step
 go_step
 refine wpList_load_mid rfl 152 (.tmp 15) rfl w.heap.size 0 rfl cs.toList _ aa.out Tryz.underlying152 rfl G.out ?_
 simp only[Array.toArray_toList]
 go_step
 go_step
 go_step
 have hq:Tryz.zeroCells152 = (u8s zeros448).toArray:=by kernel_rfl
 refine Qiw rfl .eql 152 152 (.tmp 16) (.tmp 17) rfl (.agg cs) (.agg Tryz.zeroCells152) (.bool false) rfl rfl (Qfz _ _ _ _ _) (by rw[hq,<-I.out,Qi1 _ C.out Qda Hl.out (by simp[zeros448]),decide_eq_false X]) ?_
 clear hq
 have J:=(Step.refl w τ nil).alloc (.cells cs 154) g
 have r:PageAt (w.alloc (.cells cs 154)) (τ.put w.heap.size g) g w.heap.size Z:=by
  refine⟨?_,C.out,Hl.out⟩
  have:=Own.new w τ g 154 (u8s Z)
  rw[show ({toList:=u8s Z}:Array Value)=cs from I.out] at this
  exact this
 have L:=Qnr r
 generalize s:Qeh Z=B at *
 obtain⟨M,N,ab⟩:=hid3 L J r
 clear L J r
 cases B with
 | true =>
   go_wp2_with fail
   refine M.out.mono ?_
   rintro e R ⟨rfl,d,O⟩
   have U:=Z2 O
   clear O
   go_wp2_with fail
   go_ret2
   exact⟨d,N.out.trans U.out,.inl ⟨s,w.heap.size,rfl,Z0 _,ab.out.step U.out (fun h=>h)⟩⟩
 | false =>
   go_wp2_with fail
   refine M.out.mono ?_
   rintro e R ⟨rfl,d,O⟩
   have U:=Z2 O
   clear O
   go_wp2_with fail
   go_ret2
   exact⟨d,N.out.trans U.out,.inr ⟨s,rfl⟩⟩
theorem Sound.some(h:Sound P):P≠zeros448:=by
 intro e
 have hh:=h.head
 have h1:pageCount P=0:=by rw[e];decide +kernel
 have h2:pageLow P=0:=by rw[e];decide +kernel
 rw[h1,h2] at hh
 have:(448:Nat)=0:=congrArg Prod.snd hh
 omega
theorem Qg4 {g0:Tag} {v:Value}(h:Bytes w τ g0 v P) (k:Sound P) :
 Calls Tryz.prog 117 #[v] w fun e l=>∃b d,e = .returned (.tuple #[.pointer (some ⟨b,0,none⟩),.int .u16 0])/\w.heap.size<=b/\PageAt l d g b P/\Step w τ l d nil:=by
 refine(Qnt h k.tidy.len k.some (g:=g)).mono ?_
 rintro e l ⟨d,m,⟨_,b,rfl,i,o⟩|⟨j,_⟩⟩
 ·exact⟨b,d,rfl,i,o,m⟩
 ·rw[k.yes] at j;cases j
