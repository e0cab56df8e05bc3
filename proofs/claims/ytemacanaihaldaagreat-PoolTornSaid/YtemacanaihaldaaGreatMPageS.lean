/-
 Pages: an empty page is sound;a stamp leaves a page sound (plain).
-/
import Derived.Test.YtemacanaihaldaaGreatMPageN
import Derived.Test.YtemacanaihaldaaGreatMPoolD
set_option maxRecDepth 100000
set_option maxHeartbeats 4000000
set_option linter.all false
namespace Go.Proofs.YtemacanaihaldaaGreat
variable {P:List Int}{g:Tag}{n:Nat}{w:World}{τ:Tags}
open Go.RowKit
theorem Qa2:zeros448.length=448:=List.length_replicate
theorem Qog (n:Nat):(emptyPage n).length=448:=by
 unfold emptyPage
 have h1:8+(leB n 4).length≤zeros448.length:=by rw[Qaa,Qa2];omega
 rw[Qae _ _ _ (by rw[Qae _ _ _ h1,Qaa,Qa2];omega),Qae _ _ _ h1,Qa2]
theorem Qoh (n:Nat):IsB (emptyPage n):=Qaw (Qaw Qda (Qan _ _) _) (Qan _ _) _
theorem Qoi (n i:Nat) (hi:16≤i) (h2:i<448):(emptyPage n)[i]?=some 0:=by
 unfold emptyPage
 have h1:8+(leB n 4).length≤zeros448.length:=by rw[Qaa,Qa2];omega
 have h3:14+(leB 448 2).length≤(layN zeros448 8 (leB n 4)).length:=by rw[Qae _ _ _ h1,Qaa,Qa2];omega
 rw[Qa1 h3,if_neg (by rw[Qaa];omega),Qa1 h1,if_neg (by rw[Qaa];omega)]
 unfold zeros448
 rw[List.getElem?_replicate,if_pos h2]
theorem Qof (n:Nat):pageLow (emptyPage n)=448:=by
 unfold emptyPage
 have h1:8+(leB n 4).length≤zeros448.length:=by rw[Qaa,Qa2];omega
 have h3:14+(leB 448 2).length≤(layN zeros448 8 (leB n 4)).length:=by rw[Qae _ _ _ h1,Qaa,Qa2];omega
 unfold pageLow pageN
 rw[Qdh h3 rfl (by rw[Qaa]),Qdl 448 2 2 (Nat.le_refl _)]
theorem Qjo (n:Nat) (hn:n<4294967296):pageNumber (emptyPage n)=n:=by
 unfold emptyPage
 have h1:8+(leB n 4).length≤zeros448.length:=by rw[Qaa,Qa2];omega
 have h3:14+(leB 448 2).length≤(layN zeros448 8 (leB n 4)).length:=by rw[Qae _ _ _ h1,Qaa,Qa2];omega
 unfold pageNumber
 rw[Qaj h3 (.inl (by omega))]
 unfold pageN
 rw[Qdh h1 rfl (by rw[Qaa]),Qdl n 4 4 (Nat.le_refl _)]
 exact Nat.mod_eq_of_lt hn
theorem emptyPage_lsn (n:Nat):pageLSN (emptyPage n)=0:=by
 unfold emptyPage
 have h1:8+(leB n 4).length≤zeros448.length:=by rw[Qaa,Qa2];omega
 have h3:14+(leB 448 2).length≤(layN zeros448 8 (leB n 4)).length:=by rw[Qae _ _ _ h1,Qaa,Qa2];omega
 unfold pageLSN
 rw[Qaj h3 (.inl (by omega)),Qaj h1 (.inl (by omega))]
 decide +kernel
theorem Qlq (n:Nat) (hn:n<4294967296):Sound (emptyPage n):=by
 have hc:=Qea n hn
 have hl:∀t,pLen (emptyPage n) t=0:=fun t=>Qb7 (by rw[hc];exact Nat.zero_le _)
 have ho:∀t,pOff (emptyPage n) t=0:=fun t=>Qsa (by rw[hc];exact Nat.zero_le _)
 refine⟨⟨Qog n,Qoh n,⟨Qps n hn,fun s hs=>by rw[hl] at hs;omega⟩,fun s _=>ho s,fun s=>by rw[hl];omega,fun s t _ hs=>by rw[hl] at hs;omega,fun i h1 h2 _=>Qoi n i (by omega) h2⟩,?_⟩
 rw[hc,Qof];rfl
theorem Sound.stamp(h:Sound P) (n:Nat) (hn:n<2 ^ 64):Sound (layN P 0 (leB n 8))∧pageNumber (layN P 0 (leB n 8))=pageNumber P∧pageLSN (layN P 0 (leB n 8))=n∧∀t,pData (layN P 0 (leB n 8)) t=pData P t:=by
 have hlen:=h.tidy.len
 have h1:0+(leB n 8).length≤P.length:=by rw[Qaa];omega
 have hap:∀a k,8≤a→pageN (layN P 0 (leB n 8)) a k=pageN P a k:=fun a k h=>Qaj h1 (.inr (by rw[Qaa];omega))
 have hc:pageCount (layN P 0 (leB n 8))=pageCount P:=hap _ _ (by omega)
 have ho:∀t,pOff (layN P 0 (leB n 8)) t=pOff P t:=fun t=>by
  unfold pOff;rw[hc,hap _ _ (by omega)]
 have hl:∀t,pLen (layN P 0 (leB n 8)) t=pLen P t:=fun t=>by
  unfold pLen;rw[hc,hap _ _ (by omega)]
 refine⟨⟨⟨by rw[Qae _ _ _ h1,hlen],Qaw h.tidy.isB (Qan _ _) _,⟨⟨by rw[hc];exact h.tidy.lies.fit.count,fun t=>by rw[ho,hl];exact h.tidy.lies.fit.ends t⟩,fun t=>by rw[ho,hl,hc];exact h.tidy.lies.behind t⟩,fun t=>by rw[ho,hl];exact h.tidy.none t,fun t=>by rw[hl];exact h.tidy.small t,fun t u htu=>by rw[hl,hl,ho,ho];exact h.tidy.apart t u htu,fun i h2 h3 hz=>?_⟩,?_⟩,hap _ _ (by omega),?_,fun t=>Qd2 (hl t) (fun _=>ho t) (fun j hj=>?_)⟩
 ·rw[hc] at h2
  rw[Qa1 h1,if_neg (by rw[Qaa];omega)]
  exact h.tidy.zero i h2 h3 (fun t=>by have:=hz t;rw[ho,hl] at this;exact this)
 ·rw[Qgl hl ho,hc,h.head]
  have:pageLow (layN P 0 (leB n 8))=pageLow P:=hap _ _ (by omega)
  rw[this]
 ·unfold pageLSN pageN
  rw[Qdh h1 rfl (by rw[Qaa]),Qdl n 8 8 (Nat.le_refl _)]
  exact Nat.mod_eq_of_lt hn
 ·have hb:=h.tidy.lies.behind t (by omega)
  rw[Qa1 h1,if_neg (by rw[Qaa];omega)]
theorem Qp5 {c:Nat}(h:∀s,c≤s→pLen P s=0) (d:Nat):usedTo P (c+d)=usedTo P c:=by
 induction d with
 | zero=>rfl
 | succ d ih=>show usedTo P (c+d)+pLen P (c+d)=_;rw[ih,h _ (by omega)];omega
theorem Qsv {Q:List Int} {s:Nat}(hl:∀t,pLen Q t=if t=s then 0 else pLen P t) (q:Nat):usedTo Q q+(if s<q then pLen P s else 0)=usedTo P q:=by
 induction q with
 | zero=>rfl
 | succ q ih =>
   show usedTo Q q+pLen Q q+_=usedTo P q+pLen P q
   rw[hl]
   by_cases e:q=s
   ·subst e
    rw[if_pos rfl,if_pos (by omega)]
    rw[if_neg (by omega)] at ih
    omega
   ·rw[if_neg e]
    by_cases e2:s<q
    ·rw[if_pos e2] at ih
     rw[if_pos (by omega)];omega
    ·rw[if_neg e2] at ih
     rw[if_neg (by omega)];omega
theorem Qqx {Q:List Int} {s:Nat}(h:Cleared P Q s) (hs:0<pLen P s):pUsed Q+pLen P s=pUsed P:=by
 have hsc:s<pageCount P:=by
  rcases Nat.lt_or_ge s (pageCount P) with h1|h1
  ·exact h1
  ·rw[Qb7 h1] at hs;omega
 have h1:=Qsv h.plen (pageCount P)
 rw[if_pos hsc] at h1
 have h2:=Qp5 (P:=Q) (c:=pageCount Q) (fun t ht=>Qb7 ht) (pageCount P-pageCount Q)
 rw[show pageCount Q+(pageCount P-pageCount Q)=pageCount P by have:=h.count;omega] at h2
 unfold pUsed
 omega
def tAll:Tag:=(93,0)
theorem Qtg (P:List Int) (o n:Nat):over (u8s P) o (u8s (List.replicate n 0))=u8s (layN P o (List.replicate n 0)):=by
 have:=Qby P (List.replicate n 0) o n (by rw[List.length_replicate])
 rw[List.take_of_length_le (by rw[List.length_replicate];exact Nat.le_refl _)] at this
 exact this
theorem Qme {l:List (List Int)} {x:List Int} {j:Nat}(h:j<l.length):(l++[x]).getD j []=l.getD j []:=by
 rw[List.getD_eq_getElem?_getD,List.getD_eq_getElem?_getD,List.getElem?_append_left h]
theorem Qmf {l:List (List Int)} {x:List Int} {j:Nat}(h:j=l.length):(l++[x]).getD j []=x:=by
 subst h
 rw[List.getD_eq_getElem?_getD,List.getElem?_append_right (Nat.le_refl _),Nat.sub_self];rfl
theorem Qk4 {b:Nat}(hg:g≠tOut∧g≠tData∧g≠tAll) (h:PageAt w τ g b P) (ht:Tidy P) (hroom:16+4*pageCount P+pUsed P≤448) :
 Calls Tryz.prog 198 #[.pointer (some ⟨b,0,none⟩)] w fun e w'=>e = .returned (.tuple #[])∧∃Q τ',PageAt w' τ' g b Q∧Packed P Q∧Step w τ w' τ' (fun t=>t=g):=by
 have h1:=Qfl h ht.lies.fit
 have hc:=ht.lies.fit.count
 have hmem:∀i,i<(Qab P).length→(Qab P).getD i 0<pageCount P∧0<pLen P ((Qab P).getD i 0):=fun i hi=>by
  have hm:(Qab P).getD i 0∈Qab P:=by
   rw[List.getD_eq_getElem?_getD,List.getElem?_eq_getElem hi]
   exact List.getElem_mem _
  exact Qcx hm
 have hwp:∀i,i≤(Qab P).length→Wipes P (Qcr P (Qab P) i):=fun i hi=>Qf3 ht Qdr i hi
 have hws:∀i,Qcr P (Qab P) (i+1)=layN (Qcr P (Qab P) i) (pOff P ((Qab P).getD i 0)) (List.replicate (pLen P ((Qab P).getD i 0)) 0):=fun i=>rfl
 have hw0:Qcr P (Qab P) 0=P:=rfl
 have hends:=ht.lies.fit.ends
 have hpk0:=Packs.start ht
 have hpkn:∀(R m:List Int) (i:Nat),i<(Qab P).length→Packs P R (Qab P) i→m=pData P ((Qab P).getD i 0)→IsB m→Packs P (pList (layN R (448-sumTo P (Qab P) (i+1)) m) ((Qab P).getD i 0) (448-sumTo P (Qab P) (i+1)) m.length) (Qab P) (i+1) :=
  fun R m i hi hr hm hB=>hr.next ht hroom hi rfl rfl (by rw[hm];exact Qbm ht.lies.fit ht.len _) hm hB
 have hwd:∀i,i<(Qab P).length→pData (Qcr P (Qab P) i) ((Qab P).getD i 0)=pData P ((Qab P).getD i 0):=fun i hi=>Qp2 ht Qdr _ i (Nat.le_of_lt hi) (fun j hj=>Nat.ne_of_lt (Qb2 P (pageCount P) j i hj hi))
 have hpdl:∀s,(pData P s).length=pLen P s:=fun s=>Qbm ht.lies.fit ht.len s
 have hpkd:∀R,Packs P R (Qab P) (Qab P).length→Tidy R∧Packed P (pSettle R):=fun R hr=>⟨hr.tidy ht hroom,hr.done ht hroom⟩
 have hsum:∀i,i<(Qab P).length→sumTo P (Qab P) (i+1)=sumTo P (Qab P) i+pLen P ((Qab P).getD i 0)∧16+4*pageCount P+sumTo P (Qab P) (i+1)≤448:=fun i hi=>by
  refine⟨rfl,?_⟩
  have h1:sumTo P (Qab P) (i+1)≤sumTo P (Qab P) (Qab P).length:=Qcf P _ hi
  have h2:sumTo P (Qab P) (Qab P).length=pUsed P:=Qgs P _
  omega
 have hsl:=Qes P (pageCount P)
 have hsl2:(Qab P).length≤40:=Nat.le_trans hsl hc
 generalize hl:Qab P=l at *
 generalize hn:l.length=n at *
 obtain⟨H1,Hmem,Hwp,Hws,Hends,Hpk0,Hpkn,Hpkd,Hsum,Hn,Hl,Hw0⟩:=hid12 h1 hmem hwp hws hends hpk0 hpkn hpkd hsum hn hl hw0
 obtain⟨Hwd,Hpdl⟩:=hid2 hwd hpdl
 clear h1 hmem hwp hws hends hpk0 hpkn hpkd hsum hn hl hw0 hwd hpdl
 obtain⟨H_h,Ht⟩:=hid2 h ht
 clear h ht hroom hsl
 obtain⟨hg1,hg2,hg3⟩:=hg
 go_enter Tryz.func198,Tryz.ntmps198
 go_wp2_with fail
 refine H1.out.mono ?_
 rintro e w1 ⟨v1,τ1,rfl,hni,hs1⟩
 obtain⟨p1,c1,hv1,hmx,-⟩:=hni.buf.read
 subst hv1
 rw[Hn.out] at hmx
 have hnl:=Hn.out
 obtain⟨Hni,Hs1⟩:=hid2 hni hs1
 clear hni hs1 H1
 rw[hnl]
 clear hnl
 go_wp2_with fail
 go_loopw [3,15] (fun m v wr=>∃(i:Nat) (τr:Tags) (ds:List (List Int)),i≤n∧v = .int .i64 (i:Int)∧ds.length=i∧(∀j,j<i→ds.getD j []=pData P (l.getD j 0))∧NV w1.heap.size wr τr tAll m ds∧PageAt wr τr g b (Qcr P l i)∧Step w1 τ1 wr τr (fun t=>t=g)) (fun _ v _=>n-(intOf v).toNat)
 case atStart=>exact⟨0,τ1,[],Nat.zero_le _,rfl,rfl,fun j hj=>by omega,NV.nil _ _ _ _,by rw[Hw0.out];exact H_h.out.step Hs1.out (fun h=>h),Step.refl _ _ _⟩
 case round =>
  obtain⟨i,τr,ds,hi,rfl,hdl,hdn,hnv,hpg,hst⟩:=hrel
  by_cases hlt:i<n
  ·obtain⟨p',c',hv',_,hrd⟩:=(Hni.out.step hst (fun e=>hg1 e.symm)).buf.read
   rw[Hn.out] at hv'
   cases hv'
   obtain⟨br,rfl,hcell⟩:=hrd i (by rw[Hn.out];exact hlt)
   clear hrd
   obtain⟨hs1',hs2'⟩:=Hmem.out i hlt
   have hw:=Hwp.out i hi
   have hwn:=Hws.out i
   have hen:=Hends.out (l.getD i 0)
   have hget:=Qi5 hpg hw.lies.fit (l.getD i 0) (by omega) tData
   have hdlen:=Qbm hw.lies.fit hw.len (l.getD i 0)
   have hpl:=hw.plen (l.getD i 0)
   have hpo:=hw.off (l.getD i 0)
   have hdat:=fun (W:World) (T:Tags) (hp:PageAt W T g b (Qcr P l i))=>Qbx hp hw.lies.fit (l.getD i 0) (by omega)
   rw[hpl] at hget hdlen
   simp only[hpl,hpo] at hdat
   have hnx:=Hwp.out (i+1) hlt
   generalize hQ:Qcr P l i=Q at *
   generalize hQn:Qcr P l (i+1)=Qn at *
   generalize hs:l.getD i 0=s at *
   have hwdi:=Hwd.out i hlt
   rw[hQ,hs] at hwdi
   generalize hxx:pData Q s=x at *
   generalize hln:pLen P s=len at *
   generalize pOff P s=o at *
   have hsz:ds.length≤1000000000:=by omega
   have hov:=Qtg Q o len
   rw[←hwn] at hov
   obtain⟨pm,cm,rfl⟩:=hnv.val
   have hln0:¬len=0:=by omega
   have hln1:¬(len:Int)=0:=by omega
   obtain⟨Hget,Hdat,Hnv,Hpg,Hst,Hdlen,Hsz,Hov,Hnx,Hdn,Hdl,Hwdi⟩:=hid12 hget hdat hnv hpg hst hdlen hsz hov hnx hdn hdl hwdi
   have Hxx:=Lib.hid hxx
   clear hget hdat hnv hpg hst hdlen hsz hov hnx hdn hdl hwdi hxx hw hwn hpl hpo
   go_wp2_with fail
   refine Hget.out.mono ?_
   rintro e w2 ⟨u,τ2,rfl,hbu,hs2⟩
   obtain⟨pu,cu,rfl,-,-⟩:=hbu.any
   have hst2:=Hst.out.trans (hs2.mono (T:=fun t=>t=g) (fun _ h=>h.elim))
   have hnv2:=Hnv.out.step hs2 (fun h=>h) (fun h=>h)
   have hpg2:=Hpg.out.step hs2 (fun h=>h)
   obtain⟨Hbu,Hst2,Hnv2,Hpg2⟩:=hid4 hbu hst2 hnv2 hpg2
   clear hbu hst2 hnv2 hpg2 hs2 Hget
   go_wp2_with (at_builtin;refine Qcv Hst2.out (by decide) Hnv2.out Hbu.out Hsz.out rfl rfl _ _ rfl rfl rfl ?_;intro v3 w3 τ3 hnv3 hst3 hs3;have hpg3:=Hpg2.out.step hs3 (fun h=>hg3 h);have hd3:=Hdat.out _ _ hpg3;obtain⟨Hnv3,Hst3,Hpg3,Hd3⟩:=hid4 hnv3 hst3 hpg3 hd3;clear hnv3 hst3 hpg3 hd3;clear hs3)
   refine Hd3.out.mono ?_
   rintro e w4 ⟨o',rfl,ho',rfl⟩
   obtain rfl:=ho' hs2'
   have hown3:=Hpg3.out.own
   have hrun:=fun (c:Nat) (ty:TypeId)=>Qht hown3 hs2' (off:=o') (by rw[Qac,Hpg3.out.len];exact hen) (c:=c) ty
   rw[Hov.out] at hrun
   have Hown3:=Lib.hid hown3
   clear hown3
   go_wp2_with fail
   go_round
   case rel =>
    have hq:=(Step.refl w3 τ3 (fun t=>t=g)).row Hown3.out.tag (.inl rfl) (u8s Qn).toArray
    refine⟨i+1,τ3,ds++[x],by omega,by simp,by rw[List.length_append,Hdl.out];rfl,fun j hj=>?_,Hnv3.out.step hq (fun h=>hg3 h.symm) (fun h=>hg2 h.symm),?_,Hst3.out.trans hq⟩
    ·by_cases e:j<ds.length
     ·rw[Qme e];exact Hdn.out j (by rw[←Hdl.out];exact e)
     ·have ej:j=i:=by have:=Hdl.out;omega
      rw[Qmf (by have:=Hdl.out;omega),ej,hs];exact Hwdi.out
    ·rw[hQn]
     exact⟨Hown3.out.row' _,Hnx.out.isB,Hnx.out.len⟩
   case measure=>simp[intOf];omega
  ·have hin:i=n:=by omega
   subst hin
   obtain⟨Hnv,Hpg,Hst,Hdn,Hdl⟩:=hid5 hnv hpg hst hdn hdl
   clear hnv hpg hst hdn hdl
   generalize hwr:wr=w2 at *
   generalize hτr:τr=τ2 at *
   obtain⟨pm,cm,rfl⟩:=Hnv.out.val
   rw[Hdl.out]
   go_wp2_with fail
   go_loopw [8,35] (fun a v wr=>∃(k:Nat) (τr:Tags) (R:List Int),k≤i∧v = .int .i64 (k:Int)∧a = .int .i64 ((448-sumTo P l k:Nat):Int)∧Packs P R l k∧PageAt wr τr g b R∧Step w2 τ2 wr τr (fun t=>t=g)) (fun _ v _=>i-(intOf v).toNat)
   case atStart=>exact⟨0,τ2,_,Nat.zero_le _,rfl,rfl,Hpk0.out,Hpg.out,Step.refl _ _ _⟩
   case round =>
    obtain⟨k,τr,R,hk,rfl,rfl,hpk,hpg,hst2⟩:=hrel
    by_cases hlt:k<i
    ·obtain⟨p',c',hv',_,hrd⟩:=((Hni.out.step Hst.out (fun e=>hg1 e.symm)).step hst2 (fun e=>hg1 e.symm)).buf.read
     rw[Hn.out] at hv'
     cases hv'
     obtain⟨br,rfl,hcell⟩:=hrd k (by rw[Hn.out];exact hlt)
     clear hrd
     obtain⟨pa,ca,hva,-,hra⟩:=(Hnv.out.step hst2 (fun e=>hg3 e.symm) (fun e=>hg2 e.symm)).read
     cases hva
     obtain⟨ba,u,rfl,hcu,hbu⟩:=hra k (by rw[Hdl.out];exact hlt)
     clear hra
     obtain⟨pu,cu,rfl,-,-⟩:=hbu.any
     have hmd:=Hdn.out k hlt
     have hml:=hmd
     replace hml:(ds.getD k []).length=pLen P (l.getD k 0):=by rw[hmd];exact Hpdl.out _
     have hBm:=hbu.isB
     obtain⟨hs1',hs2'⟩:=Hmem.out k hlt
     obtain⟨hsm1,hsm2⟩:=Hsum.out k hlt
     have hpkn:=Hpkn.out R (ds.getD k []) k hlt hpk hmd hBm
     rw[hml] at hcu hbu hpkn
     generalize hm:ds.getD k []=m at *
     generalize hs:l.getD k 0=s at *
     have hlen1:=hpk.len
     have hsml:pLen P s≤64:=Ht.out.small s
     generalize hln:pLen P s=len at *
     generalize hx0:448-sumTo P l k=x at *
     generalize ha0:448-sumTo P l (k+1)=a at *
     have hax:((x:Nat):Int)-(len:Int)=((a:Nat):Int):=by omega
     have ha448:a+len≤448:=by omega
     have hle:a≤448:=by omega
     have hlei:(a:Int)≤448:=by omega
     have hne:¬a=448:=by omega
     have hne':¬448=a:=by omega
     have hmin:len=Nat.min m.length (448-a):=by rw[hml];exact(Nat.min_eq_left (by omega)).symm
     have hft:a+len≤(u8s R).length:=by rw[Qac,hpg.len];exact ha448
     have hst0:=(Step.refl wr τr (fun t=>t=g)).drew
     have ho0:=hpg.own.drew
     have hb0:=hbu.drew
     have hs40:s≤107:=by omega
     have hdl:=Hdl.out
     clear hmd
     obtain⟨Hpkn,Hml,HBm,Hpg,Hst2,Hmin,Hft,Hst0,Ho0,Hb0,Hlen1,Hm⟩:=hid12 hpkn hml hBm hpg hst2 hmin hft hst0 ho0 hb0 hlen1 hm
     obtain⟨Hs,Hln,Hx0,Ha0⟩:=hid4 hs hln hx0 ha0
     clear hpkn hml hBm hpg hst2 hmin hft hst0 ho0 hb0 hlen1 hm hs hln hx0 ha0 hpk hsm1 hsm2 hs1' hs2' hbu
     go_wp2_with fail
     go_region_law (first
      | (refine Qbb Hst0.out Ho0.out (.inl rfl) Hb0.out len Hmin.out Hft.out rfl _ _ rfl rfl rfl ?_
         intro w3 ho3 hs3 hW3
         rw[Qby _ _ _ _ Hml.out.symm] at ho3
         have hl3:=Qej hs3 (.inl rfl) ⟨ho3,Qaw Hpg.out.isB HBm.out a,by rw[Qae _ _ _ (by rw[Hml.out,Hlen1.out];exact ha448)];exact Hlen1.out⟩ s a len hs40 (by omega) (by omega)
         have Hl3:=Lib.hid hl3
         clear hl3
         clear ho3 hs3 hW3)
      | (go_simp
         go_at_call 199
         refine Hl3.out.mono ?_
         rintro e w4 ⟨rfl,τ4,hp4,hs4,-⟩
         obtain⟨Hp4,Hs4⟩:=hid2 hp4 hs4
         clear hp4 hs4))
     go_wp2_with fail
     go_round
     case rel=>exact⟨k+1,τ4,_,by omega,by simp,by rw[Ha0.out],Hpkn.out,Hp4.out,Hst2.out.trans Hs4.out⟩
     case measure=>simp[intOf];omega
    ·have hki:k=i:=by omega
     subst hki
     obtain⟨htr,hpd⟩:=Hpkd.out R hpk
     have hp3:=Qc7 (Step.refl wr τr (fun t=>t=g)) (.inl rfl) hg1 hpg htr.lies.fit
     clear htr
     obtain⟨Hp3,Hpd,Hst2⟩:=hid3 hp3 hpd hst2
     clear hp3 hpd hst2
     go_wp2_with fail
     refine Hp3.out.mono ?_
     rintro e w4 ⟨rfl,τ4,hp4,hs4,-⟩
     obtain⟨Hp4,Hs4⟩:=hid2 hp4 hs4
     clear hp4 hs4
     go_wp2_with fail
     go_returns
     exact⟨rfl,_,τ4,Hp4.out,Hpd.out,((Hs1.out.mono (T:=fun t=>t=g) (fun _ h=>h.elim)).trans Hst.out).trans (Hst2.out.trans Hs4.out)⟩
theorem Qfn (w:World) (c:Nat) (hc:c≤1000):Calls Tryz.prog 195 #[.int .i64 (c:Int)] w fun e w'=>e = .returned (.int .i64 (16+4*(c:Int)))∧w=w':=by
 go_enter Tryz.func195,Tryz.ntmps195
 go_wp2_with fail
 go_ret
 exact⟨rfl,rfl⟩
structure SetR (P Q:List Int) (i:Int) (m:List Int) (er:Nat):Prop where
 ok:er=0→Sound Q∧pageNumber Q=pageNumber P∧pageLSN Q=pageLSN P∧∀t:Nat,pData Q t=if (t:Int)=i then m else pData P t
 no:er≠0→Q=P
 le:er<65536
 room:∀s:Nat,i=(s:Int)→s<40→0<m.length→m.length≤64→16+4*max (pageCount P) (s+1)+pUsed P+m.length≤448→er=0
def SetD (w:World) (τ:Tags) (g:Tag) (b:Nat) (P:List Int) (i:Int) (m:List Int) (e:Ending) (w':World):Prop:=∃er Q τ',e = .returned (.int .u16 ((er:Nat):Int))∧SetR P Q i m er∧PageAt w' τ' g b Q∧Step w τ w' τ' (fun t=>t=g)
theorem SetR.bad (P:List Int) (i:Int) (m:List Int) (er:Nat) (h:er≠0) (hl:er<65536) (hr:∀s:Nat,i=(s:Int)→s<40→0<m.length→m.length≤64→448<16+4*max (pageCount P) (s+1)+pUsed P+m.length):SetR P P i m er:=⟨fun e=>absurd e h,fun _=>rfl,hl,fun s h1 h2 h3 h4 h5=>by have:=hr s h1 h2 h3 h4;omega⟩
theorem Qqv {b:Nat}(h:PageAt w τ g b P) (i:Int) (p:Option Addr) (k c:Nat) (m:List Int) (hmk:m.length=k) (hbad:i<0∨40≤i∨k=0∨64<k) (hk:k≤maxLen) :
 Calls Tryz.prog 115 #[.pointer (some ⟨b,0,none⟩),.int .i64 i,.slice p k c] w (SetD w τ g b P i m):=by
 have H_h:=Lib.hid h
 clear h
 by_cases h1:i<0
 ·go_enter Tryz.func115,Tryz.ntmps115
  go_wp2_with fail
  go_ret
  exact⟨91,P,τ,rfl,SetR.bad P i m 91 (by omega) (by omega) (fun s _ _ _ _=>by omega),H_h.out,Step.refl _ _ _⟩
 ·by_cases h2:40≤i
  ·go_enter Tryz.func115,Tryz.ntmps115
   go_wp2_with fail
   go_ret
   exact⟨91,P,τ,rfl,SetR.bad P i m 91 (by omega) (by omega) (fun s _ _ _ _=>by omega),H_h.out,Step.refl _ _ _⟩
  ·by_cases h3:k=0
   ·subst h3
    go_enter Tryz.func115,Tryz.ntmps115
    go_wp2_with fail
    go_ret
    exact⟨91,P,τ,rfl,SetR.bad P i m 91 (by omega) (by omega) (fun s _ _ _ _=>by omega),H_h.out,Step.refl _ _ _⟩
   ·have h4:(64:Int)<(k:Int):=by omega
    have h5:¬(k:Int)=0:=by omega
    go_enter Tryz.func115,Tryz.ntmps115
    go_wp2_with fail
    go_ret
    exact⟨91,P,τ,rfl,SetR.bad P i m 91 (by omega) (by omega) (fun s _ _ _ _=>by omega),H_h.out,Step.refl _ _ _⟩
structure Room (P P2:List Int) (s k:Nat):Prop where
 sound:Sound P2
 plen:pLen P2 s=0
 num:pageNumber P2=pageNumber P
 lsn:pageLSN P2=pageLSN P
 room:16+4*max (pageCount P2) (s+1)+k≤pageLow P2
 data:∀t,t≠s→pData P2 t=pData P t
theorem Room.done {P2 m:List Int} {s:Nat}(h:Room P P2 s m.length) (hs:s<40) (h0:0<m.length) (h64:m.length≤64) (hB:IsB m):SetR P (pSettle (pLaid P2 s m)) s m 0∧Tidy (pLaid P2 s m):=by
 obtain⟨ht,hn,hl,hd⟩:=h.sound.laid hs h.plen h0 h64 hB h.room
 have hh:=Qek ht.len ht.isB ht.lies.fit.count ht.none
 exact⟨⟨fun _=>⟨ht.settle,hh.num.trans (hn.trans h.num),hh.lsn.trans (hl.trans h.lsn),fun t=>by
  rw[hh.data ht.lies,hd]
  by_cases e:t=s
  ·rw[if_pos e,if_pos (by omega)]
  ·rw[if_neg e,if_neg (by omega)];exact h.data t e⟩,fun e=>absurd rfl e,by omega,fun _ _ _ _ _ _=>rfl⟩,ht⟩
structure Gone (P P1:List Int) (s:Nat):Prop where
 sound:Sound P1
 plen:pLen P1 s=0
 num:pageNumber P1=pageNumber P
 lsn:pageLSN P1=pageLSN P
 count:pageCount P1≤pageCount P
 used:pUsed P1+pLen P s=pUsed P
 data:∀t,t≠s→pData P1 t=pData P t
theorem Sound.gone(h:Sound P) (s:Nat):Gone P (if 0<pLen P s then Qi7 P s else P) s:=by
 by_cases hp:0<pLen P s
 ·rw[if_pos hp]
  have hc:=h.tidy.clear hp
  exact⟨hc.sound,by rw[hc.plen,if_pos rfl],hc.num,hc.lsn,hc.count,Qqx hc hp,fun t ht=>by rw[hc.data,if_neg ht]⟩
 ·rw[if_neg hp]
  exact⟨h,by omega,rfl,rfl,Nat.le_refl _,by omega,fun _ _=>rfl⟩
theorem Gone.room {P1:List Int} {s k:Nat}(h:Gone P P1 s) (hlow:16+4*max (pageCount P) (s+1)+k≤pageLow P1):Room P P1 s k:=⟨h.sound,h.plen,h.num,h.lsn,by have:=h.count;omega,h.data⟩
theorem Gone.packed {P1 P2:List Int} {s k:Nat}(h:Gone P P1 s) (hp:Packed P1 P2) (hfit:16+4*max (pageCount P) (s+1)+pUsed P1+k≤448):Room P P2 s k :=
 ⟨hp.sound,by rw[hp.plen];exact h.plen,hp.num.trans h.num,hp.lsn.trans h.lsn,by rw[hp.low];have:=h.count;have:=hp.count;omega,fun t ht=>(hp.data t).trans (h.data t ht)⟩
theorem Qq3 (a b c:Nat) (h:max a b=c):(max (a:Int) (b:Int))=(c:Int):=by omega
theorem Qpd {b:Nat}(hg:g≠tOut∧g≠tData∧g≠tAll) (h:PageAt w τ g b P) (ht:Sound P) (s:Nat) (hs:s<40) {v:Value}{g2:Tag}{m:List Int}(hb:Bytes w τ g2 v m) (hg2:g2≠g) (h0:0<m.length) (h64:m.length≤64) :
 Calls Tryz.prog 115 #[.pointer (some ⟨b,0,none⟩),.int .i64 (s:Int),v] w (SetD w τ g b P s m):=by
 obtain⟨hg1,hgd,hga⟩:=hg
 obtain⟨p,c,rfl,-,-⟩:=hb.any
 have hBm:=hb.isB
 have hfit:=ht.tidy.lies.fit
 have hc40:=hfit.count
 have hdat:=Qbx h hfit s (by omega)
 have hcnt:=Qax h
 have husd:=Qpc h hfit
 have hend:=Qfn w (max (pageCount P) (s+1)) (by omega)
 have hmx:=Qq3 (pageCount P) (s+1) _ rfl
 rw[show ((s+1:Nat):Int)=(s:Int)+1 by omega] at hmx
 have hover:=fun (hp:0<pLen P s) (hm:m.length=pLen P s)=>ht.over hp hm hBm
 have hclr:=Qhx (Step.refl w τ (fun t=>t=g)) (.inl rfl) hg1 h ht.tidy.lies s (by omega)
 have hgone:=ht.gone s
 have hends:=hfit.ends s
 have h448:=h.len
 have husl:pUsed P≤18000:=by
  have hle:∀i,usedTo P i≤i*448:=by
   intro i
   induction i with
   | zero=>simp[usedTo]
   | succ i ih=>have:=hfit.ends i;unfold usedTo;omega
  have:=hle (pageCount P)
  unfold pUsed
  omega
 have hlu:pLen P s≤pUsed P:=by have:=hgone.used;omega
 generalize hP1:(if 0<pLen P s then Qi7 P s else P)=P1 at *
 generalize hcm:max (pageCount P) (s+1)=cm at *
 have hcm100:cm≤40:=by omega
 have hcmc:pageCount P≤cm:=by omega
 have hcms:s+1≤cm:=by omega
 generalize hus:pUsed P=us at *
 generalize hpo:pOff P s=o at *
 generalize hpl:pLen P s=len at *
 generalize hk:m.length=k at *
 generalize hpc:pageCount P=pc at *
 have hk0:¬k=0:=by omega
 have hk1:¬(64:Int)<(k:Int):=by omega
 have hs1:¬(s:Int)<0:=by omega
 have hs2:¬(40:Int)≤(s:Int):=by omega
 have hk2:¬(k:Int)=0:=by omega
 obtain⟨Hdat,Hcnt,Husd,Hend,Hover,Hclr,Hgone,HBm,Hcm,Hus,Hpo,Hpl⟩:=hid12 hdat hcnt husd hend hover hclr hgone hBm hcm hus hpo hpl
 obtain⟨Hk,Hpc,HP1⟩:=hid3 hk hpc hP1
 clear hdat hcnt husd hend hover hclr hgone hBm hcm hus hpo hpl hk hpc hP1
 obtain⟨H_h,Ht,Hb⟩:=hid3 h ht hb
 clear h ht hb hfit
 by_cases hful:448<16+4*cm+us-len+k
 ·have a1:(448:Int)<16+4*(cm:Int)+(us:Int)-(len:Int)+(k:Int):=by omega
  go_enter Tryz.func115,Tryz.ntmps115
  go_wp2_with fail
  refine Hdat.out.mono ?_
  rintro e w' ⟨o',rfl,ho',rfl⟩
  go_wp2_with fail
  refine Hcnt.out.mono ?_
  rintro e w' ⟨rfl,rfl⟩
  go_wp2_with fail
  refine Hend.out.mono ?_
  rintro e w' ⟨rfl,rfl⟩
  go_wp2_with fail
  refine Husd.out.mono ?_
  rintro e w' ⟨rfl,rfl⟩
  go_wp2_with fail
  go_ret
  exact⟨92,P,τ,rfl,SetR.bad P s m 92 (by omega) (by omega) (fun t h1 _ _ _=>by have h2:s=t:=(by omega);subst h2;have:=Hpc.out;have:=Hcm.out;have:=Hus.out;have:=Hk.out;rw[Hpc.out,Hus.out,Hcm.out,Hk.out];omega),H_h.out,Step.refl _ _ _⟩
 ·have a1:¬(448:Int)<16+4*(cm:Int)+(us:Int)-(len:Int)+(k:Int):=by omega
  by_cases hsame:len=k
  ·subst hsame
   have hmin:len=Nat.min m.length len:=by rw[Hk.out];exact(Nat.min_self _).symm
   have hft:o+len≤(u8s P).length:=by rw[Qac,h448];exact hends
   have hrun:=fun (ty:TypeId)=>Qcg H_h.out.own (off:=o) (dLen:=len) (dCap:=448-o) Hb.out len hmin hft ty
   rw[Qby _ _ _ _ Hk.out.symm] at hrun
   have hq:=Hover.out h0 rfl
   have ho3:=H_h.out.own.row' (u8s (layN P o m))
   have hs3:=(Step.refl w τ (fun t=>t=g)).row H_h.out.own.tag (.inl rfl) (u8s (layN P o m)).toArray
   obtain⟨Ho3,Hs3,Hq⟩:=hid3 ho3 hs3 hq
   clear ho3 hs3 hq hmin hft
   go_enter Tryz.func115,Tryz.ntmps115
   go_wp2_with fail
   refine Hdat.out.mono ?_
   rintro e w' ⟨o',rfl,ho',rfl⟩
   obtain rfl:=ho' h0
   go_wp2_with fail
   refine Hcnt.out.mono ?_
   rintro e w' ⟨rfl,rfl⟩
   go_wp2_with fail
   refine Hend.out.mono ?_
   rintro e w' ⟨rfl,rfl⟩
   go_wp2_with fail
   refine Husd.out.mono ?_
   rintro e w' ⟨rfl,rfl⟩
   go_wp2_with fail
   go_ret
   exact⟨0,layN P o' m,τ,rfl,⟨fun _=>⟨Hq.out.1,Hq.out.2.1,Hq.out.2.2.1,fun t=>by rw[Hq.out.2.2.2];exact if e:t=s then (by rw[if_pos e,if_pos (by omega)]) else (by rw[if_neg e,if_neg (by omega)])⟩,fun e=>absurd rfl e,by omega,fun _ _ _ _ _ _=>rfl⟩,⟨Ho3.out,Qaw H_h.out.isB HBm.out _,Hq.out.1.tidy.len⟩,Hs3.out⟩
  ·have hsame':¬(len:Int)=(k:Int):=by omega
   go_enter Tryz.func115,Tryz.ntmps115
   go_wp2_with fail
   refine Hdat.out.mono ?_
   rintro e w' ⟨o',rfl,ho',rfl⟩
   clear ho'
   go_wp2_with fail
   refine Hcnt.out.mono ?_
   rintro e w' ⟨rfl,rfl⟩
   go_wp2_with fail
   refine Hend.out.mono ?_
   rintro e w' ⟨rfl,rfl⟩
   go_wp2_with fail
   refine Husd.out.mono ?_
   rintro e w' ⟨rfl,rfl⟩
   go_wp2_with fail
   refine Hclr.out.mono ?_
   rintro e w1 ⟨rfl,τ1,hp1,hs1,-⟩
   have hgs:=Hgone.out.sound
   have hlw:=Qfm hp1
   have hen2:=Qfn w1 cm (by omega)
   have htop:=hgs.top
   have hcount:=Hgone.out.count
   have hused:=Hgone.out.used
   have hb1:=Hb.out.step hs1 (fun e=>hg2 e)
   generalize hlo:pageLow P1=lo at *
   obtain⟨Hp1,Hs1,Hlw,Hen2,Hb1,Hlo⟩:=hid6 hp1 hs1 hlw hen2 hb1 hlo
   clear hp1 hs1 hlw hen2 hb1 hlo Hclr hgs
   go_wp2_with fail
   refine Hlw.out.mono ?_
   rintro e w' ⟨rfl,rfl⟩
   go_wp2_with fail
   refine Hen2.out.mono ?_
   rintro e w' ⟨rfl,rfl⟩
   by_cases hcomp:(lo:Int)-(16+4*(cm:Int))<(k:Int)
   ·have hpk:=Qk4 ⟨hg1,hgd,hga⟩ Hp1.out Hgone.out.sound.tidy (by rw[Hpc.out] at hcount;rw[Hus.out,Hpl.out] at hused;omega)
    have Hpk:=Lib.hid hpk
    clear hpk
    go_wp2_with fail
    refine Hpk.out.mono ?_
    rintro e w2 ⟨rfl,P2,τ2,hp2,hpk2,hs2⟩
    have hroom:=Hgone.out.packed hpk2 (k:=k) (by rw[Hpc.out,Hcm.out];rw[Hus.out,Hpl.out] at hused;omega)
    clear hpk2 hcomp Hpk
    have hlw2:=Qfm hp2
    have hcn2:=Qax hp2
    have htop2:=hroom.sound.top
    have hr2:=hroom.room
    have hc402:=hroom.sound.tidy.lies.fit.count
    obtain⟨hdone,htidy⟩:=(show Room P _ s m.length by rw[Hk.out];exact hroom).done hs (by rw[Hk.out];exact h0) (by rw[Hk.out];exact h64) HBm.out
    have hput:=Qbp (Step.refl _ _ (fun t=>t=g)) (.inl rfl) hp2 12 2 (max (pageCount P2) (s+1)) (by omega) (by omega) (by omega) (by omega)
    change Calls _ _ _ _ (fun e w'=>e = .returned (.tuple #[])∧∃τ',PageAt w' τ' g b (pMore P2 s)∧_∧_) at hput
    have hmx2:=Qq3 (pageCount P2) (s+1) _ rfl
    rw[show ((s+1:Nat):Int)=(s:Int)+1 by omega] at hmx2
    have hu2:=Qam (max (pageCount P2) (s+1)) (by omega)
    have hlaid:pLaid P2 s m=pList (layN (pMore P2 s) (pageLow P2-k) m) s (pageLow P2-k) k:=by unfold pLaid;rw[Hk.out]
    have hak:((pageLow P2:Nat):Int)-(k:Int)=((pageLow P2-k:Nat):Int):=by omega
    have ha448:pageLow P2-k+k≤448:=by omega
    generalize pLaid P2 s m=Z at *
    generalize pMore P2 s=M at *
    generalize hlo2:pageLow P2-k=a at *
    generalize pageLow P2=lo2 at *
    generalize max (pageCount P2) (s+1)=c2 at *
    generalize pageCount P2=pc2 at *
    obtain⟨Hp2,Hs2,Hroom,Hlw2,Hcn2,Hdone,Htidy,Hput,Hlaid⟩:=hid9 hp2 hs2 hroom hlw2 hcn2 hdone htidy hput hlaid
    clear hp2 hs2 hroom hlw2 hcn2 hdone htidy hput hlaid hr2 hc402 htop2 hlo2
    go_wp2_with fail
    refine Hlw2.out.mono ?_
    rintro e w' ⟨rfl,rfl⟩
    go_wp2_with fail
    refine Hcn2.out.mono ?_
    rintro e w' ⟨rfl,rfl⟩
    go_wp2_with fail
    refine Hput.out.mono ?_
    rintro e w3 ⟨rfl,τ3,hp3,hs3,-⟩
    have hle:a≤448:=by omega
    have hlei:(a:Int)≤448:=by omega
    have hne:¬a=448:=by omega
    have hne':¬448=a:=by omega
    have hmin:k=Nat.min m.length (448-a):=by rw[Hk.out];exact(Nat.min_eq_left (by omega)).symm
    have hft:a+k≤(u8s M).length:=by rw[Qac,hp3.len];exact ha448
    have hrun:=fun (ty:TypeId)=>Qcg hp3.own (off:=a) (dLen:=448-a) (dCap:=448-a) ((Hb1.out.step Hs2.out (fun e=>hg2 e)).step hs3 (fun e=>hg2 e)) k hmin hft ty
    rw[Qby _ _ _ _ Hk.out.symm] at hrun
    have hs4:=(Step.refl w3 τ3 (fun t=>t=g)).row hp3.own.tag (.inl rfl) (u8s (layN M a m)).toArray
    have hl4:=Qej hs4 (.inl rfl) ⟨hp3.own.row' (u8s (layN M a m)),Qaw hp3.isB HBm.out a,by rw[Qae _ _ _ (by rw[Hk.out,hp3.len];exact ha448)];exact hp3.len⟩ s a k (by omega) (by omega) (by omega)
    obtain⟨Hp3,Hs3,Hl4⟩:=hid3 hp3 hs3 hl4
    clear hp3 hs3 hl4 hmin hft hs4
    go_wp2_with fail
    refine Hl4.out.mono ?_
    rintro e w5 ⟨rfl,τ5,hp5,hs5,-⟩
    rw[←Hlaid.out] at hp5
    have hse:=Qc7 (Step.refl w5 τ5 (fun t=>t=g)) (.inl rfl) hg1 hp5 Htidy.out.lies.fit
    obtain⟨Hp5,Hs5,Hse⟩:=hid3 hp5 hs5 hse
    clear hp5 hs5 hse
    all_goals go_wp2_with fail
    all_goals refine Hse.out.mono ?_
    all_goals rintro e w6 ⟨rfl,τ6,hp6,hs6,-⟩
    all_goals (obtain⟨Hp6,Hs6⟩:=hid2 hp6 hs6;clear hp6 hs6)
    all_goals go_wp2_with fail
    all_goals go_returns
    all_goals exact⟨0,_,τ6,rfl,Hdone.out,Hp6.out,((Hs1.out.trans Hs2.out).trans Hs3.out).trans (Hs5.out.trans Hs6.out)⟩
   ·have hroom:=Hgone.out.room (k:=k) (by rw[Hpc.out,Hcm.out,Hlo.out];omega)
    have hp2:=Hp1.out
    have hs2:=Step.refl w1 τ1 (fun t=>t=g)
    have hlw2:=Qfm hp2
    have hcn2:=Qax hp2
    have htop2:=hroom.sound.top
    have hr2:=hroom.room
    have hc402:=hroom.sound.tidy.lies.fit.count
    obtain⟨hdone,htidy⟩:=(show Room P _ s m.length by rw[Hk.out];exact hroom).done hs (by rw[Hk.out];exact h0) (by rw[Hk.out];exact h64) HBm.out
    have hput:=Qbp (Step.refl _ _ (fun t=>t=g)) (.inl rfl) hp2 12 2 (max (pageCount P1) (s+1)) (by omega) (by omega) (by omega) (by omega)
    change Calls _ _ _ _ (fun e w'=>e = .returned (.tuple #[])∧∃τ',PageAt w' τ' g b (pMore P1 s)∧_∧_) at hput
    have hmx2:=Qq3 (pageCount P1) (s+1) _ rfl
    rw[show ((s+1:Nat):Int)=(s:Int)+1 by omega] at hmx2
    have hu2:=Qam (max (pageCount P1) (s+1)) (by omega)
    have hlaid:pLaid P1 s m=pList (layN (pMore P1 s) (pageLow P1-k) m) s (pageLow P1-k) k:=by unfold pLaid;rw[Hk.out]
    have hak:((pageLow P1:Nat):Int)-(k:Int)=((pageLow P1-k:Nat):Int):=by omega
    have ha448:pageLow P1-k+k≤448:=by omega
    generalize pLaid P1 s m=Z at *
    generalize pMore P1 s=M at *
    generalize hlo2:pageLow P1-k=a at *
    generalize pageLow P1=lo2 at *
    generalize max (pageCount P1) (s+1)=c2 at *
    generalize pageCount P1=pc2 at *
    obtain⟨Hp2,Hs2,Hroom,Hlw2,Hcn2,Hdone,Htidy,Hput,Hlaid⟩:=hid9 hp2 hs2 hroom hlw2 hcn2 hdone htidy hput hlaid
    clear hp2 hs2 hroom hlw2 hcn2 hdone htidy hput hlaid hr2 hc402 htop2 hlo2
    go_wp2_with fail
    refine Hlw2.out.mono ?_
    rintro e w' ⟨rfl,rfl⟩
    go_wp2_with fail
    refine Hcn2.out.mono ?_
    rintro e w' ⟨rfl,rfl⟩
    go_wp2_with fail
    refine Hput.out.mono ?_
    rintro e w3 ⟨rfl,τ3,hp3,hs3,-⟩
    have hle:a≤448:=by omega
    have hlei:(a:Int)≤448:=by omega
    have hne:¬a=448:=by omega
    have hne':¬448=a:=by omega
    have hmin:k=Nat.min m.length (448-a):=by rw[Hk.out];exact(Nat.min_eq_left (by omega)).symm
    have hft:a+k≤(u8s M).length:=by rw[Qac,hp3.len];exact ha448
    have hrun:=fun (ty:TypeId)=>Qcg hp3.own (off:=a) (dLen:=448-a) (dCap:=448-a) ((Hb1.out.step Hs2.out (fun e=>hg2 e)).step hs3 (fun e=>hg2 e)) k hmin hft ty
    rw[Qby _ _ _ _ Hk.out.symm] at hrun
    have hs4:=(Step.refl w3 τ3 (fun t=>t=g)).row hp3.own.tag (.inl rfl) (u8s (layN M a m)).toArray
    have hl4:=Qej hs4 (.inl rfl) ⟨hp3.own.row' (u8s (layN M a m)),Qaw hp3.isB HBm.out a,by rw[Qae _ _ _ (by rw[Hk.out,hp3.len];exact ha448)];exact hp3.len⟩ s a k (by omega) (by omega) (by omega)
    obtain⟨Hp3,Hs3,Hl4⟩:=hid3 hp3 hs3 hl4
    clear hp3 hs3 hl4 hmin hft hs4
    go_wp2_with fail
    refine Hl4.out.mono ?_
    rintro e w5 ⟨rfl,τ5,hp5,hs5,-⟩
    rw[←Hlaid.out] at hp5
    have hse:=Qc7 (Step.refl w5 τ5 (fun t=>t=g)) (.inl rfl) hg1 hp5 Htidy.out.lies.fit
    obtain⟨Hp5,Hs5,Hse⟩:=hid3 hp5 hs5 hse
    clear hp5 hs5 hse
    all_goals go_wp2_with fail
    all_goals refine Hse.out.mono ?_
    all_goals rintro e w6 ⟨rfl,τ6,hp6,hs6,-⟩
    all_goals (obtain⟨Hp6,Hs6⟩:=hid2 hp6 hs6;clear hp6 hs6)
    all_goals go_wp2_with fail
    all_goals go_returns
    all_goals exact⟨0,_,τ6,rfl,Hdone.out,Hp6.out,((Hs1.out.trans Hs2.out).trans Hs3.out).trans (Hs5.out.trans Hs6.out)⟩
theorem Qk1 {b:Nat}(hg:g≠tOut∧g≠tData∧g≠tAll) (h:PageAt w τ g b P) (ht:Sound P) (i:Int) {v:Value}{g2:Tag}{m:List Int}(hb:Bytes w τ g2 v m) (hg2:g2≠g) :
 Calls Tryz.prog 115 #[.pointer (some ⟨b,0,none⟩),.int .i64 i,v] w (SetD w τ g b P i m):=by
 by_cases hbad:i<0∨40≤i∨m.length=0∨64<m.length
 ·obtain⟨p,c,rfl,h1,h2⟩:=hb.any
  exact Qqv h i p m.length c m rfl hbad (by omega)
 ·obtain⟨s,rfl⟩:∃s:Nat,i=(s:Int):=⟨i.toNat,by omega⟩
  exact Qpd hg h ht s (by omega) hb hg2 (by omega) (by omega)
def bools (T:Nat→Bool) (n:Nat):List Value:=(List.range n).map (fun i=>Value.bool (T i))
theorem Qgq (T:Nat→Bool) (n:Nat):(bools T n).length=n:=by simp[bools]
theorem Qfv (T:Nat→Bool) (n i:Nat) (h:i<n):(bools T n)[i]?=some (.bool (T i)):=by
 unfold bools
 rw[List.getElem?_map,List.getElem?_range h];rfl
def anyTo (T:Nat→Bool) (o:Nat):Nat→Bool
 | 0=>false
 | n+1=>anyTo T o n || T (o+n)
theorem Quc {b o c:Nat} {T:Nat→Bool}(hc:∀i,i<n→w.cell? ⟨b,o+i,none⟩=some (.bool (T (o+i)))) (hn:n≤1000) :
 Calls Tryz.prog 292 #[.slice (some ⟨b,o,none⟩) n c,.bool true] w fun e w'=>(∃r:Int,e = .returned (.int .i64 r)∧decide (0≤r)=anyTo T o n)∧w=w':=by
 have Hc:=Lib.hid hc
 clear hc
 go_enter Tryz.func292,Tryz.ntmps292
 go_wp2_with fail
 go_loopw [8] (fun v wr=>∃(i:Nat),i≤n∧v = .int .i64 (i:Int)∧anyTo T o i=false∧wr=w) (fun v _=>n-(intOf v).toNat)
 case atStart=>exact⟨0,Nat.zero_le _,rfl,rfl,rfl⟩
 case round =>
  obtain⟨i,hi,rfl,hno,rfl⟩:=hrel
  by_cases hlt:i<n
  ·have hcell:=Hc.out i hlt
   have hs:anyTo T o (i+1)=(anyTo T o i || T (o+i)):=rfl
   rw[hno,Bool.false_or] at hs
   cases hT:T (o+i) with
   | true =>
     rw[hT] at hcell hs
     have hall:∀d,anyTo T o (i+1+d)=true:=by
      intro d
      induction d with
      | zero=>exact hs
      | succ d ih=>show (anyTo T o (i+1+d) || _)=true;rw[ih];rfl
     have hq:=hall (n-(i+1))
     rw[show i+1+(n-(i+1))=n by omega] at hq
     obtain⟨Hs,Hq,Hno,HT⟩:=hid4 hs hq hno hT
     clear hs hq hno hT hall
     go_wp2_with fail
     go_returns
     exact⟨⟨(i:Int),rfl,by rw[Hq.out];simp⟩,rfl⟩
   | false =>
     rw[hT] at hcell hs
     obtain⟨Hs,Hno,HT⟩:=hid3 hs hno hT
     clear hs hno hT
     go_wp2_with fail
     go_round
     case rel=>exact⟨i+1,by omega,by simp,Hs.out,trivial⟩
     case measure=>simp[intOf];omega
  ·have hin:i=n:=by omega
   subst hin
   have Hno:=Lib.hid hno
   clear hno
   go_wp2_with fail
   go_returns
   exact⟨⟨-1,rfl,by rw[Hno.out];rfl⟩,rfl⟩
theorem Qon {b o c:Nat} {T:Nat→Bool}(hc:∀i,i<n→w.cell? ⟨b,o+i,none⟩=some (.bool (T (o+i)))) (hn:n≤1000) :
 Calls Tryz.prog 256 #[.slice (some ⟨b,o,none⟩) n c,.bool true] w fun e w'=>e = .returned (.bool (anyTo T o n))∧w=w':=by
 have h1:=Quc (c:=c) hc hn
 generalize anyTo T o n=a at *
 have H1:=Lib.hid h1
 clear h1 hc
 go_enter Tryz.func256,Tryz.ntmps256
 go_wp2_with fail
 refine H1.out.mono ?_
 rintro e w' ⟨⟨r,rfl,hr⟩,rfl⟩
 go_wp2_with fail
 go_ret
 exact⟨by rw[←hr];rfl,rfl⟩
def markT (T:Nat→Bool) (a n:Nat):Nat→Bool:=fun i=>T i || (decide (a≤i) && decide (i<a+n))
theorem Qtk (T:Nat→Bool) (a:Nat):markT T a 0=T:=by
 funext i
 unfold markT
 have:(decide (a≤i) && decide (i<a+0))=false:=by
  rw[Bool.and_eq_false_iff]
  by_cases h:a≤i
  ·exact .inr (by simp;omega)
  ·exact .inl (by simpa using h)
 rw[this,Bool.or_false]
theorem Qua (T:Nat→Bool) (a j n:Nat) (h:a+j<n):(bools (markT T a j) n).set (a+j) (.bool true)=bools (markT T a (j+1)) n:=by
 apply List.ext_getElem?
 intro i
 by_cases hi:i<n
 ·by_cases e:i=a+j
  ·subst e
   rw[List.getElem?_set_self (by rw[Qgq];exact h),Qfv _ _ _ hi]
   congr 2
   unfold markT
   rw[decide_eq_true (show a≤a+j by omega),decide_eq_true (show a+j<a+(j+1) by omega)];simp
  ·rw[List.getElem?_set_ne (fun q=>e q.symm),Qfv _ _ _ hi,Qfv _ _ _ hi]
   congr 2
   unfold markT
   congr 2
   by_cases h2:i<a+j
   ·rw[decide_eq_true h2,decide_eq_true (by omega)]
   ·rw[decide_eq_false h2,decide_eq_false (by omega)]
 ·rw[List.getElem?_eq_none (by rw[List.length_set,Qgq];omega),List.getElem?_eq_none (by rw[Qgq];omega)]
def Qe4 (P:List Int) (st:Option ((Nat→Bool)×Nat)) (s:Nat):Option ((Nat→Bool)×Nat) :=
 match st with
 | none=>none
 | some (T,low) =>
   if pLen P s=0∧pOff P s=0 then some (T,low)
   else if pLen P s=0∨64<pLen P s∨pOff P s<16+4*pageCount P∨448<pOff P s+pLen P s then none
   else if anyTo T (pOff P s) (pLen P s)=true then none
   else some (markT T (pOff P s) (pLen P s),min low (pOff P s))
def soundTo (P:List Int):Nat→Option ((Nat→Bool)×Nat)
 | 0=>some (fun _=>false,448)
 | s+1=>Qe4 P (soundTo P s) s
def Qb9 (P:List Int) (T:Nat→Bool) (a:Nat):Nat→Bool
 | 0=>true
 | n+1=>Qb9 P T a n && (T (a+n) || decide (P.getD (a+n) 0=0))
def Qjr (P:List Int) (low:Nat):Bool:=decide (low=pageLow P) && (decide (pageCount P=0) || decide (0<pLen P (pageCount P-1)))
def Qeh (P:List Int):Bool :=
 if 40<pageCount P then false else
 match soundTo P (pageCount P) with
 | none=>false
 | some (T,low)=>Qb9 P T (16+4*pageCount P) (448-(16+4*pageCount P)) && Qjr P low
theorem Qo0 {s:Nat}(h:soundTo P s=none) (d:Nat):soundTo P (s+d)=none:=by
 induction d with
 | zero=>exact h
 | succ d ih=>show Qe4 P (soundTo P (s+d)) _=none;rw[ih];rfl
theorem Qqh {s:Nat}(h:soundTo P s=none) (hs:s≤pageCount P):Qeh P=false:=by
 unfold Qeh
 split
 ·rfl
 ·have:=Qo0 h (pageCount P-s)
  rw[show s+(pageCount P-s)=pageCount P by omega] at this
  rw[this]
theorem Qm7 {T:Nat→Bool} {a:Nat}(h:Qb9 P T a n=false) (d:Nat):Qb9 P T a (n+d)=false:=by
 induction d with
 | zero=>exact h
 | succ d ih=>show (Qb9 P T a (n+d) && _)=false;rw[ih];rfl
theorem Qo1 {T:Nat→Bool} {low:Nat}(hs:soundTo P (pageCount P)=some (T,low)) (h:Qb9 P T (16+4*pageCount P) n=false) (hn:n≤448-(16+4*pageCount P)):Qeh P=false:=by
 unfold Qeh
 split
 ·rfl
 ·rw[hs]
  have:=Qm7 h (448-(16+4*pageCount P)-n)
  rw[show n+(448-(16+4*pageCount P)-n)=448-(16+4*pageCount P) by omega] at this
  show (Qb9 P T _ _ && _)=false
  rw[this];rfl
theorem Qmn {T:Nat→Bool} {low:Nat}(h40:pageCount P≤40) (hs:soundTo P (pageCount P)=some (T,low)) (h:Qb9 P T (16+4*pageCount P) (448-(16+4*pageCount P))=true):Qeh P=Qjr P low:=by
 unfold Qeh
 rw[if_neg (by omega),hs]
 show (Qb9 P T _ _ && _)=_
 rw[h,Bool.true_and]
theorem Sound.soundTo(h:Sound P) (q:Nat) (hq:q≤pageCount P):soundTo P q=some (fun i=>(List.range q).any (fun s=>decide (pOff P s≤i) && decide (i<pOff P s+pLen P s)),(headTo P q).2):=by
 induction q with
 | zero=>rfl
 | succ q ih =>
   show Qe4 P (Go.Proofs.YtemacanaihaldaaGreat.soundTo P q) q=_
   rw[ih (by omega)]
   have e:headTo P (q+1)=if 0<pLen P q then (q+1,min (headTo P q).2 (pOff P q)) else headTo P q:=rfl
   have hany:∀i,(List.range (q+1)).any (fun s=>decide (pOff P s≤i) && decide (i<pOff P s+pLen P s))=((List.range q).any (fun s=>decide (pOff P s≤i) && decide (i<pOff P s+pLen P s)) || (decide (pOff P q≤i) && decide (i<pOff P q+pLen P q))):=fun i=>by
    rw[List.range_succ,List.any_append];simp
   simp only[hany]
   unfold Qe4
   dsimp only
   by_cases h0:pLen P q=0
   ·have ho:=h.tidy.none q h0
    rw[if_pos ⟨h0,ho⟩,e,if_neg (by omega)]
    congr 2
    funext i
    rw[h0,Nat.add_zero]
    have:(decide (pOff P q≤i) && decide (i<pOff P q))=false:=by
     rw[Bool.and_eq_false_iff]
     by_cases hh:pOff P q≤i
     ·exact .inr (by simp;omega)
     ·exact .inl (by simpa using hh)
    rw[this,Bool.or_false]
   ·have hb:=h.tidy.lies.behind q (by omega)
    have hen:=h.tidy.lies.fit.ends q
    have h64:=h.tidy.small q
    rw[if_neg (by omega),if_neg (by omega)]
    have hno:anyTo (fun i=>(List.range q).any (fun s=>decide (pOff P s≤i) && decide (i<pOff P s+pLen P s))) (pOff P q) (pLen P q)=false:=by
     have key:∀n,n≤pLen P q→anyTo (fun i=>(List.range q).any (fun s=>decide (pOff P s≤i) && decide (i<pOff P s+pLen P s))) (pOff P q) n=false:=by
      intro n
      induction n with
      | zero=>intro _;rfl
      | succ n ihn =>
        intro hn
        show (anyTo _ _ n || _)=false
        rw[ihn (by omega),Bool.false_or,List.any_eq_false]
        intro s hs
        have hsq:=List.mem_range.1 hs
        simp only[Bool.and_eq_true,decide_eq_true_eq,not_and]
        intro h1 h2
        have:=h.tidy.apart s q (by omega) (by omega) (by omega)
        omega
     exact key _ (Nat.le_refl _)
    rw[if_neg (by rw[hno];simp),e,if_pos (show 0<pLen P q by omega)]
    rfl
theorem Sound.yes(h:Sound P):Qeh P=true:=by
 have hs:=h.soundTo (pageCount P) (Nat.le_refl _)
 have hc:=h.tidy.lies.fit.count
 rw[Qmn hc hs]
 ·unfold Qjr
  have hh:=h.head
  rw[hh]
  have hi:=Qcn P (pageCount P)
  rw[hh] at hi
  rw[decide_eq_true rfl,Bool.true_and]
  rcases hi.last with h1|h1
  ·rw[decide_eq_true h1];rfl
  ·rw[decide_eq_true h1,Bool.or_true]
 ·have key:∀n,n≤448-(16+4*pageCount P)→Qb9 P (fun i=>(List.range (pageCount P)).any (fun s=>decide (pOff P s≤i) && decide (i<pOff P s+pLen P s))) (16+4*pageCount P) n=true:=by
   intro n
   induction n with
   | zero=>intro _;rfl
   | succ n ih =>
     intro hn
     show (Qb9 _ _ _ n && _)=true
     rw[ih (by omega),Bool.true_and]
     cases ht:(List.range (pageCount P)).any (fun s=>decide (pOff P s≤16+4*pageCount P+n) && decide (16+4*pageCount P+n<pOff P s+pLen P s)) with
     | true =>
       show ((List.range (pageCount P)).any (fun s=>decide (pOff P s≤16+4*pageCount P+n) && decide (16+4*pageCount P+n<pOff P s+pLen P s)) || _)=true
       rw[ht];rfl
     | false =>
       show ((List.range (pageCount P)).any (fun s=>decide (pOff P s≤16+4*pageCount P+n) && decide (16+4*pageCount P+n<pOff P s+pLen P s)) || _)=true
       rw[ht,Bool.false_or]
       rw[List.any_eq_false] at ht
       have hz:=h.tidy.zero (16+4*pageCount P+n) (by omega) (by omega) (fun s=>by
        rcases Nat.lt_or_ge s (pageCount P) with h1|h1
        ·have:=ht s (List.mem_range.2 h1)
         simp only[Bool.and_eq_true,decide_eq_true_eq,not_and] at this
         omega
        ·rw[Qsa h1,Qb7 h1];omega)
       rw[List.getD_eq_getElem?_getD,hz];rfl
  exact key _ (Nat.le_refl _)
end Go.Proofs.YtemacanaihaldaaGreat