/-
 Pages: an empty page is sound;a stamp leaves a page sound (plain).
-/
import Derived.Test.YtociicnopccppaaGreatMPoolD
set_option maxRecDepth 100000
set_option maxHeartbeats 4000000
set_option linter.all false
namespace Go.Proofs.YtociicnopccppaaGreat
variable {P:List Int}{g:Tag}{n:Nat}{w:World}{τ:qa1}
open Go.RowKit
theorem Qa2:qaz.length=448:=Z7
theorem Qog (n:Nat):(qaf n).length=448:=by
 unfold qaf
 have h1:8+(leB n 4).length<=qaz.length:=by rw[Qaa,Qa2];omega
 rw[Qae _ _ _ (by rw[Qae _ _ _ h1,Qaa,Qa2];omega),Qae _ _ _ h1,Qa2]
theorem Qoh (n:Nat):IsB (qaf n):=Qaw (Qaw Qda (Qan _ _) _) (Qan _ _) _
theorem Qoi (n i:Nat) (hi:16<=i) (h2:i<448):(qaf n)[i]?=some 0:=by
 unfold qaf
 have h1:8+(leB n 4).length<=qaz.length:=by rw[Qaa,Qa2];omega
 have a:14+(leB 448 2).length<=(qbf qaz 8 (leB n 4)).length:=by rw[Qae _ _ _ h1,Qaa,Qa2];omega
 rw[Qa1 a,if_neg (by rw[Qaa];omega),Qa1 h1,if_neg (by rw[Qaa];omega)]
 unfold qaz
 rw[List.getElem?_replicate,if_pos h2]
theorem Qof (n:Nat):qar (qaf n)=448:=by
 unfold qaf
 have h1:8+(leB n 4).length<=qaz.length:=by rw[Qaa,Qa2];omega
 have a:14+(leB 448 2).length<=(qbf qaz 8 (leB n 4)).length:=by rw[Qae _ _ _ h1,Qaa,Qa2];omega
 unfold qar qbp
 rw[Qdh a rfl (by rw[Qaa]),Qdl 448 2 2 (Z0 _)]
theorem Qjo (n:Nat) (hn:n<4294967296):qa8 (qaf n)=n:=by
 unfold qaf
 have h1:8+(leB n 4).length<=qaz.length:=by rw[Qaa,Qa2];omega
 have a:14+(leB 448 2).length<=(qbf qaz 8 (leB n 4)).length:=by rw[Qae _ _ _ h1,Qaa,Qa2];omega
 unfold qa8
 rw[Qaj a (.inl oM)]
 unfold qbp
 rw[Qdh h1 rfl (by rw[Qaa]),Qdl n 4 4 (Z0 _)]
 exact Nat.mod_eq_of_lt hn
theorem qgz (n:Nat):qaa (qaf n)=0:=by
 unfold qaf
 have h1:8+(leB n 4).length<=qaz.length:=by rw[Qaa,Qa2];omega
 have a:14+(leB 448 2).length<=(qbf qaz 8 (leB n 4)).length:=by rw[Qae _ _ _ h1,Qaa,Qa2];omega
 unfold qaa
 rw[Qaj a (.inl oM),Qaj h1 (.inl oM)]
 decide +kernel
theorem Qlq (n:Nat) (hn:n<4294967296):Sound (qaf n):=by
 have a:=Qea n hn
 have hl:∀t,qad (qaf n) t=0:=fun t=>Qb7 (by rw[a];exact Z9 _)
 have c:∀t,qav (qaf n) t=0:=fun t=>Qsa (by rw[a];exact Z9 _)
 refine⟨⟨Qog n,Qoh n,⟨Qps n hn,fun s b=>by rw[hl] at b;omega⟩,fun s _=>c s,fun s=>by rw[hl];omega,fun s t _ b=>by rw[hl] at b;omega,fun i h1 h2 _=>Qoi n i oM h2⟩,?_⟩
 rw[a,Qof];rfl
theorem Sound.stamp(h:Sound P) (n:Nat) (hn:n<2 ^ 64):Sound (qbf P 0 (leB n 8))/\qa8 (qbf P 0 (leB n 8))=qa8 P/\qaa (qbf P 0 (leB n 8))=n/\∀t,qb7 (qbf P 0 (leB n 8)) t=qb7 P t:=by
 have e:=h.tidy.len
 have h1:0+(leB n 8).length<=P.length:=by rw[Qaa];omega
 have b:∀a k,8<=a->qbp (qbf P 0 (leB n 8)) a k=qbp P a k:=fun a k h=>Qaj h1 (.inr (by rw[Qaa];omega))
 have d:qa0 (qbf P 0 (leB n 8))=qa0 P:=b _ _ oM
 have c:∀t,qav (qbf P 0 (leB n 8)) t=qav P t:=fun t=>by
  unfold qav;rw[d,b _ _ oM]
 have hl:∀t,qad (qbf P 0 (leB n 8)) t=qad P t:=fun t=>by
  unfold qad;rw[d,b _ _ oM]
 refine⟨⟨⟨by rw[Qae _ _ _ h1,e],Qaw h.tidy.isB (Qan _ _) _,⟨⟨by rw[d];exact h.tidy.lies.fit.count,fun t=>by rw[c,hl];exact h.tidy.lies.fit.ends t⟩,fun t=>by rw[c,hl,d];exact h.tidy.lies.behind t⟩,fun t=>by rw[c,hl];exact h.tidy.none t,fun t=>by rw[hl];exact h.tidy.small t,fun t u l=>by rw[hl,hl,c,c];exact h.tidy.apart t u l,fun i h2 o p=>?_⟩,?_⟩,b _ _ oM,?_,fun t=>Qd2 (hl t) (fun _=>c t) (fun j hj=>?_)⟩
 ·rw[d] at h2
  rw[Qa1 h1,if_neg (by rw[Qaa];omega)]
  exact h.tidy.zero i h2 o (fun t=>by have:=p t;rw[c,hl] at this;exact this)
 ·rw[Qgl hl c,d,h.head]
  have:qar (qbf P 0 (leB n 8))=qar P:=b _ _ oM
  rw[this]
 ·unfold qaa qbp
  rw[Qdh h1 rfl (by rw[Qaa]),Qdl n 8 8 (Z0 _)]
  exact Nat.mod_eq_of_lt hn
 ·have hb:=h.tidy.lies.behind t oM
  rw[Qa1 h1,if_neg (by rw[Qaa];omega)]
theorem Qp5 {c:Nat}(h:∀s,c<=s->qad P s=0) (d:Nat):qbs P (c+d)=qbs P c:=by
 induction d with
 | zero=>rfl
 | succ d ih=>show qbs P (c+d)+qad P (c+d)=_;rw[ih,h _ oM];omega
theorem Qsv {Q:List Int} {s:Nat}(hl:∀t,qad Q t=if t=s then 0 else qad P t) (q:Nat):qbs Q q+(if s<q then qad P s else 0)=qbs P q:=by
 induction q with
 | zero=>rfl
 | succ q ih =>
   show qbs Q q+qad Q q+_=qbs P q+qad P q
   rw[hl]
   by_cases e:q=s
   ·subst e
    rw[if_pos rfl,if_pos oM]
    rw[if_neg oM] at ih
    omega
   ·rw[if_neg e]
    by_cases a:s<q
    ·rw[if_pos a] at ih
     rw[if_pos oM];omega
    ·rw[if_neg a] at ih
     rw[if_neg oM];omega
theorem Qqx {Q:List Int} {s:Nat}(h:qj3 P Q s) (b:0<qad P s):qd4 Q+qad P s=qd4 P:=by
 have a:s<qa0 P:=by
  rcases Nat.lt_or_ge s (qa0 P) with h1|h1
  ·exact h1
  ·rw[Qb7 h1] at b;omega
 have h1:=Qsv h.qcm (qa0 P)
 rw[if_pos a] at h1
 have h2:=Qp5 (P:=Q) (c:=qa0 Q) (fun t d=>Qb7 d) (qa0 P-qa0 Q)
 rw[show qa0 Q+(qa0 P-qa0 Q)=qa0 P by have:=h.count;omega] at h2
 unfold qd4
 omega
def qji:Tag:=(93,0)
theorem Qtg (P:List Int) (o n:Nat):over (u8s P) o (u8s (List.replicate n 0))=u8s (qbf P o (List.replicate n 0)):=by
 have:=Qby P (List.replicate n 0) o n (by rw[Z7])
 rw[List.take_of_length_le (by rw[Z7];exact Z0 _)] at this
 exact this
theorem Qme {l:List (List Int)} {x:List Int} {j:Nat}(h:j<l.length):(l++[x]).getD j []=l.getD j []:=by
 rw[Z5,Z5,Y5 h]
theorem Qmf {l:List (List Int)} {x:List Int} {j:Nat}(h:j=l.length):(l++[x]).getD j []=x:=by
 subst h
 rw[Z5,Y6 (Z0 _),Nat.sub_self];rfl
theorem Qk4 {b:Nat}(hg:g≠qe3/\g≠qa2/\g≠qji) (h:qag w τ g b P) (E:Tidy P) (z:16+4*qa0 P+qd4 P<=448) :
 Calls Tryz.prog 221 #[.pointer (some ⟨b,0,none⟩)] w fun e w'=>e = .returned (.tuple #[])/\∃Q bh,qag w' bh g b Q/\qie P Q/\Step w τ w' bh (fun t=>t=g):=by
 have h1:=Qfl h E.lies.fit
 have hc:=E.lies.fit.count
 have aj:∀i,i<(Qab P).length->(Qab P).getD i 0<qa0 P/\0<qad P ((Qab P).getD i 0):=fun i hi=>by
  have hm:(Qab P).getD i 0∈Qab P:=by
   rw[Z5,Z3 hi]
   exact List.getElem_mem _
  exact Qcx hm
 have bi:∀i,i<=(Qab P).length->qhh P (Qcr P (Qab P) i):=fun i hi=>Qf3 E Qdr i hi
 have bj:∀i,Qcr P (Qab P) (i+1)=qbf (Qcr P (Qab P) i) (qav P ((Qab P).getD i 0)) (List.replicate (qad P ((Qab P).getD i 0)) 0):=fun i=>rfl
 have bk:Qcr P (Qab P) 0=P:=rfl
 have I:=E.lies.fit.ends
 have ak:=qfe.start E
 have y:∀(R m:List Int) (i:Nat),i<(Qab P).length->qfe P R (Qab P) i->m=qb7 P ((Qab P).getD i 0)->IsB m->qfe P (qck (qbf R (448-sumTo P (Qab P) (i+1)) m) ((Qab P).getD i 0) (448-sumTo P (Qab P) (i+1)) m.length) (Qab P) (i+1) :=
  fun R m i hi hr hm hB=>hr.next E z hi rfl rfl (by rw[hm];exact Qbm E.lies.fit E.len _) hm hB
 have bl:∀i,i<(Qab P).length->qb7 (Qcr P (Qab P) i) ((Qab P).getD i 0)=qb7 P ((Qab P).getD i 0):=fun i hi=>Qp2 E Qdr _ i (Nat.le_of_lt hi) (fun j hj=>Nat.ne_of_lt (Qb2 P (qa0 P) j i hj hi))
 have al:∀s,(qb7 P s).length=qad P s:=fun s=>Qbm E.lies.fit E.len s
 have am:∀R,qfe P R (Qab P) (Qab P).length->Tidy R/\qie P (qd5 R):=fun R hr=>⟨hr.tidy E z,hr.done E z⟩
 have an:∀i,i<(Qab P).length->sumTo P (Qab P) (i+1)=sumTo P (Qab P) i+qad P ((Qab P).getD i 0)/\16+4*qa0 P+sumTo P (Qab P) (i+1)<=448:=fun i hi=>by
  refine⟨rfl,?_⟩
  have h1:sumTo P (Qab P) (i+1)<=sumTo P (Qab P) (Qab P).length:=Qcf P _ hi
  have h2:sumTo P (Qab P) (Qab P).length=qd4 P:=Qgs P _
  omega
 have bm:=Qes P (qa0 P)
 have hsl2:(Qab P).length<=40:=Y3 bm hc
 generalize hl:Qab P=l at *
 generalize hn:l.length=n at *
 obtain⟨H1,ao,bn,d7,b1,bo,J,bp,bq,Hn,d8,d9⟩:=qds h1 aj bi bj I ak y am an hn bk bl
 have bs:=Z2 al
 clear h1 aj bi bj I ak y am an hn hl bk bl al
 obtain⟨da,Ht⟩:=qaj h E
 clear h E z bm
 obtain⟨ac,bv,b2⟩:=hg
 go_enter Tryz.func221,Tryz.ntmps221
 go_wp2_with fail
 refine H1.mono ?_
 rintro e w1 ⟨v1,τ1,rfl,b3,bw⟩
 obtain⟨p1,c1,db,dc,-⟩:=b3.buf.read
 subst db
 rw[Hn.out] at dc
 have bz:=Hn.out
 obtain⟨c3,c4⟩:=qaj b3 bw
 clear b3 bw H1
 rw[bz]
 clear bz
 go_wp2_with fail
 go_loopw [3,15] (fun m v wr=>∃(i:Nat) (p:qa1) (ds:List (List Int)),i<=n/\v = .int .i64 i/\ds.length=i/\(∀j,j<i->ds.getD j []=qb7 P (l.getD j 0))/\NV w1.heap.size wr p qji m ds/\qag wr p g b (Qcr P l i)/\Step w1 τ1 wr p (fun t=>t=g)) (fun _ v _=>n-(intOf v).toNat)
 case atStart=>exact⟨0,τ1,[],Z9 _,rfl,rfl,fun j hj=>oM,NV.nil _ _ _ _,by rw[d8.out];exact da.step c4 id,Step.refl _ _ _⟩
 case round =>
  obtain⟨i,p,ds,hi,rfl,L,ad,M,q,O⟩:=hrel
  by_cases r:i<n
  ·obtain⟨p',c',U,_,X⟩:=(c3.step O (fun e=>ac e.symm)).buf.read
   rw[Hn.out] at U
   cases U
   obtain⟨br,rfl,b4⟩:=X i (by rw[Hn.out];exact r)
   clear X
   obtain⟨ap,G⟩:=ao i r
   have hw:=bn i hi
   have c6:=d7 i
   have dd:=b1 (l.getD i 0)
   have Y:=Qi5 q hw.lies.fit (l.getD i 0) oM qa2
   have b5:=hw.qcm (l.getD i 0)
   have c7:=hw.off (l.getD i 0)
   have Z:=fun (W:World) (T:qa1) (hp:qag W T g b (Qcr P l i))=>Qbx hp hw.lies.fit (l.getD i 0) oM
   rw[b5] at Y
   simp only[b5,c7] at Z
   have c8:=bn (i+1) r
   generalize hQ:Qcr P l i=Q at *
   generalize de:Qcr P l (i+1)=Qn at *
   generalize hs:l.getD i 0=s at *
   have a0:=d9 i r
   rw[hQ,hs] at a0
   generalize df:qb7 Q s=x at *
   generalize c9:qad P s=len at *
   generalize qav P s=o at *
   have cb:ds.length<=1000000000:=oM
   have b6:=Qtg Q o len
   rw[<-c6] at b6
   obtain⟨pm,cm,rfl⟩:=M.val
   obtain⟨aq,cc,ae,a1,af,dh,di,cd,b7,C,ce⟩:=qg6 Y Z M q O cb b6 c8 ad L a0
   clear Y Z M q O cb b6 c8 ad L a0 df hw c6 b5 c7
   go_wp2_with fail
   refine aq.mono ?_
   rintro e w2 ⟨u,b8,rfl,B,ag⟩
   obtain⟨pu,cu,rfl,-,-⟩:=B.any
   have d:=af.trans (ag.mono (T:=fun t=>t=g) (fun _ h=>h.elim))
   have ar:=ae.step ag id id
   have av:=a1.step ag id
   obtain⟨dj,D,cf,cg⟩:=qb9 B d ar av
   clear B d ar av ag aq
   go_wp2_with (at_builtin;refine Qcv D dC cf dj dh rfl rfl _ _ rfl rfl rfl ?_;intro v3 w3 ch aw ax a2;have a3:=cg.step a2 (fun h=>b2 h);have ci:=cc _ _ a3;obtain⟨cj,ck,ay,dk⟩:=qb9 aw ax a3 ci;clear aw ax a3 ci;clear a2)
   refine dk.mono ?_
   rintro e w4 ⟨o',rfl,dl,rfl⟩
   obtain rfl:=dl G
   have F:=ay.own
   have cn:=fun (c:Nat) (ty:TypeId)=>Qht F G (off:=o') (by rw[Qac,ay.len];exact dd) (c:=c) ty
   rw[di.out] at cn
   have a4:=Z2 F
   clear F
   go_wp2_with fail
   go_round
   case rel =>
    have hq:=(Step.refl w3 ch (fun t=>t=g)).row a4.tag (.inl rfl) (u8s Qn).toArray
    refine⟨i+1,ch,ds++[x],oM,sM,by rw[Z6,C.out];rfl,fun j hj=>?_,cj.step hq (fun h=>b2 h.symm) (fun h=>bv h.symm),?_,ck.trans hq⟩
    ·by_cases e:j<ds.length
     ·rw[Qme e];exact b7 j (by rw[<-C.out];exact e)
     ·have ej:j=i:=by have:=C.out;omega
      rw[Qmf (by have:=C.out;omega),ej,hs];exact ce
    ·rw[de]
     exact⟨a4.row' _,cd.isB,cd.len⟩
   case measure=>simp[intOf];omega
  ·have dm:i=n:=oM
   subst dm
   obtain⟨ae,a1,af,b7,C⟩:=qbq M q O ad L
   clear M q O ad L
   generalize hwr:wr=w2 at *
   generalize hτr:p=b8 at *
   obtain⟨pm,cm,rfl⟩:=ae.val
   rw[C.out]
   go_wp2_with fail
   go_loopw [8,35] (fun a v wr=>∃(k:Nat) (p:qa1) (R:List Int),k<=i/\v = .int .i64 k/\a = .int .i64 ((448-sumTo P l k:Nat):Int)/\qfe P R l k/\qag wr p g b R/\Step w2 b8 wr p (fun t=>t=g)) (fun _ v _=>i-(intOf v).toNat)
   case atStart=>exact⟨0,b8,_,Z9 _,rfl,rfl,bo,a1,Step.refl _ _ _⟩
   case round =>
    obtain⟨k,p,R,hk,rfl,rfl,ah,q,d⟩:=hrel
    by_cases r:k<i
    ·obtain⟨p',c',U,_,X⟩:=((c3.step af (fun e=>ac e.symm)).step d (fun e=>ac e.symm)).buf.read
     rw[Hn.out] at U
     cases U
     obtain⟨br,rfl,b4⟩:=X k (by rw[Hn.out];exact r)
     clear X
     obtain⟨pa,ca,dn,-,co⟩:=(ae.step d (fun e=>b2 e.symm) (fun e=>bv e.symm)).read
     cases dn
     obtain⟨ba,u,rfl,dp,B⟩:=co k (by rw[C.out];exact r)
     clear co
     obtain⟨pu,cu,rfl,-,-⟩:=B.any
     have ai:=b7 k r
     have a5:=ai
     replace a5:(ds.getD k []).length=qad P (l.getD k 0):=by rw[ai];exact bs _
     have b9:=B.isB
     obtain⟨ap,G⟩:=ao k r
     obtain⟨cp,cq⟩:=bq k r
     have y:=J R (ds.getD k []) k r ah ai b9
     rw[a5] at dp B y
     generalize hm:ds.getD k []=m at *
     generalize hs:l.getD k 0=s at *
     have a6:=ah.len
     have hsml:qad P s<=64:=Ht.small s
     generalize c9:qad P s=len at *
     generalize dq:448-sumTo P l k=x at *
     generalize cr:448-sumTo P l (k+1)=a at *
     have hax:((x:Nat):Int)-(len:Int)=((a:Nat):Int):=oM
     have a7:a+len<=448:=oM
     have hle:a<=448:=oM
     have hlei:(a:Int)<=448:=oM
     have hne':¬448=a:=oM
     have az:len=Nat.min m.length (448-a):=by rw[a5];exact(Nat.min_eq_left oM).symm
     have cs:a+len<=(u8s R).length:=by rw[Qac,q.len];exact a7
     have b0:=(Step.refl wr p (fun t=>t=g)).drew
     have ct:=q.own.drew
     have cv:=B.drew
     have cw:s<=107:=oM
     have L:=C.out
     clear ai
     obtain⟨J,cx,dr,a1,D,cy,dt,cz,dv,dw,a8,dx⟩:=qds y a5 b9 q d az cs b0 ct cv a6 cr
     clear y a5 b9 q d az cs b0 ct cv a6 hm hs c9 dq cr ah cp cq ap G B
     go_wp2_with fail
     go_region_law (first
      | (refine Qbb cz dv (.inl rfl) dw len cy dt rfl _ _ rfl rfl rfl ?_
         intro w3 bb a2 dy
         rw[Qby _ _ _ _ cx.symm] at bb
         have d0:=Qej a2 (.inl rfl) ⟨bb,Qaw a1.isB dr a,by rw[Qae _ _ _ (by rw[cx.out,a8.out];exact a7)];exact a8⟩ s a len cw oM oM
         have dz:=Z2 d0
         clear d0
         clear bb a2 dy)
      | (go_simp
         go_at_call 222
         refine dz.mono ?_
         rintro e w4 ⟨rfl,bc,a9,aa,-⟩
         obtain⟨bd,be⟩:=qaj a9 aa
         clear a9 aa))
     go_wp2_with fail
     go_round
     case rel=>exact⟨k+1,bc,_,oM,sM,by rw[dx.out],J,bd,D.trans be⟩
     case measure=>simp[intOf];omega
    ·have e0:k=i:=oM
     subst e0
     obtain⟨d1,d2⟩:=bp R ah
     have d3:=Qc7 (Step.refl wr p (fun t=>t=g)) (.inl rfl) ac q d1.lies.fit
     clear d1
     obtain⟨e1,e2,D⟩:=qan d3 d2 d
     clear d3 d2 d
     go_wp2_with fail
     refine e1.mono ?_
     rintro e w4 ⟨rfl,bc,a9,aa,-⟩
     obtain⟨bd,be⟩:=qaj a9 aa
     clear a9 aa
     go_wp2_with fail
     go_returns
     exact⟨rfl,_,bc,bd,e2,((c4.mono (T:=fun t=>t=g) (fun _ h=>h.elim)).trans af).trans (D.trans be)⟩
theorem Qfn (w:World) (c:Nat) (hc:c<=1000):Calls Tryz.prog 218 #[.int .i64 c] w fun e a=>e = .returned (.int .i64 (16+4*(c:Int)))/\w=a:=by
 go_enter Tryz.func218,Tryz.ntmps218
 go_wp2_with fail
 go_ret
 exact⟨rfl,rfl⟩
structure qj0 (P Q:List Int) (i:Int) (m:List Int) (er:Nat):Prop where
 ok:er=0->Sound Q/\qa8 Q=qa8 P/\qaa Q=qaa P/\∀t:Nat,qb7 Q t=if (t:Int)=i then m else qb7 P t
 no:er≠0->Q=P
 le:er<65536
 room:∀s:Nat,i=(s:Int)->s<40->0<m.length->m.length<=64->16+4*max (qa0 P) (s+1)+qd4 P+m.length<=448->er=0
def SetD (w:World) (τ:qa1) (g:Tag) (b:Nat) (P:List Int) (i:Int) (m:List Int) (e:Ending) (w':World):Prop:=∃er Q τ',e = .returned (.int .u16 ((er:Nat):Int))/\qj0 P Q i m er/\qag w' τ' g b Q/\Step w τ w' τ' (fun t=>t=g)
theorem qj0.bad (P:List Int) (i:Int) (m:List Int) (a:Nat) (h:a≠0) (hl:a<65536) (b:∀s:Nat,i=(s:Int)->s<40->0<m.length->m.length<=64->448<16+4*max (qa0 P) (s+1)+qd4 P+m.length):qj0 P P i m a:=⟨fun e=>absurd e h,fun _=>rfl,hl,fun s h1 h2 c d h5=>by have:=b s h1 h2 c d;omega⟩
theorem Qqv {b:Nat}(h:qag w τ g b P) (i:Int) (p:Option Addr) (k c:Nat) (m:List Int) (hmk:m.length=k) (hbad:i<0\/40<=i\/k=0\/64<k) (hk:k<=maxLen) :
 Calls Tryz.prog 172 #[.pointer (some ⟨b,0,none⟩),.int .i64 i,.slice p k c] w (SetD w τ g b P i m):=by
 have a:=Z2 h
 clear h
 by_cases h1:i<0
 ·go_enter Tryz.func172,Tryz.ntmps172
  go_wp2_with fail
  go_ret
  exact⟨91,P,τ,rfl,qj0.bad P i m 91 oM oM (fun s _ _ _ _=>oM),a,Step.refl _ _ _⟩
 ·by_cases h2:40<=i
  ·go_enter Tryz.func172,Tryz.ntmps172
   go_wp2_with fail
   go_ret
   exact⟨91,P,τ,rfl,qj0.bad P i m 91 oM oM (fun s _ _ _ _=>oM),a,Step.refl _ _ _⟩
  ·by_cases d:k=0
   ·subst d
    go_enter Tryz.func172,Tryz.ntmps172
    go_wp2_with fail
    go_ret
    exact⟨91,P,τ,rfl,qj0.bad P i m 91 oM oM (fun s _ _ _ _=>oM),a,Step.refl _ _ _⟩
   ·have h4:(64:Int)<k:=oM
    go_enter Tryz.func172,Tryz.ntmps172
    go_wp2_with fail
    go_ret
    exact⟨91,P,τ,rfl,qj0.bad P i m 91 oM oM (fun s _ _ _ _=>oM),a,Step.refl _ _ _⟩
structure Room (P P2:List Int) (s k:Nat):Prop where
 sound:Sound P2
 qcm:qad P2 s=0
 num:qa8 P2=qa8 P
 lsn:qaa P2=qaa P
 room:16+4*max (qa0 P2) (s+1)+k<=qar P2
 data:∀t,t≠s->qb7 P2 t=qb7 P t
theorem Room.done {b m:List Int} {s:Nat}(h:Room P b s m.length) (d:s<40) (h0:0<m.length) (c:m.length<=64) (hB:IsB m):qj0 P (qd5 (qfm b s m)) s m 0/\Tidy (qfm b s m):=by
 obtain⟨a,hn,hl,hd⟩:=h.sound.laid d h.qcm h0 c hB h.room
 have hh:=Qek a.len a.isB a.lies.fit.count a.none
 exact⟨⟨fun _=>⟨a.settle,hh.num.trans (hn.trans h.num),hh.lsn.trans (hl.trans h.lsn),fun t=>by
  rw[hh.data a.lies,hd]
  by_cases e:t=s
  ·rw[if_pos e,if_pos oM]
  ·rw[if_neg e,if_neg oM];exact h.data t e⟩,fun e=>absurd rfl e,oM,fun _ _ _ _ _ _=>rfl⟩,a⟩
structure Gone (P P1:List Int) (s:Nat):Prop where
 sound:Sound P1
 qcm:qad P1 s=0
 num:qa8 P1=qa8 P
 lsn:qaa P1=qaa P
 count:qa0 P1<=qa0 P
 used:qd4 P1+qad P s=qd4 P
 data:∀t,t≠s->qb7 P1 t=qb7 P t
theorem Sound.gone(h:Sound P) (s:Nat):Gone P (if 0<qad P s then Qi7 P s else P) s:=by
 by_cases b:0<qad P s
 ·rw[if_pos b]
  have a:=h.tidy.clear b
  exact⟨a.sound,by rw[a.qcm,if_pos rfl],a.num,a.lsn,a.count,Qqx a b,fun t c=>by rw[a.data,if_neg c]⟩
 ·rw[if_neg b]
  exact⟨h,oM,rfl,rfl,Z0 _,oM,fun _ _=>rfl⟩
theorem Gone.room {a:List Int} {s k:Nat}(h:Gone P a s) (hlow:16+4*max (qa0 P) (s+1)+k<=qar a):Room P a s k:=⟨h.sound,h.qcm,h.num,h.lsn,by have:=h.count;omega,h.data⟩
theorem Gone.packed {b c:List Int} {s k:Nat}(h:Gone P b s) (a:qie b c) (hfit:16+4*max (qa0 P) (s+1)+qd4 b+k<=448):Room P c s k :=
 ⟨a.sound,by rw[a.qcm];exact h.qcm,a.num.trans h.num,a.lsn.trans h.lsn,by rw[a.low];have:=h.count;have:=a.count;omega,fun t d=>(a.data t).trans (h.data t d)⟩
theorem Qq3 (a b c:Nat) (h:max a b=c):(max (a:Int) (b:Int))=(c:Int):=oM
theorem Qpd {b:Nat}(hg:g≠qe3/\g≠qa2/\g≠qji) (h:qag w τ g b P) (ht:Sound P) (s:Nat) (hs:s<40) {v:Value}{g2:Tag}{m:List Int}(hb:Bytes w τ g2 v m) (a5:g2≠g) (h0:0<m.length) (bs:m.length<=64) :
 Calls Tryz.prog 172 #[.pointer (some ⟨b,0,none⟩),.int .i64 s,v] w (SetD w τ g b P s m):=by
 obtain⟨av,cp,cq⟩:=hg
 obtain⟨p,c,rfl,-,-⟩:=hb.any
 have ba:=hb.isB
 have D:=ht.tidy.lies.fit
 have hc40:=D.count
 have b1:=Qbx h D s oM
 have b2:=Qax h
 have b3:=Qpc h D
 have b4:=Qfn w (max (qa0 P) (s+1)) oM
 have cr:=Qq3 (qa0 P) (s+1) _ rfl
 rw[show ((s+1:Nat):Int)=(s:Int)+1 by omega] at cr
 have a6:=fun (hp:0<qad P s) (hm:m.length=qad P s)=>ht.over hp hm ba
 have b5:=Qhx (Step.refl w τ (fun t=>t=g)) (.inl rfl) av h ht.tidy.lies s oM
 have U:=ht.gone s
 have bb:=D.ends s
 have bv:=h.len
 have husl:qd4 P<=18000:=by
  have bc:∀i,qbs P i<=i*448:=by
   intro i
   induction i with
   | zero=>simp[qbs]
   | succ i ih=>have:=D.ends i;unfold qbs;omega
  have:=bc (qa0 P)
  unfold qd4
  omega
 have hlu:qad P s<=qd4 P:=by have:=U.used;omega
 generalize cs:(if 0<qad P s then Qi7 P s else P)=F at *
 generalize bw:max (qa0 P) (s+1)=cm at *
 have hcm100:cm<=40:=oM
 have hcmc:qa0 P<=cm:=oM
 have hcms:s+1<=cm:=oM
 generalize bz:qd4 P=us at *
 generalize c3:qav P s=o at *
 generalize c4:qad P s=len at *
 generalize hk:m.length=k at *
 generalize c5:qa0 P=pc at *
 have hk0:¬k=0:=oM
 have hk1:¬(64:Int)<k:=oM
 have aw:¬(s:Int)<0:=oM
 have a4:¬(40:Int)<=s:=oM
 have hk2:¬(k:Int)=0:=oM
 obtain⟨a7,a8,a9,aa,Hover,b7,l,ab,ax,ay,Hpo,c6⟩:=qds b1 b2 b3 b4 a6 b5 U ba bw bz c3 c4
 obtain⟨G,ac⟩:=qaj hk c5
 clear b1 b2 b3 b4 a6 b5 U ba bw bz c3 c4 hk c5 cs
 obtain⟨ad,Hb⟩:=qaj h hb
 clear h ht hb D
 by_cases hful:448<16+4*cm+us-len+k
 ·have a1:(448:Int)<16+4*(cm:Int)+us-(len:Int)+k:=oM
  go_enter Tryz.func172,Tryz.ntmps172
  go_wp2_with fail
  refine a7.mono ?_
  rintro e w' ⟨o',rfl,az,rfl⟩
  go_wp2_with fail
  refine zC a8 ?_
  go_wp2_with fail
  refine zC aa ?_
  go_wp2_with fail
  refine zC a9 ?_
  go_wp2_with fail
  go_ret
  exact⟨92,P,τ,rfl,qj0.bad P s m 92 oM oM (fun t h1 _ _ _=>by have h2:s=t:=oM;subst h2;have:=ac.out;have:=ax.out;have:=ay.out;have:=G.out;rw[ac.out,ay.out,ax.out,G.out];omega),ad,Step.refl _ _ _⟩
 ·have a1:¬(448:Int)<16+4*(cm:Int)+us-(len:Int)+k:=oM
  by_cases bd:len=k
  ·subst bd
   have q:len=Nat.min m.length len:=by rw[G.out];exact(Nat.min_self _).symm
   have I:o+len<=(u8s P).length:=by rw[Qac,bv];exact bb
   have J:=fun (ty:TypeId)=>Qcg ad.own (off:=o) (dLen:=len) (dCap:=448-o) Hb len q I ty
   rw[Qby _ _ _ _ G.symm] at J
   have hq:=Hover h0 rfl
   have c8:=ad.own.row' (u8s (qbf P o m))
   have C:=(Step.refl w τ (fun t=>t=g)).row ad.own.tag (.inl rfl) (u8s (qbf P o m)).toArray
   obtain⟨cv,ae,Hq⟩:=qan c8 C hq
   clear c8 C hq q I
   go_enter Tryz.func172,Tryz.ntmps172
   go_wp2_with fail
   refine a7.mono ?_
   rintro e w' ⟨o',rfl,az,rfl⟩
   obtain rfl:=az h0
   go_wp2_with fail
   refine zC a8 ?_
   go_wp2_with fail
   refine zC aa ?_
   go_wp2_with fail
   refine zC a9 ?_
   go_wp2_with fail
   go_ret
   exact⟨0,qbf P o' m,τ,rfl,⟨fun _=>⟨Hq.1,Hq.2.1,Hq.2.2.1,fun t=>by rw[Hq.2.2.2];exact if e:t=s then (by rw[if_pos e,if_pos oM]) else (by rw[if_neg e,if_neg oM])⟩,fun e=>absurd rfl e,oM,fun _ _ _ _ _ _=>rfl⟩,⟨cv,Qaw ad.isB ab _,Hq.1.tidy.len⟩,ae⟩
  ·have hsame':¬(len:Int)=k:=oM
   go_enter Tryz.func172,Tryz.ntmps172
   go_wp2_with fail
   refine a7.mono ?_
   rintro e w' ⟨o',rfl,az,rfl⟩
   clear az
   go_wp2_with fail
   refine zC a8 ?_
   go_wp2_with fail
   refine zC aa ?_
   go_wp2_with fail
   refine zC a9 ?_
   go_wp2_with fail
   refine b7.mono ?_
   rintro e w1 ⟨rfl,τ1,be,aw,-⟩
   have ca:=l.sound
   have cb:=Qfm be
   have b8:=Qfn w1 cm oM
   have htop:=ca.top
   have b0:=l.count
   have af:=l.used
   have cc:=Hb.step aw (fun e=>a5 e)
   generalize cd:qar F=lo at *
   obtain⟨ce,cf,cw,cg,ch,cx⟩:=qcq be aw cb b8 cc cd
   clear be aw cb b8 cc cd b7 ca
   go_wp2_with fail
   refine zC cw ?_
   go_wp2_with fail
   refine zC cg ?_
   by_cases bf:(lo:Int)-(16+4*(cm:Int))<(k:Int)
   ·have ci:=Qk4 ⟨av,cp,cq⟩ ce l.sound.tidy (by rw[ac.out] at b0;rw[ay.out,c6.out] at af;omega)
    have cj:=Z2 ci
    clear ci
    go_wp2_with fail
    refine cj.mono ?_
    rintro e w2 ⟨rfl,L,τ2,E,b9,a4⟩
    have d:=l.packed b9 (k:=k) (by rw[ac.out,ax.out];rw[ay.out,c6.out] at af;omega)
    clear b9 bf cj
    have O:=Qfm E
    have R:=Qax E
    have X:=d.sound.top
    have bg:=d.room
    obtain⟨r,x⟩:=(show Room P _ s m.length by rw[G.out];exact d).done hs (by rw[G.out];exact h0) (by rw[G.out];exact bs) ab
    have y:=Qbp (Step.refl _ _ (fun t=>t=g)) (.inl rfl) E 12 2 (max (qa0 L) (s+1)) oM oM oM oM
    change Calls _ _ _ _ (fun e w'=>e = .returned (.tuple #[])/\∃bh,qag w' bh g b (qdl L s)/\_/\_) at y
    have ag:=Qq3 (qa0 L) (s+1) _ rfl
    rw[show ((s+1:Nat):Int)=(s:Int)+1 by omega] at ag
    have cy:=Qam (max (qa0 L) (s+1)) oM
    have z:qfm L s m=qck (qbf (qdl L s) (qar L-k) m) s (qar L-k) k:=by unfold qfm;rw[G.out]
    have cz:((qar L:Nat):Int)-(k:Int)=((qar L-k:Nat):Int):=oM
    have B:qar L-k+k<=448:=oM
    generalize qfm L s m=Z at *
    generalize qdl L s=M at *
    generalize ah:qar L-k=a at *
    generalize qar L=lo2 at *
    generalize max (qa0 L) (s+1)=c2 at *
    generalize qa0 L=pc2 at *
    obtain⟨ai,aj,ak,Y,a0,al,a2⟩:=qdr a4 O R r x y z
    clear E a4 d O R r x y z bg X ah
    go_wp2_with fail
    refine zC aj ?_
    go_wp2_with fail
    refine zC ak ?_
    go_wp2_with fail
    refine al.mono ?_
    rintro e w3 ⟨rfl,bi,j,C,-⟩
    have bc:a<=448:=oM
    have ck:(a:Int)<=448:=oM
    have cn:¬448=a:=oM
    have q:k=Nat.min m.length (448-a):=by rw[G.out];exact(Nat.min_eq_left oM).symm
    have I:a+k<=(u8s M).length:=by rw[Qac,j.len];exact B
    have J:=fun (ty:TypeId)=>Qcg j.own (off:=a) (dLen:=448-a) (dCap:=448-a) ((ch.step ai (fun e=>a5 e)).step C (fun e=>a5 e)) k q I ty
    rw[Qby _ _ _ _ G.symm] at J
    have am:=(Step.refl w3 bi (fun t=>t=g)).row j.own.tag (.inl rfl) (u8s (qbf M a m)).toArray
    have an:=Qej am (.inl rfl) ⟨j.own.row' (u8s (qbf M a m)),Qaw j.isB ab a,by rw[Qae _ _ _ (by rw[G.out,j.len];exact B)];exact j.len⟩ s a k oM oM oM
    obtain⟨ae,bj⟩:=qaj C an
    clear j C an q I am
    go_wp2_with fail
    refine bj.mono ?_
    rintro e w5 ⟨rfl,bk,a3,ao,-⟩
    rw[<-a2.out] at a3
    have ap:=Qc7 (Step.refl w5 bk (fun t=>t=g)) (.inl rfl) av a3 a0.lies.fit
    obtain⟨bl,bm⟩:=qaj ao ap
    clear a3 ao ap
    all_goals go_wp2_with fail
    all_goals refine bm.mono ?_
    all_goals rintro e w6 ⟨rfl,bn,aq,ar,-⟩
    all_goals (obtain⟨bo,bp⟩:=qaj aq ar;clear aq ar)
    all_goals go_wp2_with fail
    all_goals go_returns
    all_goals exact⟨0,_,bn,rfl,Y,bo,((cf.trans ai).trans ae).trans (bl.trans bp)⟩
   ·have d:=l.room (k:=k) (by rw[ac.out,ax.out,cx.out];omega)
    have E:=ce.out
    have a4:=Step.refl w1 τ1 (fun t=>t=g)
    have O:=Qfm E
    have R:=Qax E
    have X:=d.sound.top
    have bg:=d.room
    obtain⟨r,x⟩:=(show Room P _ s m.length by rw[G.out];exact d).done hs (by rw[G.out];exact h0) (by rw[G.out];exact bs) ab
    have y:=Qbp (Step.refl _ _ (fun t=>t=g)) (.inl rfl) E 12 2 (max (qa0 F) (s+1)) oM oM oM oM
    change Calls _ _ _ _ (fun e w'=>e = .returned (.tuple #[])/\∃bh,qag w' bh g b (qdl F s)/\_/\_) at y
    have ag:=Qq3 (qa0 F) (s+1) _ rfl
    rw[show ((s+1:Nat):Int)=(s:Int)+1 by omega] at ag
    have cy:=Qam (max (qa0 F) (s+1)) oM
    have z:qfm F s m=qck (qbf (qdl F s) (qar F-k) m) s (qar F-k) k:=by unfold qfm;rw[G.out]
    have cz:((qar F:Nat):Int)-(k:Int)=((qar F-k:Nat):Int):=oM
    have B:qar F-k+k<=448:=oM
    generalize qfm F s m=Z at *
    generalize qdl F s=M at *
    generalize ah:qar F-k=a at *
    generalize qar F=lo2 at *
    generalize max (qa0 F) (s+1)=c2 at *
    generalize qa0 F=pc2 at *
    obtain⟨ai,aj,ak,Y,a0,al,a2⟩:=qdr a4 O R r x y z
    clear E a4 d O R r x y z bg X ah
    go_wp2_with fail
    refine zC aj ?_
    go_wp2_with fail
    refine zC ak ?_
    go_wp2_with fail
    refine al.mono ?_
    rintro e w3 ⟨rfl,bi,j,C,-⟩
    have bc:a<=448:=oM
    have ck:(a:Int)<=448:=oM
    have cn:¬448=a:=oM
    have q:k=Nat.min m.length (448-a):=by rw[G.out];exact(Nat.min_eq_left oM).symm
    have I:a+k<=(u8s M).length:=by rw[Qac,j.len];exact B
    have J:=fun (ty:TypeId)=>Qcg j.own (off:=a) (dLen:=448-a) (dCap:=448-a) ((ch.step ai (fun e=>a5 e)).step C (fun e=>a5 e)) k q I ty
    rw[Qby _ _ _ _ G.symm] at J
    have am:=(Step.refl w3 bi (fun t=>t=g)).row j.own.tag (.inl rfl) (u8s (qbf M a m)).toArray
    have an:=Qej am (.inl rfl) ⟨j.own.row' (u8s (qbf M a m)),Qaw j.isB ab a,by rw[Qae _ _ _ (by rw[G.out,j.len];exact B)];exact j.len⟩ s a k oM oM oM
    obtain⟨ae,bj⟩:=qaj C an
    clear j C an q I am
    go_wp2_with fail
    refine bj.mono ?_
    rintro e w5 ⟨rfl,bk,a3,ao,-⟩
    rw[<-a2.out] at a3
    have ap:=Qc7 (Step.refl w5 bk (fun t=>t=g)) (.inl rfl) av a3 a0.lies.fit
    obtain⟨bl,bm⟩:=qaj ao ap
    clear a3 ao ap
    all_goals go_wp2_with fail
    all_goals refine bm.mono ?_
    all_goals rintro e w6 ⟨rfl,bn,aq,ar,-⟩
    all_goals (obtain⟨bo,bp⟩:=qaj aq ar;clear aq ar)
    all_goals go_wp2_with fail
    all_goals go_returns
    all_goals exact⟨0,_,bn,rfl,Y,bo,((cf.trans ai).trans ae).trans (bl.trans bp)⟩
theorem Qk1 {b:Nat}(k:g≠qe3/\g≠qa2/\g≠qji) (h:qag w τ g b P) (l:Sound P) (i:Int) {v:Value}{e:Tag}{m:List Int}(j:Bytes w τ e v m) (d:e≠g) :
 Calls Tryz.prog 172 #[.pointer (some ⟨b,0,none⟩),.int .i64 i,v] w (SetD w τ g b P i m):=by
 by_cases a:i<0\/40<=i\/m.length=0\/64<m.length
 ·obtain⟨p,c,rfl,h1,h2⟩:=j.any
  exact Qqv h i p m.length c m rfl a oM
 ·obtain⟨s,rfl⟩:∃s:Nat,i=(s:Int):=⟨i.toNat,oM⟩
  exact Qpd k h l s oM j d oM oM
def bools (T:Nat->Bool) (n:Nat):List Value:=(List.range n).map (fun i=>Value.bool (T i))
theorem Qgq (T:Nat->Bool) (n:Nat):(bools T n).length=n:=by simp[bools]
theorem Qfv (T:Nat->Bool) (n i:Nat) (h:i<n):(bools T n)[i]?=some (.bool (T i)):=by
 unfold bools
 rw[List.getElem?_map,List.getElem?_range h];rfl
def qfc (T:Nat->Bool) (o:Nat):Nat->Bool
 | 0=>false
 | n+1=>qfc T o n || T (o+n)
theorem Quc {b o c:Nat} {T:Nat->Bool}(y:∀i,i<n->w.cell? ⟨b,o+i,none⟩=some (.bool (T (o+i)))) (hn:n<=1000) :
 Calls Tryz.prog 237 #[.slice (some ⟨b,o,none⟩) n c,.bool true] w fun e B=>(∃r:Int,e = .returned (.int .i64 r)/\decide (0<=r)=qfc T o n)/\w=B:=by
 have C:=Z2 y
 clear y
 go_enter Tryz.func237,Tryz.ntmps237
 go_wp2_with fail
 go_loopw [8] (fun v wr=>∃(i:Nat),i<=n/\v = .int .i64 i/\qfc T o i=false/\wr=w) (fun v _=>n-(intOf v).toNat)
 case atStart=>exact⟨0,Z9 _,rfl,rfl,rfl⟩
 case round =>
  obtain⟨i,hi,rfl,a,rfl⟩:=hrel
  by_cases q:i<n
  ·have h:=C i q
   have j:qfc T o (i+1)=(qfc T o i || T (o+i)):=rfl
   rw[a,Bool.false_or] at j
   cases p:T (o+i) with
   | true =>
     rw[p] at h j
     have k:∀d,qfc T o (i+1+d)=true:=by
      intro d
      induction d with
      | zero=>exact j
      | succ d ih=>show (qfc T o (i+1+d) || _)=true;rw[ih];rfl
     have s:=k (n-(i+1))
     rw[show i+1+(n-(i+1))=n by omega] at s
     obtain⟨z,D,l⟩:=qan j s a
     clear j s a p k
     go_wp2_with fail
     go_returns
     exact⟨⟨(i:Int),rfl,by rw[D.out];simp⟩,rfl⟩
   | false =>
     rw[p] at h j
     obtain⟨z,l⟩:=qaj j a
     clear j a p
     go_wp2_with fail
     go_round
     case rel=>exact⟨i+1,oM,sM,z,trivial⟩
     case measure=>simp[intOf];omega
  ·have x:i=n:=oM
   subst x
   have l:=Z2 a
   clear a
   go_wp2_with fail
   go_returns
   exact⟨⟨-1,rfl,by rw[l.out];rfl⟩,rfl⟩
theorem Qon {b o c:Nat} {T:Nat->Bool}(d:∀i,i<n->w.cell? ⟨b,o+i,none⟩=some (.bool (T (o+i)))) (hn:n<=1000) :
 Calls Tryz.prog 225 #[.slice (some ⟨b,o,none⟩) n c,.bool true] w fun e h=>e = .returned (.bool (qfc T o n))/\w=h:=by
 have h1:=Quc (c:=c) d hn
 generalize qfc T o n=a at *
 have H1:=Z2 h1
 clear h1 d
 go_enter Tryz.func225,Tryz.ntmps225
 go_wp2_with fail
 refine H1.mono ?_
 rintro e h ⟨⟨r,rfl,j⟩,rfl⟩
 go_wp2_with fail
 go_ret
 exact⟨by rw[<-j];rfl,rfl⟩
def markT (T:Nat->Bool) (a n:Nat):Nat->Bool:=fun i=>T i || (decide (a<=i) && decide (i<a+n))
theorem Qtk (T:Nat->Bool) (a:Nat):markT T a 0=T:=by
 funext i
 unfold markT
 have:(decide (a<=i) && decide (i<a+0))=false:=by
  rw[Bool.and_eq_false_iff]
  by_cases h:a<=i
  ·exact .inr (by simp;omega)
  ·exact .inl (by simpa using h)
 rw[this,Bool.or_false]
theorem Qua (T:Nat->Bool) (a j n:Nat) (h:a+j<n):(bools (markT T a j) n).set (a+j) (.bool true)=bools (markT T a (j+1)) n:=by
 apply List.ext_getElem?
 intro i
 by_cases hi:i<n
 ·by_cases e:i=a+j
  ·subst e
   rw[List.getElem?_set_self (by rw[Qgq];exact h),Qfv _ _ _ hi]
   congr 2
   unfold markT
   rw[decide_eq_true (show a<=a+j by omega),decide_eq_true (show a+j<a+(j+1) by omega)];simp
  ·rw[List.getElem?_set_ne (fun q=>e q.symm),Qfv _ _ _ hi,Qfv _ _ _ hi]
   congr 2
   unfold markT
   congr 2
   by_cases h2:i<a+j
   ·rw[decide_eq_true h2,decide_eq_true oM]
   ·rw[decide_eq_false h2,decide_eq_false oM]
 ·rw[List.getElem?_eq_none (by rw[Y1,Qgq];omega),List.getElem?_eq_none (by rw[Qgq];omega)]
def Qe4 (P:List Int) (st:Option ((Nat->Bool)×Nat)) (s:Nat):Option ((Nat->Bool)×Nat) :=
 match st with
 | none=>none
 | some (T,low) =>
   if qad P s=0/\qav P s=0 then some (T,low)
   else if qad P s=0\/64<qad P s\/qav P s<16+4*qa0 P\/448<qav P s+qad P s then none
   else if qfc T (qav P s) (qad P s)=true then none
   else some (markT T (qav P s) (qad P s),min low (qav P s))
def soundTo (P:List Int):Nat->Option ((Nat->Bool)×Nat)
 | 0=>some (fun _=>false,448)
 | s+1=>Qe4 P (soundTo P s) s
def Qb9 (P:List Int) (T:Nat->Bool) (a:Nat):Nat->Bool
 | 0=>true
 | n+1=>Qb9 P T a n && (T (a+n) || decide (P.getD (a+n) 0=0))
def Qjr (P:List Int) (low:Nat):Bool:=decide (low=qar P) && (decide (qa0 P=0) || decide (0<qad P (qa0 P-1)))
def Qeh (P:List Int):Bool :=
 if 40<qa0 P then false else
 match soundTo P (qa0 P) with
 | none=>false
 | some (T,low)=>Qb9 P T (16+4*qa0 P) (448-(16+4*qa0 P)) && Qjr P low
theorem Qo0 {s:Nat}(h:soundTo P s=none) (d:Nat):soundTo P (s+d)=none:=by
 induction d with
 | zero=>exact h
 | succ d ih=>show Qe4 P (soundTo P (s+d)) _=none;rw[ih];rfl
theorem Qqh {s:Nat}(h:soundTo P s=none) (hs:s<=qa0 P):Qeh P=false:=by
 unfold Qeh
 split
 ·rfl
 ·have:=Qo0 h (qa0 P-s)
  rw[show s+(qa0 P-s)=qa0 P by omega] at this
  rw[this]
theorem Qm7 {T:Nat->Bool} {a:Nat}(h:Qb9 P T a n=false) (d:Nat):Qb9 P T a (n+d)=false:=by
 induction d with
 | zero=>exact h
 | succ d ih=>show (Qb9 P T a (n+d) && _)=false;rw[ih];rfl
theorem Qo1 {T:Nat->Bool} {low:Nat}(a:soundTo P (qa0 P)=some (T,low)) (h:Qb9 P T (16+4*qa0 P) n=false) (hn:n<=448-(16+4*qa0 P)):Qeh P=false:=by
 unfold Qeh
 split
 ·rfl
 ·rw[a]
  have:=Qm7 h (448-(16+4*qa0 P)-n)
  rw[show n+(448-(16+4*qa0 P)-n)=448-(16+4*qa0 P) by omega] at this
  show (Qb9 P T _ _ && _)=false
  rw[this];rfl
theorem Qmn {T:Nat->Bool} {low:Nat}(h40:qa0 P<=40) (a:soundTo P (qa0 P)=some (T,low)) (h:Qb9 P T (16+4*qa0 P) (448-(16+4*qa0 P))=true):Qeh P=Qjr P low:=by
 unfold Qeh
 rw[if_neg oM,a]
 show (Qb9 P T _ _ && _)=_
 rw[h,Bool.true_and]
theorem Sound.soundTo(h:Sound P) (q:Nat) (hq:q<=qa0 P):soundTo P q=some (fun i=>(List.range q).any (fun s=>decide (qav P s<=i) && decide (i<qav P s+qad P s)),(qba P q).2):=by
 induction q with
 | zero=>rfl
 | succ q ih =>
   show Qe4 P (Go.Proofs.YtociicnopccppaaGreat.soundTo P q) q=_
   rw[ih oM]
   have e:qba P (q+1)=if 0<qad P q then (q+1,min (qba P q).2 (qav P q)) else qba P q:=rfl
   have a:∀i,(List.range (q+1)).any (fun s=>decide (qav P s<=i) && decide (i<qav P s+qad P s))=((List.range q).any (fun s=>decide (qav P s<=i) && decide (i<qav P s+qad P s)) || (decide (qav P q<=i) && decide (i<qav P q+qad P q))):=fun i=>by
    rw[List.range_succ,List.any_append];simp
   simp only[a]
   unfold Qe4
   dsimp only
   by_cases h0:qad P q=0
   ·have c:=h.tidy.none q h0
    rw[if_pos ⟨h0,c⟩,e,if_neg oM]
    congr 2
    funext i
    rw[h0,Nat.add_zero]
    have:(decide (qav P q<=i) && decide (i<qav P q))=false:=by
     rw[Bool.and_eq_false_iff]
     by_cases hh:qav P q<=i
     ·exact .inr (by simp;omega)
     ·exact .inl (by simpa using hh)
    rw[this,Bool.or_false]
   ·have hb:=h.tidy.lies.behind q oM
    have hen:=h.tidy.lies.fit.ends q
    have h64:=h.tidy.small q
    rw[if_neg oM,if_neg oM]
    have b:qfc (fun i=>(List.range q).any (fun s=>decide (qav P s<=i) && decide (i<qav P s+qad P s))) (qav P q) (qad P q)=false:=by
     have key:∀n,n<=qad P q->qfc (fun i=>(List.range q).any (fun s=>decide (qav P s<=i) && decide (i<qav P s+qad P s))) (qav P q) n=false:=by
      intro n
      induction n with
      | zero=>intro _;rfl
      | succ n ihn =>
        intro hn
        show (qfc _ _ n || _)=false
        rw[ihn oM,Bool.false_or,List.any_eq_false]
        intro s d
        have hsq:=List.mem_range.1 d
        simp only[Bool.and_eq_true,decide_eq_true_eq,not_and]
        intro h1 h2
        have:=h.tidy.apart s q oM oM oM
        omega
     exact key _ (Z0 _)
    rw[if_neg (by rw[b];simp),e,if_pos (show 0<qad P q by omega)]
    rfl
theorem Sound.yes(h:Sound P):Qeh P=true:=by
 have b:=h.soundTo (qa0 P) (Z0 _)
 have c:=h.tidy.lies.fit.count
 rw[Qmn c b]
 ·unfold Qjr
  have hh:=h.head
  rw[hh]
  have hi:=Qcn P (qa0 P)
  rw[hh] at hi
  rw[decide_eq_true rfl,Bool.true_and]
  rcases hi.last with h1|h1
  ·rw[decide_eq_true h1];rfl
  ·rw[decide_eq_true h1,Bool.or_true]
 ·have key:∀n,n<=448-(16+4*qa0 P)->Qb9 P (fun i=>(List.range (qa0 P)).any (fun s=>decide (qav P s<=i) && decide (i<qav P s+qad P s))) (16+4*qa0 P) n=true:=by
   intro n
   induction n with
   | zero=>intro _;rfl
   | succ n ih =>
     intro hn
     show (Qb9 _ _ _ n && _)=true
     rw[ih oM,Bool.true_and]
     cases a:(List.range (qa0 P)).any (fun s=>decide (qav P s<=16+4*qa0 P+n) && decide (16+4*qa0 P+n<qav P s+qad P s)) with
     | true =>
       show ((List.range (qa0 P)).any (fun s=>decide (qav P s<=16+4*qa0 P+n) && decide (16+4*qa0 P+n<qav P s+qad P s)) || _)=true
       rw[a];rfl
     | false =>
       show ((List.range (qa0 P)).any (fun s=>decide (qav P s<=16+4*qa0 P+n) && decide (16+4*qa0 P+n<qav P s+qad P s)) || _)=true
       rw[a,Bool.false_or]
       rw[List.any_eq_false] at a
       have d:=h.tidy.zero (16+4*qa0 P+n) oM oM (fun s=>by
        rcases Nat.lt_or_ge s (qa0 P) with h1|h1
        ·have:=a s (List.mem_range.2 h1)
         simp only[Bool.and_eq_true,decide_eq_true_eq,not_and] at this
         omega
        ·rw[Qsa h1,Qb7 h1];omega)
       rw[Z5,d];rfl
  exact key _ (Z0 _)
def tTak:Tag:=(94,0)
theorem Qj3:Tryz.zeroCells309 = (bools (fun _=>false) 448).toArray:=kR
theorem Qnr {b:Nat}(h:qag w τ g b P) :
 Calls Tryz.prog 180 #[.pointer (some ⟨b,0,none⟩)] w fun e w'=>e = .returned (.bool (Qeh P))/\∃bq,Step w τ w' bq nil:=by
 have a9:=Qax h
 by_cases br:40<qa0 P
 ·have hb:Qeh P=false:=by unfold Qeh;rw[if_pos br]
  rw[hb]
  generalize qa0 P=q at *
  have a1:(40:Int)<q:=oM
  have aa:=Z2 a9
  clear a9 hb h
  go_enter Tryz.func180,Tryz.ntmps180
  go_wp2_with fail
  refine zC aa ?_
  go_wp2_with fail
  go_ret
  exact⟨rfl,τ,Step.refl _ _ _⟩
 ·have ho:=Own.born w τ tTak 309 Tryz.zeroCells309
  have ao:=(zS w τ).alloc (.cells Tryz.zeroCells309 309) tTak
  rw[Qj3] at ho
  have ab:=Qax (h.step ao id)
  have be:qa0 P<=40:=oM
  have bf:soundTo P 0=some (fun _=>false,448):=rfl
  have ac:=fun s=>Qqh (P:=P) (s:=s)
  have ad:=fun (T:Nat->Bool) (low n:Nat)=>Qo1 (P:=P) (T:=T) (low:=low) (n:=n)
  have ae:=fun (T:Nat->Bool) (low:Nat)=>Qmn (P:=P) (T:=T) (low:=low) be
  have an:∀s,soundTo P (s+1)=Qe4 P (soundTo P s) s:=fun s=>rfl
  have af:∀s,qav P s<65536:=Qu7 h.isB
  have ag:∀s,qad P s<65536:=Qzk h.isB
  have h448:=h.len
  have ah:∀low,Qjr P low=(decide (low=qar P) && (decide (qa0 P=0) || decide (0<qad P (qa0 P-1)))):=fun low=>rfl
  generalize hB:Qeh P=B at *
  generalize hq:qa0 P=q at *
  have a1:¬(40:Int)<q:=oM
  obtain⟨aa,ap,bv,Ho,bw,aq,ar,av,bg,aw,ax,Hq⟩:=qds a9 ab ao ho bf ac ad ae an af ag hq
  have ay:=Z2 ah
  clear a9 ab ao ho bf ac ad ae an af ag hq ah hB
  have bz:=Z2 h
  clear h
  go_enter Tryz.func180,Tryz.ntmps180
  go_wp2_with fail
  refine zC aa ?_
  go_wp2_with fail
  refine zC ap ?_
  go_wp2_with fail
  go_loopw [4,17] (fun lo v wr=>∃(i low:Nat) (T:Nat->Bool) (F:qa1),i<=q/\v = .int .i64 i/\lo = .int .i64 low/\low<=448/\soundTo P i=some (T,low)/\Own wr F w.heap.size tTak 309 (bools T 448)/\Step w τ wr F nil) (fun _ v _=>q-(intOf v).toNat)
  case atStart=>exact⟨0,448,fun _=>false,_,Z9 _,rfl,rfl,Z0 _,bw,Ho,bv⟩
  case round =>
   obtain⟨i,low,T,F,hi,rfl,rfl,bh,hT,E,p⟩:=hrel
   have L:=bz.step p id
   by_cases c3:i<q
   ·have r:=Qgu L i oM (by rw[Hq.out];omega)
    have G:=Qax L
    rw[Hq.out] at G
    have I:=Qfn wr q oM
    have z:=bg i
    rw[hT] at z
    have ho16:=aw i
    have hn16:=ax i
    have J:=aq (i+1)
    unfold Qe4 at z
    simp only[Hq.out] at z
    generalize hpo:qav P i=o at *
    generalize hpl:qad P i=n at *
    by_cases Z:n=0/\o=0
    ·rw[if_pos Z] at z
     obtain⟨rfl,rfl⟩:=Z
     obtain⟨D,az,a6,d⟩:=qb9 r z E p
     clear r z E p J G I hT L
     go_wp2_with fail
     refine zC D ?_
     go_wp2_with fail
     go_round
     case rel=>exact⟨i+1,low,T,F,oM,sM,rfl,bh,az,a6,d⟩
     case measure=>simp[intOf];omega
    ·rw[if_neg Z] at z
     by_cases M:n=0\/64<n\/o<16+4*q\/448<o+n
     ·rw[if_pos M] at z
      have a:=J z oM
      by_cases b1:n=0
      ·subst b1
       have b2:¬(o:Int)=0:=oM
       obtain⟨D,d,l⟩:=qan r p a
       clear r p a G I hT L z J E M Z
       go_wp2_with fail
       refine zC D ?_
       go_wp2_with fail
       go_returns
       exact⟨by rw[l.out];rfl,F,d⟩
      ·have b1':¬(n:Int)=0:=oM
       by_cases b2:64<n
       ·have c4:(64:Int)<n:=oM
        obtain⟨D,d,l⟩:=qan r p a
        clear r p a G I hT L z J E M Z
        go_wp2_with fail
        refine zC D ?_
        go_wp2_with fail
        go_returns
        exact⟨by rw[l.out];rfl,F,d⟩
       ·have c4:¬(64:Int)<n:=oM
        by_cases b3:o<16+4*q
        ·have c5:(o:Int)<16+4*(q:Int):=oM
         obtain⟨D,d,l,a0,a2⟩:=qbq r p a G I
         clear r p a G I hT L z J E M Z
         go_wp2_with fail
         refine zC D ?_
         go_wp2_with fail
         refine zC a0 ?_
         go_wp2_with fail
         refine zC a2 ?_
         go_wp2_with fail
         go_returns
         exact⟨by rw[l.out];rfl,F,d⟩
        ·have c5:¬(o:Int)<16+4*(q:Int):=oM
         have b4:(448:Int)<o+(n:Int):=oM
         obtain⟨D,d,l,a0,a2⟩:=qbq r p a G I
         clear r p a G I hT L z J E M Z
         go_wp2_with fail
         refine zC D ?_
         go_wp2_with fail
         refine zC a0 ?_
         go_wp2_with fail
         refine zC a2 ?_
         go_wp2_with fail
         go_returns
         exact⟨by rw[l.out];rfl,F,d⟩
     ·rw[if_neg M] at z
      have b1:¬(n:Int)=0:=oM
      have b2:¬(64:Int)<n:=oM
      have b3:¬(o:Int)<16+4*(q:Int):=oM
      have b4:¬(448:Int)<o+(n:Int):=oM
      have b5:(o:Int)+n<=448:=oM
      have b6:¬o=448:=oM
      have b7:¬448=o:=oM
      have b8:(o:Int)<=o+(n:Int):=oM
      have b9:(0:Int)<=o+(n:Int):=oM
      have b10:((o:Int)+n).toNat=o+n:=oM
      have b11:o+n-o=n:=oM
      have X:=Qon (c:=448-o) (w:=wr) (b:=w.heap.size) (o:=o) (n:=n) (T:=T) (fun j hj=>E.at (o+j) (Qfv T 448 (o+j) oM)) oM
      cases Y:qfc T o n with
      | true =>
        rw[Y] at z X
        rw[if_pos rfl] at z
        have a:=J z oM
        obtain⟨D,d,l,a0,a2,ai,bi⟩:=qdr r p a G I X Y
        clear r p a G I X Y hT L z J E M Z
        go_wp2_with fail
        refine zC D ?_
        go_wp2_with fail
        refine zC a0 ?_
        go_wp2_with fail
        refine zC a2 ?_
        go_wp2_with fail
        refine zC ai ?_
        go_wp2_with fail
        go_returns
        exact⟨by rw[l.out];rfl,F,d⟩
      | false =>
        rw[Y] at z X
        rw[if_neg sM] at z
        obtain⟨D,d,a0,a2,ai,bi,az,a6⟩:=qen r p G I X Y z E
        clear r p G I X Y z E hT L J M Z
        go_wp2_with fail
        refine zC D ?_
        go_wp2_with fail
        refine zC a0 ?_
        go_wp2_with fail
        refine zC a2 ?_
        go_wp2_with fail
        refine zC ai ?_
        go_wp2_with fail
        go_loopw [54] (fun v wr=>∃(j:Nat) (F:qa1),j<=n/\v = .int .i64 j/\Own wr F w.heap.size tTak 309 (bools (markT T o j) 448)/\Step w τ wr F nil) (fun v _=>n-(intOf v).toNat)
        case atStart=>exact⟨0,F,Z9 _,rfl,by rw[Qtk];exact a6,d⟩
        case round =>
         obtain⟨j,bj,hj,rfl,a7,aj⟩:=hrel
         by_cases hjn:j<n
         ·have kc:=a7.at (o+j) (Qfv (markT T o j) 448 (o+j) oM)
          have kf:=a7.fz (o+j)
          have k1:((o:Int)+j).toNat=o+j:=oM
          have k2:(o:Int)+j<448:=oM
          have k3:(0:Int)<=o+(j:Int):=oM
          have b0:=a7.set (o+j) (.bool true)
          rw[Qua T o j 448 oM] at b0
          have ac:=aj.qa3 (b:=w.heap.size) (o:=o+j) (Z0 _) (.bool true)
          obtain⟨c7,aq,bk,bl⟩:=qb9 b0 ac a7 aj
          clear b0 ac a7 aj
          go_wp2_with fail
          go_round
          case rel=>exact⟨j+1,bj,oM,sM,c7,aq⟩
          case measure=>simp[intOf];omega
         ·have bm:j=n:=oM
          subst bm
          have hmn:(min (low:Int) (o:Int))=((min low o:Nat):Int):=oM
          obtain⟨bk,bl⟩:=qaj a7 aj
          clear a7 aj
          go_wp2_with fail
          go_round
          case rel=>exact⟨i+1,min low o,markT T o j,bj,oM,sM,sM,oM,az,bk,bl⟩
          case measure=>simp[intOf];omega
   ·have c8:i=q:=oM
    subst c8
    have G:=Qax L
    rw[Hq.out] at G
    have I:=Qfn wr i oM
    have c9:16+4*(i:Int)=((16+4*i:Nat):Int):=oM
    rw[c9] at I
    have ad:=ar T low
    have ae:=av T low
    generalize he:16+4*i=e at *
    have he448:e<=448:=oM
    have bn:=Qfm L
    have bo:=ay low
    obtain⟨a0,a2,a6,d,ar,av,HT,al,am,ca⟩:=qhe G I E p ad ae hT L bn bo
    clear G I E p ad ae hT L bn bo
    go_wp2_with fail
    refine a0.mono ?_
    rintro e' w' ⟨rfl,rfl⟩
    go_wp2_with fail
    refine a2.mono ?_
    rintro e' w' ⟨rfl,rfl⟩
    go_wp2_with fail
    generalize hwr:wr=w2 at *
    go_loopw [9] (fun v wr=>∃(k:Nat),k<=448-e/\v = .int .i64 ((e+k:Nat):Int)/\Qb9 P T e k=true/\wr=w2) (fun v _=>448-(intOf v).toNat)
    case atStart=>exact⟨0,Z9 _,rfl,rfl,rfl⟩
    case round =>
     obtain⟨k,hk,rfl,R,rfl⟩:=hrel
     by_cases c3:k<448-e
     ·have kc:=a6.at (e+k) (Qfv T 448 (e+k) oM)
      have U:Qb9 P T e (k+1)=(Qb9 P T e k && (T (e+k) || decide (P.getD (e+k) 0=0))):=rfl
      rw[R,Bool.true_and] at U
      have pc:=al.own.at (e+k) (Qfw P (e+k) oM)
      generalize hx:e+k=x at *
      have hx448:x<448:=oM
      have hxi:(x:Int)<448:=oM
      cases ba:T x with
      | true =>
        rw[ba] at kc U
        have bb:=Z2 U
        clear U R pc
        go_wp2_with fail
        go_round
        case rel=>exact⟨k+1,oM,by first|(simp;omega)|omega,bb,trivial⟩
        case measure=>simp[intOf];omega
      | false =>
        rw[ba,Bool.false_or] at U
        rw[ba] at kc
        generalize hy:P.getD x 0=y at *
        by_cases h0:y=0
        ·subst h0
         have bb:=Z2 U
         clear U R
         go_wp2_with fail
         go_round
         case rel=>exact⟨k+1,oM,by first|(simp;omega)|omega,bb,trivial⟩
         case measure=>simp[intOf];omega
        ·rw[decide_eq_false h0] at U
         have a:=ar (k+1) HT U oM
         have l:=Z2 a
         clear a R U
         go_wp2_with fail
         go_returns
         exact⟨by rw[l.out];rfl,F,d⟩
     ·have cb:e+k=448:=oM
      have cc:k=448-e:=oM
      rw[cc] at R
      have C:=av HT R
      rw[cb]
      have a3:=Qax al
      rw[Hq.out] at a3
      rw[ca.out] at C
      by_cases bc:i=0
      ·subst bc
       have r:=Qtc al (-1) oM
       generalize qar P=lo at *
       by_cases hl:low=lo
       ·subst hl
        rw[decide_eq_true rfl] at C
        obtain⟨a4,D,O⟩:=qan a3 r C
        clear a3 r C R
        go_wp2_with fail
        refine a4.mono ?_
        rintro e' w' ⟨rfl,rfl⟩
        go_wp2_with fail
        refine D.mono ?_
        rintro e' w' ⟨rfl,rfl⟩
        go_wp2_with fail
        refine am.mono ?_
        rintro e' w' ⟨rfl,rfl⟩
        go_wp2_with fail
        refine a4.mono ?_
        rintro e' w' ⟨rfl,rfl⟩
        go_wp2_with fail
        go_returns
        exact⟨by rw[O.out];rfl,F,d⟩
       ·rw[decide_eq_false hl] at C
        have cd:¬(low:Int)=lo:=oM
        obtain⟨a4,D,O⟩:=qan a3 r C
        clear a3 r C R
        go_wp2_with fail
        refine a4.mono ?_
        rintro e' w' ⟨rfl,rfl⟩
        go_wp2_with fail
        refine D.mono ?_
        rintro e' w' ⟨rfl,rfl⟩
        go_wp2_with fail
        refine am.mono ?_
        rintro e' w' ⟨rfl,rfl⟩
        go_wp2_with fail
        go_returns
        exact⟨by rw[O.out];rfl,F,d⟩
      ·have r:=Qgu al (i-1) oM (by rw[Hq.out];omega)
       have ce:((i-1:Nat):Int)=(i:Int)-1:=oM
       rw[ce] at r
       rw[decide_eq_false bc,Bool.false_or] at C
       generalize qav P (i-1)=oo at *
       generalize qad P (i-1)=nn at *
       generalize qar P=lo at *
       have hi0':¬(i:Int)=0:=oM
       by_cases hl:low=lo
       ·subst hl
        rw[decide_eq_true rfl,Bool.true_and] at C
        have bp:decide (0<(nn:Int))=decide (0<nn):=by by_cases hn:0<nn <;> simp[hn]
        obtain⟨a4,D,O⟩:=qan a3 r C
        clear a3 r C R
        go_wp2_with fail
        refine a4.mono ?_
        rintro e' w' ⟨rfl,rfl⟩
        go_wp2_with fail
        refine D.mono ?_
        rintro e' w' ⟨rfl,rfl⟩
        go_wp2_with fail
        refine am.mono ?_
        rintro e' w' ⟨rfl,rfl⟩
        go_wp2_with fail
        refine a4.mono ?_
        rintro e' w' ⟨rfl,rfl⟩
        go_wp2_with fail
        go_returns
        exact⟨by rw[O.out];first|rfl|rw[bp]|(simp;intro h;exact absurd h bc),F,d⟩
       ·rw[decide_eq_false hl] at C
        have cd:¬(low:Int)=lo:=oM
        obtain⟨a4,D,O⟩:=qan a3 r C
        clear a3 r C R
        go_wp2_with fail
        refine a4.mono ?_
        rintro e' w' ⟨rfl,rfl⟩
        go_wp2_with fail
        refine D.mono ?_
        rintro e' w' ⟨rfl,rfl⟩
        go_wp2_with fail
        refine am.mono ?_
        rintro e' w' ⟨rfl,rfl⟩
        go_wp2_with fail
        go_returns
        exact⟨by rw[O.out];rfl,F,d⟩
theorem Qnt {g0:Tag} {v:Value} {Z:List Int}(h:Bytes w τ g0 v Z) (hl:Z.length=448) (U:Z≠qaz) :
 Calls Tryz.prog 135 #[v] w fun e O=>∃a,Step w τ O a nil/\((Qeh Z=true/\∃b,e = .returned (.tuple #[.pointer (some ⟨b,0,none⟩),.int .u16 0])/\w.heap.size<=b/\qag O a g b Z)\/(Qeh Z=false/\e = .returned (.tuple #[.pointer none,.int .u16 90]))):=by
 obtain⟨hB,p,c,rfl,h1,h2,h3⟩:=h
 have q:=hB
 obtain⟨X,o,rfl,r,hc⟩:=h3 oM
 have hr:=Qhv hc
 have d:(Tryz.prog.info? 266).map (·.size)=some 448:=kR
 have s:(Tryz.prog.info? 266).map (·.size)=some (u8s Z).length:=by rw[Qac,hl];exact d
 have x:∀w,(Instr.arrayAt 266 (.slice (some ⟨X,o,none⟩) 448 c)).run Tryz.prog w = .ok (.pointer (some ⟨X,o,none⟩)) w:=fun w=>run_arrayAt w _ _ 448 _ _ c Tryz.underlying266 oM
 rw[hl]
 have Hr:=Z2 hr
 clear hc r hr h1 h3 hB
 obtain⟨Y,y⟩:=qaj hl q
 clear hl q d
 obtain⟨a0,z⟩:=qaj x s
 clear x s
 go_enter Tryz.func135,Tryz.ntmps135
 go_wp2_with fail
 simp only[a0.out]
 simp only[Result.andThen_ok]
 go_step
 go_step
 refine wpList_load_mid rfl 266 _ rfl X o rfl (u8s Z) _ Hr Tryz.underlying266 rfl z ?_
 have k:(u8s Z).toArray.size=448:=by rw[List.size_toArray,Qac];exact Y
 have hfold:=Qpq _ k
 have C:(w.alloc (.cells (u8s Z).toArray 268)).rangeAt w.heap.size 0 (u8s Z).toArray.toList:=by
  intro j v hv
  rw[Nat.zero_add]
  exact(Own.new w τ g 268 (u8s Z)).at j hv
 have i:(Tryz.prog.info? 266).map (·.size)=some (u8s Z).toArray.toList.length:=z.out
 generalize D:(u8s Z).toArray=cs at *
 obtain⟨a1,E,F⟩:=qan C i D
 clear C i D
 go_step
 go_step
 go_step
 go_step
 go_step
 go_step
 go_step
 go_step
 go_step
 go_step
 go_step
 go_step
 go_step
 go_step
 go_step
 go_step
 go_step
 go_step
 go_step
 go_step
 go_step
 go_step
 go_step
 go_step
 refine wpList_load_mid rfl 266 (.tmp 15) rfl w.heap.size 0 rfl cs.toList _ a1 Tryz.underlying266 rfl E ?_
 simp only[Array.toArray_toList]
 go_step
 go_step
 go_step
 have hq:Tryz.zeroCells266 = (u8s qaz).toArray:=kR
 refine Qiw rfl .eql 266 266 (.tmp 16) (.tmp 17) rfl (.agg cs) (.agg Tryz.zeroCells266) (.bool false) rfl rfl (Qfz _ _ _ _ _) (by rw[hq,<-F.out,Qi1 _ y Qda Y (by simp[qaz]),decide_eq_false U]) ?_
 clear hq
 have G:=(zS w τ).alloc (.cells cs 268) g
 have l:qag (w.alloc (.cells cs 268)) (τ.put w.heap.size g) g w.heap.size Z:=by
  refine⟨?_,y,Y⟩
  have:=Own.new w τ g 268 (u8s Z)
  rw[show ({toList:=u8s Z}:Array Value)=cs from F.out] at this
  exact this
 have I:=Qnr l
 generalize hB:Qeh Z=B at *
 obtain⟨J,L,a2⟩:=qan I G l
 clear I G l
 cases B with
 | true =>
   go_wp2_with fail
   refine J.mono ?_
   rintro e O ⟨rfl,a,M⟩
   have R:=Z2 M
   clear M
   go_wp2_with fail
   go_ret2
   exact⟨a,L.trans R,.inl ⟨hB,w.heap.size,rfl,Z0 _,a2.step R id⟩⟩
 | false =>
   go_wp2_with fail
   refine J.mono ?_
   rintro e O ⟨rfl,a,M⟩
   have R:=Z2 M
   clear M
   go_wp2_with fail
   go_ret2
   exact⟨a,L.trans R,.inr ⟨hB,rfl⟩⟩
theorem Sound.some(h:Sound P):P≠qaz:=by
 intro e
 have hh:=h.head
 have h1:qa0 P=0:=by rw[e];decide +kernel
 have h2:qar P=0:=by rw[e];decide +kernel
 rw[h1,h2] at hh
 have:(448:Nat)=0:=congrArg Prod.snd hh
 omega
theorem Qg4 {l:Tag} {v:Value}(h:Bytes w τ l v P) (i:Sound P) :
 Calls Tryz.prog 135 #[v] w fun e j=>∃b a,e = .returned (.tuple #[.pointer (some ⟨b,0,none⟩),.int .u16 0])/\w.heap.size<=b/\qag j a g b P/\Step w τ j a nil:=by
 refine(Qnt h i.tidy.len i.some (g:=g)).mono ?_
 rintro e j ⟨a,k,⟨_,b,rfl,c,o⟩|⟨d,_⟩⟩
 ·exact⟨b,a,rfl,c,o,k⟩
 ·rw[i.yes] at d;cases d
