/-
 TxnCommits: the law walked.
-/
import Derived.Test.YtjgacceifcnedaaGreatML15H
import Derived.Test.YtjgacceifcnedaaGreatMActE
import Derived.Test.YtjgacceifcnedaaGreatMEntA
import Derived.Test.YtjgacceifcnedaaGreatML15B
import Derived.ProofKit
import Derived.Test.YtjgacceifcnedaaGreatRows
import Derived.Test.YtjgacceifcnedaaGreatChecked
set_option maxRecDepth 100000
set_option maxHeartbeats 8000000
set_option linter.all false
namespace Go.Proofs.YtjgacceifcnedaaGreat
open Go.RowKit Go.Maps ArgsQ
theorem TZ.read {w w':World}{τ τ':Tags}{I:Ids}{bo:Nat→Nat}{X:List OneP}{next:Nat}{R:List RecP}{V:SlotV}{st:Nat}(h:TZ w τ I bo X next R V st) (m:Step w τ w' τ' ReadTag):TZ w' τ' I bo X next R V st:=by
 obtain⟨H,L,D,F,s,cur,h1,h2⟩:=h.is
 exact⟨⟨H,L,D,F,s,cur,h1.read m,h2⟩⟩
theorem Jci {w:World}{τ:Tags}{bm bl bp:Nat}{bo:Nat→Nat}{X:List OneP}{next:Nat}(h:MgrAt w τ bm bl bp bo X next) (k:Nat) (hk4:k<4294967296) (hno:∀x∈X,x.txn≠k) :
 Calls Tryz.prog 14 #[.pointer (some ⟨bm,0,none⟩),.int .u32 (k:Int)] w (Qz7 w):=by
 have hr:=Qy6 h k hk4 hno
 have Hr:=Lib.hid hr
 clear hr h
 go_enter Tryz.func14,Tryz.ntmps14
 go_wp2_with fail
 refine Hr.out.mono ?_
 rintro e w1 ⟨rfl,rfl⟩
 go_wp2_with fail
 go_ret
 exact⟨rfl,rfl⟩
theorem Jca (w:World) (sp pg fr:Nat) (hsp:sp<256) (hpg:pg<256) (hfr:fr<256) (la:Option Addr) (n1 c1:Nat) (hn1:n1≤maxLen) (o1:OpsT w la n1) :
 Calls Tryz.prog 5 #[.int .u8 (sp:Int),.int .u8 (pg:Int),.int .u8 (fr:Int),.slice la n1 c1] w (LawD w):=by
 have hkn:=Qra w
 obtain⟨Hkn,H_o1⟩:=hid2 hkn o1
 clear hkn o1
 by_cases hb1:40<n1
 ·have g1:decide ((40:Int)<(n1:Int))=true:=decide_eq_true (by omega)
  go_enter Tryz.func5,Tryz.ntmps5
  go_wp2_with fail
  refine Hkn.out.mono ?_
  rintro e w' ⟨rfl,τ',hs⟩
  have hbw:=(Qiv hs).below
  have Hbw:=Lib.hid hbw
  clear hbw hs
  go_wp2_with fail
  go_ret
  exact⟨rfl,Hbw.out⟩
 have g1:decide ((40:Int)<(n1:Int))=false:=decide_eq_false (by omega)
 go_enter Tryz.func5,Tryz.ntmps5
 go_wp2_with fail
 refine Hkn.out.mono ?_
 rintro e w0 ⟨rfl,τ0,hs0⟩
 have hm0:=Qiv hs0
 have hsh:=Qu2 w0 sp pg fr hsp hpg hfr
 obtain⟨Hm0,Hsh⟩:=hid2 hm0 hsh
 clear hm0 hsh hs0
 go_wp2_with fail
 refine Hsh.out.mono ?_
 rintro e w1 ⟨I,τ1,rfl,hN,hS,hz1,hs1⟩
 have hst1:=Qw3 Hm0.out hs1
 have hbe:=Qsz hz1 (by omega) (by omega)
 obtain⟨HN,HS,Hz1,Hst1,Hbe⟩:=hid5 hN hS hz1 hst1 hbe
 clear hN hS hz1 hst1 hbe hs1
 go_wp2_with fail
 refine Hbe.out.mono ?_
 rintro e w2 ⟨rfl,τ2,bo,hs2,hso2⟩
 have hst2:=Hst1.out.trans (hs2.mono (T:=AnyTag) (fun _ h=>Qdw h))
 obtain⟨Hst2,Hso2⟩:=hid2 hst2 hso2
 clear hst2 hso2 hs2
 go_wp2_with fail
 go_loopw [13] (fun v wr=>∃(i:Nat) (τr:Tags) (R:List RecP) (V:SlotV) (x:OneP) (l:List (Nat×ChangeP)),i≤n1∧v = .int .i64 (i:Int)∧Solo wr τr I bo R V (0+i) x l kV0∧Step w boxed wr τr AnyTag) (fun v _=>n1-(intOf v).toNat)
 case atStart=>exact⟨0,τ2,_,_,_,_,Nat.zero_le _,rfl,Hso2.out,Hst2.out⟩
 case round =>
  obtain⟨i,τr,R,V,x,l,hi,rfl,hso,hst⟩:=hrel
  by_cases hlt:i<n1
  ·obtain⟨bl,ol,op,hla,hop⟩:=H_o1.out i hlt
   obtain⟨q0,q1,q2,p0,p1,p2,p3,p4,p5,p6⟩:=hop.stay hst
   have hltI:(i:Int)<(n1:Int):=by omega
   have hown:=Qnc hso (by have:=HN.out;omega) (kd:=op.kd) (nn:=op.nn) (pg:=op.pg) (sl:=op.sl) (p:=op.p) (m:=op.m) (c:=op.c) (k:=op.k) (at_:=op.at_) q0 q1 q2
   unfold OpV at hown
   have hxl:=hso.tlast.low
   obtain⟨hs0,hs0'⟩:∃b,decide (0<op.kd%5)=b:=⟨_,rfl⟩
   rw[hs0'] at hown
   obtain⟨Hso,Hst,Hop,Hown,Hxl⟩:=hid5 hso hst hop hown hxl
   clear hso hst hop hown hxl
   rw[hla]
   clear hla
   go_wp2_with fail
   refine Hown.out.mono ?_
   rintro e w3 ⟨e',τ3,V',R',x',l',rfl,hs3,hc3,hso3⟩
   have hst3:=Hst.out.trans (hs3.mono (T:=AnyTag) (fun _ h=>Qdw (.inl h)))
   obtain⟨Hst3,Hso3⟩:=hid2 hst3 hso3
   clear hst3 hso3 hs3 hc3 p0 p1 p2 p3 p4 p5 p6
   go_wp2_with fail
   go_round
   case rel=>exact⟨i+1,τ3,R',V',x',l',by omega,by simp,Hso3.out,Hst3.out⟩
   case measure=>simp[intOf];omega
  ·have hin:i=n1:=by omega
   rw[hin] at hso
   try rw[hin]
   obtain⟨RA,rfl⟩:∃q,q=R:=⟨_,rfl⟩
   obtain⟨VA,rfl⟩:∃q,q=V:=⟨_,rfl⟩
   obtain⟨xA,rfl⟩:∃q,q=x:=⟨_,rfl⟩
   obtain⟨kA,rfl⟩:∃q,q=l:=⟨_,rfl⟩
   obtain⟨τA,rfl⟩:∃q,q=τr:=⟨_,rfl⟩
   have hsl:=Qrx hso.tz (by have:=HN.out;omega) (by have:=HN.out;omega) 0
   obtain⟨Hso,Hst,Hsl⟩:=hid3 hso hst hsl
   clear hso hst hsl
   go_wp2_with fail
   refine Hsl.out.mono ?_
   rintro e w4 ⟨vw,τ4,rfl,hrw,hz4,hs4⟩
   have hso4:=Hso.out.retz hz4
   have hst4:=Hst.out.trans (hs4.mono (T:=AnyTag) (fun _ h=>Qdw h))
   obtain⟨n0w,hn0w⟩:∃q,wr.heap.size=q:=⟨_,rfl⟩
   rw[hn0w] at hrw
   obtain⟨pw,cw,rfl⟩:=hrw.val
   obtain⟨lw,hlw⟩:∃q,(Qbw VA I.N).length=q:=⟨_,rfl⟩
   rw[hlw] at hrw
   rw[hlw]
   have hcm:=Jcj hso4.tz (x:=xA) (by simp) hso4.state hso4.last (by have:=hso4.room;omega)
   obtain⟨R2,hR2⟩:∃q,RA++[Qb6 4 xA]++[Qb6 6 {xA with last:=1+(recsB RA).length}]=q:=⟨_,rfl⟩
   rw[hR2,hso4.txn] at hcm
   have hrm:=hso4.room
   have hI:=hso4.S
   obtain⟨Hst4,Hrw,Hlw,Hcm⟩:=hid4 hst4 hrw hlw hcm
   clear hst4 hrw hlw hcm hs4 hz4
   go_wp2_with fail
   refine Hcm.out.mono ?_
   rintro e w5 ⟨rfl,τ5,hs5,hz5⟩
   have hst5:=Hst4.out.trans (hs5.mono (T:=AnyTag) (fun _ h=>Qdw h))
   have hrw5:=Hrw.out.step hs5 (Qov 0) Qkg
   have hz5t:=hz5.tz
   obtain⟨H,L,D,F,s,cur,h1,h2,h3,h4,h5,h6⟩:=hz5.is
   rw[show dropX [xA] 1=[] by simp[dropX,hso4.txn]] at h1 hz5t
   have hlog:LogAt w5 τ5 I.bl I.bd L:=h1.hbl▸h1.pool.log
   have hml:=Jb6 h1.mgr
   have hrl:=Qfk RA
   have hRl:R2.length=RA.length+2:=by rw[←hR2];simp
   have hS127:I.S*127≤200*127:=Nat.mul_le_mul_right _ hI
   have hent:=Jcb hlog h1.good.rise h2 (by rw[hRl];omega) (by rw[hRl];omega)
   have hat1:R2[RA.length]?=some (Qb6 4 xA):=by
    rw[←hR2]
    rw[List.getElem?_append_left (by simp),List.getElem?_append_right (Nat.le_refl _),Nat.sub_self];rfl
   have hat2:R2[RA.length+1]?=some (Qb6 6 {xA with last:=1+(recsB RA).length}):=by
    rw[←hR2,List.getElem?_append_right (by simp)];simp
   have hea1:entAt R2 RA.length=1+(recsB RA).length:=by
    rw[←hR2]
    unfold entAt
    rw[List.take_append_of_le_length (by simp),List.take_append_of_le_length (Nat.le_refl _),List.take_length]
   have hea2:∀k,k≤RA.length→entAt R2 k≤1+(recsB RA).length:=fun k hk=>by
    rw[←hR2]
    unfold entAt
    rw[List.take_append_of_le_length (by simp;omega),List.take_append_of_le_length hk]
    have e:recsB RA=recsB (RA.take k)++recsB (RA.drop k):=by
     unfold recsB
     rw[←List.flatMap_append,List.take_append_drop]
    have:=congrArg List.length e
    rw[List.length_append] at this
    omega
   have htx:=hso4.txn
   rw[hRl] at hent
   obtain⟨nA,hnA⟩:∃n,RA.length=n:=⟨_,rfl⟩
   obtain⟨m2,hm2⟩:∃m,nA+2=m:=⟨_,rfl⟩
   rw[hnA] at hent hat1 hat2 hea1 hea2 hRl
   rw[hm2] at hent hRl
   obtain⟨lc,hlc⟩:∃n,1+(recsB RA).length=n:=⟨_,rfl⟩
   rw[hlc] at hea1 hea2 h6
   obtain⟨qk,hqk⟩:∃q,L.base+L.lasts=q:=⟨_,rfl⟩
   rw[hqk] at h6
   have hlc64:0<lc∧lc<1000000:=by omega
   have hm26:m2≤1000000:=by omega
   obtain⟨Hst5,Hrw5,Hz5t,Hlog,Hml,Hent,Hat1,Hat2,Hea1,Hea2,Hqk,HRl⟩:=hid12 hst5 hrw5 hz5t hlog hml hent hat1 hat2 hea1 hea2 hqk hRl
   clear hst5 hrw5 hz5t hlog hml hent hat1 hat2 hea1 hea2 hqk hRl hs5 hz5 h1 h2 h3 h4 h5 hrl hS127 hI hrm hnA hso4 hlc hR2
   go_wp2_with fail
   refine Hml.out.mono ?_
   rintro e w' ⟨rfl,rfl⟩
   go_wp2_with fail
   refine Hent.out.mono ?_
   rintro e w6 ⟨v6,τ6,E,rfl,hns,hev,hs6⟩
   obtain⟨pe,ce,rfl,hemx,hrd⟩:=hns.ent hev
   have hz6:=Hz5t.out.read hs6
   have hlog6:=Hlog.out.step hs6 (by rintro g (rfl|rfl|rfl) <;> simp[ReadTag,tLog,Qah,Qag])
   have hst6:=Hst5.out.trans (hs6.mono (T:=AnyTag) (fun _ h=>Qdw (.inr h)))
   have hrw6:=Hrw5.out.step (hs6.mono (T:=TyTag) (fun _ h=>.inr h)) (Qov 0) Qkg
   obtain⟨Hrd,Hz6,Hlog6,Hst6,Hrw6⟩:=hid5 hrd hz6 hlog6 hst6 hrw6
   clear hrd hz6 hlog6 hst6 hrw6 hs6 hns hev
   go_wp2_with fail
   go_loopw [17,18] (fun la v wr=>∃(i lv:Nat),i≤m2∧v = .int .i64 (i:Int)∧la = .int .u64 (lv:Int)∧lv≤lc∧(nA<i→lv=lc)∧wr=w6) (fun _ v _=>m2-(intOf v).toNat)
   case atStart=>exact⟨0,0,Nat.zero_le _,rfl,rfl,Nat.zero_le _,fun h=>absurd h (Nat.not_lt_zero _),rfl⟩
   case round =>
    obtain⟨i,lv,hi,rfl,rfl,hlv,hlt1,rfl⟩:=hrel
    by_cases hlt:i<m2
    ·obtain⟨r,hr⟩:∃r,R2[i]?=some r:=⟨_,List.getElem?_eq_getElem (by rw[HRl.out];exact hlt)⟩
     obtain⟨be,rfl,d0,d1,d2⟩:=Hrd.out i r hlt hr
     have hltI:(i:Int)<(m2:Int):=by omega
     have q1:i=nA→r.kind=4∧r.txn=1:=fun e=>by
      rw[e,Hat1.out] at hr
      cases hr
      exact⟨rfl,htx⟩
     have q2:i=nA+1→r.kind=6:=fun e=>by
      rw[e,Hat2.out] at hr
      cases hr
      rfl
     have q3:=Hea2.out i
     have q4:=Hea1.out
     obtain⟨ei,hei⟩:∃q,entAt R2 i=q:=⟨_,rfl⟩
     rw[hei] at d0 q3
     have q5:i=nA→ei=lc:=fun e=>by rw[←hei,e];exact q4
     obtain⟨kd,hkd⟩:∃q,r.kind=q:=⟨_,rfl⟩
     obtain⟨tx,htxx⟩:∃q,r.txn=q:=⟨_,rfl⟩
     rw[hkd] at d1 q1 q2
     rw[htxx] at d2 q1
     by_cases hk4:kd=4
     ·subst hk4
      by_cases ht1:tx=1
      ·subst ht1
       have hres:i+1≤m2∧ei≤lc∧(nA<i+1→ei=lc):=by
        have:i≠nA+1:=fun e=>absurd (q2 e) (by omega)
        exact⟨by omega,q3 (by omega),fun h=>q5 (by omega)⟩
       have Hres:=Lib.hid hres
       clear hres q1 q2 q3 q4 q5 hr hei hkd htxx
       go_wp2_with fail
       go_round
       case rel=>exact⟨i+1,ei,Hres.out.1,by simp,rfl,Hres.out.2.1,Hres.out.2.2,trivial⟩
       case measure=>simp[intOf];omega
      ·have hres:i+1≤m2∧lv≤lc∧(nA<i+1→lv=lc):=by
        have:i≠nA:=fun e=>ht1 (q1 e).2
        exact⟨by omega,hlv,fun h=>hlt1 (by omega)⟩
       have t1:((tx:Int)==1)=false:=by simp;omega
       have t2:¬(tx:Int)=1:=by omega
       have Hres:=Lib.hid hres
       clear hres q1 q2 q3 q4 q5 hr hei hkd htxx
       go_wp2_with fail
       go_round
       case rel=>exact⟨i+1,lv,Hres.out.1,by simp,rfl,Hres.out.2.1,Hres.out.2.2,trivial⟩
       case measure=>simp[intOf];omega
     ·have hres:i+1≤m2∧lv≤lc∧(nA<i+1→lv=lc):=by
       have:i≠nA:=fun e=>hk4 (q1 e).1
       exact⟨by omega,hlv,fun h=>hlt1 (by omega)⟩
      have t1:((kd:Int)==4)=false:=by simp;omega
      have t2:¬(kd:Int)=4:=by omega
      have Hres:=Lib.hid hres
      clear hres q1 q2 q3 q4 q5 hr hei hkd htxx
      go_wp2_with fail
      go_round
      case rel=>exact⟨i+1,lv,Hres.out.1,by simp,rfl,Hres.out.2.1,Hres.out.2.2,trivial⟩
      case measure=>simp[intOf];omega
    ·have hin:i=m2:=by omega
     obtain rfl:lv=lc:=hlt1 (by omega)
     rw[hin]
     clear hi
     have hab:=Jci Hz6.out.mgr 1 (by omega) (fun x hx=>absurd hx (by simp))
     have hml6:=Jb6 Hz6.out.mgr
     have hla6:=Qwp Hlog6.out
     rw[Hqk.out] at hla6
     have hl0:(0:Int)<(lv:Int):=by have:=hlc64.1;omega
     have hl1:(lv:Int)<(qk:Int):=by omega
     obtain⟨Hab,Hml6,Hla6⟩:=hid3 hab hml6 hla6
     clear hab hml6 hla6 hlv hlt1
     go_wp2_with fail
     refine Hab.out.mono ?_
     rintro e w' ⟨rfl,rfl⟩
     go_wp2_with fail
     refine Hml6.out.mono ?_
     rintro e w' ⟨rfl,rfl⟩
     go_wp2_with fail
     refine Hla6.out.mono ?_
     rintro e w7 ⟨rfl,hs7⟩
     have hz7:=Hz6.out.nil hs7
     have hst7:=Hst6.out.trans (hs7.mono (T:=AnyTag) (fun _ h=>h.elim))
     have hrw7:=Hrw6.out.step hs7 (fun h=>h) (fun h=>h)
     have hsl7:=Qrx hz7 (by have:=HN.out;omega) (by have:=HN.out;omega) 1
     obtain⟨Hst7,Hrw7,Hsl7⟩:=hid3 hst7 hrw7 hsl7
     clear hst7 hrw7 hsl7 hs7 hz7
     go_wp2_with fail
     refine Hsl7.out.mono ?_
     rintro e w8 ⟨vn,τ8,rfl,hrn,hz8,hs8⟩
     have hst8:=Hst7.out.trans (hs8.mono (T:=AnyTag) (fun _ h=>Qdw h))
     have hrw8:=Hrw7.out.step hs8 (Qov 0) Qkg
     obtain⟨pn,cn,rfl⟩:=hrn.val
     have hsb:=Jb0 hrn hrw8
     rw[Hlw.out] at hsb
     rw[Hlw.out]
     obtain⟨Hst8,Hsb,Hz8⟩:=hid3 hst8 hsb hz8
     clear hst8 hsb hz8 hs8 hrw8 hrn
     go_wp2_with fail
     refine Hsb.out.mono ?_
     rintro e wg ⟨rfl,q9,rfl⟩
     have hd9:Step w8 τ8 (w8.drewN q9) τ8 nil:=(Step.refl _ _ _).drews q9
     have hac:=Jb5 (Hz8.out.nil hd9).mgr
     have hst9:=Hst8.out.trans (hd9.mono (T:=AnyTag) (fun _ h=>h.elim))
     obtain⟨Hac,Hst9⟩:=hid2 hac hst9
     clear hac hst9 hd9
     go_wp2_with fail
     refine Hac.out.mono ?_
     rintro e wi ⟨rfl,τi,hsi⟩
     have hbw:=(Qiv (Hst9.out.trans (hsi.mono (T:=AnyTag) (fun _ h=>h.elim)))).below
     have Hbw:=Lib.hid hbw
     clear hbw hsi
     go_wp2_with fail
     go_ret
     exact⟨rfl,Hbw.out⟩
end Go.Proofs.YtjgacceifcnedaaGreat
namespace Go.Proofs.YtjgacceifcnedaaGreat.lawCommits
open Go.ChangeShapes Go.WideShapes Go.ChangeAt Go.RowKit Go.Deep ArgsQ
theorem own:ownKnob Tryz.prog.godebug=none:=by kernel_rfl
theorem Qq9:laidOutB Tryz.prog=true:=by kernel_rfl
theorem Jas (os:Os) (started:os.Started) (H:Type) (enc:TypeId×Value→H) :
 ReturnsInHanded {} Tryz.checked os 5 .any (Rows.txnCommitsSpec.pre6 enc Tryz.prog Tryz.f5 Rows.txnCommitsRow.domain false) (Rows.txnCommitsSpec.post enc Tryz.prog Tryz.f5 false true false false):=by
 refine returnsInHanded_of_change (C:=Tryz.checked) own started (by kernel_rfl) Tryz.func5
  (ChangeSpec.witness6 (enc:=enc) (C:=Tryz.checked) false ⟨#[],#[.int .u8 0,.int .u8 0,.int .u8 0,.slice none 0 0],[]⟩ 8 (by kernel_rfl) (by kernel_rfl) (by kernel_rfl) (by kernel_rfl)) ?_
 intro W base args ds gs before hval0 hW hcnd _
 have hval:∀(j:Nat) t v,Tryz.f5.params[j]?=some t→args[j]?=some v→Value.okWide Tryz.prog W .any base t v:=hval0
 have hW':=hW
 obtain⟨p,q,hA0,hV,rfl,hfz,hnd⟩:=hW
 have hA:DataW.TrodAll enc Tryz.prog W 0 (fun _=>true) true Tryz.f5.params.toList args.toList ds p:=hA0
 rw[Tryz.params5] at hA hval
 obtain⟨v0,v1,v2,v3,d0,d1,d2,d3,p0,p1,p2,p3,rfl,rfl,rfl,h0,h1,h2,h3⟩:=trodAll_four hA
 obtain⟨rfl,rfl⟩:=trodVars_none hV
 obtain⟨n0,rfl,rfl,rfl,wf0⟩:=open_int Tryz.underlying5 (hval 0 5 v0 rfl rfl) h0
 obtain⟨n1,rfl,rfl,rfl,wf1⟩:=open_int Tryz.underlying5 (hval 1 5 v1 rfl rfl) h1
 obtain⟨n2,rfl,rfl,rfl,wf2⟩:=open_int Tryz.underlying5 (hval 2 5 v2 rfl rfl) h2
 obtain⟨b3,len3,cap3,rfl,hlen3,hops3⟩:=Qk6 (hval 3 22 v3 rfl rfl) h3
 clear hA0 hval0
 simp only[List.append_nil,List.nil_append,List.append_assoc] at hW'
 have hlt3:∀x∈p3,x.block<W.heap.size:=fun x hx=>hW'.lt x (by simp[hx])
 have hx0:=Qiu wf0
 have hx1:=Qiu wf1
 have hx2:=Qiu wf2
 obtain⟨n0,rfl⟩:=Int.eq_ofNat_of_zero_le hx0.1
 obtain⟨n1,rfl⟩:=Int.eq_ofNat_of_zero_le hx1.1
 obtain⟨n2,rfl⟩:=Int.eq_ofNat_of_zero_le hx2.1
 refine(Jca W n0 n1 n2 (by omega) (by omega) (by omega) b3 len3 cap3 hlen3 hops3).mono fun e W' ⟨he,hg⟩=>?_
 subst he
 exact⟨_,rfl,Qnp (pa:=p3) (pv:=[]) hW' (fun _ _ _=>trodAll_mk1 (shut_bool Tryz.underlying4 _))
  (fun sp hsp=>trodAll_mk4 (shut_int Tryz.underlying5 wf0) (shut_int Tryz.underlying5 wf1) (shut_int Tryz.underlying5 wf2) (WideElems.Trod_stays Qq9 (by kernel_rfl) (of_decide_eq_true (by kernel_rfl)) h3 (fun x hx=>hg.same (hlt3 x hx)) (fun x hx=>hsp x (by simp[hx]))))
  (fun _ _=>rfl) (by simp) hg (ok_one (by kernel_rfl) rfl (okWide_bool_mk Tryz.underlying4 _))⟩
theorem holds:Rows.TxnCommitsSaid :=
 OpenClaim.holds_of_wide 5 Tryz.f5 rfl rfl rfl rfl rfl rfl rfl ⟨rfl,rfl,rfl,rfl,rfl⟩ rfl rfl rfl rfl rfl (by kernel_rfl) Tryz.func5 (by kernel_rfl)
  (of_decide_eq_true (by kernel_rfl)) (by unfold Func.isWrapper;first|(rw[if_pos (by decide +kernel)];kernel_rfl)|(rw[if_neg (by decide +kernel)];exact⟨rfl,rfl⟩))
  (fun os started H enc _=>Jas os started H enc)
#print axioms holds
end Go.Proofs.YtjgacceifcnedaaGreat.lawCommits