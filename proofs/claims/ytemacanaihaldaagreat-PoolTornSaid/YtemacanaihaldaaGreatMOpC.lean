/-
 The log: Open.
-/
import Derived.Test.YtemacanaihaldaaGreatMOpA
import Derived.Test.YtemacanaihaldaaGreatMRdH
import Derived.Test.YtemacanaihaldaaGreatMPoolQ
import Derived.Test.YtemacanaihaldaaGreatMStrip
import Derived.Deep.OwnRows
set_option maxRecDepth 100000
set_option maxHeartbeats 4000000
set_option linter.all false
namespace Go.Proofs.YtemacanaihaldaaGreat
open Go.RowKit
theorem Bytes.tailA {w:World}{τ:Tags}{g:Tag}{b o c n:Nat}{l:List Int}(h:Bytes w τ g (.slice (some ⟨b,o,none⟩) n c) l) (k:Nat) (hk:k<l.length):Bytes w τ g (.slice (some ⟨b,o+k,none⟩) (l.length-k) (c-k)) (l.drop k):=by
 obtain⟨p',c',hv,h1,h2,hc⟩:=h.is
 simp only[Value.slice.injEq] at hv
 obtain⟨rfl,rfl,rfl⟩:=hv
 obtain⟨b',o',hb,ht,hcell⟩:=hc (by omega)
 cases hb
 refine⟨fun x hx=>h.isB x (List.mem_of_mem_drop hx),_,_,by rw[List.length_drop],by rw[List.length_drop];omega,by omega,fun _=>⟨b,o+k,rfl,ht,fun i hi=>?_⟩⟩
 rw[List.length_drop] at hi
 have:=hcell (k+i) (by omega)
 rw[show o+k+i=o+(k+i) by omega,this,List.getD_eq_getElem?_getD,List.getD_eq_getElem?_getD,List.getElem?_drop]
def tSecs:Tag:=(323,0)
theorem Jgi {g:Tag}(h:Jcp g):¬DevTag g∧g≠tData:=by
 obtain⟨a,b⟩:=g
 unfold Jcp at h
 dsimp only at h
 exact⟨fun q=>by unfold DevTag at q;dsimp only at q;omega,fun q=>by simp only[tData,Prod.mk.injEq] at q;omega⟩
theorem Ck.infoRow:(Tryz.prog.info? 37).map (fun i=>(i.zero,i.size,i.bytes))=some (some (.slice none 0 0),1,24):=by kernel_rfl
theorem Jf1 (n:Nat) (hn:n≤4096) (W:World):(Instr.makeSlice 52 (.int .i64 (n:Int)) (.int .i64 (n:Int))).run Tryz.prog W =
 .ok (.slice (some ⟨W.heap.size,0,none⟩) n n) (W.alloc (.cells (List.replicate n (Value.slice none 0 0)).toArray 37)):=by
 have:=run_make_row' (P:=Tryz.prog) 52 37 (.slice none 0 0) 24 Tryz.underlying52 Ck.infoRow rfl .i64 .i64 n (by omega) (by omega) W
 rw[this]
 congr 3
 apply Array.ext_getElem?
 intro j
 by_cases hj:j<n
 ·have h1:=Ck.made_get #[Value.slice none 0 0] n j hj
  rw[h1]
  simp[hj,Nat.mod_one]
 ·have l:(madeCells #[Value.slice none 0 0] n)[j]?=none:=by
   unfold madeCells
   rw[Array.getElem?_map,Array.getElem?_range,if_neg hj];rfl
  rw[l]
  simp[hj]
inductive Scan (A:List Int):Nat→List Nat→Prop
 | nil:Scan A 0 []
 | next {la n:Nat} {st:List Nat} {r:RecP}:Scan A la st→Qd1 (A.drop la)=some (r,n)→Scan A (la+n) (st++[la])
theorem Scan.le {A:List Int}{la:Nat}{st:List Nat}(h:Scan A la st):la≤A.length∧st.length≤la:=by
 induction h with
 | nil=>exact⟨Nat.zero_le _,Nat.le_refl _⟩
 | next h hd ih =>
   have:=Qtf hd
   rw[List.length_drop] at this
   rw[List.length_append,List.length_singleton]
   omega
theorem Buf.front {w:World}{τ:Tags}{g:Tag}{p:Option Addr}{c n:Nat}{l:List Int}(h:Buf w τ g 5 1 (.slice p n c) n (u8s l)) (k:Nat) (hk:k≤n):Buf w τ g 5 1 (.slice p k k) k (u8s (l.take k)):=by
 obtain⟨h1,⟨hv,h0⟩|⟨b,cap,ys,hv,ho,h3,h4,h5⟩⟩:=h
 ·cases hv
  have:k=0:=by omega
  subst this
  exact⟨by simp[u8s],.inl ⟨rfl,rfl⟩⟩
 ·cases hv
  rw[Qac] at h1
  refine⟨by rw[Qac,List.length_take];omega,.inr ⟨b,k,u8s (l.drop k)++ys,rfl,?_,?_,Nat.le_refl _,by omega⟩⟩
  ·rw[←List.append_assoc,←Qig,List.take_append_drop];exact ho
  ·rw[Qac,List.length_take];omega
def Jcz (D:Dev) (L:LogM):List (List Int):=(List.range L.strips).map (fun k=>D.last 0 (L.firstS+k))
def LogM.opened (L:LogM) (A:List Int) (la:Nat) (st:List Nat):LogM:={L with stream:=A.take la,starts:=st,lasts:=la}
def OpenTag (g:Tag):Prop:=LogTag g∨Jcp g∨DevTag g
def OpenR (w:World) (τ:Tags) (bd:Nat) (D:Dev) (L:LogM) (e:Ending) (w':World):Prop :=
 ∃bl τ' la st,Scan (Jcu (Jcz D L)) la st∧Qd1 ((Jcu (Jcz D L)).drop la)=none ∧
   e = .returned (.tuple #[.pointer (some ⟨bl,0,none⟩),.int .u16 0])∧w.heap.size≤bl ∧
   LogAt w' τ' bl bd (L.opened (Jcu (Jcz D L)) la st)∧DevAt w' τ' bd (D.make L.firstS L.strips (Qeg ((Jcu (Jcz D L)).take la)))∧Step w τ w' τ' OpenTag
theorem Jfb {w:World}{τ:Tags}{bd:Nat}{D:Dev}(hd:DevAt w τ bd D) (h18:18≤D.f0.length) (hlim:D.lim 800000) (hk:∀i,i<2→(Jct (D.last 0 i)).stamp=0∨Jc3 (D.last 0 i)=true) (hs:0<(findTo D 2).1.stamp) :
 Calls Tryz.prog 13 #[.pointer (some ⟨bd,0,none⟩)] w (OpenR w τ bd D ((newLog D.f0.length).withHead (findTo D 2))):=by
 have hon:=Jar hd h18
 have hf0:D.file 0=D.f0:=rfl
 obtain⟨L,hL⟩:∃L,(newLog D.f0.length).withHead (findTo D 2)=L:=⟨_,rfl⟩
 have hstr:L.strips=(D.f0.length-2)/2:=by rw[←hL];rfl
 have hL9:L.lasts=0∧L.starts=[]∧L.stream=[]:=by rw[←hL];exact⟨rfl,rfl,rfl⟩
 have hdec:decide (0<(findTo D 2).1.stamp)=true:=by simpa using hs
 rw[hL]
 obtain⟨Hon,Hd,Hlim,Hk,HL,HL9,Hstr,Hdec⟩:=hid8 hon hd hlim hk hL hL9 hstr hdec
 clear hon hd hlim hk hL hL9 hstr hdec hs
 go_enter Tryz.func13,Tryz.ntmps13
 go_wp2_with fail
 refine Hon.out.mono ?_
 rintro e w1 ⟨bl,τ1,rfl,hlow,hl1,hs1⟩
 have hd1:=Hd.out.step hs1 (fun _ h=>h.elim)
 have hfi:=Jgg hl1 hd1 (by omega) Hk.out
 rw[Hdec.out,HL.out] at hfi
 obtain⟨Hfi,Hs1,Hlow⟩:=hid3 hfi hs1 hlow
 clear hfi hs1 hlow hl1 hd1
 go_wp2_with fail
 refine Hfi.out.mono ?_
 rintro e w2 ⟨rfl,τ2,hl2,hs2⟩
 have hd2:=(Hd.out.step Hs1.out (fun _ h=>h.elim)).step hs2 (fun g hg=>by subst hg;exact⟨Qau _ (.inl rfl),by simp[tLog,tData]⟩)
 have hst2:=(Hs1.out.mono (T:=fun g=>g=tLog) (fun _ h=>h.elim)).trans hs2
 obtain⟨vs,vt,ho2,-,-⟩:=hl2.is
 have c5:=ho2.at 5 (v:=.int .i64 (L.strips:Int)) rfl
 have hsn:=hl2.ok.strips
 obtain⟨n,hn⟩:∃n,L.strips=n:=⟨_,rfl⟩
 rw[hn] at c5 hsn
 have hms:=Jf1 n (by omega)
 obtain⟨F,hF⟩:∃F,L.firstS=F:=⟨_,rfl⟩
 have hfit:F+n≤D.f0.length:=by
  have h1:=Hstr.out
  rw[←hF,←hn];unfold LogM.firstS;split <;> omega
 have hos:=Own.born w2 τ2 tSecs 37 (List.replicate n (Value.slice none 0 0)).toArray
 have hal:=(Step.refl w2 τ2 nil).alloc (.cells (List.replicate n (Value.slice none 0 0)).toArray 37) tSecs
 have hl3:=hl2.step hal (fun _ _ h=>h)
 have hd3:=hd2.step hal (fun _ h=>h.elim)
 have hst3:=hst2.trans (hal.mono (T:=fun g=>g=tLog) (fun _ h=>h.elim))
 have hlow2:w.heap.size≤w2.heap.size:=hst2.size
 obtain⟨bs,hbs⟩:∃bs,w2.heap.size=bs:=⟨_,rfl⟩
 rw[hbs] at hos hal hl3 hd3 hst3 hlow2
 rw[List.toList_toArray] at hos
 have hbs':=Lib.hid hbs
 obtain⟨Hl3,Hd3,Hst3,Hos,Hn,HF⟩:=hid6 hl3 hd3 hst3 hos hn hF
 clear hl3 hd3 hst3 hos hn hF hl2 hd2 hst2 hs2 ho2 hal hbs
 go_wp2_with fail
 rw[hbs'.out]
 go_loopw [30] (fun v wr=>∃(i:Nat) (τr:Tags) (xs:List Value),i≤n∧v = .int .i64 (i:Int)∧LogAt wr τr bl bd L∧DevAt wr τr bd D∧Own wr τr bs tSecs 37 xs∧xs.length=n∧(∀k,k<i→∃u,xs[k]?=some u∧Bytes wr τr tData u (D.last 0 (F+k)))∧Step w τ wr τr (fun g=>g=tLog)) (fun v _=>n-(intOf v).toNat)
 case atStart=>exact⟨0,_,_,Nat.zero_le _,rfl,Hl3.out,Hd3.out,Hos.out,List.length_replicate ..,fun k hk=>by omega,Hst3.out⟩
 case round =>
  obtain⟨i,τr,xs,hi,rfl,hlr,hdr,hor,hxl,hxs,hst⟩:=hrel
  by_cases hlt:i<n
  ·have hfa:=Qiz hlr
   rw[HF.out] at hfa
   have hrd:=Qnm hdr 0 (by omega) (F+i) (by rw[hf0];omega) tData
   have hcs:((F+i:Nat):Int)=(F:Int)+(i:Int):=by omega
   rw[hcs] at hrd
   obtain⟨vs,vt,ho,-,-⟩:=hlr.is
   have c3:=ho.at 3 (v:=.int .i64 (L.area:Int)) rfl
   have hF4:F+i≤4096:=by have:=Hd.out.length 0;rw[hf0] at this;omega
   have hltI:(i:Int)<(n:Int):=by omega
   obtain⟨Hlr,Hdr,Hor,Hxl,Hxs,Hst,Hfa,Hrd⟩:=hid8 hlr hdr hor hxl hxs hst hfa hrd
   clear hlr hdr hor hxl hxs hst hfa hrd ho
   go_wp2_with fail
   refine Hfa.out.mono ?_
   rintro e w3 ⟨rfl,rfl⟩
   go_wp2_with fail
   refine Hrd.out.mono ?_
   rintro e w4 ⟨u,τ4,rfl,hb,hs4⟩
   have hl4:=Hlr.out.step hs4 (fun _ _ h=>h)
   have hd4:=Hdr.out.step hs4 (fun _ h=>h.elim)
   have ho4:=Hor.out.step hs4 (fun h=>h)
   have hx4:∀k,k<i→∃u,xs[k]?=some u∧Bytes w4 τ4 tData u (D.last 0 (F+k)):=fun k hk=>by
    obtain⟨u,h1,h2⟩:=Hxs.out k hk
    exact⟨u,h1,h2.step hs4 (fun h=>h)⟩
   have hst4:=Hst.out.trans (hs4.mono (T:=fun g=>g=tLog) (fun _ h=>h.elim))
   have cx:=ho4.at i (v:=xs[i]'(by rw[Hxl.out];exact hlt)) (List.getElem?_eq_getElem _)
   have zx:=ho4.fz i
   have lx:=ho4.lt
   obtain⟨pu,cu,rfl,-,-⟩:=hb.any
   generalize hnu:(D.last 0 (F+i)).length=nu at *
   have hoE:=ho4.set i (.slice pu nu cu)
   have hsE:Step w4 τ4 (w4.setCell ⟨bs,i,none⟩ (.slice pu nu cu)) τ4 (fun g=>g=tSecs):=(Step.refl w4 τ4 (fun g=>g=tSecs)).set (b:=bs) (o:=i) ho4.tag rfl _
   obtain⟨HsE,HoE,Hl4,Hd4,Ho4,Hx4,Hst4,Hb⟩:=hid8 hsE hoE hl4 hd4 ho4 hx4 hst4 hb
   clear hsE hoE hl4 hd4 ho4 hx4 hst4 hb hs4
   go_wp2_with fail
   go_round
   case rel =>
    refine⟨i+1,τ4,xs.set i (.slice pu nu cu),by omega,by simp,Hl4.out.step HsE.out (by rintro g (rfl|rfl|rfl) <;> simp[tSecs,tLog,Qah,Qag]),Hd4.out.step HsE.out (fun g hg=>by subst hg;exact⟨by simp[DevTag,tSecs,tDev,tLeft,tRow,tWait],by simp[tSecs,tData]⟩),HoE.out,by rw[List.length_set];exact Hxl.out,fun k hk=>?_,Hst4.out.setNew (b:=bs) (o:=i) hlow2 _⟩
    by_cases hki:k=i
    ·subst hki
     exact⟨_,List.getElem?_set_self (by rw[Hxl.out];exact hlt),Hb.out.step HsE.out (by simp[tSecs,tData])⟩
    ·obtain⟨u,h1,h2⟩:=Hx4.out k (by omega)
     exact⟨u,by rw[List.getElem?_set_ne (by omega)];exact h1,h2.step HsE.out (by simp[tSecs,tData])⟩
   case measure=>simp[intOf];omega
  ·have hin:i=n:=by omega
   subst hin
   have hal:(Jcz D L).length=i:=by unfold Jcz;rw[List.length_map,List.length_range];exact Hn.out
   have hw:Waits wr τr tSecs (.slice (some ⟨bs,0,none⟩) i i) (Jcz D L):=by
    refine .inr ⟨bs,i,xs,[],by rw[hal],by simpa using hor,by rw[hxl,hal],by rw[hal,hxl];exact⟨Nat.le_refl _,Nat.le_add_right _ _⟩,by unfold maxLen;omega,fun k x hx=>?_⟩
    have hki:k<i:=by rw[←hal];exact(List.getElem?_eq_some_iff.1 hx).1
    have hxe:x=D.last 0 (F+k):=by
     unfold Jcz at hx
     rw[List.getElem?_map,List.getElem?_range (by rw[Hn.out];exact hki),HF.out] at hx
     simpa using hx.symm
    obtain⟨u,h1,h2⟩:=hxs k hki
    exact⟨by rw[hxe];exact(Hd.out.last128 0 (F+k) (by rw[hf0];omega)).1,u,h1,by rw[hxe];exact h2⟩
   have hsr:=Jds hw Qah (by rw[hal];omega)
   obtain⟨A,hA⟩:∃A,Jcu (Jcz D L)=A:=⟨_,rfl⟩
   rw[hA] at hsr
   have hml:=Jc4 (Jcz D L)
   rw[hA,hal] at hml
   obtain⟨Hlr,Hdr,Hst,Hsr,HA,Hal⟩:=hid6 hlr hdr hst hsr hA hal
   clear hlr hdr hst hsr hA hal hor hxl hxs hw
   go_wp2_with fail
   refine Hsr.out.mono ?_
   rintro e w5 ⟨u,τ5,rfl,hnb,hs5⟩
   have hl5:=Hlr.out.step hs5 (fun _ _ h=>h)
   have hd5:=Hdr.out.step hs5 (fun _ h=>h.elim)
   have hst5:=Hst.out.trans (hs5.mono (T:=fun g=>g=tLog) (fun _ h=>h.elim))
   obtain⟨pa,ca,rfl⟩:=hnb.val
   obtain⟨m,hm⟩:∃m,A.length=m:=⟨_,rfl⟩
   rw[hm] at hnb ⊢
   have hok:=hl5.ok
   have Hok:=Lib.hid hok
   clear hok
   obtain⟨hnb5,hm5,Hl5,Hd5,Hst5⟩:=hid5 hnb hm hl5 hd5 hst5
   clear hl5 hd5 hst5 hnb hs5 hm
   go_wp2_with fail
   go_loopw [10] (fun v wr=>∃(la:Nat) (st:List Nat) (τr:Tags) (vs vt:Value),Scan A la st∧Own wr τr bl tLog 118 (Qa8 {L with lasts:=la,starts:=st} bd vs vt)∧Ints wr τr Qag vt st∧Bytes wr τr Qah (.slice pa m ca) A∧NB 0 wr τr Qah (.slice pa m ca) A∧DevAt wr τr bd D∧Step w τ wr τr (fun g=>g=tLog∨g=Qag∨Jcp g)) (fun v w=>m-(intOf ((w.cell? ⟨bl,9,none⟩).getD undef)).toNat)
   case atStart =>
    obtain⟨vs5,vt5,ho5,hz5,ht5⟩:=Hl5.out.is
    obtain⟨e9,e8,e7⟩:=HL9.out
    rw[e8] at ht5
    refine⟨0,[],τ5,vs5,vt5,.nil,?_,ht5,hnb5.out.bytes,⟨hnb5.out.buf,hnb5.out.isB,fun _ _=>Nat.zero_le _⟩,Hd5.out,Hst5.out.mono (fun _ h=>.inl h)⟩
    unfold Qa8 at ho5 ⊢
    rw[e9] at ho5
    exact ho5
   case round =>
    obtain⟨la,st,τr6,vs,vt,hsc,ho,hti,hby,hnbr,hdr,hstr6⟩:=hrel
    have hle:=hsc.le
    rw[hm5.out] at hle
    have c9:=ho.at 9 (v:=.int .i64 (la:Int)) rfl
    have hmx:m≤ca∧ca≤maxLen:=by
     obtain⟨-,p',c',hv,h1,h2,-⟩:=hby
     cases hv
     rw[hm5.out] at h1
     exact⟨h1,h2⟩
    have hmx2:=hmx.2
    have hmb:m≤300000:=by have:=hm5.out;omega
    unfold maxLen at hmx2
    cases hpd:Qd1 (A.drop la) with
    | some xn =>
      obtain⟨x,n1⟩:=xn
      have hpl:=Qtf hpd
      rw[List.length_drop,hm5.out] at hpl
      obtain⟨b,rfl⟩:∃b,pa=some ⟨b,0,none⟩:=by
       rcases hnbr.buf.2 with ⟨hv,-⟩|⟨b,_,_,hv,-⟩
       ·cases hv;omega
       ·cases hv;exact⟨b,rfl⟩
      have g1:¬ca=la:=by omega
      have g2:(0:Int)≤(la:Int):=by omega
      have g3:(la:Int)≤(m:Int):=by omega
      have hbq:=hby.tailA la (by rw[hm5.out];omega)
      rw[hm5.out,Nat.zero_add] at hbq
      have hde:=Qt0 hbq (by rw[List.length_drop,hm5.out];rw[hm5.out] at hml;omega) (by simp[Jcp,Qah]) (by simp[Qah,tTwo]) (by simp[Qah,tOne])
      rw[hpd] at hde
      obtain⟨pt,ct,rfl,-,-⟩:=hti.read
      obtain⟨Ho,Hti,Hby,Hnbr,Hdr,Hstr6,Hsc,Hde,Hpd⟩:=hid9 ho hti hby hnbr hdr hstr6 hsc hde hpd
      clear ho hti hby hnbr hdr hstr6 hsc hde hpd hbq
      go_wp2_with fail
      refine Hde.out.mono ?_
      rintro e w6 ⟨τ6,hs6,⟨hno,-⟩|⟨x',n',v,hyes,rfl,hrv⟩⟩
      ·cases hno
      ·cases hyes
       obtain⟨vb,va,vt',vp,n0,rfl,⟨pb,cb,rfl,-⟩,⟨pa',ca',rfl,-⟩,hts,hps⟩:=hrv
       obtain⟨pt',ct',rfl⟩:=hts.val
       obtain⟨pp,cp,rfl⟩:=hps.val
       have hal:=(Step.refl w6 τ6 nil).alloc (.cells #[.int .u8 (x.kind:Int),.int .u32 (x.txn:Int),.int .u64 (x.prev:Int),.int .u64 (x.next:Int),.int .u32 (x.change.page:Int),.int .u16 (x.change.slot:Int),.bool x.change.had,.bool x.change.has,.slice pb x.change.before.length cb,.slice pa' x.change.after.length ca',.slice pt' x.txns.length ct',.slice pp x.pages.length cp] 127) tOne
       have hs7:=hs6.trans (hal.mono (T:=Jcp) (fun _ h=>h.elim))
       generalize τ6.put w6.heap.size tOne=τ7 at *
       obtain⟨w7,hw7⟩:∃W,w6.alloc (.cells #[.int .u8 (x.kind:Int),.int .u32 (x.txn:Int),.int .u64 (x.prev:Int),.int .u64 (x.next:Int),.int .u32 (x.change.page:Int),.int .u16 (x.change.slot:Int),.bool x.change.had,.bool x.change.has,.slice pb x.change.before.length cb,.slice pa' x.change.after.length ca',.slice pt' x.txns.length ct',.slice pp x.pages.length cp] 127)=W:=⟨_,rfl⟩
       rw[hw7] at hs7
       have ho7:=Ho.out.step hs7 (by simp[Jcp,tLog])
       have ht7:=Hti.out.step hs7 (by simp[Jcp,Qag])
       have hb7:=Hby.out.step hs7 (by simp[Jcp,Qah])
       have hn7:=Hnbr.out.step hs7 (by simp[Jcp,Qah])
       have hd7:=Hdr.out.step hs7 (fun g hg=>Jgi hg)
       have hst7:=Hstr6.out.trans (hs7.mono (T:=fun g=>g=tLog∨g=Qag∨Jcp g) (fun _ h=>.inr (.inr h)))
       obtain⟨HW7,Ho7,Ht7,Hb7,Hn7,Hd7,Hst7⟩:=hid7 hw7 ho7 ht7 hb7 hn7 hd7 hst7
       clear ho7 ht7 hb7 hn7 hd7 hst7 hs6 hal hs7 hw7 hts hps
       go_wp2_with fail
       rw[HW7.out]
       obtain⟨nt,hnt⟩:∃nt,st.length=nt:=⟨_,rfl⟩
       have hst9:=Hsc.out.le
       rw[hm5.out,hnt] at hst9
       have hdw:=(Step.refl w7 τ7 nil).drew
       have ho8:=Ho7.out.drew
       have ht8:=Ht7.out.step hdw (fun h=>h)
       have hb8:=Hb7.out.step hdw (fun h=>h)
       have hn8:=Hn7.out.step hdw (fun h=>h)
       have hd8:=Hd7.out.step hdw (fun _ h=>h.elim)
       have hst8:=Hst7.out.drew
       obtain⟨w8,hw8⟩:∃W,w7.drew=W:=⟨_,rfl⟩
       rw[hw8] at ho8 ht8 hb8 hn8 hd8 hst8
       have c8:=ho8.at 8 (v:=.slice pt nt ct) (by rw[←hnt];rfl)
       have c9':=ho8.at 9 (v:=.int .i64 (la:Int)) rfl
       have hoA:=ho8.alloc (.cells #[.int .i64 (la:Int)] 3)
       have cA8:=hoA.at 8 (v:=.slice pt nt ct) (by rw[←hnt];rfl)
       have cA9:=hoA.at 9 (v:=.int .i64 (la:Int)) rfl
       have hSS:w8.cell? ⟨bl,8,none⟩=some (.slice pt nt ct)∧w8.cell? ⟨bl,9,none⟩=some (.int .i64 (la:Int)):=⟨c8,c9'⟩
       have hlw:IntKind.i64.wrap ((la:Int)+(n1:Int))=(la:Int)+(n1:Int):=Qd6 (by omega) (by omega)
       rw[hnt] at ht8
       obtain⟨HNT,Hlw,Ho8,Ht8,Hb8,Hn8,Hd8,Hst8⟩:=hid8 hnt hlw ho8 ht8 hb8 hn8 hd8 hst8
       clear hlw ho8 ht8 hb8 hn8 hd8 hst8 c8 c9' hoA c9 hnt hdw Ho7 Ht7 Hb7 Hn7 Hd7 Hst7
       refine Qaf (S:=fun w':World=>w'.cell? ⟨bl,8,none⟩=some (.slice pt nt ct)∧w'.cell? ⟨bl,9,none⟩=some (.int .i64 (la:Int))) (by kernel_rfl) ?_
       rw[hw8]
       clear hw8
       refine tk0 [0,1,2,3,4,5,6,7,8] ?_
       iterate 9
        refine tks (v:=?_) rfl (Or.inl ⟨by rfl,?_⟩) (by assumption) ?_
        rotate_left
        ·intro w hSw;(try dsimp only at hSw);go_simp
         all_goals with_reducible rfl
        try simp only[Act.put,lz1,lz2,lz3]
       refine tk9 ?_
       clear hSS
       refine tk1 9 rfl fun K hK=>?_
       go_simp
       refine hK.out _ _ (fun _=>⟨cA8,cA9⟩) ?_
       clear hK K
       refine tk1 10 rfl fun K hK=>?_
       refine Qfx Ht8.out la rfl (by rw[HNT.out];omega) rfl rfl _ _ rfl rfl rfl ?_
       intro v3 w3 τ3 ht3 hs3
       obtain⟨p3,c3,rfl,-,-⟩:=ht3.read
       have ho3:=Ho8.out.step hs3 (by decide)
       have d8:=ho3.at 8 (v:=.slice pt nt ct) (by rw[←HNT.out];rfl)
       have d9:=ho3.at 9 (v:=.int .i64 (la:Int)) rfl
       have z8:=ho3.fz 8
       have ho4:=ho3.set 8 (.slice p3 (st++[la]).length c3)
       have hq4:Step w3 τ3 (w3.setCell ⟨bl,8,none⟩ (.slice p3 (st++[la]).length c3)) τ3 (fun t=>t=tLog):=(Step.refl w3 τ3 (fun t=>t=tLog)).set (o:=8) ho3.tag rfl _
       have ht4:=ht3.step hq4 (by decide)
       have hs37:Step w8 τ7 (w3.setCell ⟨bl,8,none⟩ (.slice p3 (st++[la]).length c3)) τ3 (fun g=>g=tLog∨g=Qag):=(hs3.mono (fun _ h=>.inr h)).trans (hq4.mono (fun _ h=>.inl h))
       have hb4:=Hb8.out.step hs37 (by decide)
       have hn4:=Hn8.out.step hs37 (by decide)
       have hd4:=Hd8.out.step hs37 (fun g hg=>by rcases hg with rfl|rfl <;> exact⟨Qau _ (by simp[LogTag]),by simp[tLog,Qag,tData]⟩)
       have hst4:=Hst8.out.trans (hs37.mono (T:=fun g=>g=tLog∨g=Qag∨Jcp g) (fun _ h=>by rcases h with h|h;exact .inl h;exact .inr (.inl h)))
       clear hs3 ht3 ho3 hq4 hs37
       obtain⟨nt2,hnt2⟩:∃x,(st++[la]).length=x:=⟨_,rfl⟩
       rw[hnt2] at ho4 ht4 hb4 hn4 hd4 hst4 ⊢
       obtain⟨Ho4,Ht4,Hb4,Hn4,Hd4,Hst4⟩:=hid6 ho4 ht4 hb4 hn4 hd4 hst4
       clear ho4 ht4 hb4 hn4 hd4 hst4 hnt2
       refine hK.out _ _ (fun _=>⟨d8,d9⟩) ?_
       clear hK K
       refine tk1 11 rfl fun K hK=>?_
       go_simp
       refine hK.out _ _ (fun _=>⟨d8,d9⟩) ?_
       clear hK K
       refine tk1 12 rfl fun K hK=>?_
       go_simp
       refine hK.out _ _ (fun _=>⟨d8,d9⟩) ?_
       clear hK K
       refine tk1 13 rfl fun K hK=>?_
       go_simp
       refine hK.out _ _ (fun h=>absurd h (by decide +kernel)) ?_
       clear hK K
       refine Qad (by kernel_rfl) ?_ _
       have ho4:=Ho4.out
       have ht4:=Ht4.out
       have hb4:=Hb4.out
       have hn4:=Hn4.out
       have hd4:=Hd4.out
       have hst4:=Hst4.out
       obtain⟨w4,hw4⟩:∃W,w3.setCell ⟨bl,8,none⟩ (.slice p3 nt2 c3)=W:=⟨_,rfl⟩
       rw[hw4] at ho4 ht4 hb4 hn4 hd4 hst4 ⊢
       have e9:=ho4.at 9 (v:=.int .i64 (la:Int)) rfl
       have z9:=ho4.fz 9
       have ho5:=ho4.set 9 (.int .i64 ((la:Int)+(n1:Int)))
       have hq5:Step w4 τ3 (w4.setCell ⟨bl,9,none⟩ (.int .i64 ((la:Int)+(n1:Int)))) τ3 (fun t=>t=tLog):=(Step.refl w4 τ3 (fun t=>t=tLog)).set (o:=9) ho4.tag rfl _
       have ht5:=ht4.step hq5 (by decide)
       have hb5:=hb4.step hq5 (by decide)
       have hn5:=hn4.step hq5 (by decide)
       have hd5:=hd4.step hq5 (fun g hg=>by rcases hg with rfl;exact⟨Qau _ (.inl rfl),by simp[tLog,tData]⟩)
       have hst5:=hst4.trans (hq5.mono (T:=fun g=>g=tLog∨g=Qag∨Jcp g) (fun _ h=>.inl h))
       have hlw:=Hlw.out
       obtain⟨Ho5,Ht5,Hb5,Hn5,Hd5,Hst5⟩:=hid6 ho5 ht5 hb5 hn5 hd5 hst5
       clear ho5 ht5 hb5 hn5 hd5 hst5 d8 d9 z8 Ho4 Ht4 Hb4 Hn4 Hd4 Hst4 ho4 ht4 hb4 hn4 hd4 hst4 hq5 hw4
       go_wp2_with fail
       go_round
       case rel=>exact⟨la+n1,st++[la],τ3,vs,_,.next Hsc.out Hpd.out,Ho5.out,Ht5.out,Hb5.out,Hn5.out,Hd5.out,Hst5.out⟩
       case measure =>
        rw[Ho5.out.at 9 (v:=.int .i64 ((la:Int)+(n1:Int))) rfl,Ho.out.at 9 (v:=.int .i64 (la:Int)) rfl]
        simp[intOf]
        omega
    | none =>
      have hcal:la≤ca:=by omega
      have hcalI:(la:Int)≤(ca:Int):=by omega
      have hlaI:(0:Int)≤(la:Int):=by omega
      have htk:∀W T,NB 0 W T Qah (.slice pa m ca) A→Buf W T Qah 5 1 (.slice pa la la) la (u8s (A.take la)):=fun W T h=>by
       have:=h.buf
       rw[hm5.out] at this
       exact this.front la hle.1
      have key:∀(q:Option Addr) (n2 c2:Nat),n2=m-la→(0<n2→Bytes wr τr6 Qah (.slice q n2 c2) (A.drop la))→n2≤c2→c2≤maxLen→Calls Tryz.prog 56 #[.slice q n2 c2] wr (Qz6 wr τr6 none):=fun q n2 c2 e1 hb e2 e3=>by
       have hb':Bytes wr τr6 Qah (.slice q n2 c2) (A.drop la):=by
        by_cases h0:0<n2
        ·exact hb h0
        ·have e:A.drop la=[]:=List.drop_eq_nil_of_le (by rw[hm5.out];omega)
         rw[e]
         exact⟨fun x hx=>by simp at hx,q,c2,by rw[show n2=0 by omega];rfl,Nat.zero_le _,e3,fun hx=>by simp at hx⟩
       have:=Qt0 hb' (by rw[List.length_drop,hm5.out];rw[hm5.out] at hml;omega) (by simp[Jcp,Qah]) (by simp[Qah,tTwo]) (by simp[Qah,tOne])
       rw[hpd] at this
       exact this
      obtain⟨pt,ct,rfl,-,-⟩:=hti.read
      have g2:(0:Int)≤(la:Int):=by omega
      have g3:(la:Int)≤(m:Int):=by omega
      have hway:(la<ca∧∃b,pa=some ⟨b,0,none⟩)∨(la=ca∧la=m∧∃b,pa=some ⟨b,0,none⟩)∨(la=ca∧la=m∧pa=none):=by
       rcases hnbr.buf.2 with ⟨hv,-⟩|⟨b,_,_,hv,-⟩
       ·cases hv;exact .inr (.inr ⟨by omega,by omega,rfl⟩)
       ·cases hv
        by_cases hlc:la<ca
        ·exact .inl ⟨hlc,b,rfl⟩
        ·exact .inr (.inl ⟨by omega,by omega,b,rfl⟩)
      obtain⟨Ho,Hti,Hby,Hnbr,Hdr,Hstr6,Hsc,Hpd,Htk⟩:=hid9 ho hti hby hnbr hdr hstr6 hsc hpd htk
      clear ho hti hby hnbr hdr hstr6 hsc hpd htk c9
      rcases hway with ⟨hlc,b,rfl⟩|⟨rfl,rfl,b,rfl⟩|⟨rfl,rfl,rfl⟩
      case' inl =>
       have g1:¬ca=la:=by omega
       have hde:=key (some ⟨b,la,none⟩) (m-la) (ca-la) rfl (fun h=>by have:=Hby.out.tailA la (by rw[hm5.out];omega);rw[hm5.out,Nat.zero_add] at this;exact this) (by omega) (by omega)
       have c9:=Ho.out.at 9 (v:=.int .i64 (la:Int)) rfl
       obtain⟨vS,hvS⟩:∃v,v=Value.slice (some ⟨b,0,none⟩) la la:=⟨_,rfl⟩
       have htv:∀W T,NB 0 W T Qah (.slice (some ⟨b,0,none⟩) m ca) A→Buf W T Qah 5 1 vS la (u8s (A.take la)):=fun W T h=>by rw[hvS];exact Htk.out W T h
       obtain⟨Hde,Htv,HvS⟩:=hid3 hde htv hvS
       clear hde htv hvS key
       go_wp2_with fail
      case' inr.inl =>
       have hde:=key (some ⟨b,0,none⟩) 0 0 (by omega) (fun h=>by omega) (by omega) (by omega)
       have c9:=Ho.out.at 9 (v:=.int .i64 (la:Int)) rfl
       obtain⟨vS,hvS⟩:∃v,v=Value.slice (some ⟨b,0,none⟩) la la:=⟨_,rfl⟩
       have htv:∀W T,NB 0 W T Qah (.slice (some ⟨b,0,none⟩) la la) A→Buf W T Qah 5 1 vS la (u8s (A.take la)):=fun W T h=>by rw[hvS];exact Htk.out W T h
       obtain⟨Hde,Htv,HvS⟩:=hid3 hde htv hvS
       clear hde htv hvS key
       go_wp2_with fail
      case' inr.inr =>
       have hde:=key none 0 0 (by omega) (fun h=>by omega) (by omega) (by omega)
       have c9:=Ho.out.at 9 (v:=.int .i64 (la:Int)) rfl
       obtain⟨vS,hvS⟩:∃v,v=Value.slice (none) la la:=⟨_,rfl⟩
       have htv:∀W T,NB 0 W T Qah (.slice (none) la la) A→Buf W T Qah 5 1 vS la (u8s (A.take la)):=fun W T h=>by rw[hvS];exact Htk.out W T h
       obtain⟨Hde,Htv,HvS⟩:=hid3 hde htv hvS
       clear hde htv hvS key
       go_wp2_with fail
      all_goals (
       refine Hde.out.mono ?_
       rintro e w6 ⟨τ6,hs6,hor⟩
       rcases hor with ⟨-,er,her,rfl⟩|⟨x,n',v,hyes,-,-⟩
       rotate_left
       ·cases hyes
       rw[show Qdj=#[.int .u8 0,.int .u32 0,.int .u64 0,.int .u64 0,.int .u32 0,.int .u16 0,.bool false,.bool false,.slice none 0 0,.slice none 0 0,.slice none 0 0,.slice none 0 0] from rfl]
       have here:¬(er:Int)=0:=by omega
       have hal:=(Step.refl w6 τ6 nil).alloc (.cells #[.int .u8 0,.int .u32 0,.int .u64 0,.int .u64 0,.int .u32 0,.int .u16 0,.bool false,.bool false,.slice none 0 0,.slice none 0 0,.slice none 0 0,.slice none 0 0] 127) tOne
       have hs7:=hs6.trans (hal.mono (T:=Jcp) (fun _ h=>h.elim))
       generalize τ6.put w6.heap.size tOne=τ7 at *
       obtain⟨w7,hw7⟩:∃W,w6.alloc (.cells #[.int .u8 0,.int .u32 0,.int .u64 0,.int .u64 0,.int .u32 0,.int .u16 0,.bool false,.bool false,.slice none 0 0,.slice none 0 0,.slice none 0 0,.slice none 0 0] 127)=W:=⟨_,rfl⟩
       rw[hw7] at hs7
       have hdw:=hs7.drew
       obtain⟨w8,hw8⟩:∃W,w7.drew=W:=⟨_,rfl⟩
       rw[hw8] at hdw
       have ho8:=Ho.out.step hdw (by simp[Jcp,tLog])
       have ht8:=Hti.out.step hdw (by simp[Jcp,Qag])
       have hn8:=Hnbr.out.step hdw (by simp[Jcp,Qah])
       have hd8:=Hdr.out.step hdw (fun g hg=>Jgi hg)
       have hst8:=Hstr6.out.trans (hdw.mono (T:=fun g=>g=tLog∨g=Qag∨Jcp g) (fun _ h=>.inr (.inr h)))
       have c9':=ho8.at 9 (v:=.int .i64 (la:Int)) rfl
       have c7':=ho8.at 7 (v:=vs) rfl
       have z7:=ho8.fz 7
       obtain⟨HW7,Ho8,Ht8,Hn8,Hd8,Hst8⟩:=hid6 hw7 ho8 ht8 hn8 hd8 hst8
       clear ho8 ht8 hn8 hd8 hst8 hs6 hal hs7 hw7 hdw
       go_wp2_with fail
       rw[HW7.out]
       have hSS:w8.cell? ⟨bl,9,none⟩=some (.int .i64 (la:Int)):=c9'
       refine Qaf (S:=fun w':World=>w'.cell? ⟨bl,9,none⟩=some (.int .i64 (la:Int))) (by kernel_rfl) ?_
       rw[hw8]
       clear hw8
       refine tk0 [0,1,2,3,4,5,6,7,8,9,10] ?_
       iterate 11
        refine tks (v:=?_) rfl (Or.inl ⟨by rfl,?_⟩) (by assumption) ?_
        rotate_left
        ·intro w hSw;(try dsimp only at hSw);go_simp
         all_goals with_reducible rfl
        try simp only[Act.put,lz1,lz2,lz3]
       refine tk9 ?_
       clear hSS
       refine tk1 11 rfl fun K hK=>?_
       go_simp
       refine hK.out _ _ (fun _=>c9') ?_
       clear hK K
       refine tk1 12 rfl fun K hK=>?_
       go_simp
       refine hK.out _ _ (fun _=>c9') ?_
       clear hK K
       refine tk1 13 rfl fun K hK=>?_
       go_simp
       refine hK.out _ _ (fun h=>absurd h (by decide +kernel)) ?_
       clear hK K
       refine Qad (by kernel_rfl) ?_ _
       rw[←HvS.out]
       have ho9:=Ho8.out.set 7 vS
       have hq9:Step w8 τ7 (w8.setCell ⟨bl,7,none⟩ vS) τ7 (fun t=>t=tLog):=(Step.refl w8 τ7 (fun t=>t=tLog)).set (o:=7) Ho8.out.tag rfl _
       have hn9:=Hn8.out.step hq9 (by decide)
       have hAl:(A.take la).length=la:=by rw[List.length_take,hm5.out];omega
       have hokA:(L.opened A la st).ok:=⟨Hok.out.stamp,Hok.out.base,Hok.out.check,Hok.out.area,Hok.out.strips,Hok.out.slot,by show (A.take la).length≤_;omega,by show st.length≤_;have:=Hsc.out.le.2;omega,by show la≤(A.take la).length;omega⟩
       have hl9:LogAt (w8.setCell ⟨bl,7,none⟩ vS) τ7 bl bd (L.opened A la st):=⟨⟨_,_,ho9,by show Buf _ _ _ _ 1 vS (A.take la).length _;rw[hAl];exact Htv.out _ _ hn9,Ht8.out.step hq9 (by decide)⟩,fun x hx=>Hn8.out.isB x (List.mem_of_mem_take hx),hokA⟩
       have hd9:=Hd8.out.step hq9 (fun g hg=>by rcases hg with rfl;exact⟨Qau _ (.inl rfl),by simp[tLog,tData]⟩)
       have hst9:=Hst8.out.trans (hq9.mono (T:=fun g=>g=tLog∨g=Qag∨Jcp g) (fun _ h=>.inl h))
       obtain⟨LL,hLL⟩:∃x,L.opened A la st=x:=⟨_,rfl⟩
       have hF9:LL.firstS=F:=by rw[←hLL,←HF.out];rfl
       have ha9:LL.area=L.area:=by rw[←hLL];rfl
       have hs9:LL.strips=i:=by rw[←hLL,←Hn.out];rfl
       have ht9:LL.stream=A.take la:=by rw[←hLL];rfl
       rw[hLL] at hl9
       obtain⟨w9,hw9⟩:∃W,w8.setCell ⟨bl,7,none⟩ vS=W:=⟨_,rfl⟩
       rw[hw9] at hl9 hd9 hst9 ho9
       have HW9:=Lib.hid hw9
       have d3:=ho9.at 3 (v:=.int .i64 (L.area:Int)) rfl
       have d5:=ho9.at 5 (v:=.int .i64 (i:Int)) (by rw[←Hn.out];rfl)
       have d7:=ho9.at 7 (v:=vS) rfl
       obtain⟨HLL,HAl,Ho9,Hl9,Hd9,Hst9,HF9,Ha9,Hs9,Ht9⟩:=hid10 hLL hAl ho9 hl9 hd9 hst9 hF9 ha9 hs9 ht9
       clear hl9 hd9 hst9 hF9 ha9 hs9 ht9 ho9 hq9 hn9 hokA hLL hAl hw9 c9' c7' z7 Ho8 Ht8 Hn8 Hd8 Hst8 Hde
       rw[HW9.out]
       have hdq:=(Step.refl w9 τ7 nil).drew
       have hfst:=Qiz (Hl9.out.step hdq (fun _ _ h=>h))
       rw[Ha9.out,HF9.out] at hfst
       obtain⟨vx,vy,hox,hbx,-⟩:=(Hl9.out.step hdq (fun _ _ h=>h)).is
       have hlay:∀v,(w9.drew.cell? ⟨bl,7,none⟩=some v)→Calls Tryz.prog 58 #[v] w9.drew fun e w'=>∃u τ',e = .returned u∧NR w9.drew.heap.size w' τ' tOut u (Qeg (A.take la))∧Step w9.drew τ7 w' τ' nil:=fun v hv=>by
        have h7:=hox.at 7 (v:=vx) rfl
        rw[hv] at h7
        cases h7
        have:=Qvl (Buf.bytes hbx (Hl9.out.step hdq (fun _ _ h=>h)).isB) (by rw[Ht9.out,HAl.out];omega)
        rw[Ht9.out] at this
        exact this
       have hlayS:=hlay vS (by exact d7)
       obtain⟨Hfst,HlayS⟩:=hid2 hfst hlayS
       clear hfst hlayS hlay hox hbx hdq
       go_wp2_with fail
       go_region_held3 (fun w'=>w'.cell? ⟨bl,3,none⟩=some (.int .i64 (L.area:Int))∧w'.cell? ⟨bl,5,none⟩=some (.int .i64 (i:Int))∧w'.cell? ⟨bl,7,none⟩=some vS) (go_keep) (first
        | (go_at_call 54
           refine Hfst.out.mono ?_
           rintro e w10 ⟨rfl,rfl⟩)
        | (go_at_call 58
           refine HlayS.out.mono ?_
           rintro e w10 ⟨u10,τ10,rfl,hnr10,hs10⟩
           have hq10:=(Step.refl w9 τ7 nil).drew.trans hs10
           have hl10:=Hl9.out.step hq10 (fun _ _ h=>h)
           have hd10:=Hd9.out.step hq10 (fun _ h=>h.elim)
           have hst10:=Hst9.out.trans (hq10.mono (T:=fun g=>g=tLog∨g=Qag∨Jcp g) (fun _ h=>h.elim))
           have hmk:=Qxm hl10 hd10 hnr10.row (by simp[DevTag,tOut]) F i hfit Hlim.out
           have ho10:=Ho9.out.step hq10 (fun h=>h)
           have e3:=ho10.at 3 (v:=.int .i64 (L.area:Int)) rfl
           have e5:=ho10.at 5 (v:=.int .i64 (i:Int)) (by rw[←Hn.out];rfl)
           have e7:=ho10.at 7 (v:=vS) rfl
           obtain⟨Ho10,Hl10,Hd10,Hst10,Hmk⟩:=hid5 ho10 hl10 hd10 hst10 hmk
           clear hl10 hd10 hst10 hmk
           clear hs10 hq10 hnr10 ho10)
        | (go_at_call 57
           refine Hmk.out.mono ?_
           rintro e w11 ⟨rfl,τ11,hd11,hs11⟩
           have hl11:=Hl10.out.step hs11 Qau
           have hst11:Step w τ w11 τ11 OpenTag:=(Hst10.out.mono (T:=OpenTag) (fun _ h=>by rcases h with h|h|h;exact .inl (.inl h);exact .inl (.inr (.inr h));exact .inr (.inl h))).trans (hs11.mono (T:=OpenTag) (fun _ h=>.inr (.inr h)))
           have ho11:=Ho10.out.step hs11 (Qau _ (.inl rfl))
           have f3:=ho11.at 3 (v:=.int .i64 (L.area:Int)) rfl
           have f5:=ho11.at 5 (v:=.int .i64 (i:Int)) (by rw[←Hn.out];rfl)
           have f7:=ho11.at 7 (v:=vS) rfl
           obtain⟨Hl11,Hd11,Hst11⟩:=hid3 hl11 hd11 hst11
           clear hl11 hd11 hst11
           clear hs11 ho11))
       go_wp2_with fail
       go_ret2
       have hl11:=Hl11.out
       have hd11:=Hd11.out
       rw[←HLL.out] at hl11
       rw[←HF.out,←Hn.out,←HA.out] at hd11
       rw[←HA.out] at hl11
       exact⟨bl,τ11,la,st,by rw[HA.out];exact Hsc.out,by rw[HA.out];exact Hpd.out,rfl,Hlow.out,hl11,hd11,Hst11.out⟩)
end Go.Proofs.YtemacanaihaldaaGreat