/-
 The log: how it lies in memory;on,its getters,make,say,New.
-/
import Derived.Test.YtemacanaihaldaaGreatMCrc
set_option maxRecDepth 100000
set_option linter.all false
namespace Go.Proofs.YtemacanaihaldaaGreat
variable {D:Dev}{P:List Int}{bd bl:Nat}{g:Tag}{w:World}{τ:Tags}
open Go.RowKit
structure LogM where
 stamp:Nat
 base:Nat
 check:Nat
 area:Nat
 strips:Nat
 slot:Nat
 stream:List Int
 starts:List Nat
 lasts:Nat
def tLog:Tag:=(10,0)
def Qah:Tag:=(11,0)
def Qag:Tag:=(12,0)
def LogTag (g:Tag):Prop:=g=tLog∨g=Qah∨g=Qag
def i64s (l:List Nat):List Value:=l.map (fun (n:Nat)=>Value.int .i64 (n:Int))
def Qa8 (L:LogM) (bd:Nat) (vs vt:Value):List Value :=
 [.int .u64 (L.stamp:Int),.int .u64 (L.base:Int),.int .u64 (L.check:Int),.int .i64 (L.area:Int),.pointer (some ⟨bd,0,none⟩),.int .i64 (L.strips:Int),.int .i64 (L.slot:Int),vs,vt,.int .i64 (L.lasts:Int)]
structure LogM.ok (L:LogM):Prop where
 stamp:L.stamp<2 ^ 64
 base:L.base≤13835058055282163712
 check:L.check<2 ^ 64
 area:L.area<2
 strips:L.strips≤2047
 slot:L.slot<2
 stream:L.stream.length≤1000000
 starts:L.starts.length≤1000000
 lasts:L.lasts≤L.stream.length
structure LogAt (w:World) (τ:Tags) (bl bd:Nat) (L:LogM):Prop where
 is:∃vs vt,Own w τ bl tLog 118 (Qa8 L bd vs vt)∧Buf w τ Qah 5 1 vs L.stream.length (u8s L.stream)∧Buf w τ Qag 3 1 vt L.starts.length (i64s L.starts)
 isB:IsB L.stream
 ok:L.ok
theorem LogAt.step {w':World} {τ':Tags} {S:Tag→Prop} {L:LogM}(h:LogAt w τ bl bd L) (m:Step w τ w' τ' S) (hs:∀g,LogTag g→¬S g):LogAt w' τ' bl bd L:=by
 obtain⟨vs,vt,h1,h2,h3⟩:=h.is
 exact⟨⟨vs,vt,h1.step m (hs _ (.inl rfl)),h2.step m (hs _ (.inr (.inl rfl))),h3.step m (hs _ (.inr (.inr rfl)))⟩,h.isB,h.ok⟩
theorem Qau (g:Tag) (h:LogTag g):¬DevTag g:=by
 rcases h with rfl|rfl|rfl <;> simp[DevTag,tLog,Qah,Qag]
def newLog (n:Nat):LogM:=⟨0,0,0,0,(n-2)/2,0,[],[],0⟩
theorem Jar(h:DevAt w τ bd D) (h18:18≤D.f0.length) :
 Calls Tryz.prog 51 #[.pointer (some ⟨bd,0,none⟩)] w fun e w'=>∃bl τ',e = .returned (.tuple #[.pointer (some ⟨bl,0,none⟩),.int .u16 0])∧w.heap.size≤bl∧LogAt w' τ' bl bd (newLog D.f0.length)∧Step w τ w' τ' nil:=by
 have hsz:=Qjs h 0 (by omega)
 have hlen:=h.length 0
 have hf:D.file 0=D.f0:=rfl
 rw[hf] at hsz hlen
 have hown:=Own.new w τ tLog 118 (Qa8 (newLog D.f0.length) bd (.slice none 0 0) (.slice none 0 0))
 have hst:=(Step.refl w τ nil).alloc (.cells ⟨Qa8 (newLog D.f0.length) bd (.slice none 0 0) (.slice none 0 0)⟩ 118) tLog
 have hfin:LogAt (w.alloc (.cells ⟨Qa8 (newLog D.f0.length) bd (.slice none 0 0) (.slice none 0 0)⟩ 118)) (τ.put w.heap.size tLog) w.heap.size bd (newLog D.f0.length) :=
  ⟨⟨_,_,hown,Buf.nil _ _ _ _ _,Buf.nil _ _ _ _ _⟩,fun x hx=>by simp[newLog] at hx,by constructor <;> simp only[newLog] <;> first|omega|simp⟩
 have hcast:((newLog D.f0.length).strips:Int)=((D.f0.length:Int)-2)/2:=by simp only[newLog];omega
 unfold Qa8 at hfin hst
 rw[hcast] at hfin hst
 generalize D.f0.length=n at *
 simp only[newLog] at hfin hst
 obtain⟨Hsz,Hst,Hfin⟩:=hid3 hsz hst hfin
 clear hsz hst hfin hown h hcast
 have hge:(2:Int)≤(n:Int):=by omega
 have a1:decide (((n:Int)-2)/2<8)=false:=by simp;omega
 go_enter Tryz.func51,Tryz.ntmps51
 go_wp2_with fail
 refine Hsz.out.mono ?_
 rintro e w' ⟨rfl,rfl⟩
 go_wp2_with fail
 go_ret2
 exact⟨_,_,rfl,Nat.le_refl _,Hfin.out,Hst.out⟩
theorem Qyg {L:LogM}(h:LogAt w τ bl bd L) :
 Calls Tryz.prog 181 #[.pointer (some ⟨bl,0,none⟩)] w fun e w'=>e = .returned (.int .u64 (L.base:Int))∧w=w':=by
 obtain⟨vs,vt,ho,_,_⟩:=h.is
 have c1:=ho.at 1 (v:=.int .u64 (L.base:Int)) rfl
 clear h ho
 go_enter Tryz.func181,Tryz.ntmps181
 go_wp2_with fail
 go_ret
 exact⟨rfl,rfl⟩
theorem Qwb {L:LogM}(h:LogAt w τ bl bd L) :
 Calls Tryz.prog 166 #[.pointer (some ⟨bl,0,none⟩)] w fun e w'=>e = .returned (.int .u64 (L.check:Int))∧w=w':=by
 obtain⟨vs,vt,ho,_,_⟩:=h.is
 have c1:=ho.at 2 (v:=.int .u64 (L.check:Int)) rfl
 clear h ho
 go_enter Tryz.func166,Tryz.ntmps166
 go_wp2_with fail
 go_ret
 exact⟨rfl,rfl⟩
theorem Qv5 {L:LogM}(h:LogAt w τ bl bd L) :
 Calls Tryz.prog 60 #[.pointer (some ⟨bl,0,none⟩)] w fun e w'=>e = .returned (.pointer (some ⟨bd,0,none⟩))∧w=w':=by
 obtain⟨vs,vt,ho,_,_⟩:=h.is
 have c1:=ho.at 4 (v:=.pointer (some ⟨bd,0,none⟩)) rfl
 clear h ho
 go_enter Tryz.func60,Tryz.ntmps60
 go_wp2_with fail
 go_ret
 exact⟨rfl,rfl⟩
theorem Qnj {L:LogM}(h:LogAt w τ bl bd L) :
 Calls Tryz.prog 89 #[.pointer (some ⟨bl,0,none⟩)] w fun e w'=>e = .returned (.int .i64 (L.strips*127:Nat))∧w=w':=by
 obtain⟨vs,vt,ho,_,_⟩:=h.is
 have c1:=ho.at 5 (v:=.int .i64 (L.strips:Int)) rfl
 have hb:=h.ok.strips
 clear h ho
 go_enter Tryz.func89,Tryz.ntmps89
 go_wp2_with fail
 go_ret
 exact⟨by simp,rfl⟩
theorem Qer {a b:Nat}(h:a+b<18446744073709551616):IntKind.u64.wrap ((a:Int)+(b:Int))=((a+b:Nat):Int):=by
 have:=Qam (a+b) h
 rw[←this];congr 1
theorem Ql3 {L:LogM}(h:LogAt w τ bl bd L) :
 Calls Tryz.prog 142 #[.pointer (some ⟨bl,0,none⟩)] w fun e w'=>e = .returned (.int .u64 ((L.base+L.stream.length:Nat):Int))∧Step w τ w' τ nil:=by
 obtain⟨vs,vt,ho,hs,_⟩:=h.is
 obtain⟨p,c,rfl⟩:=hs.len
 have c1:=ho.at 1 (v:=.int .u64 (L.base:Int)) rfl
 have c7:=ho.at 7 (v:=.slice p L.stream.length c) rfl
 have hb:=h.ok.base
 have hl:=h.ok.stream
 have hw:=Qam L.stream.length (by omega)
 have hw2:=Qer (a:=L.base) (b:=L.stream.length) (by omega)
 generalize L.stream.length=n at *
 generalize L.base=bs at *
 clear h ho hs hb hl
 go_enter Tryz.func142,Tryz.ntmps142
 go_wp2_with fail
 go_quiet (fail)
 go_wp2_with fail
 go_ret
 exact⟨rfl,(Step.refl w τ nil).drews nq⟩
theorem Qwp {L:LogM}(h:LogAt w τ bl bd L) :
 Calls Tryz.prog 184 #[.pointer (some ⟨bl,0,none⟩)] w fun e w'=>e = .returned (.int .u64 ((L.base+L.lasts:Nat):Int))∧Step w τ w' τ nil:=by
 obtain⟨vs,vt,ho,hs,_⟩:=h.is
 have c1:=ho.at 1 (v:=.int .u64 (L.base:Int)) rfl
 have c9:=ho.at 9 (v:=.int .i64 (L.lasts:Int)) rfl
 have hb:=h.ok.base
 have hl:=h.ok.stream
 have hla:=h.ok.lasts
 have hw:=Qam L.lasts (by omega)
 have hw2:=Qer (a:=L.base) (b:=L.lasts) (by omega)
 generalize L.lasts=n at *
 generalize L.base=bs at *
 clear h ho hs hb hl hla
 go_enter Tryz.func184,Tryz.ntmps184
 go_wp2_with fail
 go_quiet (fail)
 go_wp2_with fail
 go_ret
 exact⟨rfl,(Step.refl w τ nil).drews nq⟩
def zeros128:List Int:=List.replicate 128 0
def Qck (want:List (List Int)) (i:Nat):List Int:=if i<want.length then want.getD i [] else zeros128
def Qa7 (D:Dev) (from_:Nat) (want:List (List Int)):Nat→Dev×Bool
 | 0=>(D,false)
 | i+1=>if (Qa7 D from_ want i).1.last 0 (from_+i)=Qck want i then Qa7 D from_ want i else ((Qa7 D from_ want i).1.write 0 (from_+i) (Qck want i),true)
def Dev.make (D:Dev) (from_ n:Nat) (want:List (List Int)):Dev:=if (Qa7 D from_ want n).2=true then (Qa7 D from_ want n).1.sync 0 else (Qa7 D from_ want n).1
theorem Qdo (D:Dev) (from_:Nat) (want:List (List Int)) (i f:Nat):((Qa7 D from_ want i).1.file f).length=(D.file f).length:=by
 induction i with
 | zero=>rfl
 | succ i ih =>
   unfold Qa7
   split
   ·exact ih
   ·rw[Dev.write_file _ _ _ (by omega)];exact ih
theorem Qgw {b:Nat}(h:D.lim b) (from_:Nat) (want:List (List Int)) (i:Nat):(Qa7 D from_ want i).1.lim (b+i):=by
 induction i with
 | zero=>exact h
 | succ i ih =>
   unfold Qa7
   split
   ·exact Dev.lim_mono ih (by omega)
   ·exact Dev.lim_mono (Dev.lim_write ih 0 _ (by omega) _) (by omega)
theorem Dev.make_length (D:Dev) (from_ n:Nat) (want:List (List Int)) (f:Nat):((D.make from_ n want).file f).length=(D.file f).length:=by
 unfold Dev.make
 split
 ·rw[Dev.sync_file _ _ (by omega),Qdo]
 ·rw[Qdo]
theorem Dev.make_lim {b:Nat}(h:D.lim b) (from_ n:Nat) (want:List (List Int)):(D.make from_ n want).lim (b+n):=by
 unfold Dev.make
 split
 ·exact Dev.lim_sync (Qgw h _ _ _) 0 (by omega)
 ·exact Qgw h _ _ _
theorem Qay:¬DevTag tData:=by simp[DevTag,tData]
theorem Qxm {L:LogM}(hl:LogAt w τ bl bd L) (hd:DevAt w τ bd D) {g:Tag}{v:Value}{want:List (List Int)}(hw:Waits w τ g v want) (hg:¬DevTag g) (from_ n:Nat) (hfit:from_+n≤D.f0.length) (hlim:D.lim 800000) :
 Calls Tryz.prog 57 #[.pointer (some ⟨bl,0,none⟩),.int .i64 (from_:Int),.int .i64 (n:Int),v] w (DevR w τ bd (D.make from_ n want) (.tuple #[])):=by
 have rn:=Qcz
 have hlen:=hd.length 0
 have hf0:D.file 0=D.f0:=rfl
 rw[hf0] at hlen
 obtain⟨pw,cw,rfl,hwm,-⟩:=hw.read
 have hz:=Bytes.noughts w τ tData 128 (by unfold maxLen;omega)
 have hst0:=(Step.refl w τ DevTag).alloc (.cells (madeCells #[.int .u8 0] 128) 5) tData
 have hd0:=hd.step ((Step.refl w τ nil).alloc (.cells (madeCells #[.int .u8 0] 128) 5) tData) (fun _ h=>h.elim)
 generalize hnw:want.length=nw at *
 obtain⟨Hl,Hw,Hst0,Hd0,Hz,Hlim,Hnw⟩:=hid7 hl hw hst0 hd0 hz hlim hnw
 clear hl hw hst0 hd0 hz hlim hnw hd
 go_enter Tryz.func57,Tryz.ntmps57
 go_wp2_with fail
 generalize w.alloc (.cells (madeCells #[.int .u8 0] 128) 5)=W0 at *
 generalize hzb:w.heap.size=zb at *
 have HZB:=Lib.hid hzb
 clear hzb
 go_loopw [8,16] (fun c v wr=>∃(i:Nat) (τr:Tags),i≤n∧v = .int .i64 (i:Int)∧c = .bool (Qa7 D from_ want i).2∧DevAt wr τr bd (Qa7 D from_ want i).1∧Bytes wr τr tData (.slice (some ⟨zb,0,none⟩) 128 128) zeros128∧Step w τ wr τr DevTag) (fun _ v _=>n-(intOf v).toNat)
 case atStart=>exact⟨0,_,Nat.zero_le _,rfl,rfl,Hd0.out,Hz.out,Hst0.out⟩
 case round =>
  obtain⟨i,τr,hi,rfl,rfl,hd,hz,hst⟩:=hrel
  have hlr:=Hl.out.step hst Qau
  obtain⟨vs,vt,ho,-,-⟩:=hlr.is
  have c4:=ho.at 4 (v:=.pointer (some ⟨bd,0,none⟩)) rfl
  have hlE:=Qdo D from_ want i 0
  have hlimE:=Qgw Hlim.out from_ want i
  have hsucc:Qa7 D from_ want (i+1)=if (Qa7 D from_ want i).1.last 0 (from_+i)=Qck want i then Qa7 D from_ want i else ((Qa7 D from_ want i).1.write 0 (from_+i) (Qck want i),true):=rfl
  rw[hf0] at hlE
  generalize hE:(Qa7 D from_ want i).1=E at *
  generalize hC:(Qa7 D from_ want i).2=C at *
  by_cases hlt:i<n
  ·
   obtain⟨vb,gb,hvb,hgb,hvl⟩:∃vb gb,Bytes wr τr gb vb (Qck want i)∧¬DevTag gb∧((i<nw∧∃b,pw=some ⟨b,0,none⟩∧wr.cell? ⟨b,i,none⟩=some vb)∨(¬i<nw∧vb = .slice (some ⟨zb,0,none⟩) 128 128)):=by
    by_cases hin:i<nw
    ·obtain⟨p',c',hv',_,hr⟩:=(Hw.out.step hst hg Qay).read
     cases hv'
     obtain⟨x,hx⟩:∃x,want[i]?=some x:=⟨_,List.getElem?_eq_getElem (by rw[Hnw.out];exact hin)⟩
     obtain⟨_,b,u,hpb,hc,hb⟩:=hr i x hx
     refine⟨u,tData,?_,Qay,.inl ⟨hin,b,hpb,hc⟩⟩
     unfold Qck
     rw[if_pos (by rw[Hnw.out];exact hin),List.getD_eq_getElem?_getD,hx];exact hb
    ·refine⟨_,tData,?_,Qay,.inr ⟨hin,rfl⟩⟩
     unfold Qck
     rw[if_neg (by rw[Hnw.out];exact hin)];exact hz
   have hw128:(Qck want i).length=128:=by
    unfold Qck
    split
    ·rename_i hin
     obtain⟨p',c',_,_,hr⟩:=Hw.out.read
     have hx:want[i]?=some (want.getD i []):=by rw[List.getD_eq_getElem?_getD,List.getElem?_eq_getElem hin];rfl
     exact(hr i _ hx).1
    ·simp[zeros128]
   have hq:E.file 0=E.f0:=rfl
   have hrd:=Qnm hd 0 (by omega) (from_+i) (by omega) tData
   have hl128:=(hd.last128 0 (from_+i) (by omega)).1
   rw[Int.natCast_add] at hrd
   obtain⟨pb,kb,rfl,-,-⟩:=hvb.any
   rw[hw128] at hvb hvl
   have a1:(from_:Int)+(i:Int)≤4096:=by omega
   generalize hwa:Qck want i=x at *
   generalize hla:E.last 0 (from_+i)=y at *
   clear ho hq hwa
   rcases hvl with ⟨hin,b,rfl,cb⟩|⟨hnin,hvz⟩
   ·by_cases heq:y=x
    ·rw[if_pos heq] at hsucc
     obtain⟨Hd,Hz,Hst,Hlr,HlE,HlimE,Hsucc,HE,HC,Hvb,Hgb,Hw128⟩:=hid12 hd hz hst hlr hlE hlimE hsucc hE hC hvb hgb hw128
     obtain⟨Hrd,Hl128,Heq,Hla⟩:=hid4 hrd hl128 heq hla
     clear hd hz hst hlr hlE hlimE hsucc hE hC hvb hgb hw128 hrd hl128 heq hla
     go_wp2_with fail
     refine Hrd.out.mono ?_
     rintro e w1 ⟨u1,τ1,rfl,hb1,hs1⟩
     obtain⟨p1,k1,rfl,-,-⟩:=hb1.any
     rw[Hl128.out] at hb1 ⊢
     have heq1:=Qh7 hb1 (Hvb.out.step hs1 (fun h=>h))
     rw[decide_eq_true Heq.out] at heq1
     have hd1:=Hd.out.step hs1 (fun _ h=>h.elim)
     have hz1:=Hz.out.step hs1 (fun h=>h)
     have hst1:=Hst.out.trans (hs1.mono (fun _ h=>h.elim))
     obtain⟨Heq1,Hd1,Hz1,Hst1⟩:=hid4 heq1 hd1 hz1 hst1
     clear heq1 hd1 hz1 hst1 hb1 hs1
     go_wp2_with fail
     refine Heq1.out.mono ?_
     rintro e w' ⟨rfl,rfl⟩
     go_wp2_with fail
     go_round
     case rel=>exact⟨i+1,τ1,by omega,by simp,by rw[Hsucc.out,HC.out],by rw[Hsucc.out,HE.out];exact Hd1.out,Hz1.out,Hst1.out⟩
     case measure=>simp[intOf];omega
    ·rw[if_neg heq] at hsucc
     obtain⟨Hd,Hz,Hst,Hlr,HlE,HlimE,Hsucc,HE,HC,Hvb,Hgb,Hw128⟩:=hid12 hd hz hst hlr hlE hlimE hsucc hE hC hvb hgb hw128
     obtain⟨Hrd,Hl128,Heq,Hla⟩:=hid4 hrd hl128 heq hla
     clear hd hz hst hlr hlE hlimE hsucc hE hC hvb hgb hw128 hrd hl128 heq hla
     go_wp2_with fail
     refine Hrd.out.mono ?_
     rintro e w1 ⟨u1,τ1,rfl,hb1,hs1⟩
     obtain⟨p1,k1,rfl,-,-⟩:=hb1.any
     rw[Hl128.out] at hb1 ⊢
     have heq1:=Qh7 hb1 (Hvb.out.step hs1 (fun h=>h))
     rw[decide_eq_false Heq.out] at heq1
     have hlr1:=Hlr.out.step hs1 (fun _ _ h=>h)
     obtain⟨vs1,vt1,ho1,-,-⟩:=hlr1.is
     have c41:=ho1.at 4 (v:=.pointer (some ⟨bd,0,none⟩)) rfl
     have hd1:=Hd.out.step hs1 (fun _ h=>h.elim)
     have hwt:=Qey hd1 0 (by omega) (from_+i) (by have:=HlE.out;have hq:E.file 0=E.f0:=rfl;rw[hq] at this ⊢;omega) (Hvb.out.step hs1 (fun h=>h)) Hw128.out Hgb.out (Dev.lim_mono HlimE.out (by omega))
     rw[Int.natCast_add] at hwt
     have hz1:=Hz.out.step hs1 (fun h=>h)
     have hst1:=Hst.out.trans (hs1.mono (fun _ h=>h.elim))
     obtain⟨Heq1,Hwt,Hz1,Hst1⟩:=hid4 heq1 hwt hz1 hst1
     clear heq1 hwt hz1 hst1 hb1 hs1 hlr1 ho1 hd1
     go_wp2_with fail
     refine Heq1.out.mono ?_
     rintro e w' ⟨rfl,rfl⟩
     go_wp2_with fail
     refine Hwt.out.mono ?_
     rintro e w2 ⟨rfl,τ2,hd2,hs2⟩
     have hz2:=Hz1.out.step hs2 Qay
     have hst2:=Hst1.out.trans hs2
     obtain⟨Hd2,Hz2,Hst2⟩:=hid3 hd2 hz2 hst2
     clear hd2 hz2 hst2 hs2
     go_wp2_with fail
     go_round
     case rel=>exact⟨i+1,τ2,by omega,by simp,by rw[Hsucc.out],by rw[Hsucc.out];exact Hd2.out,Hz2.out,Hst2.out⟩
     case measure=>simp[intOf];omega
   ·by_cases heq:y=x
    ·rw[if_pos heq] at hsucc
     cases hvz
     obtain⟨Hd,Hz,Hst,Hlr,HlE,HlimE,Hsucc,HE,HC,Hvb,Hgb,Hw128⟩:=hid12 hd hz hst hlr hlE hlimE hsucc hE hC hvb hgb hw128
     obtain⟨Hrd,Hl128,Heq,Hla⟩:=hid4 hrd hl128 heq hla
     clear hd hz hst hlr hlE hlimE hsucc hE hC hvb hgb hw128 hrd hl128 heq hla
     go_wp2_with fail
     refine Hrd.out.mono ?_
     rintro e w1 ⟨u1,τ1,rfl,hb1,hs1⟩
     obtain⟨p1,k1,rfl,-,-⟩:=hb1.any
     rw[Hl128.out] at hb1 ⊢
     have heq1:=Qh7 hb1 (Hvb.out.step hs1 (fun h=>h))
     rw[decide_eq_true Heq.out] at heq1
     have hd1:=Hd.out.step hs1 (fun _ h=>h.elim)
     have hz1:=Hz.out.step hs1 (fun h=>h)
     have hst1:=Hst.out.trans (hs1.mono (fun _ h=>h.elim))
     obtain⟨Heq1,Hd1,Hz1,Hst1⟩:=hid4 heq1 hd1 hz1 hst1
     clear heq1 hd1 hz1 hst1 hb1 hs1
     go_wp2_with fail
     refine Heq1.out.mono ?_
     rintro e w' ⟨rfl,rfl⟩
     go_wp2_with fail
     go_round
     case rel=>exact⟨i+1,τ1,by omega,by simp,by rw[Hsucc.out,HC.out],by rw[Hsucc.out,HE.out];exact Hd1.out,Hz1.out,Hst1.out⟩
     case measure=>simp[intOf];omega
    ·rw[if_neg heq] at hsucc
     cases hvz
     obtain⟨Hd,Hz,Hst,Hlr,HlE,HlimE,Hsucc,HE,HC,Hvb,Hgb,Hw128⟩:=hid12 hd hz hst hlr hlE hlimE hsucc hE hC hvb hgb hw128
     obtain⟨Hrd,Hl128,Heq,Hla⟩:=hid4 hrd hl128 heq hla
     clear hd hz hst hlr hlE hlimE hsucc hE hC hvb hgb hw128 hrd hl128 heq hla
     go_wp2_with fail
     refine Hrd.out.mono ?_
     rintro e w1 ⟨u1,τ1,rfl,hb1,hs1⟩
     obtain⟨p1,k1,rfl,-,-⟩:=hb1.any
     rw[Hl128.out] at hb1 ⊢
     have heq1:=Qh7 hb1 (Hvb.out.step hs1 (fun h=>h))
     rw[decide_eq_false Heq.out] at heq1
     have hlr1:=Hlr.out.step hs1 (fun _ _ h=>h)
     obtain⟨vs1,vt1,ho1,-,-⟩:=hlr1.is
     have c41:=ho1.at 4 (v:=.pointer (some ⟨bd,0,none⟩)) rfl
     have hd1:=Hd.out.step hs1 (fun _ h=>h.elim)
     have hwt:=Qey hd1 0 (by omega) (from_+i) (by have:=HlE.out;have hq:E.file 0=E.f0:=rfl;rw[hq] at this ⊢;omega) (Hvb.out.step hs1 (fun h=>h)) Hw128.out Hgb.out (Dev.lim_mono HlimE.out (by omega))
     rw[Int.natCast_add] at hwt
     have hz1:=Hz.out.step hs1 (fun h=>h)
     have hst1:=Hst.out.trans (hs1.mono (fun _ h=>h.elim))
     obtain⟨Heq1,Hwt,Hz1,Hst1⟩:=hid4 heq1 hwt hz1 hst1
     clear heq1 hwt hz1 hst1 hb1 hs1 hlr1 ho1 hd1
     go_wp2_with fail
     refine Heq1.out.mono ?_
     rintro e w' ⟨rfl,rfl⟩
     go_wp2_with fail
     refine Hwt.out.mono ?_
     rintro e w2 ⟨rfl,τ2,hd2,hs2⟩
     have hz2:=Hz1.out.step hs2 Qay
     have hst2:=Hst1.out.trans hs2
     obtain⟨Hd2,Hz2,Hst2⟩:=hid3 hd2 hz2 hst2
     clear hd2 hz2 hst2 hs2
     go_wp2_with fail
     go_round
     case rel=>exact⟨i+1,τ2,by omega,by simp,by rw[Hsucc.out],by rw[Hsucc.out];exact Hd2.out,Hz2.out,Hst2.out⟩
     case measure=>simp[intOf];omega
  ·have hin:i=n:=by omega
   subst hin
   have hmk:D.make from_ i want=if C=true then E.sync 0 else E:=by unfold Dev.make;rw[hC,hE]
   clear ho hsucc
   cases C with
   | false =>
     rw[if_neg (by simp)] at hmk
     obtain⟨Hd,Hst,Hmk⟩:=hid3 hd hst hmk
     clear hd hst hmk
     go_wp2_with fail
     go_returns
     exact⟨rfl,τr,by rw[Hmk.out];exact Hd.out,Hst.out⟩
   | true =>
     rw[if_pos rfl] at hmk
     have hsy:=Qhr hd 0 (by omega)
     obtain⟨Hd,Hst,Hmk,Hsy⟩:=hid4 hd hst hmk hsy
     clear hd hst hmk hsy
     go_wp2_with fail
     refine Hsy.out.mono ?_
     rintro e w2 ⟨rfl,τ2,hd2,hs2⟩
     obtain⟨Hd2,Hs2⟩:=hid2 hd2 hs2
     clear hd2 hs2
     go_wp2_with fail
     go_returns
     exact⟨rfl,τ2,by rw[Hmk.out];exact Hd2.out,Hst.out.trans Hs2.out⟩
def LogM.said (L:LogM):LogM:={L with stamp:=(L.stamp+1)%18446744073709551616,slot:=1-L.slot}
def LogM.head (L:LogM):List Int:=headB L.stamp L.base L.check L.area
def Qf9 (L:LogM) (D:Dev):Dev:=(D.write 0 L.said.slot L.said.head).sync 0
def WalTag (g:Tag):Prop:=LogTag g∨DevTag g
theorem Qj6:¬WalTag tData:=by simp[WalTag,LogTag,DevTag,tData,tLog,Qah,Qag]
def WalR (w:World) (τ:Tags) (bl bd:Nat) (L:LogM) (D:Dev) (r:Value) (e:Ending) (w':World):Prop:=e = .returned r∧∃τ',LogAt w' τ' bl bd L∧DevAt w' τ' bd D∧Step w τ w' τ' WalTag
theorem Qrw (n:Nat):IntKind.u64.wrap ((n:Int)+1)=(((n+1)%18446744073709551616:Nat):Int):=by
 have:IntKind.u64.wrap ((n:Int)+1)=((n:Int)+1)%18446744073709551616:=by simp[IntKind.wrap,IntKind.bits,IntKind.signed]
 rw[this];omega
theorem LogM.ok.said {L:LogM}(h:L.ok):L.said.ok:=by
 refine⟨?_,h.base,h.check,h.area,h.strips,?_,h.stream,h.starts,h.lasts⟩
 ·show (L.stamp+1)%18446744073709551616<2 ^ 64
  have:=Nat.mod_lt (L.stamp+1) (by omega:18446744073709551616>0)
  omega
 ·show 1-L.slot<2
  omega
theorem Qq6(h:LogTag g):WalTag g:=.inl h
theorem Qy5 {L:LogM}(hl:LogAt w τ bl bd L) (hd:DevAt w τ bd D) (h2:2≤D.f0.length) (hlim:D.lim 800000) :
 Calls Tryz.prog 113 #[.pointer (some ⟨bl,0,none⟩)] w (WalR w τ bl bd L.said (Qf9 L D) (.tuple #[])):=by
 have hok:=hl.ok
 have hB:=hl.isB
 obtain⟨vs,vt,ho,hs,ht⟩:=hl.is
 have hsl:=hok.slot
 have c0:=ho.at 0 (v:=.int .u64 (L.stamp:Int)) rfl
 have z0:=ho.fz 0
 have c6:=ho.at 6 (v:=.int .i64 (L.slot:Int)) rfl
 have z6:=ho.fz 6
 have ho1:=(ho.set 0 (.int .u64 (((L.stamp+1)%18446744073709551616:Nat):Int))).set 6 (.int .i64 ((1-L.slot:Nat):Int))
 have hstw:Step w τ ((w.setCell ⟨bl,0,none⟩ (.int .u64 (((L.stamp+1)%18446744073709551616:Nat):Int))).setCell ⟨bl,6,none⟩ (.int .i64 ((1-L.slot:Nat):Int))) τ (fun g=>g=tLog):=((Step.refl w τ (fun g=>g=tLog)).set (o:=0) ho.tag rfl _).set (o:=6) (ho.set 0 (.int .u64 (((L.stamp+1)%18446744073709551616:Nat):Int))).tag rfl _
 have hl1:LogAt ((w.setCell ⟨bl,0,none⟩ (.int .u64 (((L.stamp+1)%18446744073709551616:Nat):Int))).setCell ⟨bl,6,none⟩ (.int .i64 ((1-L.slot:Nat):Int))) τ bl bd L.said :=
  ⟨⟨vs,vt,ho1,hs.step hstw (by simp[Qah,tLog]),ht.step hstw (by simp[Qag,tLog])⟩,hB,hok.said⟩
 have hd1:=hd.step hstw (fun g hg=>by subst hg;exact⟨Qau _ (.inl rfl),by simp[tLog,tData]⟩)
 have hw:=Qrw L.stamp
 have hcs:(1:Int)-(L.slot:Int)=((1-L.slot:Nat):Int):=by omega
 have hsaid:L.said={L with stamp:=(L.stamp+1)%18446744073709551616,slot:=1-L.slot}:=rfl
 have hst1:=hstw.mono (T:=LogTag) (fun g hg=>.inl hg)
 generalize hLs:L.said=Ls at *
 have e0:Ls.stamp=(L.stamp+1)%18446744073709551616:=by rw[hsaid]
 have e6:Ls.slot=1-L.slot:=by rw[hsaid]
 rw[←e0] at hw hst1 hl1 hd1
 rw[←e6] at hcs hst1 hl1 hd1
 have hsd:Qf9 L D=(D.write 0 Ls.slot Ls.head).sync 0:=by unfold Qf9;rw[hLs]
 have hoks:=hl1.ok
 obtain⟨Hst1,Hl1,Hd1,Hlim,Hsd,Hoks⟩:=hid6 hst1 hl1 hd1 hlim hsd hoks
 clear hst1 hl1 hd1 hlim hsd hoks ho hs ht ho1 hstw hl hd hok hsaid e0 e6 hB
 go_enter Tryz.func113,Tryz.ntmps113
 go_wp2_with fail
 generalize (w.setCell ⟨bl,0,none⟩ (.int .u64 (Ls.stamp:Int))).setCell ⟨bl,6,none⟩ (.int .i64 (Ls.slot:Int))=W1 at *
 obtain⟨vs1,vt1,ho1,-,-⟩:=Hl1.out.is
 clear c0 z0 c6 z6
 have c0:=ho1.at 0 (v:=.int .u64 (Ls.stamp:Int)) rfl
 have c1:=ho1.at 1 (v:=.int .u64 (Ls.base:Int)) rfl
 have c2:=ho1.at 2 (v:=.int .u64 (Ls.check:Int)) rfl
 have c3:=ho1.at 3 (v:=.int .i64 (Ls.area:Int)) rfl
 have c4:=ho1.at 4 (v:=.pointer (some ⟨bd,0,none⟩)) rfl
 have c6:=ho1.at 6 (v:=.int .i64 (Ls.slot:Int)) rfl
 clear ho1
 have hss:=Hoks.out.slot
 have hsec:=Qs5 W1.drew τ tData Ls.stamp Ls.base Ls.check Ls.area Hoks.out.stamp (by have:=Hoks.out.base;omega) Hoks.out.check (by have:=Hoks.out.area;omega)
 have hls:headB Ls.stamp Ls.base Ls.check Ls.area=Ls.head:=rfl
 rw[hls] at hsec
 obtain⟨Hsec,Hls,Hss⟩:=hid3 hsec hls hss
 clear hsec hls hss
 go_region_held3 (fun w'=>w'.cell? ⟨bl,0,none⟩=some (.int .u64 (Ls.stamp:Int))∧w'.cell? ⟨bl,1,none⟩=some (.int .u64 (Ls.base:Int))∧w'.cell? ⟨bl,2,none⟩=some (.int .u64 (Ls.check:Int))∧w'.cell? ⟨bl,3,none⟩=some (.int .i64 (Ls.area:Int))∧w'.cell? ⟨bl,4,none⟩=some (.pointer (some ⟨bd,0,none⟩))∧w'.cell? ⟨bl,6,none⟩=some (.int .i64 (Ls.slot:Int))) (go_keep) (first
  | (go_at_call 193
     refine Hsec.out.mono ?_
     rintro e w2 ⟨u2,τ2,rfl,hb2,hs2⟩
     have hl2:=(Hl1.out.step (Step.refl W1 τ nil).drew (fun _ _ h=>h)).step hs2 (fun _ _ h=>h)
     have hd2:=(Hd1.out.step (Step.refl W1 τ nil).drew (fun _ h=>h.elim)).step hs2 (fun _ h=>h.elim)
     obtain⟨vs2,vt2,ho2,-,-⟩:=hl2.is
     have d0:=ho2.at 0 (v:=.int .u64 (Ls.stamp:Int)) rfl
     have d1:=ho2.at 1 (v:=.int .u64 (Ls.base:Int)) rfl
     have d2:=ho2.at 2 (v:=.int .u64 (Ls.check:Int)) rfl
     have d3:=ho2.at 3 (v:=.int .i64 (Ls.area:Int)) rfl
     have d4:=ho2.at 4 (v:=.pointer (some ⟨bd,0,none⟩)) rfl
     have d6:=ho2.at 6 (v:=.int .i64 (Ls.slot:Int)) rfl
     have hwt:=Qey hd2 0 (by omega) Ls.slot (by have hq:D.file 0=D.f0:=rfl;rw[hq];have:=Hss.out;omega) hb2 (by rw[←Hls.out];exact Qgm _ _ _ _) Qay (Dev.lim_mono Hlim.out (by omega))
     obtain⟨Hl2,Hd2,Hs2,Hwt⟩:=hid4 hl2 hd2 hs2 hwt
     clear hl2 hd2 hs2 hwt
     clear ho2 hb2)
  | (go_at_call 100
     refine Hwt.out.mono ?_
     rintro e w3 ⟨rfl,τ3,hd3,hs3⟩
     have hl3:=Hl2.out.step hs3 Qau
     obtain⟨vs3,vt3,ho3,-,-⟩:=hl3.is
     have e0:=ho3.at 0 (v:=.int .u64 (Ls.stamp:Int)) rfl
     have e1:=ho3.at 1 (v:=.int .u64 (Ls.base:Int)) rfl
     have e2:=ho3.at 2 (v:=.int .u64 (Ls.check:Int)) rfl
     have e3:=ho3.at 3 (v:=.int .i64 (Ls.area:Int)) rfl
     have e4:=ho3.at 4 (v:=.pointer (some ⟨bd,0,none⟩)) rfl
     have e6:=ho3.at 6 (v:=.int .i64 (Ls.slot:Int)) rfl
     have hsy:=Qhr hd3 0 (by omega)
     obtain⟨Hl3,Hd3,Hs3,Hsy⟩:=hid4 hl3 hd3 hs3 hsy
     clear hl3 hd3 hs3 hsy
     clear ho3))
 go_wp2_with fail
 refine Hsy.out.mono ?_
 rintro e w4 ⟨rfl,τ4,hd4,hs4⟩
 have hl4:=Hl3.out.step hs4 Qau
 have hall:=((((Hst1.out.mono (fun _ h=>Qq6 h)).drew).trans (Hs2.out.mono (fun _ h=>h.elim))).trans (Hs3.out.mono (T:=WalTag) (fun _ h=>.inr h))).trans (hs4.mono (T:=WalTag) (fun _ h=>.inr h))
 obtain⟨Hl4,Hd4,Hall⟩:=hid3 hl4 hd4 hall
 clear hl4 hd4 hall hs4
 go_wp2_with fail
 go_returns
 exact⟨rfl,τ4,Hl4.out,by rw[Hsd.out];exact Hd4.out,Hall.out⟩
def Qb8 (n:Nat):LogM:={newLog n with base:=1,slot:=1}
def walNewLog (n:Nat):LogM:=(Qb8 n).said
def Qbl (D:Dev):Dev:=Qf9 (Qb8 D.f0.length) (D.make 0 D.f0.length [])
theorem Qmj(h:DevAt w τ bd D) (h18:18≤D.f0.length) (hlim:D.lim 700000) :
 Calls Tryz.prog 45 #[.pointer (some ⟨bd,0,none⟩)] w fun e w'=>∃bl τ',e = .returned (.tuple #[.pointer (some ⟨bl,0,none⟩),.int .u16 0])∧w.heap.size≤bl∧LogAt w' τ' bl bd (walNewLog D.f0.length)∧DevAt w' τ' bd (Qbl D)∧Step w τ w' τ' WalTag:=by
 have h1:=Jar h h18
 have hlen:=h.length 0
 have hf0:D.file 0=D.f0:=rfl
 rw[hf0] at hlen
 generalize hn:D.f0.length=n at *
 have hwd:Qbl D=Qf9 (Qb8 n) (D.make 0 n []):=by unfold Qbl;rw[hn]
 obtain⟨H1,H_h,Hlim,Hwd,Hn⟩:=hid5 h1 h hlim hwd hn
 clear h1 h hlim hwd hn hf0
 go_enter Tryz.func45,Tryz.ntmps45
 go_wp2_with fail
 refine H1.out.mono ?_
 rintro e w1 ⟨bl,τ1,rfl,hlow,hl1,hs1⟩
 have hd1:=H_h.out.step hs1 (fun _ h=>h.elim)
 have hsz:=Qjs hd1 0 (by omega)
 have hf0:D.file 0=D.f0:=rfl
 rw[hf0,Hn.out] at hsz
 have hmk:=Qxm hl1 hd1 (g:=tData) (v:=.slice none 0 0) (want:=[]) (.inl ⟨rfl,rfl⟩) Qay 0 n (by rw[Hn.out];omega) (Dev.lim_mono Hlim.out (by omega))
 obtain⟨Hl1,Hs1,Hd1,Hsz,Hmk⟩:=hid5 hl1 hs1 hd1 hsz hmk
 clear hl1 hs1 hd1 hsz hmk H1 hf0
 go_wp2_with fail
 refine Hsz.out.mono ?_
 rintro e w' ⟨rfl,rfl⟩
 go_wp2_with fail
 refine Hmk.out.mono ?_
 rintro e w2 ⟨rfl,τ2,hd2,hs2⟩
 have hl2:=Hl1.out.step hs2 Qau
 have hok2:=hl2.ok
 obtain⟨vs,vt,ho2,hb2,ht2⟩:=hl2.is
 have c1:=ho2.at 1 (v:=.int .u64 0) rfl
 have z1:=ho2.fz 1
 have c6:=ho2.at 6 (v:=.int .i64 0) rfl
 have z6:=ho2.fz 6
 have c3:=ho2.at 3 (v:=.int .i64 0) rfl
 have hst2:Step w2 τ2 ((w2.setCell ⟨bl,1,none⟩ (.int .u64 1)).setCell ⟨bl,6,none⟩ (.int .i64 1)) τ2 (fun g=>g=tLog):=((Step.refl w2 τ2 (fun g=>g=tLog)).set (o:=1) ho2.tag rfl _).set (o:=6) (ho2.set 1 (.int .u64 1)).tag rfl _
 have hl3:LogAt ((w2.setCell ⟨bl,1,none⟩ (.int .u64 1)).setCell ⟨bl,6,none⟩ (.int .i64 1)) τ2 bl bd (Qb8 n) :=
  ⟨⟨vs,vt,(ho2.set 1 (.int .u64 1)).set 6 (.int .i64 1),hb2.step hst2 (by simp[Qah,tLog]),ht2.step hst2 (by simp[Qag,tLog])⟩,hl2.isB,⟨hok2.stamp,by simp[Qb8],hok2.check,hok2.area,hok2.strips,by simp[Qb8],hok2.stream,hok2.starts,hok2.lasts⟩⟩
 have hd3:=hd2.step hst2 (fun g hg=>by subst hg;exact⟨Qau _ (.inl rfl),by simp[tLog,tData]⟩)
 have hsay:=Qy5 hl3 hd3 (by have:=Dev.make_length D 0 n [] 0;have hq:∀E:Dev,E.file 0=E.f0:=fun _=>rfl;rw[hq,hq,Hn.out] at this;omega) (Dev.lim_mono (Dev.make_lim Hlim.out 0 n []) (by omega))
 obtain⟨Hs2,Hst2,Hl3,Hd3,Hsay⟩:=hid5 hs2 hst2 hl3 hd3 hsay
 clear hs2 hst2 hl3 hd3 hsay ho2 hb2 ht2 hl2 hok2 hd2
 go_wp2_with fail
 refine Hsay.out.mono ?_
 rintro e w4 ⟨rfl,τ4,hl4,hd4,hs4⟩
 obtain⟨Hl4,Hd4,Hs4⟩:=hid3 hl4 hd4 hs4
 clear hl4 hd4 hs4
 go_wp2_with fail
 go_ret2
 refine⟨bl,τ4,rfl,hlow,Hl4.out,by rw[Hwd.out];exact Hd4.out,?_⟩
 exact(((Hs1.out.mono (fun _ h=>h.elim)).trans (Hs2.out.mono (T:=WalTag) (fun _ h=>.inr h))).trans (Hst2.out.mono (T:=WalTag) (fun _ h=>.inl (.inl h)))).trans Hs4.out
structure PageAt (w:World) (τ:Tags) (g:Tag) (b:Nat) (P:List Int):Prop where
 own:Own w τ b g 154 (u8s P)
 isB:IsB P
 len:P.length=448
theorem PageAt.step {w':World} {τ':Tags} {S:Tag→Prop} {b:Nat}(h:PageAt w τ g b P) (m:Step w τ w' τ' S) (hs:¬S g):PageAt w' τ' g b P:=⟨h.own.step m hs,h.isB,h.len⟩
def zeros448:List Int:=List.replicate 448 0
def layN (l:List Int) (off:Nat) (m:List Int):List Int:=l.take off++m++l.drop (off+m.length)
theorem Qae (l:List Int) (off:Nat) (m:List Int) (h:off+m.length≤l.length):(layN l off m).length=l.length:=by
 unfold layN;simp only[List.length_append,List.length_take,List.length_drop];omega
theorem Qaw {l m:List Int}(hl:IsB l) (hm:IsB m) (off:Nat):IsB (layN l off m):=by
 intro x hx
 unfold layN at hx
 rcases List.mem_append.1 hx with hx|hx
 ·rcases List.mem_append.1 hx with hx|hx
  ·exact hl x (List.mem_of_mem_take hx)
  ·exact hm x hx
 ·exact hl x (List.mem_of_mem_drop hx)
theorem Qby (l m:List Int) (off k:Nat) (hk:k=m.length):over (u8s l) off (u8s (m.take k))=u8s (layN l off m):=by
 subst hk
 rw[Qsc,List.take_length];rfl
theorem Qbp {w0:World} {τ0:Tags} {S:Tag→Prop}(hst:Step w0 τ0 w τ S) {g:Tag}{b:Nat}{P:List Int}(hS:S g∨w0.heap.size≤b) (h:PageAt w τ g b P) (at_ k n:Nat) (h1:1≤k) (h8:k≤8) (hfit:at_+k≤448) (hn:n<2 ^ 64) :
 Calls Tryz.prog 114 #[.pointer (some ⟨b,0,none⟩),.int .i64 (at_:Int),.int .i64 (k:Int),.int .u64 (n:Int)] w fun e w'=>e = .returned (.tuple #[])∧∃τ',PageAt w' τ' g b (layN P at_ (leB n k))∧Step w0 τ0 w' τ' S∧Step w τ w' τ' (fun t=>t=g):=by
 have hp:=Qeu w.drew τ tData n k hn h1 h8
 have hlen:=h.len
 have hfin:PageAt w τ g b P:=h
 have hle:at_≤448:=by omega
 have hlei:(at_:Int)≤448:=by omega
 have hne:¬at_=448:=by omega
 have hne':¬448=at_:=by omega
 have ho:=h.own.drew
 have hmin:k=Nat.min (leB n k).length (448-at_):=by rw[Qaa];exact(Nat.min_eq_left (by omega)).symm
 have hft:at_+k≤(u8s P).length:=by rw[Qac,hlen];exact hfit
 obtain⟨Hp,Hlen,Hfin,Ho,Hmin,Hft,Hst,HS⟩:=hid8 hp hlen hfin ho hmin hft hst hS
 clear hp hlen hfin ho hmin hft hst hS h hn
 go_enter Tryz.func114,Tryz.ntmps114
 go_region_law (first
  | (go_simp
     go_at_call 154
     refine Hp.out.mono ?_
     rintro e w2 ⟨u2,τ2,rfl,hb2,he2,hm2⟩
     have hs2:=Hst.out.drew.trans (Step.of _ hm2 he2)
     have hq2:=(Step.refl w τ (fun t=>t=g)).drew.trans (Step.of _ hm2 he2)
     have ho2:=Ho.out.step (Step.of nil hm2 he2) (fun h=>h)
     obtain⟨p2,c2,rfl,-,-⟩:=hb2.any
     obtain⟨Hs2,Ho2,Hb2,Hq2⟩:=hid4 hs2 ho2 hb2 hq2
     clear hs2 ho2 hb2 hq2
     clear he2 hm2)
  | (refine Qbb Hs2.out Ho2.out HS.out Hb2.out k Hmin.out Hft.out rfl _ _ rfl rfl rfl ?_
     intro w3 ho3 hs3 hW3
     rw[Qby _ _ _ _ (Qaa n k).symm] at ho3
     obtain⟨Ho3,Hs3,HW3⟩:=hid3 ho3 hs3 hW3
     clear ho3 hs3 hW3))
 all_goals go_returns
 all_goals exact⟨rfl,τ2,⟨Ho3.out,Qaw Hfin.out.isB (Qan n k) at_,by rw[Qae _ _ _ (by rw[Qaa,Hlen.out];exact hfit)];exact Hlen.out⟩,Hs3.out,Hq2.out.trans HW3.out⟩
def emptyPage (n:Nat):List Int:=layN (layN zeros448 8 (leB n 4)) 14 (leB 448 2)
theorem Qgz:Tryz.zeroCells154 = (u8s zeros448).toArray:=by kernel_rfl
theorem Qda:IsB zeros448:=fun x hx=>by rw[(List.mem_replicate.1 hx).2];omega
theorem Qk3 (w:World) (τ:Tags) (g:Tag) (n:Nat) (hn:n<4294967296) :
 Calls Tryz.prog 46 #[.int .u32 (n:Int)] w fun e w'=>∃b τ',e = .returned (.pointer (some ⟨b,0,none⟩))∧w.heap.size≤b∧PageAt w' τ' g b (emptyPage n)∧Step w τ w' τ' nil:=by
 have ho:=Own.born w τ g 154 Tryz.zeroCells154
 have hs:=(Step.refl w τ nil).alloc (.cells Tryz.zeroCells154 154) g
 rw[Qgz] at ho
 have hp0:PageAt (w.alloc (.cells Tryz.zeroCells154 154)) (τ.put w.heap.size g) g w.heap.size zeros448:=⟨by rw[Qgz];exact ho,Qda,by simp[zeros448]⟩
 have h1:=Qbp hs (.inr (Nat.le_refl _)) hp0 8 4 n (by omega) (by omega) (by omega) (by omega)
 obtain⟨Hs,H1⟩:=hid2 hs h1
 clear hs h1 ho hp0
 go_enter Tryz.func46,Tryz.ntmps46
 go_wp2_with fail
 refine H1.out.mono ?_
 rintro e w1 ⟨rfl,τ1,hp1,hs1,-⟩
 have h2:=Qbp hs1 (.inr (Nat.le_refl _)) hp1 14 2 448 (by omega) (by omega) (by omega) (by omega)
 obtain⟨H2,Hs1⟩:=hid2 h2 hs1
 clear h2 hs1 hp1
 go_wp2_with fail
 refine H2.out.mono ?_
 rintro e w2 ⟨rfl,τ2,hp2,hs2,-⟩
 obtain⟨Hp2,Hs2⟩:=hid2 hp2 hs2
 clear hp2 hs2
 go_wp2_with fail
 go_ret
 exact⟨_,τ2,rfl,Nat.le_refl _,Hp2.out,Hs2.out⟩
def pageN (P:List Int) (at_ k:Nat):Nat:=leN ((P.drop at_).take k) k
theorem PageAt.bytes {b:Nat}(h:PageAt w τ g b P):Bytes w τ g (.slice (some ⟨b,0,none⟩) 448 448) P:=by
 have:=h.own
 refine⟨h.isB,some ⟨b,0,none⟩,448,by rw[h.len],by rw[h.len];exact Nat.le_refl _,by unfold maxLen;omega,fun _=>⟨b,0,rfl,this.tag,fun i hi=>?_⟩⟩
 rw[Nat.zero_add]
 exact this.at i (Qfw P i hi)
theorem PageAt.part {b:Nat}(h:PageAt w τ g b P) (at_ k:Nat) (h1:1≤k) (hfit:at_+k≤448):Bytes w τ g (.slice (some ⟨b,at_,none⟩) k (448-at_)) ((P.drop at_).take k)∧((P.drop at_).take k).length=k:=by
 have hb:=h.bytes.sub at_ (at_+k) (448-at_) (by omega) (by omega) (by omega) (by unfold maxLen;omega)
 rw[Nat.add_sub_cancel_left,Nat.zero_add] at hb
 exact⟨hb,by rw[List.length_take,List.length_drop,h.len];omega⟩
theorem Qjw(h:IsB P) (at_ k:Nat):pageN P at_ k<2 ^ (8*k):=Qle (fun x hx=>h x (List.mem_of_mem_drop (List.mem_of_mem_take hx))) k
theorem Qd0 {b:Nat}(h:PageAt w τ g b P) (at_ k:Nat) (h1:1≤k) (h4:k≤4) (hfit:at_+k≤448) :
 Calls Tryz.prog 208 #[.pointer (some ⟨b,0,none⟩),.int .i64 (at_:Int),.int .i64 (k:Int)] w fun e w'=>e = .returned (.int .i64 (pageN P at_ k:Int))∧w=w':=by
 obtain⟨hb,hl⟩:=h.part at_ k h1 hfit
 have hg:=Qip (p:=some ⟨b,at_,none⟩) (c:=448-at_) (l:=(P.drop at_).take k) (by rw[hl];exact hb) (by omega) (by omega)
 rw[hl] at hg
 change Calls _ _ _ _ (fun e w'=>e = .returned (.int .u64 (pageN P at_ k:Int))∧_=w') at hg
 have hlt:pageN P at_ k<4294967296:=by
  have h2:=Qjw h.isB at_ k
  have h3:2 ^ (8*k)≤2 ^ 32:=Nat.pow_le_pow_right (by omega) (by omega)
  have h5:(2:Nat) ^ 32=4294967296:=by decide
  omega
 generalize pageN P at_ k=q at *
 have c0:=h.own.at 0 (Qfw P 0 (by rw[h.len];omega))
 have Hg:=Lib.hid hg
 clear hg h hb hl
 have e1:at_≤448:=by omega
 have e3:(at_:Int)+(k:Int)≤448:=by omega
 have e4:¬at_=448:=by omega
 have e5:¬448=at_:=by omega
 have e6:(at_:Int)≤(at_:Int)+(k:Int):=by omega
 have e7:(0:Int)≤(at_:Int)+(k:Int):=by omega
 have e8:((at_:Int)+(k:Int)).toNat=at_+k:=by omega
 go_enter Tryz.func208,Tryz.ntmps208
 go_wp2_with fail
 refine Hg.out.mono ?_
 rintro e w' ⟨rfl,rfl⟩
 go_wp2_with fail
 go_ret
 exact⟨rfl,rfl⟩
def pageCount (P:List Int):Nat:=pageN P 12 2
def pageLow (P:List Int):Nat:=pageN P 14 2
def pageNumber (P:List Int):Nat:=pageN P 8 4
def pageLSN (P:List Int):Nat:=pageN P 0 8
theorem Qax {b:Nat}(h:PageAt w τ g b P) :
 Calls Tryz.prog 194 #[.pointer (some ⟨b,0,none⟩)] w fun e w'=>e = .returned (.int .i64 (pageCount P:Int))∧w=w':=by
 have h1:=Qd0 h 12 2 (by omega) (by omega) (by omega)
 change Calls _ _ _ _ (fun e w'=>e = .returned (.int .i64 (pageCount P:Int))∧_=w') at h1
 have H1:=Lib.hid h1
 clear h1 h
 go_enter Tryz.func194,Tryz.ntmps194
 go_wp2_with fail
 refine H1.out.mono ?_
 rintro e w' ⟨rfl,rfl⟩
 go_wp2_with fail
 go_ret
 exact⟨rfl,rfl⟩
theorem Qfm {b:Nat}(h:PageAt w τ g b P) :
 Calls Tryz.prog 197 #[.pointer (some ⟨b,0,none⟩)] w fun e w'=>e = .returned (.int .i64 (pageLow P:Int))∧w=w':=by
 have h1:=Qd0 h 14 2 (by omega) (by omega) (by omega)
 change Calls _ _ _ _ (fun e w'=>e = .returned (.int .i64 (pageLow P:Int))∧_=w') at h1
 have H1:=Lib.hid h1
 clear h1 h
 go_enter Tryz.func197,Tryz.ntmps197
 go_wp2_with fail
 refine H1.out.mono ?_
 rintro e w' ⟨rfl,rfl⟩
 go_wp2_with fail
 go_ret
 exact⟨rfl,rfl⟩
theorem Qb1 (n:Nat) (h:n<4294967296):IntKind.u32.wrap (n:Int)=(n:Int):=by
 have:IntKind.u32.wrap (n:Int)=(n:Int)%4294967296:=by simp[IntKind.wrap,IntKind.bits,IntKind.signed]
 rw[this];omega
theorem Qnv(h:IsB P):pageNumber P<4294967296:=by
 have h2:=Qjw h 8 4
 have h5:(2:Nat) ^ (8*4)=4294967296:=by decide
 rw[h5] at h2;exact h2
theorem Qg5 {b:Nat}(h:PageAt w τ g b P) :
 Calls Tryz.prog 128 #[.pointer (some ⟨b,0,none⟩)] w fun e w'=>e = .returned (.int .u32 (pageNumber P:Int))∧w=w':=by
 have h1:=Qd0 h 8 4 (by omega) (by omega) (by omega)
 change Calls _ _ _ _ (fun e w'=>e = .returned (.int .i64 (pageNumber P:Int))∧_=w') at h1
 have hw:=Qb1 _ (Qnv h.isB)
 generalize pageNumber P=q at *
 have H1:=Lib.hid h1
 clear h1 h
 go_enter Tryz.func128,Tryz.ntmps128
 go_wp2_with fail
 refine H1.out.mono ?_
 rintro e w' ⟨rfl,rfl⟩
 go_wp2_with fail
 go_ret
 exact⟨rfl,rfl⟩
theorem Qhe {b:Nat}(h:PageAt w τ g b P) :
 Calls Tryz.prog 156 #[.pointer (some ⟨b,0,none⟩)] w fun e w'=>e = .returned (.int .u64 (pageLSN P:Int))∧w=w':=by
 obtain⟨hb,hl⟩:=h.part 0 8 (by omega) (by omega)
 have hg:=Qip (p:=some ⟨b,0,none⟩) (c:=448) (l:=(P.drop 0).take 8) (by rw[hl];exact hb) (by omega) (by omega)
 rw[hl] at hg
 change Calls _ _ _ _ (fun e w'=>e = .returned (.int .u64 (pageLSN P:Int))∧_=w') at hg
 generalize pageLSN P=q at *
 have c0:=h.own.at 0 (Qfw P 0 (by rw[h.len];omega))
 have Hg:=Lib.hid hg
 clear hg h hb hl
 go_enter Tryz.func156,Tryz.ntmps156
 go_wp2_with fail
 refine Hg.out.mono ?_
 rintro e w' ⟨rfl,rfl⟩
 go_wp2_with fail
 go_ret
 exact⟨rfl,rfl⟩
theorem Que {a:Addr} {n c:Nat} {l:List Int}(h:Bytes w τ g (.slice (some a) n c) l) (g':Tag) (hbig:l.length≤100000000) :
 Calls Tryz.prog 73 #[.slice (some a) n c] w fun e w'=>∃u τ',e = .returned u∧NB w.heap.size w' τ' g' u l∧Step w τ w' τ' nil:=by
 have hnil:=fun (W:World) (a:Option Addr) (n c:Nat)=>Lib.run_eql_slice_nil (P:=Tryz.prog) W 37 5 a n c 0 0 Tryz.underlying37
 have hst:=(Step.refl w τ nil).alloc (.cells #[] 5) g'
 have hnb:NB w.heap.size (w.alloc (.cells #[] 5)) (τ.put w.heap.size g') g' (.slice (some ⟨w.heap.size,0,none⟩) 0 0) [] :=
  ⟨⟨rfl,.inr ⟨w.heap.size,0,[],rfl,Own.new w τ g' _ [],Nat.le_refl _,Nat.le_refl _,Nat.zero_le _⟩⟩,fun x hx=>by simp at hx,fun k hk=>by
    have:w.heap.size=k:=by simpa [Value.ownBlock] using hk
    omega⟩
 have hb1:=h.step ((Step.refl w τ nil).alloc (.cells #[] 5) g') (fun h=>h)
 have hsz:([]:List Int).length+l.length≤100000000000:=by simp;omega
 obtain⟨Hst,Hnb,Hb1,Hsz⟩:=hid4 hst hnb hb1 hsz
 clear hst hnb hb1 hsz h hbig
 go_enter Tryz.func73,Tryz.ntmps73
 go_wp2_with (at_builtin;refine Qal Hst.out Hnb.out Hb1.out Hsz.out rfl _ _ rfl rfl rfl ?_;intro v' w' τ' hb he hmo;obtain⟨Hb,He,Hmo⟩:=hid3 hb he hmo;clear hb he hmo)
 go_ret
 exact⟨_,τ',rfl,Hb.out,He.out⟩
theorem Qhy {b:Nat}(h:PageAt w τ g b P) (g':Tag) :
 Calls Tryz.prog 18 #[.pointer (some ⟨b,0,none⟩)] w fun e w'=>∃u τ',e = .returned u∧NB w.heap.size w' τ' g' u P∧Step w τ w' τ' nil:=by
 have hcl:=Que h.bytes g' (by rw[h.len];omega)
 have c0:=h.own.at 0 (Qfw P 0 (by rw[h.len];omega))
 have Hcl:=Lib.hid hcl
 clear hcl h
 go_enter Tryz.func18,Tryz.ntmps18
 go_wp2_with fail
 refine Hcl.out.mono ?_
 rintro e w' ⟨u,τ',rfl,hb,hs⟩
 obtain⟨Hb,Hs⟩:=hid2 hb hs
 clear hb hs
 go_wp2_with fail
 go_ret
 exact⟨u,τ',rfl,Hb.out,Hs.out⟩
def pOff (P:List Int) (s:Nat):Nat:=if s<pageCount P then pageN P (16+4*s) 2 else 0
def pLen (P:List Int) (s:Nat):Nat:=if s<pageCount P then pageN P (18+4*s) 2 else 0
def pData (P:List Int) (s:Nat):List Int:=(P.drop (pOff P s)).take (pLen P s)
theorem Qpe(h:IsB P) (at_:Nat):pageN P at_ 2<65536:=by
 have h2:=Qjw h at_ 2
 have h5:(2:Nat) ^ (8*2)=65536:=by decide
 rw[h5] at h2;exact h2
theorem Qu7(h:IsB P) (s:Nat):pOff P s<65536:=by
 unfold pOff;split
 ·exact Qpe h _
 ·omega
theorem Qzk(h:IsB P) (s:Nat):pLen P s<65536:=by
 unfold pLen;split
 ·exact Qpe h _
 ·omega
structure Fit (P:List Int):Prop where
 count:pageCount P≤40
 ends:∀s,pOff P s+pLen P s≤448
theorem Qgu {b:Nat}(h:PageAt w τ g b P) (s:Nat) (hs:s<1000000) (hc:pageCount P≤100) :
 Calls Tryz.prog 219 #[.pointer (some ⟨b,0,none⟩),.int .i64 (s:Int)] w fun e w'=>e = .returned (.tuple #[.int .i64 (pOff P s:Int),.int .i64 (pLen P s:Int)])∧w=w':=by
 have h1:=Qax h
 by_cases hlt:s<pageCount P
 ·have h2:=Qd0 h (16+4*s) 2 (by omega) (by omega) (by omega)
  have h3:=Qd0 h (18+4*s) 2 (by omega) (by omega) (by omega)
  have e1:pOff P s=pageN P (16+4*s) 2:=if_pos hlt
  have e2:pLen P s=pageN P (18+4*s) 2:=if_pos hlt
  rw[←e1] at h2
  rw[←e2] at h3
  rw[show ((16+4*s:Nat):Int)=16+4*(s:Int) by omega] at h2
  rw[show ((18+4*s:Nat):Int)=16+4*(s:Int)+2 by omega] at h3
  generalize pOff P s=o at *
  generalize pLen P s=n at *
  generalize hq:pageCount P=q at *
  have a1:decide ((s:Int)<0)=false:=by simp
  have a2:decide ((q:Int)≤(s:Int))=false:=by simp;omega
  obtain⟨H1,H2,H3⟩:=hid3 h1 h2 h3
  clear h1 h2 h3 h e1 e2 hq
  go_enter Tryz.func219,Tryz.ntmps219
  go_wp2_with fail
  refine H1.out.mono ?_
  rintro e w' ⟨rfl,rfl⟩
  go_wp2_with fail
  refine H2.out.mono ?_
  rintro e w' ⟨rfl,rfl⟩
  go_wp2_with fail
  refine H3.out.mono ?_
  rintro e w' ⟨rfl,rfl⟩
  go_wp2_with fail
  go_ret2
  exact⟨rfl,rfl⟩
 ·have e1:pOff P s=0:=if_neg hlt
  have e2:pLen P s=0:=if_neg hlt
  rw[e1,e2]
  generalize hq:pageCount P=q at *
  have a1:decide ((s:Int)<0)=false:=by simp
  have a2:decide ((q:Int)≤(s:Int))=true:=by simp;omega
  have H1:=Lib.hid h1
  clear h1 h e1 e2 hq
  go_enter Tryz.func219,Tryz.ntmps219
  go_wp2_with fail
  refine H1.out.mono ?_
  rintro e w' ⟨rfl,rfl⟩
  go_wp2_with fail
  go_ret2
  exact⟨rfl,rfl⟩
theorem Qtc {b:Nat}(h:PageAt w τ g b P) (i:Int) (hi:i<0) :
 Calls Tryz.prog 219 #[.pointer (some ⟨b,0,none⟩),.int .i64 i] w fun e w'=>e = .returned (.tuple #[.int .i64 0,.int .i64 0])∧w=w':=by
 have a1:decide (i<0)=true:=by simp;omega
 clear h
 go_enter Tryz.func219,Tryz.ntmps219
 go_wp2_with fail
 go_ret2
 exact⟨rfl,rfl⟩
theorem Qbx {b:Nat}(h:PageAt w τ g b P) (hf:Fit P) (s:Nat) (hs:s<1000000) :
 Calls Tryz.prog 141 #[.pointer (some ⟨b,0,none⟩),.int .i64 (s:Int)] w fun e w'=>∃o,e = .returned (.slice (some ⟨b,o,none⟩) (pLen P s) (448-pOff P s))∧(0<pLen P s→o=pOff P s)∧w=w':=by
 have h1:=Qgu h s hs (by have:=hf.count;omega)
 have he:=hf.ends s
 generalize pOff P s=o at *
 generalize pLen P s=n at *
 have c0:=h.own.at 0 (Qfw P 0 (by rw[h.len];omega))
 have H1:=Lib.hid h1
 clear h1 h hf
 have e3:(o:Int)+(n:Int)≤448:=by omega
 have e6:(o:Int)≤(o:Int)+(n:Int):=by omega
 have e7:(0:Int)≤(o:Int)+(n:Int):=by omega
 have e8:((o:Int)+(n:Int)).toNat=o+n:=by omega
 by_cases ho:o=448
 ·subst ho
  obtain rfl:n=0:=by omega
  go_enter Tryz.func141,Tryz.ntmps141
  go_wp2_with fail
  refine H1.out.mono ?_
  rintro e w' ⟨rfl,rfl⟩
  go_wp2_with fail
  go_ret
  exact⟨0,rfl,fun h=>absurd h (by omega),rfl⟩
 ·have e4:¬448=o:=fun e=>ho e.symm
  go_enter Tryz.func141,Tryz.ntmps141
  go_wp2_with fail
  refine H1.out.mono ?_
  rintro e w' ⟨rfl,rfl⟩
  go_wp2_with fail
  go_ret
  exact⟨o,rfl,fun _=>rfl,rfl⟩
end Go.Proofs.YtemacanaihaldaaGreat