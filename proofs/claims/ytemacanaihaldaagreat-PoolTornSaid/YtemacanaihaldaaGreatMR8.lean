/-
 The reference's log: how it lies in memory;on,and what it tells.
-/
import Derived.Test.YtemacanaihaldaaGreatMR5D
import Derived.Test.YtemacanaihaldaaGreatMStrip
import Derived.Test.YtemacanaihaldaaGreatMWalB
import Derived.Lib.AppendZerosOnto
set_option maxRecDepth 100000
set_option maxHeartbeats 4000000
set_option linter.all false
namespace Go.Proofs.YtemacanaihaldaaGreat
variable {D:Dev}{L:LogM}{bd bl:Nat}{w:World}{τ:Tags}
open Go.RowKit
def tRLog:Tag:=(50,0)
def Qee:Tag:=(51,0)
def Qef:Tag:=(52,0)
def RLogTag (g:Tag):Prop:=g=tRLog∨g=Qee∨g=Qef
def Qgb (L:LogM) (bd:Nat) (vs vt:Value):List Value :=
 [.pointer (some ⟨bd,0,none⟩),.int .i64 (L.strips:Int),.int .i64 (L.area:Int),.int .u64 (L.base:Int),vs,vt,.int .i64 (L.lasts:Int),.int .u64 (L.check:Int),.int .u64 (L.stamp:Int),.int .i64 (L.slot:Int)]
structure RLogAt (w:World) (τ:Tags) (bl bd:Nat) (L:LogM):Prop where
 is:∃vs vt,Own w τ bl tRLog 297 (Qgb L bd vs vt)∧Buf w τ Qee 5 1 vs L.stream.length (u8s L.stream)∧Buf w τ Qef 3 1 vt L.starts.length (i64s L.starts)
 isB:IsB L.stream
 ok:L.ok
theorem RLogAt.step {w':World} {τ':Tags} {S:Tag→Prop}(h:RLogAt w τ bl bd L) (m:Step w τ w' τ' S) (hs:∀g,RLogTag g→¬S g):RLogAt w' τ' bl bd L:=by
 obtain⟨vs,vt,ho,h1,h2⟩:=h.is
 exact⟨⟨vs,vt,ho.step m (hs _ (.inl rfl)),h1.step m (hs _ (.inr (.inl rfl))),h2.step m (hs _ (.inr (.inr rfl)))⟩,h.isB,h.ok⟩
theorem Qc0 {g:Tag}(h:RLogTag g):¬RDevTag g:=by
 rcases h with rfl|rfl|rfl <;> simp[RDevTag,tRLog,Qee,Qef]
theorem Jal(h:RLogAt w τ bl bd L) :
 Calls Tryz.prog 182 #[.pointer (some ⟨bl,0,none⟩)] w fun e w'=>e = .returned (.int .u64 (L.base:Int))∧w=w':=by
 obtain⟨vs,vt,ho,-,-⟩:=h.is
 have c3:=ho.at 3 (v:=.int .u64 (L.base:Int)) rfl
 clear h ho
 go_enter Tryz.func182,Tryz.ntmps182
 go_wp2_with fail
 go_ret
 exact⟨rfl,rfl⟩
theorem Qza(h:RLogAt w τ bl bd L) :
 Calls Tryz.prog 186 #[.pointer (some ⟨bl,0,none⟩)] w fun e w'=>e = .returned (.int .u64 (L.check:Int))∧w=w':=by
 obtain⟨vs,vt,ho,-,-⟩:=h.is
 have c3:=ho.at 7 (v:=.int .u64 (L.check:Int)) rfl
 clear h ho
 go_enter Tryz.func186,Tryz.ntmps186
 go_wp2_with fail
 go_ret
 exact⟨rfl,rfl⟩
theorem Qy9(h:RLogAt w τ bl bd L) :
 Calls Tryz.prog 185 #[.pointer (some ⟨bl,0,none⟩)] w fun e w'=>e = .returned (.int .u64 ((L.base+L.lasts:Nat):Int))∧Step w τ w' τ nil:=by
 obtain⟨vs,vt,ho,hs,_⟩:=h.is
 have c1:=ho.at 3 (v:=.int .u64 (L.base:Int)) rfl
 have c9:=ho.at 6 (v:=.int .i64 (L.lasts:Int)) rfl
 have hb:=h.ok.base
 have hl:=h.ok.stream
 have hla:=h.ok.lasts
 have hw:=Qam L.lasts (by omega)
 have hw2:=Qer (a:=L.base) (b:=L.lasts) (by omega)
 generalize L.lasts=n at *
 generalize L.base=bs at *
 clear h ho hs hb hl hla
 go_enter Tryz.func185,Tryz.ntmps185
 go_wp2_with fail
 go_quiet (fail)
 go_wp2_with fail
 go_ret
 exact⟨rfl,(Step.refl w τ nil).drews nq⟩
theorem r8end(h:RLogAt w τ bl bd L) :
 Calls Tryz.prog 183 #[.pointer (some ⟨bl,0,none⟩)] w fun e w'=>e = .returned (.int .u64 ((L.base+L.stream.length:Nat):Int))∧Step w τ w' τ nil:=by
 obtain⟨vs,vt,ho,hs,_⟩:=h.is
 obtain⟨p,c,rfl⟩:=hs.len
 have c1:=ho.at 3 (v:=.int .u64 (L.base:Int)) rfl
 have c9:=ho.at 4 (v:=.slice p L.stream.length c) rfl
 have hb:=h.ok.base
 have hl:=h.ok.stream
 have hw:=Qam L.stream.length (by omega)
 have hw2:=Qer (a:=L.base) (b:=L.stream.length) (by omega)
 generalize L.stream.length=n at *
 generalize L.base=bs at *
 clear h ho hs hb hl
 go_enter Tryz.func183,Tryz.ntmps183
 go_wp2_with fail
 go_quiet (fail)
 go_wp2_with fail
 go_ret
 exact⟨rfl,(Step.refl w τ nil).drews nq⟩
theorem Qxa(h:RDevAt w τ bd D) (h18:18≤D.f0.length) :
 Calls Tryz.prog 173 #[.pointer (some ⟨bd,0,none⟩)] w fun e w'=>∃bl τ',e = .returned (.tuple #[.pointer (some ⟨bl,0,none⟩),.bool true])∧w.heap.size≤bl∧RLogAt w' τ' bl bd (newLog D.f0.length)∧Step w τ w' τ' nil:=by
 have hsz:=Qkr h 0 (by omega)
 have hlen:=Qgt h 0 (by omega)
 have hf0:D.file 0=D.f0:=rfl
 rw[hf0] at hsz hlen
 generalize hn:D.f0.length=n at *
 have hl:=Own.new w τ tRLog 297 (Qgb (newLog n) bd (.slice none 0 0) (.slice none 0 0))
 have hst:=(Step.refl w τ nil).alloc (.cells ⟨Qgb (newLog n) bd (.slice none 0 0) (.slice none 0 0)⟩ 297) tRLog
 have hok:(newLog n).ok:=⟨by simp[newLog],by simp[newLog],by simp[newLog],by simp[newLog],by simp only[newLog];omega,by simp[newLog],by simp[newLog],by simp[newLog],by simp[newLog]⟩
 have e1:((n:Int)-2)/2=(((n-2)/2:Nat):Int):=by omega
 have hs8:8≤(n-2)/2:=by omega
 have hcells:Qgb (newLog n) bd (.slice none 0 0) (.slice none 0 0)=[.pointer (some ⟨bd,0,none⟩),.int .i64 (((n-2)/2:Nat):Int),.int .i64 0,.int .u64 0,.slice none 0 0,.slice none 0 0,.int .i64 0,.int .u64 0,.int .u64 0,.int .i64 0]:=rfl
 have hnl:RLogAt (w.alloc (.cells ⟨Qgb (newLog n) bd (.slice none 0 0) (.slice none 0 0)⟩ 297)) (τ.put w.heap.size tRLog) w.heap.size bd (newLog n) :=
  ⟨⟨_,_,hl,Buf.nil _ _ _ _ _,Buf.nil _ _ _ _ _⟩,fun x hx=>by simp[newLog] at hx,hok⟩
 rw[hcells] at hnl hst
 generalize hq:(n-2)/2=s at *
 obtain⟨Hsz,Hst,Hnl,H_e1⟩:=hid4 hsz hst hnl e1
 clear hsz hst hnl e1 h hl hok hcells
 go_enter Tryz.func173,Tryz.ntmps173
 go_wp2_with fail
 refine Hsz.out.mono ?_
 rintro e w' ⟨rfl,rfl⟩
 have e3:((n:Int)-2)/2=(s:Int):=by omega
 have e4:decide ((8:Int)≤(s:Int))=true:=by simp;omega
 go_wp2_with fail
 go_ret2
 exact⟨w.heap.size,_,rfl,Nat.le_refl _,Hnl.out,Hst.out⟩
theorem Quq {l m:List Int}(hl:IsB l) (hm:IsB m) (h:l≠m):(toU8 l != toU8 m)=true∧(toU8 l==toU8 m)=false:=by
 have:=Qqc hl hm
 rw[decide_eq_false h] at this
 exact⟨by rw[bne,this];rfl,this⟩
theorem Qei:¬RDevTag tData:=by simp[RDevTag,tData]
theorem r8lay(hl:RLogAt w τ bl bd L) (hd:RDevAt w τ bd D) {g:Tag}{v:Value}{want:List (List Int)}(hw:Waits w τ g v want) (hg:¬RDevTag g) (from_ n:Nat) (hfit:from_+n≤D.f0.length) (hlim:D.lim 800000) :
 Calls Tryz.prog 174 #[.pointer (some ⟨bl,0,none⟩),.int .i64 (from_:Int),.int .i64 (n:Int),v] w (RDevR w τ bd (D.make from_ n want) (.tuple #[])):=by
 have rn:=Qcz
 have hlen:=Qgt hd 0 (by omega)
 have hf0:D.file 0=D.f0:=rfl
 rw[hf0] at hlen
 obtain⟨pw,cw,rfl,hwm,-⟩:=hw.read
 generalize hnw:want.length=nw at *
 obtain⟨Hl,Hw,Hd,Hlim,Hnw⟩:=hid5 hl hw hd hlim hnw
 clear hl hw hd hlim hnw
 go_enter Tryz.func174,Tryz.ntmps174
 go_wp2_with fail
 go_loopw [8,9] (fun c v wr=>∃(i:Nat) (τr:Tags),i≤n∧v = .int .i64 (i:Int)∧c = .bool (Qa7 D from_ want i).2∧RDevAt wr τr bd (Qa7 D from_ want i).1∧Step w τ wr τr RDevTag) (fun _ v _=>n-(intOf v).toNat)
 case atStart=>exact⟨0,_,Nat.zero_le _,rfl,rfl,Hd.out,Step.refl _ _ _⟩
 case round =>
  obtain⟨i,τr,hi,rfl,rfl,hd,hst⟩:=hrel
  have hlr:=Hl.out.step hst (fun g hg hS=>Qc0 hg hS)
  obtain⟨vs,vt,ho,-,-⟩:=hlr.is
  have c4:=ho.at 0 (v:=.pointer (some ⟨bd,0,none⟩)) rfl
  have hlE:=Qdo D from_ want i 0
  have hlimE:=Qgw Hlim.out from_ want i
  have hsucc:Qa7 D from_ want (i+1)=if (Qa7 D from_ want i).1.last 0 (from_+i)=Qck want i then Qa7 D from_ want i else ((Qa7 D from_ want i).1.write 0 (from_+i) (Qck want i),true):=rfl
  rw[hf0] at hlE
  generalize hE:(Qa7 D from_ want i).1=E at *
  generalize hC:(Qa7 D from_ want i).2=C at *
  by_cases hlt:i<n
  ·
   have hz:=Bytes.noughts wr τr tData 128 (by unfold maxLen;omega)
   have hsz:=(Step.refl wr τr nil).alloc (.cells (madeCells #[.int .u8 0] 128) 5) tData
   have hw128:(Qck want i).length=128:=by
    unfold Qck
    split
    ·rename_i hin
     obtain⟨p',c',_,_,hr⟩:=Hw.out.read
     have hx:want[i]?=some (want.getD i []):=by rw[List.getD_eq_getElem?_getD,List.getElem?_eq_getElem hin];rfl
     exact(hr i _ hx).1
    ·simp[zeros128]
   obtain⟨vb,hvb,hvl⟩:∃vb,Bytes (wr.alloc (.cells (madeCells #[.int .u8 0] 128) 5)) (τr.put wr.heap.size tData) tData vb (Qck want i)∧((i<nw∧∃b,pw=some ⟨b,0,none⟩∧(wr.alloc (.cells (madeCells #[.int .u8 0] 128) 5)).cell? ⟨b,i,none⟩=some vb)∨(¬i<nw∧vb = .slice (some ⟨wr.heap.size,0,none⟩) 128 128)):=by
    by_cases hin:i<nw
    ·obtain⟨p',c',hv',_,hr⟩:=((Hw.out.step hst hg Qei).step hsz (fun h=>h) (fun h=>h)).read
     cases hv'
     obtain⟨x,hx⟩:∃x,want[i]?=some x:=⟨_,List.getElem?_eq_getElem (by rw[Hnw.out];exact hin)⟩
     obtain⟨_,b,u,hpb,hc,hb⟩:=hr i x hx
     refine⟨u,?_,.inl ⟨hin,b,hpb,hc⟩⟩
     unfold Qck
     rw[if_pos (by rw[Hnw.out];exact hin),List.getD_eq_getElem?_getD,hx];exact hb
    ·refine⟨_,?_,.inr ⟨hin,rfl⟩⟩
     unfold Qck
     rw[if_neg (by rw[Hnw.out];exact hin)];exact hz
   have hq:E.file 0=E.f0:=rfl
   have hrd:=Qr6 (hd.step hsz (fun _ h=>h.elim)) 0 (by omega) (from_+i) (by omega) tData
   have hl128:=(Qkt hd 0 (from_+i) (by omega) (by omega)).1
   rw[Int.natCast_add] at hrd
   obtain⟨pb,kb,rfl,-,-⟩:=hvb.any
   rw[hw128] at hvb hvl
   have a1:(from_:Int)+(i:Int)≤4096:=by omega
   have c4':=(ho.alloc (.cells (madeCells #[.int .u8 0] 128) 5)).at 0 (v:=.pointer (some ⟨bd,0,none⟩)) rfl
   generalize hwa:Qck want i=x at *
   generalize hla:E.last 0 (from_+i)=y at *
   have hwlt:pw=none→¬i<nw:=fun hp hin=>by
    rcases hvl with ⟨_,b,rfl,_⟩|⟨h,_⟩
    ·cases hp
    ·exact h hin
   clear ho hz hwa hwlt hq
   rcases hvl with ⟨hin,b,rfl,cb⟩|⟨hnin,hvz⟩
   ·have hin2:(i:Int)<(nw:Int):=by omega
    by_cases heq:y=x
    ·rw[if_pos heq] at hsucc
     obtain⟨Hd,Hst,Hlr,HlE,HlimE,Hsucc,HE,HC,Hvb,Hw128,Hrd,Hl128⟩:=hid12 hd hst hlr hlE hlimE hsucc hE hC hvb hw128 hrd hl128
     obtain⟨Heq,Hla,Hsz⟩:=hid3 heq hla hsz
     clear hd hst hlr hlE hlimE hsucc hE hC hvb hw128 hrd hl128 heq hla hsz
     go_wp2_with fail
     refine Hrd.out.mono ?_
     rintro e w1 ⟨u1,τ1,rfl,hb1,hs1⟩
     obtain⟨p1,k1,rfl,-,-⟩:=hb1.any
     rw[Hl128.out] at hb1 ⊢
     have k1c:=hb1.conv
     have k2c:=(Hvb.out.step hs1 (fun h=>h)).conv
     rw[Heq.out] at k1c
     have hs01:=Hsz.out.trans hs1
     have hd1:=Hd.out.step hs01 (fun _ h=>h.elim)
     have hst1:=Hst.out.trans (hs01.mono (fun _ h=>h.elim))
     obtain⟨Hd1,Hst1⟩:=hid2 hd1 hst1
     clear hd1 hst1 hb1 hs1 hs01
     generalize toU8 x=xs at *
     go_wp2_with fail
     go_round
     case rel=>exact⟨i+1,τ1,by omega,by simp,by rw[Hsucc.out,HC.out],by rw[Hsucc.out,HE.out];exact Hd1.out,Hst1.out⟩
     case measure=>simp[intOf];omega
    ·rw[if_neg heq] at hsucc
     obtain⟨Hd,Hst,Hlr,HlE,HlimE,Hsucc,HE,HC,Hvb,Hw128,Hrd,Hl128⟩:=hid12 hd hst hlr hlE hlimE hsucc hE hC hvb hw128 hrd hl128
     obtain⟨Heq,Hla,Hsz⟩:=hid3 heq hla hsz
     clear hd hst hlr hlE hlimE hsucc hE hC hvb hw128 hrd hl128 heq hla hsz
     go_wp2_with fail
     refine Hrd.out.mono ?_
     rintro e w1 ⟨u1,τ1,rfl,hb1,hs1⟩
     obtain⟨p1,k1,rfl,-,-⟩:=hb1.any
     rw[Hl128.out] at hb1 ⊢
     have hvb1:=Hvb.out.step hs1 (fun h=>h)
     have k1c:=hb1.conv
     have k2c:=hvb1.conv
     obtain⟨hne,hne2⟩:=Quq hb1.isB hvb1.isB Heq.out
     have hs01:=Hsz.out.trans hs1
     have hlr1:=Hlr.out.step hs01 (fun _ _ h=>h)
     obtain⟨vs1,vt1,ho1,-,-⟩:=hlr1.is
     have c41:=ho1.at 0 (v:=.pointer (some ⟨bd,0,none⟩)) rfl
     have hd1:=Hd.out.step hs01 (fun _ h=>h.elim)
     have hwt:=Qqq hd1 0 (by omega) (from_+i) (by have:=HlE.out;omega) hvb1 Hw128.out Qei (Dev.lim_mono HlimE.out (by omega))
     rw[Int.natCast_add] at hwt
     have hst1:=Hst.out.trans (hs01.mono (fun _ h=>h.elim))
     obtain⟨Hwt,Hst1⟩:=hid2 hwt hst1
     clear hwt hst1 hb1 hs1 hs01 hlr1 ho1 hd1 hvb1
     generalize toU8 x=xs at *
     generalize toU8 y=ys at *
     go_wp2_with fail
     refine Hwt.out.mono ?_
     rintro e w2 ⟨rfl,τ2,hd2,hs2⟩
     have hst2:=Hst1.out.trans hs2
     obtain⟨Hd2,Hst2⟩:=hid2 hd2 hst2
     clear hd2 hst2 hs2
     go_wp2_with fail
     go_round
     case rel=>exact⟨i+1,τ2,by omega,by simp,by rw[Hsucc.out],by rw[Hsucc.out];exact Hd2.out,Hst2.out⟩
     case measure=>simp[intOf];omega
   ·cases hvz
    by_cases heq:y=x
    ·rw[if_pos heq] at hsucc
     obtain⟨Hd,Hst,Hlr,HlE,HlimE,Hsucc,HE,HC,Hvb,Hw128,Hrd,Hl128⟩:=hid12 hd hst hlr hlE hlimE hsucc hE hC hvb hw128 hrd hl128
     obtain⟨Heq,Hla,Hsz⟩:=hid3 heq hla hsz
     clear hd hst hlr hlE hlimE hsucc hE hC hvb hw128 hrd hl128 heq hla hsz
     go_wp2_with fail
     refine Hrd.out.mono ?_
     rintro e w1 ⟨u1,τ1,rfl,hb1,hs1⟩
     obtain⟨p1,k1,rfl,-,-⟩:=hb1.any
     rw[Hl128.out] at hb1 ⊢
     have k1c:=hb1.conv
     have k2c:=(Hvb.out.step hs1 (fun h=>h)).conv
     rw[Heq.out] at k1c
     have hs01:=Hsz.out.trans hs1
     have hd1:=Hd.out.step hs01 (fun _ h=>h.elim)
     have hst1:=Hst.out.trans (hs01.mono (fun _ h=>h.elim))
     obtain⟨Hd1,Hst1⟩:=hid2 hd1 hst1
     clear hd1 hst1 hb1 hs1 hs01
     generalize toU8 x=xs at *
     go_wp2_with fail
     go_round
     case rel=>exact⟨i+1,τ1,by omega,by simp,by rw[Hsucc.out,HC.out],by rw[Hsucc.out,HE.out];exact Hd1.out,Hst1.out⟩
     case measure=>simp[intOf];omega
    ·rw[if_neg heq] at hsucc
     obtain⟨Hd,Hst,Hlr,HlE,HlimE,Hsucc,HE,HC,Hvb,Hw128,Hrd,Hl128⟩:=hid12 hd hst hlr hlE hlimE hsucc hE hC hvb hw128 hrd hl128
     obtain⟨Heq,Hla,Hsz⟩:=hid3 heq hla hsz
     clear hd hst hlr hlE hlimE hsucc hE hC hvb hw128 hrd hl128 heq hla hsz
     go_wp2_with fail
     refine Hrd.out.mono ?_
     rintro e w1 ⟨u1,τ1,rfl,hb1,hs1⟩
     obtain⟨p1,k1,rfl,-,-⟩:=hb1.any
     rw[Hl128.out] at hb1 ⊢
     have hvb1:=Hvb.out.step hs1 (fun h=>h)
     have k1c:=hb1.conv
     have k2c:=hvb1.conv
     obtain⟨hne,hne2⟩:=Quq hb1.isB hvb1.isB Heq.out
     have hs01:=Hsz.out.trans hs1
     have hlr1:=Hlr.out.step hs01 (fun _ _ h=>h)
     obtain⟨vs1,vt1,ho1,-,-⟩:=hlr1.is
     have c41:=ho1.at 0 (v:=.pointer (some ⟨bd,0,none⟩)) rfl
     have hd1:=Hd.out.step hs01 (fun _ h=>h.elim)
     have hwt:=Qqq hd1 0 (by omega) (from_+i) (by have:=HlE.out;omega) hvb1 Hw128.out Qei (Dev.lim_mono HlimE.out (by omega))
     rw[Int.natCast_add] at hwt
     have hst1:=Hst.out.trans (hs01.mono (fun _ h=>h.elim))
     obtain⟨Hwt,Hst1⟩:=hid2 hwt hst1
     clear hwt hst1 hb1 hs1 hs01 hlr1 ho1 hd1 hvb1
     generalize toU8 x=xs at *
     generalize toU8 y=ys at *
     go_wp2_with fail
     refine Hwt.out.mono ?_
     rintro e w2 ⟨rfl,τ2,hd2,hs2⟩
     have hst2:=Hst1.out.trans hs2
     obtain⟨Hd2,Hst2⟩:=hid2 hd2 hst2
     clear hd2 hst2 hs2
     go_wp2_with fail
     go_round
     case rel=>exact⟨i+1,τ2,by omega,by simp,by rw[Hsucc.out],by rw[Hsucc.out];exact Hd2.out,Hst2.out⟩
     case measure=>simp[intOf];omega
  ·obtain rfl:i=n:=by omega
   have hmk:D.make from_ i want=if C=true then E.sync 0 else E:=by unfold Dev.make;rw[hE,hC]
   have hsy:=Qyl hd 0 (by omega)
   cases C with
   | true =>
     rw[if_pos rfl] at hmk
     obtain⟨Hsy,Hst,Hmk,Hlr⟩:=hid4 hsy hst hmk hlr
     clear hsy hst hmk hlr ho hsucc hlE hlimE hE hC hd
     go_wp2_with fail
     refine Hsy.out.mono ?_
     rintro e w2 ⟨rfl,τ2,hd2,hs2⟩
     obtain⟨Hd2,Hs2⟩:=hid2 hd2 hs2
     clear hd2 hs2
     go_wp2_with fail
     go_returns
     exact⟨rfl,τ2,by rw[Hmk.out];exact Hd2.out,Hst.out.trans Hs2.out⟩
   | false =>
     rw[if_neg (by simp)] at hmk
     obtain⟨Hst,Hmk,Hd⟩:=hid3 hst hmk hd
     clear hst hmk hd ho hsucc hlE hlimE hE hC hlr hsy
     go_wp2_with fail
     go_returns
     exact⟨rfl,τr,by rw[Hmk.out];exact Hd.out,Hst.out⟩
theorem Qvq {b:Nat}(h:DevAt w τ b D) (f:Nat) (hf:f<256) :
 Calls Tryz.prog 289 #[.pointer (some ⟨b,0,none⟩),.int .u8 (f:Int)] w fun e w'=>∃v τ',e = .returned v∧NR w.heap.size w' τ' tOut v ((D.file f).map Sec.last)∧Step w τ w' τ' nil:=by
 obtain⟨v,hfc,hfile⟩:=Qoe h f hf
 have hn4096:=h.length f
 have htk:(D.file f).take (D.file f).length=D.file f:=List.take_length
 generalize hl:D.file f=l at *
 obtain⟨p,cap,rfl,hcap,-,-⟩:=id hfile
 generalize hn:l.length=n at *
 obtain⟨Hfc,Hfile,Hn,Hl,Htk⟩:=hid5 hfc hfile hn hl htk
 clear hfc hfile hn hl htk h
 go_enter Tryz.func289,Tryz.ntmps289
 go_wp2_with fail
 refine Hfc.out.mono ?_
 rintro e w' ⟨rfl,rfl⟩
 go_wp2_with fail
 go_loopw [5,12] (fun m iv wr=>∃(i:Nat) (τr:Tags),i≤n∧iv = .int .i64 (i:Int)∧NR w.heap.size wr τr tOut m ((l.take i).map Sec.last)∧Step w τ wr τr nil) (fun _ iv _=>n-(intOf iv).toNat)
 case atStart=>exact⟨0,τ,Nat.zero_le _,rfl,NR.nil _ _ _ _,Step.refl _ _ _⟩
 case round =>
  obtain⟨i,τr,hi,rfl,hnr,hst⟩:=hrel
  by_cases hlt:i<n
  ·obtain⟨s,hs⟩:∃s,l[i]?=some s:=⟨_,List.getElem?_eq_getElem (by rw[Hn.out];exact hlt)⟩
   have hsu:=Qja hs
   obtain⟨p',cap',hv,-,-,hpos⟩:=Hfile.out.mod hst.no hst.ext (fun _ _ _ h=>h) (fun _ _ _ _ h=>h) (fun _ _ _ h=>h)
   obtain⟨bf,xs,hpx,ho,hsec⟩:=hpos (by rw[Hn.out];omega)
   rw[Hn.out,hpx] at hv
   simp only[Value.slice.injEq,true_and] at hv
   obtain⟨rfl,rfl⟩:=hv
   obtain⟨⟨hl128,v,hvv,hb⟩,⟨u,hu,hw⟩⟩:=hsec i s hs
   have c0:=ho.at (i*2) hvv
   have c1:=ho.at (i*2+1) hu
   obtain⟨pu,cu,rfl⟩:=hw.len
   have hln:=fun W (m:Step wr τr W τr nil)=>Qeb (hb.step m (fun h=>h)) tData (by omega)
   obtain⟨pv,cv,rfl,-,-⟩:=hb.any
   rw[hl128] at hln c0
   have hlen:((l.take i).map Sec.last).length=i:=by rw[List.length_map,List.length_take,Hn.out];omega
   have hi64:i≤1000000000:=by omega
   generalize hls:(l.take i).map Sec.last=ls at *
   generalize s.waits.length=sw at *
   obtain⟨pm,cm,rfl⟩:=hnr.val
   obtain⟨Hls,Hst,Hln,Hl128,Hsu,Hnr,Hlen⟩:=hid7 hls hst hln hl128 hsu hnr hlen
   clear hls hst hln hl128 hsu hnr hlen hsec ho hb hvv hs hw hu hpos
   go_wp2_with fail
   refine(Hln.out _ ((Step.refl wr τr nil).alloc' _)).mono ?_
   rintro e w2 ⟨uu,τ2,rfl,hb2,he2,hm2⟩
   have hs2:=((Step.refl wr τr nil).alloc' (.cells #[.slice pv 128 cv,.slice pu sw cu] 113)).trans (Step.of nil hm2 he2)
   have hnr2:=Hnr.out.step hs2 (fun h=>h) (fun h=>h)
   have hst2:=Hst.out.trans hs2
   obtain⟨pq,cq,rfl,-,-⟩:=hb2.any
   rw[Hl128.out] at hb2 ⊢
   obtain⟨Hb2,Hnr2,Hst2⟩:=hid3 hb2 hnr2 hst2
   clear hb2 hnr2 hst2 hs2 he2 hm2
   go_wp2_with (at_builtin;refine Qbz Hst2.out (by decide) Hnr2.out Hb2.out Hl128.out (by rw[Hlen.out];exact hi64) rfl rfl _ _ rfl rfl rfl ?_;intro v' w' τ' hb he hmo;obtain⟨Hb,He,Hmo⟩:=hid3 hb he hmo;clear hb he hmo)
   go_round
   case rel=>exact⟨i+1,τ',by omega,by simp,by rw[Hsu.out];exact Hb.out,He.out⟩
   case measure=>simp[intOf];omega
  ·obtain rfl:i=n:=by omega
   rw[show l.take i=l from Htk.out] at hnr
   obtain⟨Hnr,Hst⟩:=hid2 hnr hst
   clear hnr hst
   go_wp2_with fail
   go_returns
   exact⟨_,τr,rfl,Hnr.out,Hst.out⟩
theorem Ql8 {g g2:Tag} {v u:Value} {l:List (List Int)}(h:Waits w τ g v l) (k:Waits w τ g2 u l) :
 Calls Tryz.prog 32 #[v,u] w fun e w'=>e = .returned (.bool true)∧∃q,w'=w.drewN q:=by
 obtain⟨p,c,rfl,h1,hr⟩:=h.read
 obtain⟨p2,d,rfl,-,kr⟩:=k.read
 generalize hn:l.length=n at *
 have hmx:n≤9223372036854775807:=by unfold maxLen at h1;omega
 obtain⟨Hr,H_kr,Hn⟩:=hid3 hr kr hn
 clear hr kr hn h1 h k
 go_enter Tryz.func32,Tryz.ntmps32
 go_wp2_with fail
 go_loopw [5] (fun v wr=>∃i q:Nat,i≤n∧v = .int .i64 (i:Int)∧wr=w.drewN q) (fun v _=>n-(intOf v).toNat)
 case atStart=>exact⟨0,0,Nat.zero_le _,rfl,rfl⟩
 case round =>
  obtain⟨i,q,hi,rfl,hwr⟩:=hrel
  by_cases hlt:i<n
  ·obtain⟨x,hx⟩:∃x,l[i]?=some x:=⟨_,List.getElem?_eq_getElem (by rw[Hn.out];exact hlt)⟩
   obtain⟨h128,b,u1,rfl,hc,hb⟩:=Hr.out i x hx
   obtain⟨-,b2,u2,rfl,hc2,hb2⟩:=H_kr.out i x hx
   obtain⟨q1,e1,rfl,-,-⟩:=hb.any
   obtain⟨q2,e2,rfl,-,-⟩:=hb2.any
   rw[h128] at hc hc2 hb hb2
   have ci':wr.cell? ⟨b,i,none⟩=some (.slice q1 128 e1):=by rw[hwr];exact hc
   have di':wr.cell? ⟨b2,i,none⟩=some (.slice q2 128 e2):=by rw[hwr];exact hc2
   have k1:=fun n=>(hb.step (show Step w τ (wr.drewN n) τ nil by rw[hwr];exact((Step.refl w τ nil).drews q).drews n) (fun h=>h)).conv
   have k2:=fun n=>(hb2.step (show Step w τ (wr.drewN n) τ nil by rw[hwr];exact((Step.refl w τ nil).drews q).drews n) (fun h=>h)).conv
   have hin:(i:Int)<(n:Int):=by omega
   generalize toU8 x=xs at *
   have Hwr:=Lib.hid hwr
   clear hwr hc hc2 hb hb2 hx
   go_wp2_with fail
   go_quiet (fail)
   go_wp2_with fail
   go_round
   case rel=>exact⟨i+1,q+nq,by omega,by simp,by rw[Hwr.out,World.drewN_drewN]⟩
   case measure=>simp[intOf];omega
  ·obtain rfl:i=n:=by omega
   have Hwr:=Lib.hid hwr
   clear hwr
   go_wp2_with fail
   go_ret
   exact⟨rfl,q,Hwr.out⟩
theorem Qwl {br:Nat}(hd:DevAt w τ bd D) (hr:RDevAt w τ br D) :
 Calls Tryz.prog 254 #[.pointer (some ⟨bd,0,none⟩),.pointer (some ⟨br,0,none⟩)] w fun e w'=>e = .returned (.bool true)∧∃τ',Step w τ w' τ' nil:=by
 obtain⟨Hd,Hr⟩:=hid2 hd hr
 clear hd hr
 go_enter Tryz.func254,Tryz.ntmps254
 go_wp2_with fail
 go_loopw [5] (fun fv wr=>∃(f:Nat) (τr:Tags),f≤2∧fv = .int .u8 (f:Int)∧Step w τ wr τr nil) (fun fv _=>2-(intOf fv).toNat)
 case atStart=>exact⟨0,τ,Nat.zero_le _,rfl,Step.refl _ _ _⟩
 case round =>
  obtain⟨f,τr,hf,rfl,hst⟩:=hrel
  by_cases hlt:f<2
  ·have hlt':(f:Int)<2:=by omega
   generalize hl:D.file f=l at *
   have hlen:=(Hd.out.length f)
   rw[hl] at hlen
   have Hl:=Lib.hid hl
   clear hl
   have Hst:=Lib.hid hst
   clear hst
   go_wp2_with fail
   go_loopw [6] (fun iv wr=>∃(i:Nat) (τr:Tags),i≤l.length∧iv = .int .i64 (i:Int)∧Step w τ wr τr nil) (fun iv _=>l.length-(intOf iv).toNat)
   case atStart=>exact⟨0,τr,Nat.zero_le _,rfl,Hst.out⟩
   case round =>
    clear Hst
    obtain⟨i,τr,hi,rfl,hst⟩:=hrel
    have hd1:=Hd.out.step hst (fun _ h=>h.elim)
    have hr1:=Hr.out.step hst (fun _ h=>h.elim)
    have hsz:=Qkr hr1 f (by omega)
    rw[Hl.out] at hsz
    generalize hn:l.length=n at *
    by_cases hli:i<n
    ·have hil:i<(D.file f).length:=by rw[Hl.out,hn];exact hli
     obtain⟨s,hs⟩:∃s,(D.file f)[i]?=some s:=⟨_,List.getElem?_eq_getElem hil⟩
     have hrd:=Qnm hd1 f (by omega) i hil tData
     have hl128:=(hd1.last128 f i hil).1
     generalize hx:D.last f i=x at *
     obtain⟨Hsz,Hrd,Hd1,Hr1,Hst,Hs,Hl128,Hx,Hn,Hil⟩:=hid10 hsz hrd hd1 hr1 hst hs hl128 hx hn hil
     clear hsz hrd hd1 hr1 hst hs hl128 hx hn hil
     go_wp2_with fail
     refine Hsz.out.mono ?_
     rintro e w' ⟨rfl,rfl⟩
     go_wp2_with fail
     refine Hrd.out.mono ?_
     rintro e w2 ⟨u2,τ2,rfl,hb2,hs2⟩
     have hrr:=Qr6 (Hr1.out.step hs2 (fun _ h=>h.elim)) f hlt i Hil.out tData
     rw[Hx.out] at hrr
     obtain⟨p2,k2,rfl,-,-⟩:=hb2.any
     rw[Hl128.out] at hb2 ⊢
     obtain⟨Hrr,Hb2,Hs2⟩:=hid3 hrr hb2 hs2
     clear hrr hb2 hs2
     go_wp2_with fail
     refine Hrr.out.mono ?_
     rintro e w3 ⟨u3,τ3,rfl,hb3,hs3⟩
     have hsb:=Qng (Hb2.out.step hs3 (fun h=>h)) hb3
     rw[decide_eq_true rfl] at hsb
     obtain⟨p3,k3,rfl,-,-⟩:=hb3.any
     rw[Hl128.out] at hsb ⊢
     have hs23:=Hs2.out.trans hs3
     have hwd:=Qui (Hd1.out.step hs23 (fun _ h=>h.elim)) f (by omega) i s Hs.out
     have hwr:=Qzb (Hr1.out.step hs23 (fun _ h=>h.elim)) f hlt i Hs.out
     have hst3:=Hst.out.trans hs23
     generalize s.waits.length=sw at *
     obtain⟨Hsb,Hwd,Hwr,Hst3⟩:=hid4 hsb hwd hwr hst3
     clear hsb hwd hwr hst3 hb3 hs3 hs23
     go_wp2_with fail
     refine Hsb.out.mono ?_
     rintro e w' ⟨rfl,rfl⟩
     go_wp2_with fail
     refine Hwd.out.mono ?_
     rintro e w' ⟨rfl,rfl⟩
     go_wp2_with fail
     refine Hwr.out.mono ?_
     rintro e w' ⟨rfl,rfl⟩
     go_wp2_with fail
     go_round
     case rel=>exact⟨i+1,τ3,by omega,by simp,Hst3.out⟩
     case measure=>simp[intOf];omega
    ·have hii:i=n:=by omega
     have him:=Qvq hd1 f (by omega)
     obtain⟨LL,hLL⟩:∃LL,(D.file f).map Sec.last=LL:=⟨_,rfl⟩
     rw[hLL] at him
     obtain⟨Hsz,Hd1,Hr1,Hst,Him,Hii,Hn,HLL⟩:=hid8 hsz hd1 hr1 hst him hii hn hLL
     clear hsz hd1 hr1 hst him hii hn hLL
     go_wp2_with fail
     refine Hsz.out.mono ?_
     rintro e w' ⟨rfl,rfl⟩
     go_wp2_with fail
     refine Him.out.mono ?_
     rintro e w2 ⟨u2,τ2,rfl,hn2,hs2⟩
     have hir:=Qzc (Hr1.out.step hs2 (fun _ h=>h.elim)) f hlt
     rw[HLL.out] at hir
     obtain⟨p2,k2,rfl⟩:=hn2.val
     obtain⟨Hir,Hn2,Hs2⟩:=hid3 hir hn2 hs2
     clear hir hn2 hs2
     go_wp2_with fail
     refine Hir.out.mono ?_
     rintro e w3 ⟨u3,τ3,rfl,hn3,hs3⟩
     have hsb:=Ql8 (Hn2.out.row.step hs3 (fun h=>h) (fun h=>h)) hn3.row
     obtain⟨p3,k3,rfl⟩:=hn3.val
     have hs23:=Hs2.out.trans hs3
     obtain⟨Hsb,Hs23⟩:=hid2 hsb hs23
     clear hsb hs23 hn3 hs3
     go_wp2_with fail
     refine Hsb.out.mono ?_
     rintro e w4 ⟨rfl,q,hw4⟩
     have hs4:Step wr τr w4 τ3 nil:=Hs23.out.trans (by rw[hw4];exact(Step.refl w3 τ3 nil).drews q)
     have hsd:=Qjs (Hd1.out.step hs4 (fun _ h=>h.elim)) f (by omega)
     have hsr:=Qkr (Hr1.out.step hs4 (fun _ h=>h.elim)) f hlt
     rw[Hl.out,Hn.out] at hsd hsr
     have hst4:=Hst.out.trans hs4
     have hu8:IntKind.u8.wrap ((f:Int)+1)=(f:Int)+1:=by
      have:IntKind.u8.wrap ((f:Int)+1)=((f:Int)+1)%256:=by simp[IntKind.wrap,IntKind.bits,IntKind.signed]
      rw[this];omega
     obtain⟨Hsd,Hsr,Hst4⟩:=hid3 hsd hsr hst4
     clear hsd hsr hst4 hw4 hs4
     go_wp2_with fail
     refine Hsd.out.mono ?_
     rintro e w' ⟨rfl,rfl⟩
     go_wp2_with fail
     refine Hsr.out.mono ?_
     rintro e w' ⟨rfl,rfl⟩
     go_wp2_with fail
     go_round
     case rel=>exact⟨f+1,τ3,by omega,by simp,Hst4.out⟩
     case measure=>simp[intOf];omega
  ·obtain rfl:f=2:=by omega
   have h1:=Qtn (Hd.out.step hst (fun _ h=>h.elim))
   obtain⟨v0,v1,hra⟩:=Hr.out.step hst (fun _ h=>h.elim)
   have h2:=Qxb hra
   generalize D.halted=hh at *
   obtain⟨H1,H2,Hst⟩:=hid3 h1 h2 hst
   clear h1 h2 hst hra
   go_wp2_with fail
   refine H1.out.mono ?_
   rintro e w' ⟨rfl,rfl⟩
   go_wp2_with fail
   refine H2.out.mono ?_
   rintro e w' ⟨rfl,rfl⟩
   go_wp2_with fail
   go_ret
   exact⟨by simp,τr,Hst.out⟩
theorem Qw6 {br:Nat}(hd:DevAt w τ bd D) (hr:RDevAt w τ br D) :
 Calls Tryz.prog 187 #[.pointer (some ⟨bd,0,none⟩),.pointer (some ⟨br,0,none⟩)] w fun e w'=>e = .returned (.int .i64 1)∧∃τ',Step w τ w' τ' nil:=by
 have h1:=Qwl hd hr
 have H1:=Lib.hid h1
 clear h1 hd hr
 go_enter Tryz.func187,Tryz.ntmps187
 go_wp2_with fail
 refine H1.out.mono ?_
 rintro e w1 ⟨rfl,τ1,hs⟩
 have Hs:=Lib.hid hs
 clear hs
 go_wp2_with fail
 go_ret
 exact⟨rfl,τ1,Hs.out⟩
theorem Qcj (n:Nat):(Builtin.zeroCells (Value.int .u8 0).cells n).toList=u8s (List.replicate n 0):=by
 apply List.ext_getElem?
 intro j
 have e:(Value.int .u8 0).cells=#[Value.int .u8 0]:=rfl
 rw[e]
 simp only[Builtin.zeroCells,Array.toList_map,Array.toList_range,u8s,List.map_replicate,List.getElem?_map,List.getElem?_replicate]
 by_cases hj:j<n
 ·rw[List.getElem?_range (by simpa using hj)]
  simp[hj,Nat.mod_one]
 ·rw[List.getElem?_eq_none (by simp;omega)]
  simp[hj]
theorem Qga {P:Program}(w:World) (t tn ty e:TypeId) (i:TypeInfo) (z:Value) (kq kn:IntKind) (ht:P.underlying t=some (.slice e)) (htn:P.underlying tn=some (.int kn)) (hi:P.info? e=some i) (hz:i.zero=some z)
 (g sLen sCap:Nat) (cur:Array Value) (hg:w.heap[g]?=some (.cells cur e (0,0))) (k:Nat) (h0:0<k) (hs:0<i.size) (h63:(k:Int)≤9223372036854775807) (h48:k*i.bytes≤281474976710656)
 (hroom:sLen+k≤sCap) (hfit:sLen*i.size+(Builtin.zeroCells z.cells k).toList.length≤cur.size) (h1:∀u∈(Builtin.zeroCells z.cells k).toList,u.oneCell'=true) :
 (Builtin.append_ #[t,tn] ty #[.slice (some ⟨g,0,none⟩) sLen sCap,.int kq k]).run P w =
   .ok (.slice (some ⟨g,0,none⟩) (sLen+k) sCap) (w.setRow g (cur.toList.take (sLen*i.size)++(Builtin.zeroCells z.cells k).toList++cur.toList.drop (sLen*i.size+(Builtin.zeroCells z.cells k).toList.length)).toArray):=by
 have hk:k≠0:=by omega
 have hw:IntKind.i64.wrap (k:Int)=k:=by rw[IntKind.wrap_i64];omega
 have h48i:¬(281474976710656<(k:Int)*(i.bytes:Int)):=by
  rw[←Int.natCast_mul]
  omega
 have hneg:¬((k:Int)<0):=by omega
 have hns:¬(k*i.size=0):=Nat.mul_ne_zero hk (by omega)
 have hst:=run_storeCells_at P g (sLen*i.size) e (Builtin.zeroCells z.cells k).toList 0 cur w hg (by simpa using hfit) h1
 simp only[Nat.add_zero] at hst
 generalize hzc:Builtin.zeroCells z.cells k=Z at *
 simp[Builtin.append_,run_underlying ht,run_underlying htn,sizeOf,typeInfo,zeroValue,hi,hz,asInt,asIntOf,hw,hneg,hns,h48i,hroom,hzc,Addr.add_lit,hst]
theorem Qhb {w0:World} {τ0:Tags} {S:Tag→Prop}(hst:Step w0 τ0 w τ S) {g:Tag}{v:Value}{l:List Int}(hown:NB w0.heap.size w τ g v l) (hl:0<l.length) (n:Nat) (h0:0<n) (hn:l.length+n≤1000000) (ty:TypeId) :
 ∃v' w' τ',(Builtin.append_ #[37,3] ty #[v,.int .i64 (n:Int)]).run Tryz.prog w = .ok v' w'∧NB w0.heap.size w' τ' g v' (l++List.replicate n 0)∧Step w0 τ0 w' τ' S∧Step w τ w' τ' (fun t=>t=g):=by
 obtain⟨i0,hi,hz0,hz1,hz2⟩:=info_parts Tryz.infoU8
 have hB:IsB (l++List.replicate n 0):=hown.isB.append (fun x hx=>by rw[(List.mem_replicate.1 hx).2];omega)
 obtain⟨h1,⟨rfl,h2⟩|⟨b,cap,ys,rfl,ho,h3,h4,h5⟩⟩:=hown.buf
 ·omega
 have hzl:(Builtin.zeroCells (Value.int .u8 0).cells n).toList.length=n:=by rw[Qcj,Qac,List.length_replicate]
 have hlow:w0.heap.size≤b:=hown.low b rfl
 rw[Qac] at h1 h3
 by_cases hroom:l.length+n≤cap
 ·have hr:=Qga (P:=Tryz.prog) w 37 3 ty 5 i0 (.int .u8 0) .i64 .i64 Tryz.underlying37 Tryz.underlying3 hi hz0 b l.length cap (u8s l++ys).toArray ho.row n h0 (by rw[hz1];omega) (by omega) (by rw[hz2];omega) hroom
   (by rw[hzl,hz1,List.size_toArray,List.length_append,Qac];omega) (by rw[Qcj];exact Qkd _)
  have hrow:((u8s l++ys).toArray.toList.take (l.length*i0.size)++(Builtin.zeroCells (Value.int .u8 0).cells n).toList++(u8s l++ys).toArray.toList.drop (l.length*i0.size+(Builtin.zeroCells (Value.int .u8 0).cells n).toList.length))=u8s (l++List.replicate n 0)++ys.drop n:=by
   rw[hzl,hz1,Nat.mul_one,Qcj,Qig]
   have e1:(u8s l++ys).take l.length=u8s l:=by rw[←Qac l];exact List.take_left
   have e2:(u8s l++ys).drop (l.length+n)=ys.drop n:=by rw[←List.drop_drop,←Qac l,List.drop_left]
   show (u8s l++ys).take l.length++_++(u8s l++ys).drop (l.length+n)=_
   rw[e1,e2]
  rw[hrow] at hr
  have hmod:Mod w (w.setRow b (u8s (l++List.replicate n 0)++ys.drop n).toArray) (fun k=>k=b):=⟨rfl,rfl,rfl,by simp,fun k _ hk=>setRow_other w b k _ hk⟩
  have hs2:Step w τ (w.setRow b (u8s (l++List.replicate n 0)++ys.drop n).toArray) τ (fun t=>t=g):=⟨hmod.mono (fun k hk hS=>by rw[hS];exact ho.tag),Ext.refl _ _⟩
  refine⟨_,_,τ,hr,⟨⟨by rw[Qac,List.length_append,List.length_replicate,Nat.mul_one],.inr ⟨b,cap,ys.drop n,by rw[List.length_append,List.length_replicate],⟨setRow_heap w b _ _ 5 _ ho.row,ho.tag⟩,?_,by rw[List.length_append,List.length_replicate];exact hroom,h5⟩⟩,hB,fun k hk=>by
   have:b=k:=by simpa [Value.ownBlock] using hk
   rw[←this];exact hlow⟩,⟨hst.mod.seq hmod (fun k hk hS=>absurd hk (by omega)),hst.ext⟩,hs2⟩
  rw[Qac,List.length_append,List.length_replicate,List.length_drop];omega
 ·have hold:(Builtin.firstCells i0.size l.length (.slice (some ⟨b,0,none⟩) l.length cap)).run Tryz.prog w.drew = .ok (u8s l).toArray w.drew:=by
   refine run_firstCells_some (P:=Tryz.prog) w.drew i0.size l.length ⟨b,0,none⟩ l.length cap (u8s l) (by rw[Qac,hz1,Nat.mul_one]) (fun j u hu=>?_)
   rw[Qid]
   refine ho.drew.at j ?_
   rw[List.getElem?_append_left (List.getElem?_eq_some_iff.1 hu).1];exact hu
  have hr:=Lib.run_append_grow_zeros (P:=Tryz.prog) w 37 3 ty 5 i0 (.int .u8 0) .i64 .i64 Tryz.underlying37 Tryz.underlying3 hi hz0 (some ⟨b,0,none⟩) l.length cap (u8s l) hold n h0 (by rw[hz1];omega) (by omega) (by omega) (by rw[hz2];omega) (growslice_fits (by omega) (by rw[hz2];omega))
  have hge:=grownCap_ge w (l.length+n) cap 5
  have hcm:grownCap w (l.length+n) cap 5 ≤ maxLen:=grownCap_le_maxLen w (l.length+n) cap _ (by unfold maxLen;omega)
  generalize grownCap w (l.length+n) cap 5 = G at *
  have hcs:((u8s l).toArray++Builtin.zeroCells (Value.int .u8 0).cells n++Builtin.zeroCells (Value.int .u8 0).cells (G-(l.length+n)))=(⟨u8s (l++List.replicate n 0)++u8s (List.replicate (G-(l.length+n)) 0)⟩:Array Value):=by
   apply Array.toList_inj.1
   rw[Array.toList_append,Array.toList_append,Qcj,Qcj,Qig]
  rw[hcs] at hr
  have hs2:=((Step.refl w τ (fun t=>t=g)).drew).alloc (.cells ⟨u8s (l++List.replicate n 0)++u8s (List.replicate (G-(l.length+n)) 0)⟩ 5) g
  refine⟨_,_,τ.put w.heap.size g,hr,⟨⟨by rw[Qac,List.length_append,List.length_replicate,Nat.mul_one],.inr ⟨w.heap.size,G,u8s (List.replicate (G-(l.length+n)) 0),by rw[List.length_append,List.length_replicate],Own.new w.drew τ g 5 _,?_,by rw[List.length_append,List.length_replicate];exact hge,hcm⟩⟩,hB,fun k hk=>by
   have:w.heap.size=k:=by simpa [Value.ownBlock] using hk
   rw[←this];exact hst.size⟩,hst.drew.alloc _ g,hs2⟩
  simp only[Qac,List.length_append,List.length_replicate];omega
theorem Qf2 {w0:World} {τ0:Tags} {S:Tag→Prop}(hst:Step w0 τ0 w τ S) {g:Tag}{v:Value}{l:List Int}(hown:NB w0.heap.size w τ g v l) (hl:0<l.length) (n:Nat) (h0:0<n) (hn:l.length+n≤1000000)
 {ops:Array Oper} {rest:List Oper} {o:Oper} {a:Act} {Q:Exit→Act→World→Prop} (hgd:o.guard=none) (s x:Operand)
 (ho:o.op = .call {callee:=.builtin .append,args:=#[s,x],argTypes:=#[37,3]}) (hs:a.eval s=v) (hx:a.eval x = .int .i64 (n:Int))
 (h:∀v' w' τ',NB w0.heap.size w' τ' g v' (l++List.replicate n 0)→Step w0 τ0 w' τ' S→Step w τ w' τ' (fun t=>t=g)→wpList Tryz.prog ops Q rest (a.put o.dst v') w'):wpList Tryz.prog ops Q (o::rest) a w:=by
 refine wpList_plain hgd fun K hK=>?_
 obtain⟨v',w',τ',hr,h2,h3,h4⟩:=Qhb hst hown hl n h0 hn o.type
 unfold Oper.wp execOp
 simp only[ho,resolve,invoke,builtin,Sem.run_bind,Sem.run_pure,Result.andThen_ok,List.map_toArray,List.map_cons,List.map_nil,hs,hx,hr]
 exact hK _ _ (h v' w' τ' h2 h3 h4)
def RWalTag (g:Tag):Prop:=RLogTag g∨RDevTag g
def RWalR (w:World) (τ:Tags) (bl bd:Nat) (L:LogM) (D:Dev) (r:Value) (e:Ending) (w':World):Prop:=e = .returned r∧∃τ',RLogAt w' τ' bl bd L∧RDevAt w' τ' bd D∧Step w τ w' τ' RWalTag
theorem Jak(hl:RLogAt w τ bl bd L) (hd:RDevAt w τ bd D) (h2:2≤D.f0.length) (hlim:D.lim 800000) :
 Calls Tryz.prog 176 #[.pointer (some ⟨bl,0,none⟩)] w (RWalR w τ bl bd L.said (Qf9 L D) (.tuple #[])):=by
 have hok:=hl.ok
 have hB:=hl.isB
 obtain⟨vs,vt,ho,hs,ht⟩:=hl.is
 have hsl:=hok.slot
 have c8:=ho.at 8 (v:=.int .u64 (L.stamp:Int)) rfl
 have z8:=ho.fz 8
 have c9:=ho.at 9 (v:=.int .i64 (L.slot:Int)) rfl
 have z9:=ho.fz 9
 have ho1:=(ho.set 8 (.int .u64 (((L.stamp+1)%18446744073709551616:Nat):Int))).set 9 (.int .i64 ((1-L.slot:Nat):Int))
 have hstw:Step w τ ((w.setCell ⟨bl,8,none⟩ (.int .u64 (((L.stamp+1)%18446744073709551616:Nat):Int))).setCell ⟨bl,9,none⟩ (.int .i64 ((1-L.slot:Nat):Int))) τ (fun g=>g=tRLog):=((Step.refl w τ (fun g=>g=tRLog)).set (o:=8) ho.tag rfl _).set (o:=9) (ho.set 8 (.int .u64 (((L.stamp+1)%18446744073709551616:Nat):Int))).tag rfl _
 have hl1:RLogAt ((w.setCell ⟨bl,8,none⟩ (.int .u64 (((L.stamp+1)%18446744073709551616:Nat):Int))).setCell ⟨bl,9,none⟩ (.int .i64 ((1-L.slot:Nat):Int))) τ bl bd L.said :=
  ⟨⟨vs,vt,ho1,hs.step hstw (by simp[Qee,tRLog]),ht.step hstw (by simp[Qef,tRLog])⟩,hB,hok.said⟩
 have hd1:=hd.step hstw (fun g hg=>by subst hg;exact⟨Qc0 (.inl rfl),by simp[tRLog,tData]⟩)
 have hw:=Qrw L.stamp
 have hcs:(1:Int)-(L.slot:Int)=((1-L.slot:Nat):Int):=by omega
 have hsaid:L.said={L with stamp:=(L.stamp+1)%18446744073709551616,slot:=1-L.slot}:=rfl
 have hst1:=hstw.mono (T:=RLogTag) (fun g hg=>.inl hg)
 generalize hLs:L.said=Ls at *
 have e0:Ls.stamp=(L.stamp+1)%18446744073709551616:=by rw[hsaid]
 have e6:Ls.slot=1-L.slot:=by rw[hsaid]
 rw[←e0] at hw hst1 hl1 hd1
 rw[←e6] at hcs hst1 hl1 hd1
 have hsd:Qf9 L D=(D.write 0 Ls.slot Ls.head).sync 0:=by unfold Qf9;rw[hLs]
 have hoks:=hl1.ok
 obtain⟨Hst1,Hl1,Hd1,Hlim,Hsd,Hoks⟩:=hid6 hst1 hl1 hd1 hlim hsd hoks
 clear hst1 hl1 hd1 hlim hsd hoks ho hs ht ho1 hstw hl hd hok hsaid e0 e6 hB
 go_enter Tryz.func176,Tryz.ntmps176
 go_wp2_with fail
 generalize (w.setCell ⟨bl,8,none⟩ (.int .u64 (Ls.stamp:Int))).setCell ⟨bl,9,none⟩ (.int .i64 (Ls.slot:Int))=W1 at *
 obtain⟨vs1,vt1,ho1,-,-⟩:=Hl1.out.is
 clear c8 z8 c9 z9
 have hba:=Hoks.out.base
 have har:=Hoks.out.area
 have hsl2:=Hoks.out.slot
 have hp1:=r1put W1 τ tOut Ls.stamp 8 Hoks.out.stamp (by omega) (by omega)
 have hpb:=fun W t=>r1put W t tData Ls.base 8 (by omega) (by omega) (by omega)
 have hpc:=fun W t=>r1put W t tData Ls.check 8 Hoks.out.check (by omega) (by omega)
 have hps:=fun W t=>r1put W t tData Ls.stamp 8 Hoks.out.stamp (by omega) (by omega)
 have hwa:IntKind.u8.wrap (Ls.area:Int)=(Ls.area:Int):=by
  have:IntKind.u8.wrap (Ls.area:Int)=(Ls.area:Int)%256:=by simp[IntKind.wrap,IntKind.bits,IntKind.signed]
  rw[this];omega
 have hhead:Ls.head=headB Ls.stamp Ls.base Ls.check Ls.area:=rfl
 unfold headB at hhead
 have c8:=ho1.at 8 (v:=.int .u64 (Ls.stamp:Int)) rfl
 obtain⟨Ho1,Hp1,Hpb,Hpc,Hps,Hhead⟩:=hid6 ho1 hp1 hpb hpc hps hhead
 clear ho1 hp1 hpb hpc hps hhead
 go_wp2_with fail
 refine Hp1.out.mono ?_
 rintro e w2 ⟨v2,τ2,rfl,hn2,hs2⟩
 have ho2:=Ho1.out.step hs2 (fun h=>h)
 have c22:=ho2.at 2 (v:=.int .i64 (Ls.area:Int)) rfl
 obtain⟨L2,hL2⟩:∃L,L=leB Ls.stamp 8:=⟨_,rfl⟩
 have hl2:L2.length=8:=by rw[hL2,Qaa]
 rw[←hL2] at hn2
 obtain⟨p2,k2,rfl⟩:=hn2.val
 rw[hl2] at hn2 ⊢
 obtain⟨Hn2,Hs2,HL2,Hl2⟩:=hid4 hn2 hs2 hL2 hl2
 clear hn2 hs2 hL2 hl2 ho2
 have harx:(0:Int)≤(Ls.area:Int)∧(Ls.area:Int)≤255:=by omega
 go_wp2_with (at_builtin;refine Qez Hs2.out (v:=.slice p2 8 k2) Hn2.out (Ls.area:Int) harx (by rw[Hl2.out];omega) rfl rfl _ _ rfl rfl rfl ?_;intro v3 w3 τ3 hn3 hs3 hq3;clear hq3;obtain⟨L3,hL3⟩:∃L,L=L2++[(Ls.area:Int)]:=⟨_,rfl⟩;have hl3:L3.length=9:=by {rw[hL3,List.length_append,Hl2.out];rfl}
              rw[←hL3] at hn3
              obtain⟨p3,k3,rfl⟩:=hn3.val
              rw[hl3] at hn3 ⊢
              have c33:=(Ho1.out.step hs3 (fun h=>h)).at 3 (v:=.int .u64 (Ls.base:Int)) rfl
              obtain⟨Hn3,Hs3,HL3,Hl3⟩:=hid4 hn3 hs3 hL3 hl3
              clear hn3 hs3 hL3 hl3)
 refine(Hpb.out w3 τ3).mono ?_
 rintro e w4 ⟨v4,τ4,rfl,hm4,hq4⟩
 have hs4:=Hs3.out.trans hq4
 have hn4:=Hn3.out.step hq4 (fun h=>h)
 have hb4:=hm4.bytes
 obtain⟨p4,k4,rfl⟩:=hm4.val
 rw[Qaa] at hb4 ⊢
 obtain⟨Hs4,Hn4,Hb4⟩:=hid3 hs4 hn4 hb4
 clear hs4 hn4 hb4 hm4 hq4
 go_wp2_with (at_builtin;refine Qal Hs4.out (v:=.slice p3 9 k3) Hn4.out Hb4.out (by rw[Hl3.out,Qaa];omega) rfl _ _ rfl rfl rfl ?_;intro v5 w5 τ5 hn5 hs5 hq5;clear hq5;obtain⟨L5,hL5⟩:∃L,L=L3++leB Ls.base 8:=⟨_,rfl⟩;have hl5:L5.length=17:=by {rw[hL5,List.length_append,Hl3.out,Qaa]}
              rw[←hL5] at hn5
              obtain⟨p5,k5,rfl⟩:=hn5.val
              rw[hl5] at hn5 ⊢
              have c57:=(Ho1.out.step hs5 (fun h=>h)).at 7 (v:=.int .u64 (Ls.check:Int)) rfl
              obtain⟨Hn5,Hs5,HL5,Hl5⟩:=hid4 hn5 hs5 hL5 hl5
              clear hn5 hs5 hL5 hl5)
 refine(Hpc.out w5 τ5).mono ?_
 rintro e w6 ⟨v6,τ6,rfl,hm6,hq6⟩
 have hs6:=Hs5.out.trans hq6
 have hn6:=Hn5.out.step hq6 (fun h=>h)
 have hb6:=hm6.bytes
 obtain⟨p6,k6,rfl⟩:=hm6.val
 rw[Qaa] at hb6 ⊢
 obtain⟨Hs6,Hn6,Hb6⟩:=hid3 hs6 hn6 hb6
 clear hs6 hn6 hb6 hm6 hq6
 go_wp2_with (first
  | (at_builtin
     refine Qal Hs6.out (v:=.slice p5 17 k5) Hn6.out Hb6.out (by rw[Hl5.out,Qaa];omega) rfl _ _ rfl rfl rfl ?_;intro v7 w7 τ7 hn7 hs7 hq7;clear hq7;obtain⟨L7,hL7⟩:∃L,L=L5++leB Ls.check 8:=⟨_,rfl⟩;have hl7:L7.length=25:=by {rw[hL7,List.length_append,Hl5.out,Qaa]}
     rw[←hL7] at hn7
     obtain⟨p7,k7,rfl⟩:=hn7.val
     rw[hl7] at hn7 ⊢
     have c78:=(Ho1.out.step hs7 (fun h=>h)).at 8 (v:=.int .u64 (Ls.stamp:Int)) rfl
     obtain⟨Hn7,Hs7,HL7,Hl7⟩:=hid4 hn7 hs7 hL7 hl7
     clear hn7 hs7 hL7 hl7)
  | (at_builtin
     refine Qf2 Hs7.out (v:=.slice p7 25 k7) Hn7.out (by rw[Hl7.out];omega) 95 (by omega) (by rw[Hl7.out];omega) rfl _ _ rfl rfl rfl ?_;intro v8 w8 τ8 hn8 hs8 hq8;clear hq8;obtain⟨L8,hL8⟩:∃L,L=L7++List.replicate 95 0:=⟨_,rfl⟩;have hl8:L8.length=120:=by {rw[hL8,List.length_append,Hl7.out,List.length_replicate]}
     rw[←hL8] at hn8
     obtain⟨p8,k8,rfl⟩:=hn8.val
     rw[hl8] at hn8 ⊢
     have c88:=(Ho1.out.step hs8 (fun h=>h)).at 8 (v:=.int .u64 (Ls.stamp:Int)) rfl
     obtain⟨Hn8,Hs8,HL8,Hl8⟩:=hid4 hn8 hs8 hL8 hl8
     clear hn8 hs8 hL8 hl8))
 refine(Hps.out w8 τ8).mono ?_
 rintro e w9 ⟨v9,τ9,rfl,hm9,hq9⟩
 have hs9:=Hs8.out.trans hq9
 have hn9:=Hn8.out.step hq9 (fun h=>h)
 have hb9:=hm9.bytes
 obtain⟨p9,k9,rfl⟩:=hm9.val
 rw[Qaa] at hb9 ⊢
 obtain⟨Hs9,Hn9,Hb9⟩:=hid3 hs9 hn9 hb9
 clear hs9 hn9 hb9 hm9 hq9
 go_wp2_with (at_builtin;refine Qal Hs9.out (v:=.slice p8 120 k8) Hn9.out Hb9.out (by rw[Hl8.out,Qaa];omega) rfl _ _ rfl rfl rfl ?_;intro v10 w10 τ10 hn10 hs10 hq10;clear hq10;obtain⟨L10,hL10⟩:∃L,L=L8++leB Ls.stamp 8:=⟨_,rfl⟩;have hl10:L10.length=128:=by {rw[hL10,List.length_append,Hl8.out,Qaa]}
              rw[←hL10] at hn10
              obtain⟨p10,k10,rfl⟩:=hn10.val
              rw[hl10] at hn10 ⊢
              obtain⟨Hn10,Hs10,HL10,Hl10⟩:=hid4 hn10 hs10 hL10 hl10
              clear hn10 hs10 hL10 hl10)
 have hbytes:=Hn10.out.bytes
 have hLH:L10=Ls.head:=by rw[HL10.out,HL8.out,HL7.out,HL5.out,HL3.out,HL2.out,Hhead.out]
 rw[hLH] at hbytes
 have hlh:Ls.head.length=128:=by rw[←hLH];exact Hl10.out
 have hd10:=Hd1.out.step Hs10.out (fun _ h=>h.elim)
 have hl10:=Hl1.out.step Hs10.out (fun _ _ h=>h)
 obtain⟨vs10,vt10,ho10,-,-⟩:=hl10.is
 have c100:=ho10.at 0 (v:=.pointer (some ⟨bd,0,none⟩)) rfl
 have c109:=ho10.at 9 (v:=.int .i64 (Ls.slot:Int)) rfl
 have hwt:=Qqq (hd10.step (Step.refl w10 τ10 nil).drew (fun _ h=>h.elim)) 0 (by omega) Ls.slot (by have hq:D.file 0=D.f0:=rfl;rw[hq];omega) (hbytes.step (Step.refl w10 τ10 nil).drew (fun h=>h)) hlh (by simp[RDevTag,tOut]) (Dev.lim_mono Hlim.out (by omega))
 obtain⟨Hl10,Hwt⟩:=hid2 hl10 hwt
 clear hl10 hwt ho10 hd10 hbytes hLH hlh
 go_wp2_with fail
 go_region_held3 (fun w'=>w'.cell? ⟨bl,0,none⟩=some (.pointer (some ⟨bd,0,none⟩))∧w'.cell? ⟨bl,9,none⟩=some (.int .i64 (Ls.slot:Int))) (go_keep) (first
  | (go_at_call 246
     refine Hwt.out.mono ?_
     rintro e w11 ⟨rfl,τ11,hd11,hs11⟩
     have hl11:=(Hl10.out.step (Step.refl w10 τ10 nil).drew (fun _ _ h=>h)).step hs11 (fun g hg hS=>Qc0 hg hS)
     obtain⟨vs11,vt11,ho11,-,-⟩:=hl11.is
     have d0:=ho11.at 0 (v:=.pointer (some ⟨bd,0,none⟩)) rfl
     have d9:=ho11.at 9 (v:=.int .i64 (Ls.slot:Int)) rfl
     have hsy:=Qyl hd11 0 (by omega)
     obtain⟨Hl11,Hs11,Hsy⟩:=hid3 hl11 hs11 hsy
     clear hl11 hs11 hsy
     clear ho11 hd11))
 go_wp2_with fail
 refine Hsy.out.mono ?_
 rintro e w12 ⟨rfl,τ12,hd12,hs12⟩
 have hl12:=Hl11.out.step hs12 (fun g hg hS=>Qc0 hg hS)
 have hall:=(((Hst1.out.mono (T:=RWalTag) (fun _ h=>.inl h)).trans ((Hs10.out.drew).mono (fun _ h=>h.elim))).trans (Hs11.out.mono (T:=RWalTag) (fun _ h=>.inr h))).trans (hs12.mono (T:=RWalTag) (fun _ h=>.inr h))
 obtain⟨Hl12,Hd12,Hall⟩:=hid3 hl12 hd12 hall
 clear hl12 hd12 hall hs12
 go_wp2_with fail
 go_returns
 exact⟨rfl,τ12,Hl12.out,by rw[Hsd.out];exact Hd12.out,Hall.out⟩
theorem Qu6(h:RDevAt w τ bd D) (h18:18≤D.f0.length) (hlim:D.lim 700000) :
 Calls Tryz.prog 110 #[.pointer (some ⟨bd,0,none⟩)] w fun e w'=>∃bl τ',e = .returned (.tuple #[.pointer (some ⟨bl,0,none⟩),.int .i64 0])∧w.heap.size≤bl∧RLogAt w' τ' bl bd (walNewLog D.f0.length)∧RDevAt w' τ' bd (Qbl D)∧Step w τ w' τ' RWalTag:=by
 have h1:=Qxa h h18
 have hlen:=Qgt h 0 (by omega)
 have hf0:D.file 0=D.f0:=rfl
 rw[hf0] at hlen
 generalize hn:D.f0.length=n at *
 have hwd:Qbl D=Qf9 (Qb8 n) (D.make 0 n []):=by unfold Qbl;rw[hn]
 obtain⟨H1,H_h,Hlim,Hwd,Hn⟩:=hid5 h1 h hlim hwd hn
 clear h1 h hlim hwd hn hf0
 go_enter Tryz.func110,Tryz.ntmps110
 go_wp2_with fail
 refine H1.out.mono ?_
 rintro e w1 ⟨bl,τ1,rfl,hlow,hl1,hs1⟩
 have hd1:=H_h.out.step hs1 (fun _ h=>h.elim)
 have hsz:=Qkr hd1 0 (by omega)
 have hf0:D.file 0=D.f0:=rfl
 rw[hf0,Hn.out] at hsz
 have hmk:=r8lay hl1 hd1 (g:=tData) (v:=.slice none 0 0) (want:=[]) (.inl ⟨rfl,rfl⟩) Qei 0 n (by rw[Hn.out];omega) (Dev.lim_mono Hlim.out (by omega))
 obtain⟨Hl1,Hs1,Hd1,Hsz,Hmk⟩:=hid5 hl1 hs1 hd1 hsz hmk
 clear hl1 hs1 hd1 hsz hmk H1 hf0
 go_wp2_with fail
 refine Hsz.out.mono ?_
 rintro e w' ⟨rfl,rfl⟩
 go_wp2_with fail
 refine Hmk.out.mono ?_
 rintro e w2 ⟨rfl,τ2,hd2,hs2⟩
 have hl2:=Hl1.out.step hs2 (fun g hg hS=>Qc0 hg hS)
 have hok2:=hl2.ok
 obtain⟨vs,vt,ho2,hb2,ht2⟩:=hl2.is
 have c1:=ho2.at 3 (v:=.int .u64 0) rfl
 have z1:=ho2.fz 3
 have c6:=ho2.at 9 (v:=.int .i64 0) rfl
 have z6:=ho2.fz 9
 have hst2:Step w2 τ2 ((w2.setCell ⟨bl,3,none⟩ (.int .u64 1)).setCell ⟨bl,9,none⟩ (.int .i64 1)) τ2 (fun g=>g=tRLog):=((Step.refl w2 τ2 (fun g=>g=tRLog)).set (o:=3) ho2.tag rfl _).set (o:=9) (ho2.set 3 (.int .u64 1)).tag rfl _
 have hl3:RLogAt ((w2.setCell ⟨bl,3,none⟩ (.int .u64 1)).setCell ⟨bl,9,none⟩ (.int .i64 1)) τ2 bl bd (Qb8 n) :=
  ⟨⟨vs,vt,(ho2.set 3 (.int .u64 1)).set 9 (.int .i64 1),hb2.step hst2 (by simp[Qee,tRLog]),ht2.step hst2 (by simp[Qef,tRLog])⟩,hl2.isB,⟨hok2.stamp,by simp[Qb8],hok2.check,hok2.area,hok2.strips,by simp[Qb8],hok2.stream,hok2.starts,hok2.lasts⟩⟩
 have hd3:=hd2.step hst2 (fun g hg=>by subst hg;exact⟨Qc0 (.inl rfl),by simp[tRLog,tData]⟩)
 have hsay:=Jak hl3 hd3 (by have:=Dev.make_length D 0 n [] 0;have hq:∀E:Dev,E.file 0=E.f0:=fun _=>rfl;rw[hq,hq,Hn.out] at this;omega) (Dev.lim_mono (Dev.make_lim Hlim.out 0 n []) (by omega))
 obtain⟨Hs2,Hst2,Hl3,Hd3,Hsay⟩:=hid5 hs2 hst2 hl3 hd3 hsay
 clear hs2 hst2 hl3 hd3 hsay ho2 hb2 ht2 hl2 hok2 hd2
 go_wp2_with fail
 refine Hsay.out.mono ?_
 rintro e w4 ⟨rfl,τ4,hl4,hd4,hs4⟩
 obtain⟨Hl4,Hd4,Hs4⟩:=hid3 hl4 hd4 hs4
 clear hl4 hd4 hs4
 go_wp2_with fail
 go_ret2
 refine⟨bl,τ4,rfl,hlow,Hl4.out,by rw[Hwd.out];exact Hd4.out,?_⟩
 exact(((Hs1.out.mono (fun _ h=>h.elim)).trans (Hs2.out.mono (T:=RWalTag) (fun _ h=>.inr h))).trans (Hst2.out.mono (T:=RWalTag) (fun _ h=>.inl (.inl h)))).trans Hs4.out
end Go.Proofs.YtemacanaihaldaaGreat