/-
 The program's device: Write that is done.
-/
import Derived.Test.YtemacanaihaldaaGreatMDev
import Derived.Deep.AppendLies
import Derived.RegionTactic
import Derived.Deep.RegionLaw
import Derived.Handy
import Derived.Deep.Cut
set_option linter.all false
namespace Go.Proofs.YtemacanaihaldaaGreat
variable {D:Dev}{b bd f row:Nat}{v0 v1:Value}{w w0 wr:World}{τ τ0:Tags}
open Go.RowKit
theorem Bytes.drew {g:Tag} {v:Value} {l:List Int}(h:Bytes w τ g v l):Bytes w.drew τ g v l:=⟨h.isB,h.is⟩
theorem Buf.own {g:Tag} {e:TypeId} {size:Nat} {v:Value} {n:Nat} {xs:List Value}(h:Buf w τ g e size v n xs):∀b,v.ownBlock=some b→τ b=g∧b<w.heap.size:=by
 intro b hb
 rcases h.2 with ⟨rfl,_⟩|⟨b',cap,ys,rfl,ho,_⟩
 ·simp[Value.ownBlock] at hb
 ·have:b'=b:=by simpa [Value.ownBlock] using hb
  subst this
  exact⟨ho.tag,ho.lt⟩
theorem Buf.len {g:Tag} {e:TypeId} {size:Nat} {v:Value} {n:Nat} {xs:List Value}(h:Buf w τ g e size v n xs):∃p c,v = .slice p n c:=by
 rcases h.2 with ⟨rfl,rfl⟩|⟨b',cap,ys,rfl,ho,_⟩
 ·exact⟨_,_,rfl⟩
 ·exact⟨_,_,rfl⟩
def Qyw (w:World) (τ:Tags) (b:Nat) (D:Dev) (f k:Nat) (l:List Int) (e:Ending) (w':World):Prop :=
 e = .returned (.int .u16 0)∧∃τ',DevAt w' τ' b D∧Ext w τ τ'∧Mod w w' (fun j=>τ j=tDev∨τ j=tLeft∨Ql2 f (τ j))
theorem Dev.go_file (D:Dev) (f:Nat):D.go.2.file f=D.file f:=by
 unfold Dev.go
 split <;> rfl
theorem Qsq {w1 w2 w3:World} {τ2 τ3:Tags} {k:Nat} {s:Sec} {l:List Int} {bf cap cw cu n3:Nat} {pw pu p3:Option Addr}{xs ys:List Value}
 (hf:f<2) (hk:(D.file f)[k]?=some s) (h1:(D.file f).length≤cap) (h2:(D.file f).length≤4096) (hv:fileV v0 v1 f = .slice (some ⟨bf,0,none⟩) (D.file f).length cap)
 (hl:l.length=128) (BU:Buf w1 τ (tWait f k) 37 1 (.slice pw s.waits.length cw) s.waits.length ys) (KK:Mod w w1 fun k=>τ k=tDev∨τ k=tLeft) (K2:DevAs w1 τ b D.go.2 v0 v1)
 (K3:∀j t,(D.file f)[j]?=some t→SecIn w1 τ f j xs t) (K4:∀(k:Nat) (x:List Int),s.waits[k]?=some x→x.length=128∧∃u,ys[k]?=some u∧Bytes w1 τ tData u x)
 (K5:Own w1 τ bf (tRow f) 113 xs) (B2:Bytes w2 τ2 tData (.slice pu l.length cu) l) (E2:Ext w1.drew τ τ2) (M2:Mod w1 w2 no) (O3:Own w3 τ3 bf (tRow f) 113 xs)
 (B3:Buf w3 τ3 (tWait f k) 37 1 (.slice p3 (s.waits.length+1) n3) (s.waits.length+1) (ys++[.slice pu l.length cu]))
 (E3:Ext (w2.alloc (.cells #[.slice pu l.length cu] 37)) (τ2.put w2.heap.size tData) τ3) (M3:Mod (w2.alloc (.cells #[.slice pu l.length cu] 37)) w3 fun k=>(Value.slice pw s.waits.length cw).ownBlock=some k) :
 Qyw w τ b (D.go.2.put f ((D.file f).set k (s.add l))) f k l (.returned (.int .u16 0)) (w3.setCell ⟨bf,k*2+1,none⟩ (.slice p3 (s.waits.length+1) n3)):=by
 have m1:Mod w1 w2 (fun j=>j=bf∨τ j=tWait f k):=M2.mono (fun _ _ h=>h.elim)
 have m3:Mod w1 w3 (fun j=>j=bf∨τ j=tWait f k):=(m1.alloc _).seq M3 (fun j hj hx=>.inr ((BU.own j hx).1))
 have m4:Mod w1 (w3.setCell ⟨bf,k*2+1,none⟩ (.slice p3 (s.waits.length+1) n3)) (fun j=>j=bf∨τ j=tWait f k):=m3.setCell (fun _=>.inl rfl) _
 have e:Ext w1 τ τ3:=Ext.trans (w:=w1) (a:=w2.alloc (.cells #[.slice pu l.length cu] 37)) (Ext.put (w:=w1) E2 w2.heap.size tData M2.size) E3 (by have:=M2.size;simp;omega)
 have BU2:=BU.mod M2 (show Ext w1 τ τ2 from E2) (fun _ _ _ h=>h)
 have ob2:=K5.mod M2 (show Ext w1 τ τ2 from E2) (fun h=>h)
 have n4:Mod w2 (w3.setCell ⟨bf,k*2+1,none⟩ (.slice p3 (s.waits.length+1) n3)) (fun j=>j=bf∨τ2 j=tWait f k) :=
  (((Mod.refl w2 _).alloc _).seq M3 (fun j hj hx=>.inr ((BU2.own j hx).1))).setCell (fun _=>.inl rfl) _
 have e2:Ext w2 τ2 τ3:=Ext.trans (w:=w2) (a:=w2.alloc (.cells #[.slice pu l.length cu] 37)) ((Ext.refl w2 τ2).put w2.heap.size tData (Nat.le_refl _)) E3 (by simp)
 have hw:Waits (w3.setCell ⟨bf,k*2+1,none⟩ (.slice p3 (s.waits.length+1) n3)) τ3 (tWait f k) (.slice p3 (s.waits.length+1) n3) (s.add l).waits:=by
  have hlen:(s.add l).waits.length=s.waits.length+1:=by simp[Sec.add]
  have hys:ys.length=s.waits.length:=by have:=BU.1;omega
  have b4:=B3.mod (Mod.one w3 bf (k*2+1) (.slice p3 (s.waits.length+1) n3)) (Ext.refl w3 τ3) (fun j _ ht hj=>by rw[hj,O3.tag] at ht;simp[tRow,tWait] at ht)
  generalize w3.setCell ⟨bf,k*2+1,none⟩ (.slice p3 (s.waits.length+1) n3)=W at b4 m4 n4 ⊢
  rw[←hlen] at b4 ⊢
  refine b4.waits (fun j x hx=>?_)
  by_cases hj:j<s.waits.length
  ·have hx':s.waits[j]?=some x:=by
    simp only[Sec.add] at hx
    rwa [List.getElem?_append_left hj] at hx
   obtain⟨a,u,hu,hbu⟩:=K4 j x hx'
   refine⟨a,u,by rw[List.getElem?_append_left (by omega)];exact hu,hbu.mod m4 e (fun i _ ht hS=>?_)⟩
   rcases hS with rfl|hS
   ·rw[K5.tag] at ht;simp[tRow,tData] at ht
   ·rw[ht] at hS;simp[tWait,tData] at hS
  ·simp only[Sec.add] at hx
   rw[List.getElem?_append_right (by omega)] at hx
   have hj0:j-s.waits.length=0:=by
    have:=(List.getElem?_eq_some_iff.1 hx).1
    simp at this;omega
   rw[hj0] at hx
   have hxl:x=l:=by simpa using hx.symm
   subst hxl
   refine⟨hl,_,by rw[List.getElem?_append_right (by omega),show j-ys.length=0 by omega];rfl,B2.mod n4 e2 (fun i _ ht hS=>?_)⟩
   rcases hS with rfl|hS
   ·rw[ob2.tag] at ht;simp[tRow,tData] at ht
   ·rw[ht] at hS;simp[tWait,tData] at hS
 have hfile:=File.add rfl h1 h2 hk m4 e (fun j _ h=>h) K5.tag (O3.set (k*2+1) (.slice p3 (s.waits.length+1) n3)) K3 (s':=s.add l) rfl hw
 rw[←hv] at hfile
 have hd:=K2.put f hf m4 e (fun j _ h=>h.elim (fun h=>by rw[h];exact .inl K5.tag) (fun h=>.inr ⟨k,h⟩)) _ hfile
 refine⟨rfl,τ3,hd.at,fun j hj=>e j (Nat.lt_of_lt_of_le hj KK.size),(KK.mono (fun j _ h=>?_)).seq m4 (fun j hj h=>?_)⟩
 ·rcases h with h|h
  ·exact .inl h
  ·exact .inr (.inl h)
 ·rcases h with rfl|h
  ·exact .inr (.inr (.inl K5.tag))
  ·exact .inr (.inr (.inr ⟨k,h⟩))
theorem Qug(h:DevAt w τ b D) (f:Nat) (hf:f<2) (k:Nat) (s:Sec) (hk:(D.file f)[k]?=some s) {p:Option Addr}{c:Nat}{l:List Int}{g:Tag}(hl:l.length=128) (hb:Bytes w τ g (.slice p 128 c) l) (hgt:g≠tDev∧g≠tLeft) (hbig:s.waits.length<1000000) (hg:D.go.1=true) :
 Calls Tryz.prog 100 #[.pointer (some ⟨b,0,none⟩),.int .u8 (f:Int),.int .i64 (k:Int),.slice p 128 c] w (Qyw w τ b (D.go.2.put f ((D.file f).set k (s.add l))) f k l):=by
 obtain⟨v0,v1,ha⟩:=h.as
 obtain⟨q,cap,hv,h1,h2,hp⟩:=ha.file f
 have hkl:=(List.getElem?_eq_some_iff.1 hk).1
 obtain⟨bf,xs,rfl,ho,hs⟩:=hp (by omega)
 have hc:=at_as ha f (by omega) hv h2 k hkl
 have hgo:=Qre ha
 rw[hg] at hgo
 obtain⟨HC,HG⟩:=hid2 hc hgo
 clear hc hgo hg
 go_enter Tryz.func100,Tryz.ntmps100
 go_wp2_with fail
 refine HC.out.mono ?_
 rintro e w' ⟨rfl,rfl⟩
 go_wp2_with fail
 refine HG.out.mono ?_
 rintro e w1 ⟨rfl,hd,hm,hz⟩
 have ho1:=ho.mod hm (Ext.refl _ _) (by rw[ho.tag];simp[tRow,tDev,tLeft])
 have hs1:∀j t,(D.file f)[j]?=some t→SecIn w1 τ f j xs t:=fun j t hj =>
  (hs j t hj).mod hm (Ext.refl _ _) (fun i hi ht=>by rw[ht];simp[tWait,tDev,tLeft]) (fun i hi ht=>by rw[ht];simp[tData,tDev,tLeft])
 have hb1:=hb.mod hm (Ext.refl _ _) (fun i hi ht=>by rw[ht];simp[hgt.1,hgt.2])
 obtain⟨_,uw,hu,hw⟩:=hs1 k s hk
 obtain⟨ys,hbuf,hys⟩:=hw.buf
 have hcl:=Qeb hb1.drew tData (by omega)
 have c1:=ho1.at _ hu
 have f1:=ho1.fz (k*2+1)
 obtain⟨CL,LL⟩:=hid2 hcl hl
 obtain⟨pw,cw,rfl⟩:=hw.len
 obtain⟨HU,BU,KK,K2,K3,K4,K5⟩:=hid7 hu hbuf hm hd hs1 hys ho1
 clear h hp hl hb hm hd hz hw hu hcl hbuf hys hs1 ho1 hb1 hs ho
 obtain⟨i0,hi,hz0,hz1,hz2⟩:=info_parts Tryz.infoU8s
 have lb:bf<w1.heap.size:=cell_lt c1
 have nb:(Value.slice pw s.waits.length cw).ownBlock≠some bf:=fun hx=>by
  have:=(BU.out.own bf hx).1
  rw[K5.out.tag] at this;simp[tRow,tWait] at this
 have NB:=Lib.hid nb
 clear nb
 go_wp2_with fail
 go_region_law (first
  | (go_simp;go_at_call 118;refine CL.out.mono ?_;rintro e w2 ⟨u,τ2,rfl,hb2,he2,hm2⟩
     obtain⟨pu,cu,rfl,-,-,-⟩:=id hb2.is
     have c2:=(hm2.cell bf (k*2+1) lb (fun h=>h)).trans c1
     have c2':(w2.alloc (.cells #[.slice pu l.length cu] 37)).cell? ⟨bf,k*2+1,none⟩=some (.slice pw s.waits.length cw):=(((Mod.refl w2 no).alloc _).cell bf (k*2+1) (cell_lt c2) (fun h=>h)).trans c2
     obtain⟨B2,E2⟩:=hid2 hb2 he2
     have M2:=Lib.hid ((Mod.refl w1 no).drew.trans hm2)
     clear hb2 he2 hm2)
  | (refine Qkl _ (τ2.put w2.heap.size tData) (tWait f k) rfl _ _ 52 rfl 37 i0 (.slice none 0 0) 1 24 Tryz.underlying52 hi hz0 hz1 hz2 rfl (by decide) (.slice pw s.waits.length cw) s.waits.length ys (by rfl) ((BU.out.mod M2.out E2.out (fun _ _ _ h=>h)).mod ((Mod.refl w2 no).alloc _) ((Ext.refl w2 τ2).put _ tData (Nat.le_refl _)) (fun _ _ _ h=>h)) (some ⟨w2.heap.size,0,none⟩) 1 1 [.slice pu l.length cu] (by rfl) rfl (by intro hx;cases hx) ?_ (by simp[Value.oneCell']) (by unfold maxLen;omega) (by omega) ?_
     ·intro ad had;cases had;exact World.news_of_block (cs:=#[.slice pu l.length cu]) (t := 37) (fr:=(0,0)) (heap_alloc_new w2 _)
     intro v3 w3 τ3 hb3 he3 hm3 hnw3
     clear hnw3
     obtain⟨p3,n3,rfl⟩:=hb3.len
     have o3:=((K5.out.mod M2.out E2.out (fun h=>h)).mod ((Mod.refl w2 no).alloc _) ((Ext.refl w2 τ2).put _ tData (Nat.le_refl _)) (fun h=>h)).mod hm3 he3 NB.out
     have f3:=o3.fz (k*2+1)
     have c3:=o3.at _ HU.out
     obtain⟨O3,B3,E3,M3⟩:=hid4 o3 hb3 he3 hm3
     clear hb3 he3 hm3 o3))
 all_goals go_wp2_with fail
 all_goals go_ret
 all_goals exact Qsq hf hk h1 h2 hv LL.out BU.out KK.out K2.out K3.out K4.out K5.out B2.out E2.out M2.out O3.out B3.out E3.out M3.out
def Sec.sync (s:Sec):Sec:=⟨s.newest,[]⟩
theorem Qut(h:DevAt w τ b D) (f:Nat) (hf:f<2) (hg:D.go.1=false) :
 Calls Tryz.prog 101 #[.pointer (some ⟨b,0,none⟩),.int .u8 (f:Int)] w fun e w'=>e = .returned (.tuple #[])∧DevAt w' τ b D.go.2∧Mod w w' (fun k=>τ k=tDev∨τ k=tLeft)∧w'.heap.size=w.heap.size:=by
 obtain⟨v0,v1,ha⟩:=h.as
 have hc:=Qrh ha f (by omega)
 have hgo:=Qsi h
 rw[hg] at hgo
 obtain⟨HC,HG⟩:=hid2 hc hgo
 have a2:decide ((2:Int)≤(f:Int))=false:=by simp;omega
 clear hc hgo ha h hg
 go_enter Tryz.func101,Tryz.ntmps101
 go_wp2_with fail
 refine HC.out.mono ?_
 rintro e w' ⟨rfl,rfl⟩
 go_wp2_with fail
 refine HG.out.mono ?_
 rintro e w' ⟨rfl,hd,hm,hz⟩
 obtain⟨D1,M1,Z1⟩:=hid3 hd hm hz
 clear hd hm hz
 go_wp2_with fail
 go_returns
 exact⟨rfl,D1.out,M1.out,Z1.out⟩
structure Synced (w1 w:World) (τ:Tags) (f bf:Nat) (l:List Sec) (k:Nat):Prop where
 is:∃xs,Own w τ bf (tRow f) 113 xs∧∀j t,l[j]?=some t→SecIn w τ f j xs (if j<k then t.sync else t)
 mod:Mod w1 w (fun j=>j=bf)
 size:w.heap.size=w1.heap.size
theorem Synced.step {w1:World} {bf:Nat} {l:List Sec} {k:Nat}(h:Synced w1 w τ f bf l k) {s:Sec}(hk:l[k]?=some s) {v:Value}(hb:Bytes w τ tData v s.newest) (hl:s.newest.length=128) :
 Synced w1 ((w.setCell ⟨bf,k*2,none⟩ v).setCell ⟨bf,k*2+1,none⟩ (.slice none 0 0)) τ f bf l (k+1):=by
 obtain⟨xs,ho,hs⟩:=h.is
 have m0:Mod w (w.setCell ⟨bf,k*2,none⟩ v) (fun j=>j=bf):=Mod.one w bf (k*2) v
 have m:Mod w ((w.setCell ⟨bf,k*2,none⟩ v).setCell ⟨bf,k*2+1,none⟩ (.slice none 0 0)) (fun j=>j=bf):=m0.setCell (p:=⟨bf,k*2+1,none⟩) (fun _=>rfl) (.slice none 0 0)
 have hd:∀i,i<w.heap.size→τ i=tData→¬i=bf:=fun i _ ht e=>by rw[e,ho.tag] at ht;simp[tRow,tData] at ht
 obtain⟨⟨a0,v0,hv0,_⟩,⟨u0,hu0,_⟩⟩:=hs k s hk
 have l0:=(List.getElem?_eq_some_iff.1 hv0).1
 have l1:=(List.getElem?_eq_some_iff.1 hu0).1
 refine⟨⟨(xs.set (k*2) v).set (k*2+1) (.slice none 0 0),(ho.set _ _).set _ _,fun j t hj=>?_⟩,?_,?_⟩
 ·by_cases hjk:j=k
  ·subst hjk
   rw[hk] at hj
   cases hj
   rw[if_pos (by omega)]
   refine⟨⟨hl,v,?_,hb.mod m (Ext.refl _ _) hd⟩,⟨.slice none 0 0,?_,.inl ⟨rfl,rfl⟩⟩⟩
   ·rw[List.getElem?_set_ne (by omega),List.getElem?_set_self l0]
   ·rw[List.getElem?_set_self (by simpa using l1)]
  ·have hi:=(hs j t hj).mod m (Ext.refl _ _) (fun i _ ht e=>by rw[e,ho.tag] at ht;simp[tRow,tWait] at ht) hd
   have hif:(if j<k+1 then t.sync else t)=(if j<k then t.sync else t):=by
    by_cases hlt:j<k
    ·rw[if_pos hlt,if_pos (by omega)]
    ·rw[if_neg hlt,if_neg (by omega)]
   rw[hif]
   obtain⟨⟨a,v',hv',hbv⟩,⟨q,hq,hwq⟩⟩:=hi
   refine⟨⟨a,v',?_,hbv⟩,⟨q,?_,hwq⟩⟩
   ·rw[List.getElem?_set_ne (by omega),List.getElem?_set_ne (by omega)];exact hv'
   ·rw[List.getElem?_set_ne (by omega),List.getElem?_set_ne (by omega)];exact hq
 ·exact h.mod.trans m
 ·have:=h.size
  simpa [World.setCell] using this
theorem Qw2(h:DevAt w τ b D) (f:Nat) (hf:f<2) (hg:D.go.1=true) :
 Calls Tryz.prog 101 #[.pointer (some ⟨b,0,none⟩),.int .u8 (f:Int)] w fun e w'=>e = .returned (.tuple #[])∧DevAt w' τ b (D.go.2.put f ((D.file f).map Sec.sync))∧Mod w w' (fun j=>τ j=tDev∨τ j=tLeft∨τ j=tRow f)∧w'.heap.size=w.heap.size:=by
 obtain⟨v0,v1,ha⟩:=h.as
 obtain⟨q,cap,hv,h1,h2,hp⟩:=ha.file f
 have hc:=Qrh ha f (by omega)
 rw[hv] at hc
 have hgo:=Qre ha
 rw[hg] at hgo
 obtain⟨HC,HG,HV,HP,HA⟩:=hid5 hc hgo hv hp ha
 have a2:decide ((2:Int)≤(f:Int))=false:=by simp;omega
 generalize hl:D.file f=l at *
 have HL:=Lib.hid hl
 clear hc hgo hg ha h hp hv hl
 go_enter Tryz.func101,Tryz.ntmps101
 go_wp2_with fail
 refine HC.out.mono ?_
 rintro e w' ⟨rfl,rfl⟩
 go_wp2_with fail
 refine HG.out.mono ?_
 rintro e w1 ⟨rfl,hd,hm,hz⟩
 obtain⟨D1,M1,Z1⟩:=hid3 hd hm hz
 clear hd hm hz
 go_wp2_with fail
 have HS:Hid (0<l.length→∃bf xs,q=some ⟨bf,0,none⟩∧Own w1 τ bf (tRow f) 113 xs∧∀j t,l[j]?=some t→SecIn w1 τ f j xs t):=Lib.hid (fun h0=>by
  obtain⟨bf,xs,hq,ho,hs⟩:=HP.out h0
  exact⟨bf,xs,hq,ho.mod M1.out (Ext.refl _ _) (by rw[ho.tag];simp[tRow,tDev,tLeft]),fun j t hj =>
   (hs j t hj).mod M1.out (Ext.refl _ _) (fun i hi ht=>by rw[ht];simp[tWait,tDev,tLeft]) (fun i hi ht=>by rw[ht];simp[tData,tDev,tLeft])⟩)
 by_cases hz:l.length=0
 ·have h0:=Lib.hid hz
  rw[hz]
  go_loopw [19] (fun v wr=>v = .int .i64 0∧wr=w1) (fun v _=>0)
  case atStart=>exact⟨rfl,rfl⟩
  case round =>
   obtain⟨rfl,rfl⟩:=hrel
   go_wp2_with fail
   go_returns
   have he:l=[]:=List.eq_nil_of_length_eq_zero h0.out
   refine⟨rfl,?_,M1.out.mono (fun j _ h=>h.elim .inl (fun h=>.inr (.inl h))),Z1.out⟩
   have:=D1.out.put f hf (Mod.refl wr no) (Ext.refl wr τ) (fun _ _ h=>h.elim) [] (by
    rw[HV.out,he]
    exact⟨q,cap,rfl,by simp,by simp,fun hx=>by simp at hx⟩)
   rw[he]
   exact this.at
 ·obtain⟨bf,xs,rfl,ho,hs⟩:=HS.out (by omega)
  have hst:Synced w1 w1 τ f bf l 0:=⟨⟨xs,ho,fun j t hj=>by rw[if_neg (by omega)];exact hs j t hj⟩,Mod.refl _ _,rfl⟩
  have H0:=Lib.hid hst
  clear hst ho hs HS HP HG HC
  generalize hn:l.length=n at *
  have HN:=Lib.hid hn
  clear hn
  go_loopw [19] (fun v wr=>∃k:Nat,k≤n∧v = .int .i64 (k:Int)∧Synced w1 wr τ f bf l k) (fun v _=>n-(intOf v).toNat)
  case atStart=>exact⟨0,Nat.zero_le _,rfl,H0.out⟩
  case round =>
   clear H0
   obtain⟨k,hk,rfl,hsy⟩:=hrel
   by_cases hlt:k<n
   ·obtain⟨s,hkl⟩:∃s,l[k]?=some s:=⟨_,List.getElem?_eq_getElem (by rw[HN.out];exact hlt)⟩
    obtain⟨xs',ho,hs⟩:=hsy.is
    have hsk:=hs k s hkl
    rw[if_neg (by omega)] at hsk
    obtain⟨v,hnw,hb,hl⟩:=Qin ho hsk
    obtain⟨⟨_,v0,hv0,_⟩,⟨u0,hu0,_⟩⟩:=hsk
    have c0:=ho.at _ hv0
    have c1:=ho.at _ hu0
    have f0:=ho.fz (k*2)
    have f1:=ho.fz (k*2+1)
    have hnext:=hsy.step hkl hb hl
    obtain⟨pv,cv,rfl,-,-,-⟩:=id hb.is
    obtain⟨NX,NW⟩:=hid2 hnext hnw
    clear hnext hnw hb hl hv0 hu0 ho hs hsy hkl
    go_wp2_with fail
    refine NW.out.mono ?_
    rintro e w' ⟨rfl,rfl⟩
    go_wp2_with fail
    go_round
    case rel=>exact⟨k+1,by omega,by simp,NX.out⟩
    case measure=>simp[intOf];omega
   ·have hkn:k=n:=by omega
    subst hkn
    have SY:=Lib.hid hsy
    clear hsy
    go_wp2_with fail
    go_returns
    obtain⟨xs',ho,hs⟩:=SY.out.is
    have hm:=SY.out.mod
    refine⟨rfl,?_,((M1.out.mono (fun j _ h=>h.elim .inl (fun h=>.inr (.inl h)))).seq hm (fun j _ h=>by rw[h];exact .inr (.inr ho.tag))),SY.out.size.trans Z1.out⟩
    refine(D1.out.put f hf hm (Ext.refl _ τ) (fun j _ h=>by rw[h];exact .inl ho.tag) (l.map Sec.sync) ?_).at
    rw[HV.out]
    refine⟨_,cap,by rw[List.length_map,HN.out],by rw[List.length_map,HN.out];exact h1,by rw[List.length_map,HN.out];exact h2,fun _=>⟨bf,xs',rfl,ho,fun j t hj=>?_⟩⟩
    rw[List.getElem?_map] at hj
    obtain⟨t',ht',rfl⟩:=Option.map_eq_some_iff.1 hj
    have hjl:=(List.getElem?_eq_some_iff.1 ht').1
    have:=hs j t' ht'
    rwa [if_pos (by rw[←HN.out];exact hjl)] at this
def HaltD (w:World) (τ:Tags) (b:Nat) (D:Dev) (e:Ending) (w':World):Prop:=∃τ',e = .returned (.tuple #[])∧DevAt w' τ' b D∧Ext w τ τ'∧Mod w w' (fun j=>τ j=tDev)
theorem Jei(h:DevAs w τ b D v0 v1) (m:Nat) (hm:m≤maxLen) :
 HaltD w τ b {D with left:=some m} (.returned (.tuple #[])) ((w.setCell ⟨b,2,none⟩ (.pointer (some ⟨w.heap.size,0,none⟩))).alloc (.cells #[.int .i64 (m:Int)] 3)):=by
 obtain⟨pl,ho,h0,h1,hl⟩:=h.is
 have hb:=ho.lt
 have m1:Mod w (w.setCell ⟨b,2,none⟩ (.pointer (some ⟨w.heap.size,0,none⟩))) (fun k=>k=b):=Mod.one _ _ _ _
 have hsz:(w.setCell ⟨b,2,none⟩ (.pointer (some ⟨w.heap.size,0,none⟩))).heap.size=w.heap.size:=by simp[World.setCell]
 have o1:=ho.set 2 (.pointer (some ⟨w.heap.size,0,none⟩))
 generalize w.setCell ⟨b,2,none⟩ (.pointer (some ⟨w.heap.size,0,none⟩))=W at *
 have n2:=Own.new W τ tLeft 3 [.int .i64 (m:Int)]
 have m2:Mod w (W.alloc (.cells #[.int .i64 (m:Int)] 3)) (fun k=>k=b):=m1.alloc _
 have e2:Ext w τ (τ.put W.heap.size tLeft):=(Ext.refl w τ).put _ _ (by omega)
 have hb':∀g,g≠tDev→∀k,k<w.heap.size→τ k=g→¬k=b:=fun g hg k _ ht e=>hg (by rw[←ht,e,ho.tag])
 have o2:Own (W.alloc (.cells #[.int .i64 (m:Int)] 3)) (τ.put W.heap.size tLeft) b tDev 107 [v0,v1,.pointer (some ⟨w.heap.size,0,none⟩),.bool D.halted] :=
  (o1.alloc _).put (by omega) tLeft
 rw[hsz] at n2
 rw[hsz] at o2 e2
 exact⟨τ.put w.heap.size tLeft,rfl,⟨v0,v1,.pointer (some ⟨w.heap.size,0,none⟩),o2,h0.mod m2 e2 (hb' _ (by simp[tRow,tDev])) (fun i=>hb' _ (by simp[tWait,tDev])) (hb' _ (by simp[tData,tDev])),
  h1.mod m2 e2 (hb' _ (by simp[tRow,tDev])) (fun i=>hb' _ (by simp[tWait,tDev])) (hb' _ (by simp[tData,tDev])),.inr ⟨w.heap.size,m,rfl,rfl,hm,n2⟩⟩,e2,m2.mono (fun j _ h=>by rw[h];exact ho.tag)⟩
theorem Jex(h:DevAt w τ b D) (n:Int) (hn:n≤(maxLen:Int)) :
 Calls Tryz.prog 9 #[.pointer (some ⟨b,0,none⟩),.int .i64 n] w (HaltD w τ b {D with left:=some n.toNat}):=by
 obtain⟨v0,v1,ha⟩:=h.as
 obtain⟨pl,ho,h0,h1,hl⟩:=id ha.is
 have c2:=ho.at 2 (v:=pl) rfl
 have f2:=ho.fz 2
 have lb:=ho.lt
 have hfin:=Jei ha n.toNat (by omega)
 have FN:=Lib.hid hfin
 have hne:w.heap.size≠b:=by omega
 clear hfin h h0 h1 hl ha ho hn
 go_enter Tryz.func9,Tryz.ntmps9
 go_wp2
 ·go_returns
  have:=FN.out
  rw[show (n.toNat:Int)=0 by omega] at this
  exact this
 ·go_returns
  have:=FN.out
  rw[show (n.toNat:Int)=n by omega] at this
  exact this
theorem Tryz.infoSector:(Tryz.prog.info? 113).map (fun i=>(i.zero,i.size,i.bytes))=some (some (.agg #[.slice none 0 0,.slice none 0 0]),2,48):=by kernel_rfl
theorem Qkn (k:Nat) (hk:k≤4096) (W:World):(Instr.makeSlice 103 (.int .i64 (k:Int)) (.int .i64 (k:Int))).run Tryz.prog W =
 .ok (.slice (some ⟨W.heap.size,0,none⟩) k k) (W.alloc (.cells (madeCells #[.slice none 0 0,.slice none 0 0] (k*2)) 113)):=by
 obtain⟨i,hi,hz0,hz1,hz2⟩:=info_parts Tryz.infoSector
 have:=run_make (P:=Tryz.prog) W 103 113 i (.agg #[.slice none 0 0,.slice none 0 0]) Tryz.underlying103 hi hz0 .i64 .i64 k k (by omega) (Int.le_refl _) (by rw[hz2];omega) (by omega)
 simp only[Int.toNat_natCast,hz1] at this
 exact this
theorem Qcz (W:World):(Instr.makeSlice 37 (.int .i64 128) (.int .i64 128)).run Tryz.prog W =
 .ok (.slice (some ⟨W.heap.size,0,none⟩) 128 128) (W.alloc (.cells (madeCells #[.int .u8 0] 128) 5)):=by
 obtain⟨i,hi,hz0,hz1,hz2⟩:=info_parts Tryz.infoU8
 have:=run_make (P:=Tryz.prog) W 37 5 i (.int .u8 0) Tryz.underlying37 hi hz0 .i64 .i64 (128:Nat) (128:Nat) (by omega) (Int.le_refl _) (by rw[hz2];omega) (by omega)
 simp only[Int.toNat_natCast,hz1,Nat.mul_one] at this
 exact this
theorem made_get (z:Array Value) (n j:Nat) (h:j<n):(madeCells z n)[j]?=some (z[j%z.size]!):=by
 unfold madeCells
 rw[Array.getElem?_map,Array.getElem?_range,if_pos h];rfl
theorem Qvi (z:Array Value) (n:Nat):(madeCells z n).size=n:=by simp[madeCells]
def zsec:Sec:=⟨List.replicate 128 0,[]⟩
theorem Bytes.noughts (w:World) (τ:Tags) (g:Tag) (n:Nat) (hn:n≤maxLen):Bytes (w.alloc (.cells (madeCells #[.int .u8 0] n) 5)) (τ.put w.heap.size g) g (.slice (some ⟨w.heap.size,0,none⟩) n n) (List.replicate n 0):=by
 have ho:=Own.new w τ g 5 (madeCells #[.int .u8 0] n).toList
 refine⟨fun x hx=>by rw[(List.mem_replicate.1 hx).2];omega,some ⟨w.heap.size,0,none⟩,n,by rw[List.length_replicate],by simp,hn,fun _=>⟨w.heap.size,0,rfl,ho.tag,fun i hi=>?_⟩⟩
 rw[List.length_replicate] at hi
 have:=ho.at i (v:=.int .u8 0) (by rw[Array.getElem?_toList,made_get _ _ _ hi];simp[Nat.mod_one])
 rw[Nat.zero_add]
 rw[show (List.replicate n (0:Int)).getD i 0=0 by simp[List.getD,hi]]
 exact this
structure Fil (w0:World) (τ0:Tags) (wr:World) (τ:Tags) (bd f n k row:Nat) (v0 v1:Value) (l0:List Sec):Prop where
 ext:Ext w0 τ0 τ
 mod:Mod w0 wr no
 dev:Own wr τ bd tDev 107 [v0,v1,.pointer none,.bool false]
 low:w0.heap.size≤bd
 val:fileV v0 v1 f = .slice (some ⟨row,0,none⟩) n n
 rows:∃xs,Own wr τ row (tRow f) 113 xs∧(∀j,j<k→SecIn wr τ f j xs zsec)∧(∀j,k≤j→j<n→xs[j*2]?=some (.slice none 0 0)∧xs[j*2+1]?=some (.slice none 0 0))
 new:w0.heap.size≤row
 other:f=1→File wr τ 0 v0 l0
theorem Fil.step {n k:Nat} {l0:List Sec}(h:Fil w0 τ0 wr τ bd f n k row v0 v1 l0) (hk:k<n) :
 Fil w0 τ0 ((wr.alloc (.cells (madeCells #[.int .u8 0] 128) 5)).setCell ⟨row,k*2,none⟩ (.slice (some ⟨wr.heap.size,0,none⟩) 128 128)) (τ.put wr.heap.size tData) bd f n (k+1) row v0 v1 l0:=by
 obtain⟨xs,ho,hs,hx⟩:=h.rows
 have hb:=Bytes.noughts wr τ tData 128 (by unfold maxLen;omega)
 have hlr:=ho.lt
 have m1:Mod wr (wr.alloc (.cells (madeCells #[.int .u8 0] 128) 5)) no:=(Mod.refl _ _).alloc _
 have e1:Ext wr τ (τ.put wr.heap.size tData):=(Ext.refl _ _).put _ _ (Nat.le_refl _)
 have o1:=ho.mod m1 e1 (fun h=>h)
 have m2:Mod (wr.alloc (.cells (madeCells #[.int .u8 0] 128) 5)) ((wr.alloc (.cells (madeCells #[.int .u8 0] 128) 5)).setCell ⟨row,k*2,none⟩ (.slice (some ⟨wr.heap.size,0,none⟩) 128 128)) (fun j=>j=row):=Mod.one _ _ _ _
 have m:Mod wr ((wr.alloc (.cells (madeCells #[.int .u8 0] 128) 5)).setCell ⟨row,k*2,none⟩ (.slice (some ⟨wr.heap.size,0,none⟩) 128 128)) (fun j=>j=row):=(m1.mono (fun _ _ h=>h.elim)).seq m2 (fun _ _ h=>h)
 have hd:∀i,i<wr.heap.size→τ i=tData→¬i=row:=fun i _ ht e=>by rw[e,ho.tag] at ht;simp[tRow,tData] at ht
 have hg:∀j i,i<wr.heap.size→τ i=tWait f j→¬i=row:=fun j i _ ht e=>by rw[e,ho.tag] at ht;simp[tRow,tWait] at ht
 have ⟨x0,x1⟩:=hx k (Nat.le_refl _) hk
 have l0':=(List.getElem?_eq_some_iff.1 x0).1
 have l1':=(List.getElem?_eq_some_iff.1 x1).1
 refine⟨h.ext.trans e1 h.mod.size,h.mod.seq m (fun j hj hS=>?_),h.dev.mod m e1 (fun e=>?_),h.low,h.val,⟨xs.set (k*2) (.slice (some ⟨wr.heap.size,0,none⟩) 128 128),o1.set _ _,fun j hj=>?_,fun j hj hn=>?_⟩,h.new,fun hf=>?_⟩
 ·have:=h.new
  omega
 ·have:=h.dev.tag
  rw[e,ho.tag] at this;simp[tRow,tDev] at this
 ·by_cases hjk:j=k
  ·subst hjk
   refine⟨⟨by simp[zsec],_,by rw[List.getElem?_set_self l0'],hb.mod m2 (Ext.refl _ _) (fun i _ ht e=>by rw[e,o1.tag] at ht;simp[tRow,tData] at ht)⟩,⟨.slice none 0 0,by rw[List.getElem?_set_ne (by omega)];exact x1,.inl ⟨rfl,rfl⟩⟩⟩
  ·have hi:=(hs j (by omega)).mod m e1 (hg j) hd
   obtain⟨⟨a,v',hv',hbv⟩,⟨q,hq,hwq⟩⟩:=hi
   exact⟨⟨a,v',by rw[List.getElem?_set_ne (by omega)];exact hv',hbv⟩,⟨q,by rw[List.getElem?_set_ne (by omega)];exact hq,hwq⟩⟩
 ·rw[List.getElem?_set_ne (by omega),List.getElem?_set_ne (by omega)]
  exact hx j (by omega) hn
 ·exact(h.other hf).mod m e1 (fun i _ ht e=>by rw[e,ho.tag,hf] at ht;simp[tRow] at ht) (fun j i _ ht e=>by rw[e,ho.tag] at ht;simp[tRow,tWait] at ht) hd
theorem Fil.drew {n k:Nat} {l0:List Sec}(h:Fil w0 τ0 wr τ bd f n k row v0 v1 l0):Fil w0 τ0 wr.drew τ bd f n k row v0 v1 l0:=by
 obtain⟨xs,ho,hs,hx⟩:=h.rows
 have m:Mod wr wr.drew no:=(Mod.refl wr no).drew
 exact⟨h.ext,h.mod.drew,h.dev.drew,h.low,h.val,⟨xs,ho.drew,fun j hj=>(hs j hj).mod m (Ext.refl _ _) (fun _ _ _ h=>h) (fun _ _ _ h=>h),hx⟩,h.new,fun hf=>(h.other hf).mod m (Ext.refl _ _) (fun _ _ _ h=>h) (fun _ _ _ _ h=>h) (fun _ _ _ h=>h)⟩
theorem Fil.file {n:Nat} {l0:List Sec}(h:Fil w0 τ0 wr τ bd f n n row v0 v1 l0) (hn:n≤4096):File wr τ f (fileV v0 v1 f) (List.replicate n zsec):=by
 obtain⟨xs,ho,hs,hx⟩:=h.rows
 rw[h.val]
 refine⟨_,n,by rw[List.length_replicate],by simp,by simpa using hn,fun _=>⟨row,xs,rfl,ho,fun j t hj=>?_⟩⟩
 rw[List.getElem?_replicate] at hj
 split at hj
 ·rename_i hlt
  cases hj
  exact hs j hlt
 ·cases hj
theorem Qvj (n:Nat):∀j,0≤j→j<n→(madeCells #[.slice none 0 0,.slice none 0 0] (n*2)).toList[j*2]?=some (Value.slice none 0 0)∧(madeCells #[.slice none 0 0,.slice none 0 0] (n*2)).toList[j*2+1]?=some (Value.slice none 0 0):=by
 intro j _ hj
 rw[Array.getElem?_toList,Array.getElem?_toList,made_get _ _ _ (by omega),made_get _ _ _ (by omega)]
 have h0:j*2%2=0:=by omega
 have h1:(j*2+1)%2=1:=by omega
 constructor
 ·show some (#[Value.slice none 0 0,.slice none 0 0][j*2%2]!)=_
  rw[h0];rfl
 ·show some (#[Value.slice none 0 0,.slice none 0 0][(j*2+1)%2]!)=_
  rw[h1];rfl
theorem Fil.start {n:Nat} {l0:List Sec}(e:Ext w0 τ0 τ) (m:Mod w0 wr no) (dev:Own wr τ bd tDev 107 [v0,v1,.pointer none,.bool false]) (low:w0.heap.size≤bd) (f:Nat) (hf:f<2) (ho:f=1→File wr τ 0 v0 l0)
 (u0 u1:Value) (hu:[u0,u1,.pointer none,.bool false]=[v0,v1,.pointer none,.bool false].set f (.slice (some ⟨wr.heap.size,0,none⟩) n n)) :
 Fil w0 τ0 ((wr.alloc (.cells (madeCells #[.slice none 0 0,.slice none 0 0] (n*2)) 113)).setCell ⟨bd,f,none⟩ (.slice (some ⟨wr.heap.size,0,none⟩) n n)) (τ.put wr.heap.size (tRow f)) bd f n 0 wr.heap.size u0 u1 l0:=by
 have hbl:=dev.lt
 have m1:Mod wr (wr.alloc (.cells (madeCells #[.slice none 0 0,.slice none 0 0] (n*2)) 113)) no:=(Mod.refl _ _).alloc _
 have e1:Ext wr τ (τ.put wr.heap.size (tRow f)):=(Ext.refl _ _).put _ _ (Nat.le_refl _)
 have d1:=dev.mod m1 e1 (fun h=>h)
 have r1:=Own.new wr τ (tRow f) 113 (madeCells #[.slice none 0 0,.slice none 0 0] (n*2)).toList
 have m2:Mod (wr.alloc (.cells (madeCells #[.slice none 0 0,.slice none 0 0] (n*2)) 113)) ((wr.alloc (.cells (madeCells #[.slice none 0 0,.slice none 0 0] (n*2)) 113)).setCell ⟨bd,f,none⟩ (.slice (some ⟨wr.heap.size,0,none⟩) n n)) (fun j=>j=bd):=Mod.one _ _ _ _
 have mm:Mod wr ((wr.alloc (.cells (madeCells #[.slice none 0 0,.slice none 0 0] (n*2)) 113)).setCell ⟨bd,f,none⟩ (.slice (some ⟨wr.heap.size,0,none⟩) n n)) (fun j=>j=bd):=(m1.mono (fun _ _ h=>h.elim)).seq m2 (fun _ _ h=>h)
 have hg:∀g,g≠tDev→∀i,i<wr.heap.size→τ i=g→¬i=bd:=fun g hg i _ ht e=>hg (by rw[←ht,e,dev.tag])
 refine⟨e.trans e1 m.size,m.seq mm (fun j hj h=>by omega),?_,low,?_,⟨_,r1.mod m2 (Ext.refl _ _) (fun e=>by omega),fun j hj=>by omega,Qvj n⟩,m.size,fun h1=>?_⟩
 ·rw[hu];exact d1.set f _
 ·rcases Nat.lt_or_ge f 1 with h|h
  ·obtain rfl:f=0:=by omega
   simp at hu;simp[fileV,hu.1]
  ·obtain rfl:f=1:=by omega
   simp at hu;simp[fileV,hu.2]
 ·have hx:=(ho h1).mod mm e1 (hg _ (by simp[tRow,tDev])) (fun i=>hg _ (by simp[tWait,tDev])) (hg _ (by simp[tData,tDev]))
  have hu0:u0=v0:=by rw[h1] at hu;simp at hu;exact hu.1
  rw[hu0];exact hx
def At0 (w0:World) (τ0:Tags) (wr:World) (bd:Nat):Prop:=∃τ,Ext w0 τ0 τ∧Mod w0 wr no∧Own wr τ bd tDev 107 [.slice none 0 0,.slice none 0 0,.pointer none,.bool false]
def At1 (w0:World) (τ0:Tags) (wr:World) (bd a:Nat):Prop:=∃τ v0,Ext w0 τ0 τ∧Mod w0 wr no∧Own wr τ bd tDev 107 [v0,.slice none 0 0,.pointer none,.bool false]∧File wr τ 0 v0 (List.replicate a zsec)
def At2 (w0:World) (τ0:Tags) (wr:World) (bd a b:Nat):Prop:=∃τ,Ext w0 τ0 τ∧Mod w0 wr no∧DevAt wr τ bd ⟨List.replicate a zsec,List.replicate b zsec,none,false⟩
theorem Fil.at1 {n:Nat} {l0:List Sec}(h:Fil w0 τ0 wr τ bd 0 n n row v0 (.slice none 0 0) l0) (hn:n≤4096):At1 w0 τ0 wr bd n :=
 ⟨τ,v0,h.ext,h.mod,h.dev,h.file hn⟩
theorem Fil.at2 {n a:Nat}(h:Fil w0 τ0 wr τ bd 1 n n row v0 v1 (List.replicate a zsec)) (hn:n≤4096):At2 w0 τ0 wr bd a n :=
 ⟨τ,h.ext,h.mod,v0,v1,.pointer none,h.dev,h.other rfl,h.file hn,.inl ⟨rfl,rfl⟩⟩
theorem Qli (W:World) (x y:Value):(Instr.index 220 (.agg #[x,y]) (.int .i64 0)).run Tryz.prog W = .ok x W∧(Instr.index 220 (.agg #[x,y]) (.int .i64 1)).run Tryz.prog W = .ok y W:=by
 have h:=Tryz.underlying220
 constructor <;> simp[Instr.index,Sem.run_bind,run_underlying h,go_sem]
def NewD (w:World) (τ:Tags) (a b:Nat) (e:Ending) (w':World):Prop:=∃bd,e = .returned (.pointer (some ⟨bd,0,none⟩))∧w.heap.size≤bd∧At2 w τ w' bd a b
set_option maxRecDepth 20000 in
theorem Qmx (w:World) (τ:Tags) (a b:Nat) (ha:a≤4096) (hb:b≤4096) :
 Calls Tryz.prog 44 #[.int .i64 (a:Int),.int .i64 (b:Int)] w (NewD w τ a b):=by
 have ra:=Qkn a ha
 have rb:=Qkn b hb
 have rn:=Lib.hid Qcz
 have i0:=fun W=>(Qli W (.int .i64 (a:Int)) (.int .i64 (b:Int))).1
 have i1:=fun W=>(Qli W (.int .i64 (a:Int)) (.int .i64 (b:Int))).2
 have ga:decide ((4096:Int)<(a:Int))=false:=by simp;omega
 have gb:decide ((4096:Int)<(b:Int))=false:=by simp;omega
 go_enter Tryz.func44,Tryz.ntmps44
 go_wp2_with fail
 have o0:=Own.new w τ tDev 107 [.slice none 0 0,.slice none 0 0,.pointer none,.bool false]
 have s0:At0 w τ (w.alloc (.cells #[.slice none 0 0,.slice none 0 0,.pointer none,.bool false] 107)) w.heap.size:=⟨_,(Ext.refl w τ).put _ _ (Nat.le_refl _),(Mod.refl _ _).alloc _,o0⟩
 have S0:=Lib.hid s0
 clear o0 s0
 generalize w.alloc (.cells #[.slice none 0 0,.slice none 0 0,.pointer none,.bool false] 107)=W0 at S0 ⊢
 generalize hbd:w.heap.size=bd at S0 ⊢
 have HL:=Lib.hid (Nat.le_of_eq hbd)
 clear hbd
 obtain⟨HA,HB⟩:=hid2 ha hb
 clear ha hb
 go_loopw [14] (fun v wr=>(v = .int .i64 0∧At0 w τ wr bd)∨(v = .int .i64 1∧At1 w τ wr bd a)∨(v = .int .i64 2∧At2 w τ wr bd a b)) (fun v _=>2-(intOf v).toNat)
 case atStart=>exact .inl ⟨rfl,S0.out⟩
 case round =>
  rcases hrel with ⟨rfl,h0⟩|⟨rfl,h1⟩|⟨rfl,h2⟩
  ·obtain⟨τ1,e,m,dev⟩:=h0
   have c0:=dev.at 0 rfl
   have f0:=dev.fz 0
   have lb:=dev.lt
   have nb:wr.heap.size≠bd:=by omega
   obtain⟨E,M,DV⟩:=hid3 e m dev
   clear e m dev
   go_wp2_with fail
   go_region
   have fil:=(Fil.start (n:=a) (l0:=[]) E.out M.out DV.out HL.out 0 (by omega) (fun h=>by omega) _ _ rfl).drew
   rw[World.setCell_alloc_past _ _ _ _ lb] at fil
   generalize τ1.put wr.heap.size (tRow 0)=τ2 at fil
   generalize ((wr.setCell ⟨bd,0,none⟩ (.slice (some ⟨wr.heap.size,0,none⟩) a a)).alloc (.cells (madeCells #[.slice none 0 0,.slice none 0 0] (a*2)) 113)).drew=w2 at fil ⊢
   generalize wr.heap.size=row at fil ⊢
   have c2:=fil.dev.at 0 rfl
   have FL:=Lib.hid fil
   clear fil E M DV c0 f0 lb nb
   go_wp2_with fail
   go_loopw [38] (fun v wq=>∃(k:Nat) (τk:Tags),k≤a∧v = .int .i64 (k:Int)∧Fil w τ wq τk bd 0 a k row (.slice (some ⟨row,0,none⟩) a a) (.slice none 0 0) ([])) (fun v _=>a-(intOf v).toNat)
   case atStart=>exact⟨0,τ2,Nat.zero_le _,rfl,FL.out⟩
   case round =>
    clear FL c2
    obtain⟨k,τk,hk,rfl,hf⟩:=hrel
    by_cases hlt:k<a
    ·have d0:=hf.dev.at 0 rfl
     obtain⟨xs,ho,hs,hx⟩:=hf.rows
     have x0:=ho.at _ (hx k (Nat.le_refl _) hlt).1
     have z0:=ho.fz (k*2)
     have lr:=ho.lt
     have nr:wr.heap.size≠row:=by omega
     have ld:=hf.dev.lt
     have nd:wr.heap.size≠bd:=by omega
     have nx:=(hf.step hlt)
     rw[World.setCell_alloc_past _ _ _ _ lr] at nx
     have NX:=Lib.hid nx.drew
     have rn':=rn.out
     have hmx:k+1≤9223372036854775807:=by have:=HA.out;omega
     clear ho hs hx hf nx
     go_wp2_with fail
     go_region
     go_wp2_with fail
     go_round
     case rel=>exact⟨k+1,_,by omega,by simp,NX.out⟩
     case measure=>simp[intOf];omega
    ·have hkn:k=a:=by omega
     subst hkn
     have FE:=Lib.hid hf
     clear hf
     go_wp2_with fail
     go_round
     case rel=>exact .inr (.inl ⟨by simp,FE.out.at1 HA.out⟩)
     case measure=>simp[intOf]
  ·obtain⟨τ1,v0,e,m,dev,fil0⟩:=h1
   have c0:=dev.at 1 rfl
   have f0:=dev.fz 1
   have lb:=dev.lt
   have nb:wr.heap.size≠bd:=by omega
   obtain⟨E,M,DV,F0⟩:=hid4 e m dev fil0
   clear e m dev fil0
   go_wp2_with fail
   go_region
   have fil:=(Fil.start (n:=b) (l0:=List.replicate a zsec) E.out M.out DV.out HL.out 1 (by omega) (fun _=>F0.out) _ _ rfl).drew
   rw[World.setCell_alloc_past _ _ _ _ lb] at fil
   generalize τ1.put wr.heap.size (tRow 1)=τ2 at fil
   generalize ((wr.setCell ⟨bd,1,none⟩ (.slice (some ⟨wr.heap.size,0,none⟩) b b)).alloc (.cells (madeCells #[.slice none 0 0,.slice none 0 0] (b*2)) 113)).drew=w2 at fil ⊢
   generalize wr.heap.size=row at fil ⊢
   have c2:=fil.dev.at 1 rfl
   have FL:=Lib.hid fil
   clear fil E M DV c0 f0 lb nb
   go_wp2_with fail
   go_loopw [38] (fun v wq=>∃(k:Nat) (τk:Tags),k≤b∧v = .int .i64 (k:Int)∧Fil w τ wq τk bd 1 b k row v0 (.slice (some ⟨row,0,none⟩) b b) (List.replicate a zsec)) (fun v _=>b-(intOf v).toNat)
   case atStart=>exact⟨0,τ2,Nat.zero_le _,rfl,FL.out⟩
   case round =>
    clear FL c2
    obtain⟨k,τk,hk,rfl,hf⟩:=hrel
    by_cases hlt:k<b
    ·have d0:=hf.dev.at 1 rfl
     obtain⟨xs,ho,hs,hx⟩:=hf.rows
     have x0:=ho.at _ (hx k (Nat.le_refl _) hlt).1
     have z0:=ho.fz (k*2)
     have lr:=ho.lt
     have nr:wr.heap.size≠row:=by omega
     have ld:=hf.dev.lt
     have nd:wr.heap.size≠bd:=by omega
     have nx:=(hf.step hlt)
     rw[World.setCell_alloc_past _ _ _ _ lr] at nx
     have NX:=Lib.hid nx.drew
     have rn':=rn.out
     have hmx:k+1≤9223372036854775807:=by have:=HB.out;omega
     clear ho hs hx hf nx
     go_wp2_with fail
     go_region
     go_wp2_with fail
     go_round
     case rel=>exact⟨k+1,_,by omega,by simp,NX.out⟩
     case measure=>simp[intOf];omega
    ·have hkn:k=b:=by omega
     subst hkn
     have FE:=Lib.hid hf
     clear hf
     go_wp2_with fail
     go_round
     case rel=>exact .inr (.inr ⟨by simp,FE.out.at2 HB.out⟩)
     case measure=>simp[intOf]
  ·have H2:=Lib.hid h2
   clear h2
   go_wp2_with fail
   go_returns
   exact⟨_,rfl,HL.out,H2.out⟩
end Go.Proofs.YtemacanaihaldaaGreat