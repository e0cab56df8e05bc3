/-
 The program's device: Write that is done.
-/
import Derived.Test.YtemacanaihaldaaGreatMDev
import Derived.Deep.AppendLies
import Derived.Deep.RegionLaw
import Derived.Handy
import Derived.Deep.Cut
import Derived.Laws.BitsAllLaws
import Derived.Laws.Cover1
import Derived.Maps.Keyed
import Derived.Maps.Own
import Derived.Maps.OwnOps
import Derived.Maps.OwnSet
import Derived.Maps.RangeWalk
set_option linter.all false
namespace Go.Proofs.YtemacanaihaldaaGreat
open Go.RowKit
theorem Bytes.drew {w:World}{τ:Tags}{g:Tag}{v:Value}{l:List Int}(h:Bytes w τ g v l):Bytes w.drew τ g v l:=⟨h.isB,h.is⟩
theorem Buf.own {w:World}{τ:Tags}{g:Tag}{e:TypeId}{size:Nat}{v:Value}{n:Nat}{j:List Value}(h:Buf w τ g e size v n j):∀b,v.ownBlock=some b->τ b=g/\b<w.heap.size:=by
 intro b d
 rcases h.2 with ⟨rfl,_⟩|⟨b',cap,ys,rfl,i,_⟩
 ·simp[Value.ownBlock] at d
 ·have:b'=b:=by simpa [Value.ownBlock] using d
  subst this
  exact⟨i.tag,i.lt⟩
theorem Buf.len {w:World}{τ:Tags}{g:Tag}{e:TypeId}{size:Nat}{v:Value}{n:Nat}{b:List Value}(h:Buf w τ g e size v n b):∃p c,v = .slice p n c:=by
 rcases h.2 with ⟨rfl,rfl⟩|⟨b',cap,ys,rfl,ho,_⟩
 ·exact⟨_,_,rfl⟩
 ·exact⟨_,_,rfl⟩
def Qyw (w:World) (τ:Tags) (b:Nat) (D:Dev) (f k:Nat) (l:List Int) (e:Ending) (w':World):Prop :=
 e = .returned (.int .u16 0)/\∃τ',DevAt w' τ' b D/\Ext w τ τ'/\Mod w w' (fun j=>τ j=tDev\/τ j=tLeft\/Ql2 f (τ j))
theorem Dev.go_file (D:Dev) (f:Nat):D.go.2.file f=D.file f:=by
 unfold Dev.go
 split <;> rfl
theorem Qsq {w o p q:World}{τ d m:Tags}{b:Nat}{D:Dev}{f k:Nat}{s:Sec}{l:List Int}{v0 v1:Value}{bf cap cw cu B:Nat}{pw G C:Option Addr}{M ys:List Value}
 (hf:f<2) (hk:(D.file f)[k]?=some s) (h1:(D.file f).length<=cap) (h2:(D.file f).length<=4096) (hv:fileV v0 v1 f = .slice (some ⟨bf,0,none⟩) (D.file f).length cap)
 (hl:l.length=128) (N:Buf o τ (tWait f k) 37 1 (.slice pw s.waits.length cw) s.waits.length ys) (KK:Mod w o fun k=>τ k=tDev\/τ k=tLeft) (K2:DevAs o τ b D.go.2 v0 v1)
 (K3:∀j t,(D.file f)[j]?=some t->SecIn o τ f j M t) (K4:∀(k:Nat) (x:List Int),s.waits[k]?=some x->x.length=128/\∃u,ys[k]?=some u/\Bytes o τ tData u x)
 (I:Own o τ bf (tRow f) 113 M) (B2:Bytes p d tData (.slice G l.length cu) l) (O:Ext o.drew τ d) (J:Mod o p no) (O3:Own q m bf (tRow f) 113 M)
 (B3:Buf q m (tWait f k) 37 1 (.slice C (s.waits.length+1) B) (s.waits.length+1) (ys++[.slice G l.length cu]))
 (E3:Ext (p.alloc (.cells #[.slice G l.length cu] 37)) (d.put p.heap.size tData) m) (M3:Mod (p.alloc (.cells #[.slice G l.length cu] 37)) q fun k=>(Value.slice pw s.waits.length cw).ownBlock=some k) :
 Qyw w τ b (D.go.2.put f ((D.file f).set k (s.add l))) f k l (.returned (.int .u16 0)) (q.setCell ⟨bf,k*2+1,none⟩ (.slice C (s.waits.length+1) B)):=by
 have m1:Mod o p (fun j=>j=bf\/τ j=tWait f k):=J.mono (fun _ _ h=>h.elim)
 have m3:Mod o q (fun j=>j=bf\/τ j=tWait f k):=(m1.alloc _).seq M3 (fun j F r=>.inr ((N.own j r).1))
 have m4:Mod o (q.setCell ⟨bf,k*2+1,none⟩ (.slice C (s.waits.length+1) B)) (fun j=>j=bf\/τ j=tWait f k):=m3.setCell (fun _=>.inl rfl) _
 have e:Ext o τ m:=Ext.trans (w:=o) (a:=p.alloc (.cells #[.slice G l.length cu] 37)) (Ext.put (w:=o) O p.heap.size tData J.size) E3 (by have:=J.size;simp;omega)
 have R:=N.mod J (show Ext o τ d from O) (fun _ _ _ h=>h)
 have U:=I.mod J (show Ext o τ d from O) (fun h=>h)
 have n4:Mod p (q.setCell ⟨bf,k*2+1,none⟩ (.slice C (s.waits.length+1) B)) (fun j=>j=bf\/d j=tWait f k) :=
  (((Mod.refl p _).alloc _).seq M3 (fun j F r=>.inr ((R.own j r).1))).setCell (fun _=>.inl rfl) _
 have e2:Ext p d m:=Ext.trans (w:=p) (a:=p.alloc (.cells #[.slice G l.length cu] 37)) ((Ext.refl p d).put p.heap.size tData (Z0 _)) E3 (by simp)
 have hw:Waits (q.setCell ⟨bf,k*2+1,none⟩ (.slice C (s.waits.length+1) B)) m (tWait f k) (.slice C (s.waits.length+1) B) (s.add l).waits:=by
  have L:(s.add l).waits.length=s.waits.length+1:=by simp[Sec.add]
  have hys:ys.length=s.waits.length:=by have:=N.1;omega
  have b4:=B3.mod (Mod.one q bf (k*2+1) (.slice C (s.waits.length+1) B)) (Ext.refl q m) (fun j _ z F=>by rw[F,O3.tag] at z;simp[tRow,tWait] at z)
  generalize q.setCell ⟨bf,k*2+1,none⟩ (.slice C (s.waits.length+1) B)=W at b4 m4 n4 ⊢
  rw[<-L] at b4 ⊢
  refine b4.waits (fun j x r=>?_)
  by_cases F:j<s.waits.length
  ·have X:s.waits[j]?=some x:=by
    simp only[Sec.add] at r
    rwa [Y5 F] at r
   obtain⟨a,u,hu,Y⟩:=K4 j x X
   refine⟨a,u,by rw[Y5 (by omega)];exact hu,Y.mod m4 e (fun i _ z E=>?_)⟩
   rcases E with rfl|E
   ·rw[I.tag] at z;simp[tRow,tData] at z
   ·rw[z] at E;simp[tWait,tData] at E
  ·simp only[Sec.add] at r
   rw[Y6 (by omega)] at r
   have Z:j-s.waits.length=0:=by
    have:=(Z4 r).1
    simp at this;omega
   rw[Z] at r
   have a1:x=l:=by simpa using r.symm
   subst a1
   refine⟨hl,_,by rw[Y6 (by omega),show j-ys.length=0 by omega];rfl,B2.mod n4 e2 (fun i _ z E=>?_)⟩
   rcases E with rfl|E
   ·rw[U.tag] at z;simp[tRow,tData] at z
   ·rw[z] at E;simp[tWait,tData] at E
 have y:=File.add rfl h1 h2 hk m4 e (fun j _ h=>h) I.tag (O3.set (k*2+1) (.slice C (s.waits.length+1) B)) K3 (s':=s.add l) rfl hw
 rw[<-hv] at y
 have hd:=K2.put f hf m4 e (fun j _ h=>h.elim (fun h=>by rw[h];exact .inl I.tag) (fun h=>.inr ⟨k,h⟩)) _ y
 refine⟨rfl,m,hd.at,fun j F=>e j (Nat.lt_of_lt_of_le F KK.size),(KK.mono (fun j _ h=>?_)).seq m4 (fun j F h=>?_)⟩
 ·rcases h with h|h
  ·exact .inl h
  ·exact .inr (.inl h)
 ·rcases h with rfl|h
  ·exact .inr (.inr (.inl I.tag))
  ·exact .inr (.inr (.inr ⟨k,h⟩))
theorem Qug {w:World}{τ:Tags}{b:Nat}{D:Dev}(h:DevAt w τ b D) (f:Nat) (hf:f<2) (k:Nat) (s:Sec) (hk:(D.file f)[k]?=some s) {p:Option Addr}{c:Nat}{l:List Int}{g:Tag}(hl:l.length=128) (hb:Bytes w τ g (.slice p 128 c) l) (G:g≠tDev/\g≠tLeft) (hbig:s.waits.length<1000000) (hg:D.go.1=true) :
 Calls Tryz.prog 100 #[.pointer (some ⟨b,0,none⟩),.int .u8 (f:Int),.int .i64 (k:Int),.slice p 128 c] w (Qyw w τ b (D.go.2.put f ((D.file f).set k (s.add l))) f k l):=by
 obtain⟨v0,v1,X⟩:=h.as
 obtain⟨q,cap,hv,h1,h2,hp⟩:=X.file f
 have Y:=(Z4 hk).1
 obtain⟨bf,xs,rfl,Z,hs⟩:=hp (by omega)
 have hc:=at_as X f (by omega) hv h2 k Y
 have r:=Qre X
 rw[hg] at r
 obtain⟨HC,HG⟩:=hid2 hc r
 clear hc r hg
 go_enter Tryz.func100,Tryz.ntmps100
 go_wp2_with fail
 refine HC.out.mono ?_
 rintro e w' ⟨rfl,rfl⟩
 go_wp2_with fail
 refine HG.out.mono ?_
 rintro e w1 ⟨rfl,hd,I,hz⟩
 have d:=Z.mod I (Ext.refl _ _) (by rw[Z.tag];simp[tRow,tDev,tLeft])
 have x:∀j t,(D.file f)[j]?=some t->SecIn w1 τ f j xs t:=fun j t hj =>
  (hs j t hj).mod I (Ext.refl _ _) (fun i hi J=>by rw[J];simp[tWait,tDev,tLeft]) (fun i hi J=>by rw[J];simp[tData,tDev,tLeft])
 have L:=hb.mod I (Ext.refl _ _) (fun i hi J=>by rw[J];simp[G.1,G.2])
 obtain⟨_,uw,hu,hw⟩:=x k s hk
 obtain⟨ys,o,M⟩:=hw.buf
 have N:=Qeb L.drew tData (by omega)
 have c1:=d.at _ hu
 have f1:=d.fz (k*2+1)
 obtain⟨CL,LL⟩:=hid2 N hl
 obtain⟨pw,cw,rfl⟩:=hw.len
 obtain⟨HU,BU,KK,K2,K3,K4,K5⟩:=hid7 hu o I hd x M d
 clear h hp hl hb I hd hz hw hu N o M x d L hs Z
 obtain⟨i0,hi,ab,ac,ae⟩:=info_parts Tryz.infoU8s
 have lb:bf<w1.heap.size:=cell_lt c1
 have nb:(Value.slice pw s.waits.length cw).ownBlock≠some bf:=fun hx=>by
  have:=(BU.out.own bf hx).1
  rw[K5.out.tag] at this;simp[tRow,tWait] at this
 have NB:=Z2 nb
 clear nb
 go_wp2_with fail
 go_region_law (first
  | (go_simp;go_at_call 118;refine CL.out.mono ?_;rintro e m ⟨u,y,rfl,z,O,B⟩
     obtain⟨pu,cu,rfl,-,-,-⟩:=id z.is
     have c2:=(B.cell bf (k*2+1) lb (fun h=>h)).trans c1
     have c2':(m.alloc (.cells #[.slice pu l.length cu] 37)).cell? ⟨bf,k*2+1,none⟩=some (.slice pw s.waits.length cw):=(((Mod.refl m no).alloc _).cell bf (k*2+1) (cell_lt c2) (fun h=>h)).trans c2
     obtain⟨B2,E2⟩:=hid2 z O
     have M2:=Z2 ((Mod.refl w1 no).drew.trans B)
     clear z O B)
  | (refine Qkl _ (y.put m.heap.size tData) (tWait f k) rfl _ _ 52 rfl 37 i0 (.slice none 0 0) 1 24 Tryz.underlying52 hi ab ac ae rfl (by decide) (.slice pw s.waits.length cw) s.waits.length ys (by rfl) ((BU.out.mod M2.out E2.out (fun _ _ _ h=>h)).mod ((Mod.refl m no).alloc _) ((Ext.refl m y).put _ tData (Z0 _)) (fun _ _ _ h=>h)) (some ⟨m.heap.size,0,none⟩) 1 1 [.slice pu l.length cu] (by rfl) rfl (by intro hx;cases hx) ?_ (by simp[Value.oneCell']) (by unfold maxLen;omega) (by omega) ?_
     ·intro ad had;cases had;exact World.news_of_block (cs:=#[.slice pu l.length cu]) (t := 37) (fr:=(0,0)) (heap_alloc_new m _)
     intro v3 w3 τ3 C E F R
     clear R
     obtain⟨p3,n3,rfl⟩:=C.len
     have U:=((K5.out.mod M2.out E2.out (fun h=>h)).mod ((Mod.refl m no).alloc _) ((Ext.refl m y).put _ tData (Z0 _)) (fun h=>h)).mod F E NB.out
     have f3:=U.fz (k*2+1)
     have c3:=U.at _ HU.out
     obtain⟨O3,B3,E3,M3⟩:=hid4 U C E F
     clear C E F U))
 all_goals go_wp2_with fail
 all_goals go_ret
 all_goals exact Qsq hf hk h1 h2 hv LL.out BU.out KK.out K2.out K3.out K4.out K5.out B2.out E2.out M2.out O3.out B3.out E3.out M3.out
def Sec.sync (s:Sec):Sec:=⟨s.newest,[]⟩
theorem Qut {w:World}{τ:Tags}{b:Nat}{D:Dev}(h:DevAt w τ b D) (f:Nat) (hf:f<2) (j:D.go.1=false) :
 Calls Tryz.prog 101 #[.pointer (some ⟨b,0,none⟩),.int .u8 (f:Int)] w fun e i=>e = .returned (.tuple #[])/\DevAt i τ b D.go.2/\Mod w i (fun k=>τ k=tDev\/τ k=tLeft)/\i.heap.size=w.heap.size:=by
 obtain⟨v0,v1,l⟩:=h.as
 have m:=Qrh l f (by omega)
 have d:=Qsi h
 rw[j] at d
 obtain⟨q,r⟩:=hid2 m d
 have a2:decide ((2:Int)<=(f:Int))=false:=by simp;omega
 clear m d l h j
 go_enter Tryz.func101,Tryz.ntmps101
 go_wp2_with fail
 refine q.out.mono ?_
 rintro e i ⟨rfl,rfl⟩
 go_wp2_with fail
 refine r.out.mono ?_
 rintro e i ⟨rfl,hd,o,p⟩
 obtain⟨s,x,y⟩:=hid3 hd o p
 clear hd o p
 go_wp2_with fail
 go_returns
 exact⟨rfl,s.out,x.out,y.out⟩
structure Synced (w1 w:World) (τ:Tags) (f bf:Nat) (l:List Sec) (k:Nat):Prop where
 is:∃xs,Own w τ bf (tRow f) 113 xs/\∀j t,l[j]?=some t->SecIn w τ f j xs (if j<k then t.sync else t)
 mod:Mod w1 w (fun j=>j=bf)
 size:w.heap.size=w1.heap.size
theorem Synced.step {F w:World}{τ:Tags}{f bf:Nat}{l:List Sec}{k:Nat}(h:Synced F w τ f bf l k) {s:Sec}(hk:l[k]?=some s) {v:Value}(I:Bytes w τ tData v s.newest) (hl:s.newest.length=128) :
 Synced F ((w.setCell ⟨bf,k*2,none⟩ v).setCell ⟨bf,k*2+1,none⟩ (.slice none 0 0)) τ f bf l (k+1):=by
 obtain⟨J,o,G⟩:=h.is
 have m0:Mod w (w.setCell ⟨bf,k*2,none⟩ v) (fun j=>j=bf):=Mod.one w bf (k*2) v
 have m:Mod w ((w.setCell ⟨bf,k*2,none⟩ v).setCell ⟨bf,k*2+1,none⟩ (.slice none 0 0)) (fun j=>j=bf):=m0.setCell (p:=⟨bf,k*2+1,none⟩) (fun _=>rfl) (.slice none 0 0)
 have hd:∀i,i<w.heap.size->τ i=tData->¬i=bf:=fun i _ b e=>by rw[e,o.tag] at b;simp[tRow,tData] at b
 obtain⟨⟨a0,v0,r,_⟩,⟨u0,x,_⟩⟩:=G k s hk
 have l0:=(Z4 r).1
 have l1:=(Z4 x).1
 refine⟨⟨(J.set (k*2) v).set (k*2+1) (.slice none 0 0),(o.set _ _).set _ _,fun j t y=>?_⟩,?_,?_⟩
 ·by_cases z:j=k
  ·subst z
   rw[hk] at y
   cases y
   rw[if_pos (by omega)]
   refine⟨⟨hl,v,?_,I.mod m (Ext.refl _ _) hd⟩,⟨.slice none 0 0,?_,.inl ⟨rfl,rfl⟩⟩⟩
   ·rw[List.getElem?_set_ne (by omega),List.getElem?_set_self l0]
   ·rw[List.getElem?_set_self (by simpa using l1)]
  ·have hi:=(G j t y).mod m (Ext.refl _ _) (fun i _ b e=>by rw[e,o.tag] at b;simp[tRow,tWait] at b) hd
   have B:(if j<k+1 then t.sync else t)=(if j<k then t.sync else t):=by
    by_cases d:j<k
    ·rw[if_pos d,if_pos (by omega)]
    ·rw[if_neg d,if_neg (by omega)]
   rw[B]
   obtain⟨⟨a,L,C,D⟩,⟨q,M,E⟩⟩:=hi
   refine⟨⟨a,L,?_,D⟩,⟨q,?_,E⟩⟩
   ·rw[List.getElem?_set_ne (by omega),List.getElem?_set_ne (by omega)];exact C
   ·rw[List.getElem?_set_ne (by omega),List.getElem?_set_ne (by omega)];exact M
 ·exact h.mod.trans m
 ·have:=h.size
  simpa [World.setCell] using this
theorem Qw2 {w:World}{τ:Tags}{b:Nat}{D:Dev}(h:DevAt w τ b D) (f:Nat) (hf:f<2) (hg:D.go.1=true) :
 Calls Tryz.prog 101 #[.pointer (some ⟨b,0,none⟩),.int .u8 (f:Int)] w fun e E=>e = .returned (.tuple #[])/\DevAt E τ b (D.go.2.put f ((D.file f).map Sec.sync))/\Mod w E (fun j=>τ j=tDev\/τ j=tLeft\/τ j=tRow f)/\E.heap.size=w.heap.size:=by
 obtain⟨v0,v1,F⟩:=h.as
 obtain⟨q,cap,Y,h1,h2,hp⟩:=F.file f
 have Z:=Qrh F f (by omega)
 rw[Y] at Z
 have r:=Qre F
 rw[hg] at r
 obtain⟨HC,HG,HV,HP,HA⟩:=hid5 Z r Y hp F
 have a2:decide ((2:Int)<=(f:Int))=false:=by simp;omega
 generalize hl:D.file f=l at *
 have HL:=Z2 hl
 clear Z r hg F h hp Y hl
 go_enter Tryz.func101,Tryz.ntmps101
 go_wp2_with fail
 refine HC.out.mono ?_
 rintro e E ⟨rfl,rfl⟩
 go_wp2_with fail
 refine HG.out.mono ?_
 rintro e z ⟨rfl,hd,G,I⟩
 obtain⟨D1,X,Z1⟩:=hid3 hd G I
 clear hd G I
 go_wp2_with fail
 have HS:Hid (0<l.length->∃bf B,q=some ⟨bf,0,none⟩/\Own z τ bf (tRow f) 113 B/\∀j t,l[j]?=some t->SecIn z τ f j B t):=Z2 (fun h0=>by
  obtain⟨bf,B,hq,d,p⟩:=HP.out h0
  exact⟨bf,B,hq,d.mod X.out (Ext.refl _ _) (by rw[d.tag];simp[tRow,tDev,tLeft]),fun j t C =>
   (p j t C).mod X.out (Ext.refl _ _) (fun i hi ht=>by rw[ht];simp[tWait,tDev,tLeft]) (fun i hi ht=>by rw[ht];simp[tData,tDev,tLeft])⟩)
 by_cases I:l.length=0
 ·have h0:=Z2 I
  rw[I]
  go_loopw [19] (fun v wr=>v = .int .i64 0/\wr=z) (fun v _=>0)
  case atStart=>exact⟨rfl,rfl⟩
  case round =>
   obtain⟨rfl,rfl⟩:=hrel
   go_wp2_with fail
   go_returns
   have he:l=[]:=List.eq_nil_of_length_eq_zero h0.out
   refine⟨rfl,?_,X.out.mono (fun j _ h=>h.elim .inl (fun h=>.inr (.inl h))),Z1.out⟩
   have:=D1.out.put f hf (Mod.refl wr no) (Ext.refl wr τ) (fun _ _ h=>h.elim) [] (by
    rw[HV.out,he]
    exact⟨q,cap,rfl,by simp,by simp,fun hx=>by simp at hx⟩)
   rw[he]
   exact this.at
 ·obtain⟨bf,B,rfl,d,p⟩:=HS.out (by omega)
  have J:Synced z z τ f bf l 0:=⟨⟨B,d,fun j t C=>by rw[if_neg (by omega)];exact p j t C⟩,Mod.refl _ _,rfl⟩
  have H0:=Z2 J
  clear J d p HS HP HG HC
  generalize hn:l.length=n at *
  have L:=Z2 hn
  clear hn
  go_loopw [19] (fun v wr=>∃k:Nat,k<=n/\v = .int .i64 (k:Int)/\Synced z wr τ f bf l k) (fun v _=>n-(intOf v).toNat)
  case atStart=>exact⟨0,Z9 _,rfl,H0.out⟩
  case round =>
   clear H0
   obtain⟨k,hk,rfl,m⟩:=hrel
   by_cases a6:k<n
   ·obtain⟨s,x⟩:∃s,l[k]?=some s:=⟨_,Z3 (by rw[L.out];exact a6)⟩
    obtain⟨M,d,p⟩:=m.is
    have y:=p k s x
    rw[if_neg (by omega)] at y
    obtain⟨v,N,hb,hl⟩:=Qin d y
    obtain⟨⟨_,v0,O,_⟩,⟨u0,R,_⟩⟩:=y
    have c0:=d.at _ O
    have c1:=d.at _ R
    have f0:=d.fz (k*2)
    have f1:=d.fz (k*2+1)
    have o:=m.step x hb hl
    obtain⟨pv,cv,rfl,-,-,-⟩:=id hb.is
    obtain⟨NX,NW⟩:=hid2 o N
    clear o N hb hl O R d p m x
    go_wp2_with fail
    refine NW.out.mono ?_
    rintro e E ⟨rfl,rfl⟩
    go_wp2_with fail
    go_round
    case rel=>exact⟨k+1,by omega,by simp,NX.out⟩
    case measure=>simp[intOf];omega
   ·have a8:k=n:=by omega
    subst a8
    have SY:=Z2 m
    clear m
    go_wp2_with fail
    go_returns
    obtain⟨M,d,p⟩:=SY.out.is
    have G:=SY.out.mod
    refine⟨rfl,?_,((X.out.mono (fun j _ h=>h.elim .inl (fun h=>.inr (.inl h)))).seq G (fun j _ h=>by rw[h];exact .inr (.inr d.tag))),SY.out.size.trans Z1.out⟩
    refine(D1.out.put f hf G (Ext.refl _ τ) (fun j _ h=>by rw[h];exact .inl d.tag) (l.map Sec.sync) ?_).at
    rw[HV.out]
    refine⟨_,cap,by rw[Y0,L.out],by rw[Y0,L.out];exact h1,by rw[Y0,L.out];exact h2,fun _=>⟨bf,M,rfl,d,fun j t C=>?_⟩⟩
    rw[List.getElem?_map] at C
    obtain⟨t',U,rfl⟩:=Option.map_eq_some_iff.1 C
    have ab:=(Z4 U).1
    have:=p j t' U
    rwa [if_pos (by rw[<-L.out];exact ab)] at this
theorem Tryz.infoSector:(Tryz.prog.info? 113).map (fun i=>(i.zero,i.size,i.bytes))=some (some (.agg #[.slice none 0 0,.slice none 0 0]),2,48):=by kernel_rfl
theorem Qkn (k:Nat) (hk:k<=4096) (W:World):(Instr.makeSlice 103 (.int .i64 (k:Int)) (.int .i64 (k:Int))).run Tryz.prog W =
 .ok (.slice (some ⟨W.heap.size,0,none⟩) k k) (W.alloc (.cells (madeCells #[.slice none 0 0,.slice none 0 0] (k*2)) 113)):=by
 obtain⟨i,hi,b,d,e⟩:=info_parts Tryz.infoSector
 have:=run_make (P:=Tryz.prog) W 103 113 i (.agg #[.slice none 0 0,.slice none 0 0]) Tryz.underlying103 hi b .i64 .i64 k k (by omega) (Int.le_refl _) (by rw[e];omega) (by omega)
 simp only[Int.toNat_natCast,d] at this
 exact this
theorem Qcz (W:World):(Instr.makeSlice 37 (.int .i64 128) (.int .i64 128)).run Tryz.prog W =
 .ok (.slice (some ⟨W.heap.size,0,none⟩) 128 128) (W.alloc (.cells (madeCells #[.int .u8 0] 128) 5)):=by
 obtain⟨i,hi,b,d,e⟩:=info_parts Tryz.infoU8
 have:=run_make (P:=Tryz.prog) W 37 5 i (.int .u8 0) Tryz.underlying37 hi b .i64 .i64 (128:Nat) (128:Nat) (by omega) (Int.le_refl _) (by rw[e];omega) (by omega)
 simp only[Int.toNat_natCast,d,Nat.mul_one] at this
 exact this
theorem made_get (z:Array Value) (n j:Nat) (h:j<n):(madeCells z n)[j]?=some (z[j%z.size]!):=by
 unfold madeCells
 rw[Array.getElem?_map,Array.getElem?_range,if_pos h];rfl
theorem Qvi (z:Array Value) (n:Nat):(madeCells z n).size=n:=by simp[madeCells]
def zsec:Sec:=⟨List.replicate 128 0,[]⟩
theorem Bytes.noughts (w:World) (τ:Tags) (g:Tag) (n:Nat) (hn:n<=maxLen):Bytes (w.alloc (.cells (madeCells #[.int .u8 0] n) 5)) (τ.put w.heap.size g) g (.slice (some ⟨w.heap.size,0,none⟩) n n) (List.replicate n 0):=by
 have b:=Own.new w τ g 5 (madeCells #[.int .u8 0] n).toList
 refine⟨fun x d=>by rw[(List.mem_replicate.1 d).2];omega,some ⟨w.heap.size,0,none⟩,n,by rw[Z7],by simp,hn,fun _=>⟨w.heap.size,0,rfl,b.tag,fun i hi=>?_⟩⟩
 rw[Z7] at hi
 have:=b.at i (v:=.int .u8 0) (by rw[Array.getElem?_toList,made_get _ _ _ hi];simp[Nat.mod_one])
 rw[Nat.zero_add]
 rw[show (List.replicate n (0:Int)).getD i 0=0 by simp[List.getD,hi]]
 exact this
structure Fil (w0:World) (τ0:Tags) (wr:World) (τ:Tags) (bd f n k row:Nat) (v0 v1:Value) (l0:List Sec):Prop where
 ext:Ext w0 τ0 τ
 mod:Mod w0 wr no
 dev:Own wr τ bd tDev 107 [v0,v1,.pointer none,.bool false]
 low:w0.heap.size<=bd
 val:fileV v0 v1 f = .slice (some ⟨row,0,none⟩) n n
 rows:∃xs,Own wr τ row (tRow f) 113 xs/\(∀j,j<k->SecIn wr τ f j xs zsec)/\(∀j,k<=j->j<n->xs[j*2]?=some (.slice none 0 0)/\xs[j*2+1]?=some (.slice none 0 0))
 new:w0.heap.size<=row
 other:f=1->File wr τ 0 v0 l0
theorem Fil.step {y wr:World}{l τ:Tags}{bd f n k row:Nat}{v0 z:Value}{l0:List Sec}(h:Fil y l wr τ bd f n k row v0 z l0) (hk:k<n) :
 Fil y l ((wr.alloc (.cells (madeCells #[.int .u8 0] 128) 5)).setCell ⟨row,k*2,none⟩ (.slice (some ⟨wr.heap.size,0,none⟩) 128 128)) (τ.put wr.heap.size tData) bd f n (k+1) row v0 z l0:=by
 obtain⟨F,d,G,B⟩:=h.rows
 have I:=Bytes.noughts wr τ tData 128 (by unfold maxLen;omega)
 have hlr:=d.lt
 have m1:Mod wr (wr.alloc (.cells (madeCells #[.int .u8 0] 128) 5)) no:=(Mod.refl _ _).alloc _
 have o:Ext wr τ (τ.put wr.heap.size tData):=(Ext.refl _ _).put _ _ (Z0 _)
 have C:=d.mod m1 o (fun h=>h)
 have m2:Mod (wr.alloc (.cells (madeCells #[.int .u8 0] 128) 5)) ((wr.alloc (.cells (madeCells #[.int .u8 0] 128) 5)).setCell ⟨row,k*2,none⟩ (.slice (some ⟨wr.heap.size,0,none⟩) 128 128)) (fun j=>j=row):=Mod.one _ _ _ _
 have m:Mod wr ((wr.alloc (.cells (madeCells #[.int .u8 0] 128) 5)).setCell ⟨row,k*2,none⟩ (.slice (some ⟨wr.heap.size,0,none⟩) 128 128)) (fun j=>j=row):=(m1.mono (fun _ _ h=>h.elim)).seq m2 (fun _ _ h=>h)
 have hd:∀i,i<wr.heap.size->τ i=tData->¬i=row:=fun i _ b e=>by rw[e,d.tag] at b;simp[tRow,tData] at b
 have J:∀j i,i<wr.heap.size->τ i=tWait f j->¬i=row:=fun j i _ b e=>by rw[e,d.tag] at b;simp[tRow,tWait] at b
 have ⟨x0,x1⟩:=B k (Z0 _) hk
 have p:=(Z4 x0).1
 have l1':=(Z4 x1).1
 refine⟨h.ext.trans o h.mod.size,h.mod.seq m (fun j D hS=>?_),h.dev.mod m o (fun e=>?_),h.low,h.val,⟨F.set (k*2) (.slice (some ⟨wr.heap.size,0,none⟩) 128 128),C.set _ _,fun j D=>?_,fun j D hn=>?_⟩,h.new,fun E=>?_⟩
 ·have:=h.new
  omega
 ·have:=h.dev.tag
  rw[e,d.tag] at this;simp[tRow,tDev] at this
 ·by_cases r:j=k
  ·subst r
   refine⟨⟨by simp[zsec],_,by rw[List.getElem?_set_self p],I.mod m2 (Ext.refl _ _) (fun i _ b e=>by rw[e,C.tag] at b;simp[tRow,tData] at b)⟩,⟨.slice none 0 0,by rw[List.getElem?_set_ne (by omega)];exact x1,.inl ⟨rfl,rfl⟩⟩⟩
  ·have hi:=(G j (by omega)).mod m o (J j) hd
   obtain⟨⟨a,L,s,w⟩,⟨q,M,x⟩⟩:=hi
   exact⟨⟨a,L,by rw[List.getElem?_set_ne (by omega)];exact s,w⟩,⟨q,by rw[List.getElem?_set_ne (by omega)];exact M,x⟩⟩
 ·rw[List.getElem?_set_ne (by omega),List.getElem?_set_ne (by omega)]
  exact B j (by omega) hn
 ·exact(h.other E).mod m o (fun i _ b e=>by rw[e,d.tag,E] at b;simp[tRow] at b) (fun j i _ b e=>by rw[e,d.tag] at b;simp[tRow,tWait] at b) hd
theorem Fil.drew {d wr:World}{b τ:Tags}{bd f n k row:Nat}{v0 e:Value}{l0:List Sec}(h:Fil d b wr τ bd f n k row v0 e l0):Fil d b wr.drew τ bd f n k row v0 e l0:=by
 obtain⟨i,l,o,p⟩:=h.rows
 have m:Mod wr wr.drew no:=(Mod.refl wr no).drew
 exact⟨h.ext,h.mod.drew,h.dev.drew,h.low,h.val,⟨i,l.drew,fun j q=>(o j q).mod m (Ext.refl _ _) (fun _ _ _ h=>h) (fun _ _ _ h=>h),p⟩,h.new,fun r=>(h.other r).mod m (Ext.refl _ _) (fun _ _ _ h=>h) (fun _ _ _ _ h=>h) (fun _ _ _ h=>h)⟩
theorem Fil.file {k wr:World}{d τ:Tags}{bd f n row:Nat}{v0 i:Value}{l0:List Sec}(h:Fil k d wr τ bd f n n row v0 i l0) (hn:n<=4096):File wr τ f (fileV v0 i f) (List.replicate n zsec):=by
 obtain⟨l,m,o,hx⟩:=h.rows
 rw[h.val]
 refine⟨_,n,by rw[Z7],by simp,by simpa using hn,fun _=>⟨row,l,rfl,m,fun j t b=>?_⟩⟩
 rw[List.getElem?_replicate] at b
 split at b
 ·rename_i e
  cases b
  exact o j e
 ·cases b
theorem Qvj (n:Nat):∀j,0<=j->j<n->(madeCells #[.slice none 0 0,.slice none 0 0] (n*2)).toList[j*2]?=some (Value.slice none 0 0)/\(madeCells #[.slice none 0 0,.slice none 0 0] (n*2)).toList[j*2+1]?=some (Value.slice none 0 0):=by
 intro j _ hj
 rw[Array.getElem?_toList,Array.getElem?_toList,made_get _ _ _ (by omega),made_get _ _ _ (by omega)]
 have h0:j*2%2=0:=by omega
 have h1:(j*2+1)%2=1:=by omega
 constructor
 ·show some (#[Value.slice none 0 0,.slice none 0 0][j*2%2]!)=_
  rw[h0];rfl
 ·show some (#[Value.slice none 0 0,.slice none 0 0][(j*2+1)%2]!)=_
  rw[h1];rfl
theorem Fil.start {k wr:World}{b τ:Tags}{bd n:Nat}{v0 q:Value}{l0:List Sec}(e:Ext k b τ) (m:Mod k wr no) (dev:Own wr τ bd tDev 107 [v0,q,.pointer none,.bool false]) (low:k.heap.size<=bd) (f:Nat) (hf:f<2) (w:f=1->File wr τ 0 v0 l0)
 (l r:Value) (hu:[l,r,.pointer none,.bool false]=[v0,q,.pointer none,.bool false].set f (.slice (some ⟨wr.heap.size,0,none⟩) n n)) :
 Fil k b ((wr.alloc (.cells (madeCells #[.slice none 0 0,.slice none 0 0] (n*2)) 113)).setCell ⟨bd,f,none⟩ (.slice (some ⟨wr.heap.size,0,none⟩) n n)) (τ.put wr.heap.size (tRow f)) bd f n 0 wr.heap.size l r l0:=by
 have hbl:=dev.lt
 have m1:Mod wr (wr.alloc (.cells (madeCells #[.slice none 0 0,.slice none 0 0] (n*2)) 113)) no:=(Mod.refl _ _).alloc _
 have o:Ext wr τ (τ.put wr.heap.size (tRow f)):=(Ext.refl _ _).put _ _ (Z0 _)
 have d1:=dev.mod m1 o (fun h=>h)
 have x:=Own.new wr τ (tRow f) 113 (madeCells #[.slice none 0 0,.slice none 0 0] (n*2)).toList
 have m2:Mod (wr.alloc (.cells (madeCells #[.slice none 0 0,.slice none 0 0] (n*2)) 113)) ((wr.alloc (.cells (madeCells #[.slice none 0 0,.slice none 0 0] (n*2)) 113)).setCell ⟨bd,f,none⟩ (.slice (some ⟨wr.heap.size,0,none⟩) n n)) (fun j=>j=bd):=Mod.one _ _ _ _
 have s:Mod wr ((wr.alloc (.cells (madeCells #[.slice none 0 0,.slice none 0 0] (n*2)) 113)).setCell ⟨bd,f,none⟩ (.slice (some ⟨wr.heap.size,0,none⟩) n n)) (fun j=>j=bd):=(m1.mono (fun _ _ h=>h.elim)).seq m2 (fun _ _ h=>h)
 have d:∀g,g≠tDev->∀i,i<wr.heap.size->τ i=g->¬i=bd:=fun g d i _ y e=>d (by rw[<-y,e,dev.tag])
 refine⟨e.trans o m.size,m.seq s (fun j z h=>by omega),?_,low,?_,⟨_,x.mod m2 (Ext.refl _ _) (fun e=>by omega),fun j z=>by omega,Qvj n⟩,m.size,fun h1=>?_⟩
 ·rw[hu];exact d1.set f _
 ·rcases Nat.lt_or_ge f 1 with h|h
  ·obtain rfl:f=0:=by omega
   simp at hu;simp[fileV,hu.1]
  ·obtain rfl:f=1:=by omega
   simp at hu;simp[fileV,hu.2]
 ·have B:=(w h1).mod s o (d _ (by simp[tRow,tDev])) (fun i=>d _ (by simp[tWait,tDev])) (d _ (by simp[tData,tDev]))
  have p:l=v0:=by rw[h1] at hu;simp at hu;exact hu.1
  rw[p];exact B
def At0 (w0:World) (τ0:Tags) (wr:World) (bd:Nat):Prop:=∃τ,Ext w0 τ0 τ/\Mod w0 wr no/\Own wr τ bd tDev 107 [.slice none 0 0,.slice none 0 0,.pointer none,.bool false]
def At1 (w0:World) (τ0:Tags) (wr:World) (bd a:Nat):Prop:=∃τ v0,Ext w0 τ0 τ/\Mod w0 wr no/\Own wr τ bd tDev 107 [v0,.slice none 0 0,.pointer none,.bool false]/\File wr τ 0 v0 (List.replicate a zsec)
def At2 (w0:World) (τ0:Tags) (wr:World) (bd a b:Nat):Prop:=∃τ,Ext w0 τ0 τ/\Mod w0 wr no/\DevAt wr τ bd ⟨List.replicate a zsec,List.replicate b zsec,none,false⟩
theorem Fil.at1 {d wr:World}{b τ:Tags}{bd n row:Nat}{v0:Value}{l0:List Sec}(h:Fil d b wr τ bd 0 n n row v0 (.slice none 0 0) l0) (hn:n<=4096):At1 d b wr bd n :=
 ⟨τ,v0,h.ext,h.mod,h.dev,h.file hn⟩
theorem Fil.at2 {d wr:World}{b τ:Tags}{bd n row a:Nat}{v0 e:Value}(h:Fil d b wr τ bd 1 n n row v0 e (List.replicate a zsec)) (hn:n<=4096):At2 d b wr bd a n :=
 ⟨τ,h.ext,h.mod,v0,e,.pointer none,h.dev,h.other rfl,h.file hn,.inl ⟨rfl,rfl⟩⟩
theorem Qli (W:World) (x y:Value):(Instr.index 220 (.agg #[x,y]) (.int .i64 0)).run Tryz.prog W = .ok x W/\(Instr.index 220 (.agg #[x,y]) (.int .i64 1)).run Tryz.prog W = .ok y W:=by
 have h:=Tryz.underlying220
 constructor <;> simp[Instr.index,Sem.run_bind,run_underlying h,go_sem]
def NewD (w:World) (τ:Tags) (a b:Nat) (e:Ending) (w':World):Prop:=∃bd,e = .returned (.pointer (some ⟨bd,0,none⟩))/\w.heap.size<=bd/\At2 w τ w' bd a b
set_option maxRecDepth 20000 in
theorem Qmx (w:World) (τ:Tags) (a b:Nat) (B:a<=4096) (C:b<=4096) :
 Calls Tryz.prog 44 #[.int .i64 (a:Int),.int .i64 (b:Int)] w (NewD w τ a b):=by
 have ra:=Qkn a B
 have rb:=Qkn b C
 have U:=Z2 Qcz
 have i0:=fun W=>(Qli W (.int .i64 (a:Int)) (.int .i64 (b:Int))).1
 have i1:=fun W=>(Qli W (.int .i64 (a:Int)) (.int .i64 (b:Int))).2
 have ga:decide ((4096:Int)<(a:Int))=false:=by simp;omega
 have gb:decide ((4096:Int)<(b:Int))=false:=by simp;omega
 go_enter Tryz.func44,Tryz.ntmps44
 go_wp2_with fail
 have X:=Own.new w τ tDev 107 [.slice none 0 0,.slice none 0 0,.pointer none,.bool false]
 have Y:At0 w τ (w.alloc (.cells #[.slice none 0 0,.slice none 0 0,.pointer none,.bool false] 107)) w.heap.size:=⟨_,(Ext.refl w τ).put _ _ (Z0 _),(Mod.refl _ _).alloc _,X⟩
 have D:=Z2 Y
 clear X Y
 generalize w.alloc (.cells #[.slice none 0 0,.slice none 0 0,.pointer none,.bool false] 107)=W0 at D ⊢
 generalize s:w.heap.size=bd at D ⊢
 have F:=Z2 (Nat.le_of_eq s)
 clear s
 obtain⟨Z,HB⟩:=hid2 B C
 clear B C
 go_loopw [14] (fun v wr=>(v = .int .i64 0/\At0 w τ wr bd)\/(v = .int .i64 1/\At1 w τ wr bd a)\/(v = .int .i64 2/\At2 w τ wr bd a b)) (fun v _=>2-(intOf v).toNat)
 case atStart=>exact .inl ⟨rfl,D.out⟩
 case round =>
  rcases hrel with ⟨rfl,h0⟩|⟨rfl,h1⟩|⟨rfl,h2⟩
  ·obtain⟨τ1,e,m,dev⟩:=h0
   have c0:=dev.at 0 rfl
   have f0:=dev.fz 0
   have lb:=dev.lt
   have nb:wr.heap.size≠bd:=by omega
   obtain⟨E,M,x⟩:=hid3 e m dev
   clear e m dev
   go_wp2_with fail
   go_region
   have d:=(Fil.start (n:=a) (l0:=[]) E.out M.out x.out F.out 0 (by omega) (fun h=>by omega) _ _ rfl).drew
   rw[World.setCell_alloc_past _ _ _ _ lb] at d
   generalize τ1.put wr.heap.size (tRow 0)=q at d
   generalize ((wr.setCell ⟨bd,0,none⟩ (.slice (some ⟨wr.heap.size,0,none⟩) a a)).alloc (.cells (madeCells #[.slice none 0 0,.slice none 0 0] (a*2)) 113)).drew=w2 at d ⊢
   generalize wr.heap.size=row at d ⊢
   have c2:=d.dev.at 0 rfl
   have y:=Z2 d
   clear d E M x c0 f0 lb nb
   go_wp2_with fail
   go_loopw [38] (fun v G=>∃(k:Nat) (j:Tags),k<=a/\v = .int .i64 (k:Int)/\Fil w τ G j bd 0 a k row (.slice (some ⟨row,0,none⟩) a a) (.slice none 0 0) ([])) (fun v _=>a-(intOf v).toNat)
   case atStart=>exact⟨0,q,Z9 _,rfl,y.out⟩
   case round =>
    clear y c2
    obtain⟨k,j,hk,rfl,i⟩:=hrel
    by_cases l:k<a
    ·have d0:=i.dev.at 0 rfl
     obtain⟨xs,o,I,z⟩:=i.rows
     have x0:=o.at _ (z k (Z0 _) l).1
     have z0:=o.fz (k*2)
     have J:=o.lt
     have nr:wr.heap.size≠row:=by omega
     have ld:=i.dev.lt
     have nd:wr.heap.size≠bd:=by omega
     have nx:=(i.step l)
     rw[World.setCell_alloc_past _ _ _ _ J] at nx
     have L:=Z2 nx.drew
     have N:=U.out
     have O:k+1<=9223372036854775807:=by have:=Z.out;omega
     clear o I z i nx
     go_wp2_with fail
     go_region
     go_wp2_with fail
     go_round
     case rel=>exact⟨k+1,_,by omega,by simp,L.out⟩
     case measure=>simp[intOf];omega
    ·have r:k=a:=by omega
     subst r
     have R:=Z2 i
     clear i
     go_wp2_with fail
     go_round
     case rel=>exact .inr (.inl ⟨by simp,R.out.at1 Z.out⟩)
     case measure=>simp[intOf]
  ·obtain⟨τ1,v0,e,m,dev,p⟩:=h1
   have c0:=dev.at 1 rfl
   have f0:=dev.fz 1
   have lb:=dev.lt
   have nb:wr.heap.size≠bd:=by omega
   obtain⟨E,M,x,F0⟩:=hid4 e m dev p
   clear e m dev p
   go_wp2_with fail
   go_region
   have d:=(Fil.start (n:=b) (l0:=List.replicate a zsec) E.out M.out x.out F.out 1 (by omega) (fun _=>F0.out) _ _ rfl).drew
   rw[World.setCell_alloc_past _ _ _ _ lb] at d
   generalize τ1.put wr.heap.size (tRow 1)=q at d
   generalize ((wr.setCell ⟨bd,1,none⟩ (.slice (some ⟨wr.heap.size,0,none⟩) b b)).alloc (.cells (madeCells #[.slice none 0 0,.slice none 0 0] (b*2)) 113)).drew=w2 at d ⊢
   generalize wr.heap.size=row at d ⊢
   have c2:=d.dev.at 1 rfl
   have y:=Z2 d
   clear d E M x c0 f0 lb nb
   go_wp2_with fail
   go_loopw [38] (fun v G=>∃(k:Nat) (j:Tags),k<=b/\v = .int .i64 (k:Int)/\Fil w τ G j bd 1 b k row v0 (.slice (some ⟨row,0,none⟩) b b) (List.replicate a zsec)) (fun v _=>b-(intOf v).toNat)
   case atStart=>exact⟨0,q,Z9 _,rfl,y.out⟩
   case round =>
    clear y c2
    obtain⟨k,j,hk,rfl,i⟩:=hrel
    by_cases l:k<b
    ·have d0:=i.dev.at 1 rfl
     obtain⟨xs,o,I,z⟩:=i.rows
     have x0:=o.at _ (z k (Z0 _) l).1
     have z0:=o.fz (k*2)
     have J:=o.lt
     have nr:wr.heap.size≠row:=by omega
     have ld:=i.dev.lt
     have nd:wr.heap.size≠bd:=by omega
     have nx:=(i.step l)
     rw[World.setCell_alloc_past _ _ _ _ J] at nx
     have L:=Z2 nx.drew
     have N:=U.out
     have O:k+1<=9223372036854775807:=by have:=HB.out;omega
     clear o I z i nx
     go_wp2_with fail
     go_region
     go_wp2_with fail
     go_round
     case rel=>exact⟨k+1,_,by omega,by simp,L.out⟩
     case measure=>simp[intOf];omega
    ·have r:k=b:=by omega
     subst r
     have R:=Z2 i
     clear i
     go_wp2_with fail
     go_round
     case rel=>exact .inr (.inr ⟨by simp,R.out.at2 HB.out⟩)
     case measure=>simp[intOf]
  ·have H2:=Z2 h2
   clear h2
   go_wp2_with fail
   go_returns
   exact⟨_,rfl,F.out,H2.out⟩
theorem Qko (k:Nat) (hk:k<=100000000) (W:World):(Instr.makeSlice 37 (.int .i64 (k:Int)) (.int .i64 (k:Int))).run Tryz.prog W =
 .ok (.slice (some ⟨W.heap.size,0,none⟩) k k) (W.alloc (.cells (madeCells #[.int .u8 0] k) 5)):=by
 obtain⟨i,hi,b,d,e⟩:=info_parts Tryz.infoU8
 have:=run_make (P:=Tryz.prog) W 37 5 i (.int .u8 0) Tryz.underlying37 hi b .i64 .i64 k k (by omega) (Int.le_refl _) (by rw[e];omega) (by omega)
 simp only[Int.toNat_natCast,d,Nat.mul_one] at this
 exact this
def Qep (n j:Nat):Int:=(n:Int)/2 ^ (8*j)%256
def leB (n k:Nat):List Int:=(List.range k).map (Qep n)
theorem Qaa (n k:Nat):(leB n k).length=k:=by simp[leB]
theorem Qt6 (n j:Nat):0<=Qep n j/\Qep n j<=255:=by unfold Qep;omega
theorem Qan (n k:Nat):IsB (leB n k):=by
 intro x b
 obtain⟨j,_,rfl⟩:=List.mem_map.1 b
 exact Qt6 n j
def Qew (n k i:Nat):List Value:=(List.range k).map (fun j=>.int .u8 (if j<i then Qep n j else 0))
theorem Qc2 (n k i j:Nat) (h:j<k):(Qew n k i)[j]?=some (.int .u8 (if j<i then Qep n j else 0)):=by
 simp[Qew,List.getElem?_map,List.getElem?_range h]
theorem Qb4 (n k i:Nat):(Qew n k i).length=k:=by simp[Qew]
theorem Qro (n k i:Nat) (h:i<k):(Qew n k i).set i (.int .u8 (Qep n i))=Qew n k (i+1):=by
 apply List.ext_getElem?
 intro j
 by_cases l:j<k
 ·by_cases b:j=i
  ·subst b
   rw[List.getElem?_set_self (by rw[Qb4];exact h),Qc2 _ _ _ _ l,if_pos (by omega)]
  ·rw[List.getElem?_set_ne (fun e=>b e.symm),Qc2 _ _ _ _ l,Qc2 _ _ _ _ l]
   by_cases d:j<i
   ·rw[if_pos d,if_pos (by omega)]
   ·rw[if_neg d,if_neg (by omega)]
 ·rw[List.getElem?_eq_none (by rw[Y1,Qb4];omega),List.getElem?_eq_none (by rw[Qb4];omega)]
theorem Qgp (n k:Nat):(madeCells #[.int .u8 0] k).toList=Qew n k 0:=by
 apply List.ext_getElem?
 intro j
 by_cases b:j<k
 ·rw[Array.getElem?_toList,made_get _ _ _ b,Qc2 _ _ _ _ b,if_neg (by omega)]
  simp[Nat.mod_one]
 ·rw[List.getElem?_eq_none (by rw[Array.length_toList,Qvi];omega),List.getElem?_eq_none (by rw[Qb4];omega)]
theorem Qrp (n k:Nat):Qew n k k=u8s (leB n k):=by
 simp only[Qew,u8s,leB,List.map_map]
 apply List.map_congr_left
 intro j b
 simp[List.mem_range.1 b]
theorem Own.bytes {w:World}{τ:Tags}{g:Tag}{b:Nat}{l:List Int}(h:Own w τ b g 5 (u8s l)) (d:IsB l) (hl:l.length<=maxLen):Bytes w τ g (.slice (some ⟨b,0,none⟩) l.length l.length) l :=
 ⟨d,some ⟨b,0,none⟩,l.length,rfl,Z0 _,hl,fun _=>⟨b,0,rfl,h.tag,fun i hi=>by rw[Nat.zero_add];exact h.at i (Qfw l i hi)⟩⟩
theorem Qeu (w:World) (τ:Tags) (g:Tag) (n k:Nat) (hn:n<2 ^ 64) (h1:1<=k) (h8:k<=8) :
 Calls Tryz.prog 154 #[.int .u64 (n:Int),.int .i64 (k:Int)] w (NewB w τ g (leB n k)):=by
 have hmk:=Qko k (by omega)
 have a0:decide ((k:Int)<1)=false:=by simp;omega
 have a1:decide ((8:Int)<(k:Int))=false:=by simp;omega
 have HN:=Z2 hn
 have j:=Own.new w τ g 5 (madeCells #[.int .u8 0] k).toList
 rw[Qgp n] at j
 have q:=Z2 j
 clear hn j
 go_enter Tryz.func154,Tryz.ntmps154
 go_wp2_with fail
 go_loopw [17] (fun v wr=>∃i:Nat,i<=k/\v = .int .i64 (i:Int)/\Own wr (τ.put w.heap.size g) w.heap.size g 5 (Qew n k i)/\Mod w wr no) (fun v _=>k-(intOf v).toNat)
 case atStart =>
  refine⟨0,Z9 _,rfl,?_,(Mod.refl _ _).alloc _⟩
  have:=q.out
  rwa [<-Qgp n k] at this ⊢
 case round =>
  obtain⟨i,hi,rfl,b,e⟩:=hrel
  by_cases d:i<k
  ·have c0:=b.at i (Qc2 n k i i d)
   have z0:=b.fz i
   have nx:=b.set i (.int .u8 (Qep n i))
   rw[Qro n k i d] at nx
   obtain⟨r,l⟩:=hid2 nx e
   clear b nx e
   go_wp2_with fail
   go_round
   case rel=>exact⟨i+1,by omega,by simp,r.out,l.out.setCell (p:=⟨w.heap.size,i,none⟩) (fun h=>absurd h (Nat.lt_irrefl _)) _⟩
   case measure=>simp[intOf];omega
  ·have m:i=k:=by omega
   subst m
   obtain⟨s,l⟩:=hid2 b e
   clear b e
   go_wp2_with fail
   go_returns
   have b:=s.out
   rw[Qrp] at b
   have o:=b.bytes (Qan n i) (by rw[Qaa];unfold maxLen;omega)
   rw[Qaa] at o
   exact⟨_,_,rfl,o,(Ext.refl w τ).put _ g (Z0 _),l.out⟩
def leN (l:List Int):Nat->Nat
 | 0=>0
 | i+1=>leN l i+(l.getD i 0).toNat*2 ^ (8*i)
theorem Qdl (n k i:Nat) (h:i<=k):leN (leB n k) i=n%2 ^ (8*i):=by
 induction i with
 | zero=>simp[leN,Nat.mod_one]
 | succ i ih =>
   have b:((leB n k).getD i 0).toNat=n/2 ^ (8*i)%256:=by
    have:(leB n k).getD i 0=Qep n i:=by
     have hi:i<k:=by omega
     rw[Z5,leB,List.getElem?_map,List.getElem?_range hi];rfl
    rw[this]
    unfold Qep
    have:((n:Int)/2 ^ (8*i)%256)=((n/2 ^ (8*i)%256:Nat):Int):=by rw[Int.natCast_emod,Int.natCast_ediv,Int.natCast_pow];rfl
    rw[this];rfl
   show leN (leB n k) i+_*2 ^ (8*i)=_
   rw[ih (by omega),b,show 8*(i+1)=8*i+8 by omega,Nat.pow_add,Nat.mod_mul,Nat.mul_comm (n/2 ^ (8*i)%256)]
theorem Qr9 (i:Nat):2 ^ (8*(i+1))=256*2 ^ (8*i):=by
 rw[show 8*(i+1)=8+8*i by omega,Nat.pow_add]
theorem Qle {l:List Int}(h:IsB l) (i:Nat):leN l i<2 ^ (8*i):=by
 induction i with
 | zero=>simp[leN]
 | succ i ih =>
   have b:(l.getD i 0).toNat<=255:=by have:=h.at i;omega
   have:=Y7 (2 ^ (8*i)) b
   rw[Qr9]
   unfold leN
   omega
theorem Qyq {l:List Int}(h:IsB l) (i:Nat) (hi:i<=8):leN l i<18446744073709551616:=by
 have h1:=Qle h i
 have h2:2 ^ (8*i)<=2 ^ 64:=Nat.pow_le_pow_right (by omega) (by omega)
 have h3:(2:Nat) ^ 64=18446744073709551616:=by decide
 omega
theorem Qam (n:Nat) (h:n<18446744073709551616):IntKind.u64.wrap (n:Int)=(n:Int):=by
 have:IntKind.u64.wrap (n:Int)=(n:Int)%18446744073709551616:=by simp[IntKind.wrap,IntKind.bits,IntKind.signed]
 rw[this];omega
theorem Qzn {l:List Int}(h:IsB l) (i:Nat) (hi:i<8) :
 bits BinOp.or IntKind.u64 (leN l i:Int) (IntKind.u64.wrap (IntKind.u64.wrap (l[i]?.getD 0)*2 ^ (8*i)))=(leN l (i+1):Int):=by
 have e:=h.at i
 have j:l[i]?.getD 0=l.getD i 0:=by simp[List.getD]
 rw[j]
 obtain⟨x,b⟩:=Int.eq_ofNat_of_zero_le e.1
 have k:leN l (i+1)=leN l i+x*2 ^ (8*i):=by
  show leN l i+(l.getD i 0).toNat*2 ^ (8*i)=_
  rw[b];rfl
 have d:=Qyq h (i+1) (by omega)
 have hl:=Qle h i
 rw[k] at d ⊢
 rw[b] at e ⊢
 generalize leN l i=n at *
 have m:((x:Int)*2 ^ (8*i))=((x*2 ^ (8*i):Nat):Int):=by push_cast;rfl
 rw[Qam x (by omega),m,Qam _ (by omega),u64_or_nat _ _ (by omega) (by omega)]
 congr 1
 rw[Nat.or_comm,<-Nat.shiftLeft_eq,<-Nat.shiftLeft_add_eq_or_of_lt hl,Nat.shiftLeft_eq]
 omega
theorem Qip {w:World}{τ:Tags}{g:Tag}{p:Option Addr}{c:Nat}{l:List Int}(h:Bytes w τ g (.slice p l.length c) l) (h8:l.length<=8) (h0:0<l.length) :
 Calls Tryz.prog 122 #[.slice p l.length c] w fun e y=>e = .returned (.int .u64 (leN l l.length:Int))/\w=y:=by
 obtain⟨p',c',r,h1,h2,s⟩:=h.is
 obtain⟨b,o,z,ht,d⟩:=s h0
 simp only[Value.slice.injEq,true_and] at r
 obtain⟨rfl,rfl⟩:=r
 subst z
 have x:=h.isB
 generalize hk:l.length=k at *
 have hmin:(min (k:Int) 8)=k:=by omega
 obtain⟨B,C,HK⟩:=hid3 d x hk
 clear h s d x hk
 go_enter Tryz.func122,Tryz.ntmps122
 go_wp2_with fail
 go_loopw [3,12] (fun m v wr=>∃(i:Nat),i<=k/\v = .int .i64 (i:Int)/\m = .int .u64 (leN l i:Int)/\wr=w) (fun _ v _=>k-(intOf v).toNat)
 case atStart=>exact⟨0,Z9 _,rfl,rfl,rfl⟩
 case round =>
  obtain⟨i,hi,rfl,rfl,rfl⟩:=hrel
  by_cases j:i<k
  ·have c0:=B.out i j
   have ST:=Z2 (Qzn C.out i (by omega))
   go_wp2_with fail
   go_round
   case rel=>exact⟨i+1,by omega,by simp,by rw[ST.out],trivial⟩
   case measure=>simp[intOf];omega
  ·have q:i=k:=by omega
   subst q
   go_wp2_with fail
   go_returns
   exact⟨rfl,rfl⟩
theorem Bytes.sub {w:World}{τ:Tags}{g:Tag}{b o n c:Nat}{l:List Int}(h:Bytes w τ g (.slice (some ⟨b,o,none⟩) n c) l) (i j m:Nat) (hij:i<j) (hj:j<=n) (hc1:j-i<=m) (p:m<=maxLen) :
 Bytes w τ g (.slice (some ⟨b,o+i,none⟩) (j-i) m) ((l.drop i).take (j-i)):=by
 obtain⟨p',c2,q,h1,h2,s⟩:=h.is
 simp only[Value.slice.injEq] at q
 obtain⟨rfl,rfl,rfl⟩:=q
 obtain⟨b',o',r,y,e⟩:=s (by omega)
 simp only[Option.some.injEq,Addr.mk.injEq] at r
 obtain⟨rfl,rfl,_⟩:=r
 have d:((l.drop i).take (j-i)).length=j-i:=by rw[List.length_take,List.length_drop];omega
 refine⟨fun x z=>h.isB x (List.mem_of_mem_drop (List.mem_of_mem_take z)),some ⟨b,o+i,none⟩,m,by rw[d],by omega,p,fun _=>⟨b,o+i,rfl,y,fun k hk=>?_⟩⟩
 rw[d] at hk
 have:=e (i+k) (by omega)
 rw[Nat.add_assoc,this]
 congr 2
 simp only[Z5,List.getElem?_take,List.getElem?_drop,if_pos hk]
def lowMark (l:List Int):Nat:=leN ((l.drop 0).take (8-0)) 8
def highMark (l:List Int):Nat:=leN ((l.drop 120).take (128-120)) 8
theorem Qlc {w:World}{τ:Tags}{g:Tag}{p:Option Addr}{c:Nat}{l:List Int}(h:Bytes w τ g (.slice p 128 c) l) :
 Calls Tryz.prog 130 #[.slice p 128 c] w fun e d=>e = .returned (.tuple #[.int .u64 (lowMark l:Int),.int .u64 (highMark l:Int),.bool true])/\w.drew=d:=by
 obtain⟨p',c',i,h1,h2,j⟩:=h.is
 simp only[Value.slice.injEq] at i
 obtain⟨rfl,hl,rfl⟩:=i
 obtain⟨b,o,rfl,q,_⟩:=j (by omega)
 have k:=h.drew.sub 0 8 c (by omega) (by omega) (by omega) h2
 have m:=h.drew.sub 120 128 (c-120) (by omega) (by omega) (by omega) (by omega)
 have l0:((l.drop 0).take (8-0)).length=8:=by rw[List.length_take,List.length_drop];omega
 have l1:((l.drop 120).take (128-120)).length=8:=by rw[List.length_take,List.length_drop];omega
 have g0:=Qip (p:=some ⟨b,o+0,none⟩) (c:=c) (l:=(l.drop 0).take (8-0)) (by rw[l0];exact k) (by omega) (by omega)
 have g1:=Qip (p:=some ⟨b,o+120,none⟩) (c:=c-120) (l:=(l.drop 120).take (128-120)) (by rw[l1];exact m) (by omega) (by omega)
 rw[l0] at g0
 rw[l1] at g1
 rw[Nat.add_zero] at g0
 change Calls _ _ _ _ (fun e d=>e = .returned (.int .u64 (lowMark l:Int))/\_=d) at g0
 change Calls _ _ _ _ (fun e d=>e = .returned (.int .u64 (highMark l:Int))/\_=d) at g1
 obtain⟨r,s⟩:=hid2 g0 g1
 have hc128:128<=c:=by omega
 have hc8:8<=c:=by omega
 have hc8':(8:Int)<=(c:Int):=by omega
 have hne:¬c=120:=by omega
 have hne':¬c=0:=by omega
 clear h h1 j k m l0 l1 g0 g1 q hl
 go_enter Tryz.func130,Tryz.ntmps130
 go_wp2_with fail
 go_region_law (first
  | (go_simp;go_at_call 122;with_reducible refine r.out.mono ?_;rintro e d ⟨rfl,rfl⟩)
  | (go_simp;go_at_call 122;with_reducible refine s.out.mono ?_;rintro e d ⟨rfl,rfl⟩))
 all_goals go_wp2_with fail
 all_goals go_returns
 all_goals exact⟨rfl,rfl⟩
def greatTo (ls:List (List Int)):Nat->Nat
 | 0=>0
 | i+1=>max (max (greatTo ls i) (lowMark (ls.getD i []))) (highMark (ls.getD i []))
theorem Waits.read {w:World}{τ:Tags}{g:Tag}{v:Value}{ls:List (List Int)}(h:Waits w τ g v ls) :
 ∃p c,v = .slice p ls.length c/\ls.length<=maxLen/\∀(k:Nat) (x:List Int),ls[k]?=some x->x.length=128/\∃b u,p=some ⟨b,0,none⟩/\w.cell? ⟨b,k,none⟩=some u/\Bytes w τ tData u x:=by
 rcases h with ⟨rfl,rfl⟩|⟨b,cap,xs,ys,rfl,e,h1,h2,h3,hk⟩
 ·exact⟨none,0,rfl,Z9 _,fun k x d=>by simp at d⟩
 ·refine⟨_,cap,rfl,by omega,fun k x d=>?_⟩
  obtain⟨a,u,hu,i⟩:=hk k x d
  refine⟨a,b,u,rfl,e.at k ?_,i⟩
  rw[Y5 (Z4 hu).1];exact hu
theorem Qr3 {P:Program}(W:World) (ts:Array TypeId) (t:TypeId) (x y z m:Nat) (b:m=max (max x y) z):(Builtin.max_ ts t #[.int .u64 (x:Int),.int .u64 (y:Int),.int .u64 (z:Int)]).run P W = .ok (.int .u64 (m:Int)) W:=by
 rw[run_max_int3]
 congr 2
 subst b
 split <;> split <;> omega
theorem Qpn {w:World}{τ:Tags}{g:Tag}{v:Value}{ls:List (List Int)}(h:Waits w τ g v ls) :
 Calls Tryz.prog 64 #[v] w fun e B=>e = .returned (.int .u64 (greatTo ls ls.length:Int))/\Mod w B no:=by
 obtain⟨p,c,rfl,d,C⟩:=h.read
 have hbig:ls.length<=9223372036854775807:=by unfold maxLen at d;omega
 have F:=Z2 C
 clear C d h
 generalize hn:ls.length=n at *
 have G:=Z2 hn
 clear hn
 go_enter Tryz.func64,Tryz.ntmps64
 go_wp2_with fail
 go_loopw [3,11] (fun m v wr=>∃i:Nat,i<=n/\v = .int .i64 (i:Int)/\m = .int .u64 (greatTo ls i:Int)/\Mod w wr no) (fun _ v _=>n-(intOf v).toNat)
 case atStart=>exact⟨0,Z9 _,rfl,rfl,Mod.refl _ _⟩
 case round =>
  obtain⟨i,hi,rfl,rfl,d⟩:=hrel
  by_cases q:i<n
  ·obtain⟨x,r⟩:∃x,ls[i]?=some x:=⟨_,Z3 (by rw[G.out];exact q)⟩
   obtain⟨k,b,u,rfl,s,D⟩:=F.out i x r
   have c1:=(d.cell b i (cell_lt s) (fun h=>h)).trans s
   have j:=D.mod d (Ext.refl _ τ) (fun _ _ _ h=>h)
   obtain⟨pu,cu,rfl,-,-,-⟩:=id j.is
   rw[k] at j c1
   have l:=Qlc j
   have E:greatTo ls (i+1)=max (max (greatTo ls i) (lowMark x)) (highMark x):=by
    show max (max (greatTo ls i) (lowMark (ls.getD i []))) (highMark (ls.getD i []))=_
    rw[Z5,r];rfl
   have I:=Z2 l
   have hmx:=fun (W:World) (ts:Array TypeId) (t:TypeId)=>Qr3 (P:=Tryz.prog) W ts t _ _ _ _ E
   have y:=Z2 (d.drew)
   have hn1:i+1<=9223372036854775807:=by omega
   generalize greatTo ls i=a0 at *
   generalize o:greatTo ls (i+1)=a3 at *
   have J:=Z2 o
   clear o
   generalize lowMark x=a1 at *
   generalize highMark x=a2 at *
   clear l E d D j s r k
   go_wp2_with fail
   refine I.out.mono ?_
   rintro e B ⟨rfl,rfl⟩
   go_wp2_with fail
   go_round
   case rel=>exact⟨i+1,by omega,by simp,by rw[J.out],y.out⟩
   case measure=>simp[intOf];omega
  ·have z:i=n:=by omega
   subst z
   have y:=Z2 d
   clear d
   go_wp2_with fail
   go_returns
   exact⟨rfl,y.out⟩
structure Step (w:World) (τ:Tags) (w':World) (τ':Tags) (S:Tag->Prop):Prop where
 mod:Mod w w' (fun k=>S (τ k))
 ext:Ext w τ τ'
def nil:Tag->Prop:=fun _=>False
theorem Step.refl (w:World) (τ:Tags) (S:Tag->Prop):Step w τ w τ S:=⟨Mod.refl _ _,Ext.refl _ _⟩
theorem Step.of {w d:World}{τ b:Tags}(S:Tag->Prop) (m:Mod w d no) (e:Ext w τ b):Step w τ d b S:=⟨m.mono (fun _ _ h=>h.elim),e⟩
theorem Step.mk' {w d:World}{τ b:Tags}{P:Nat->Prop}{S:Tag->Prop}(m:Mod w d P) (e:Ext w τ b) (h:∀k,k<w.heap.size->P k->S (τ k)):Step w τ d b S:=⟨m.mono h,e⟩
theorem Step.mono {w d:World}{τ b:Tags}{S T:Tag->Prop}(h:Step w τ d b S) (e:∀g,S g->T g):Step w τ d b T:=⟨h.mod.mono (fun _ _=>e _),h.ext⟩
theorem Step.trans {w a b:World}{τ τ1 d:Tags}{S:Tag->Prop}(h:Step w τ a τ1 S) (k:Step a τ1 b d S):Step w τ b d S :=
 ⟨h.mod.seq k.mod (fun j i e=>by rw[h.ext j i] at e;exact e),h.ext.trans k.ext h.mod.size⟩
theorem Step.drew {w a:World}{τ τ1:Tags}{S:Tag->Prop}(h:Step w τ a τ1 S):Step w τ a.drew τ1 S:=⟨h.mod.drew,h.ext⟩
theorem Step.drews {w a:World}{τ τ1:Tags}{S:Tag->Prop}(h:Step w τ a τ1 S) (n:Nat):Step w τ (a.drewN n) τ1 S:=⟨⟨h.mod.os,h.mod.tape,h.mod.output,h.mod.size,h.mod.block⟩,h.ext⟩
theorem Step.size {w a:World}{τ τ1:Tags}{S:Tag->Prop}(h:Step w τ a τ1 S):w.heap.size<=a.heap.size:=h.mod.size
theorem Step.alloc {w a:World}{τ τ1:Tags}{S:Tag->Prop}(h:Step w τ a τ1 S) (o:Obj) (g:Tag):Step w τ (a.alloc o) (τ1.put a.heap.size g) S :=
 ⟨h.mod.alloc o,h.ext.put _ _ h.mod.size⟩
theorem Step.alloc' {w a:World}{τ τ1:Tags}{S:Tag->Prop}(h:Step w τ a τ1 S) (o:Obj):Step w τ (a.alloc o) τ1 S:=⟨h.mod.alloc o,h.ext⟩
theorem Step.set {w a:World}{τ τ1:Tags}{S:Tag->Prop}(h:Step w τ a τ1 S) {b o:Nat}{g:Tag}(d:τ1 b=g) (e:S g) (v:Value):Step w τ (a.setCell ⟨b,o,none⟩ v) τ1 S :=
 ⟨h.mod.setCell (p:=⟨b,o,none⟩) (fun hl=>by have:=h.ext b hl;rw[d] at this;show S (τ b);rw[<-this];exact e) v,h.ext⟩
theorem Step.setNew {w a:World}{τ τ1:Tags}{S:Tag->Prop}(h:Step w τ a τ1 S) {b o:Nat}(hb:w.heap.size<=b) (v:Value):Step w τ (a.setCell ⟨b,o,none⟩ v) τ1 S :=
 ⟨h.mod.setCell (p:=⟨b,o,none⟩) (fun hl=>absurd hl (by show ¬b<_;omega)) v,h.ext⟩
theorem Step.no {w d:World}{τ b:Tags}(h:Step w τ d b nil):Mod w d no:=⟨h.mod.os,h.mod.tape,h.mod.output,h.mod.size,fun k hk _=>h.mod.block k hk (fun h=>h)⟩
theorem Own.step {w e:World}{τ d:Tags}{S:Tag->Prop}{b:Nat}{g:Tag}{t:TypeId}{i:List Value}(h:Own w τ b g t i) (m:Step w τ e d S) (j:¬S g):Own e d b g t i :=
 h.mod m.mod m.ext (by rw[h.tag];exact j)
theorem Bytes.step {w d:World}{τ b:Tags}{S:Tag->Prop}{g:Tag}{v:Value}{l:List Int}(h:Bytes w τ g v l) (m:Step w τ d b S) (e:¬S g):Bytes d b g v l :=
 h.mod m.mod m.ext (fun k _ i=>by rw[i];exact e)
theorem Buf.step {w d:World}{τ b:Tags}{S:Tag->Prop}{g:Tag}{e:TypeId}{size:Nat}{v:Value}{n:Nat}{i:List Value}(h:Buf w τ g e size v n i) (m:Step w τ d b S) (j:¬S g):Buf d b g e size v n i :=
 h.mod m.mod m.ext (fun k _ l=>by rw[l];exact j)
theorem Waits.step {w e:World}{τ b:Tags}{S:Tag->Prop}{g:Tag}{v:Value}{l:List (List Int)}(h:Waits w τ g v l) (m:Step w τ e b S) (i:¬S g) (hd:¬S tData):Waits e b g v l :=
 h.mod m.mod m.ext (fun k _ d=>by rw[d];exact i) (fun k _ d=>by rw[d];exact hd)
theorem DevAt.step {w e:World}{τ d:Tags}{S:Tag->Prop}{b:Nat}{D:Dev}(h:DevAt w τ b D) (m:Step w τ e d S) (i:∀g,S g->¬DevTag g/\g≠tData):DevAt e d b D :=
 h.mod m.mod m.ext (fun k _ j=>i _ j)
theorem DevTag.dev:DevTag tDev:=.inl rfl
theorem DevTag.left:DevTag tLeft:=.inr (.inr (.inl rfl))
theorem DevTag.file {f:Nat}{g:Tag}(h:Ql2 f g):DevTag g:=by
 rcases h with rfl|⟨i,rfl⟩
 ·exact .inr (.inl rfl)
 ·exact .inr (.inr (.inr rfl))
theorem Own.born (w:World) (τ:Tags) (g:Tag) (t:TypeId) (cs:Array Value):Own (w.alloc (.cells cs t)) (τ.put w.heap.size g) w.heap.size g t cs.toList:=Own.new w τ g t cs.toList
theorem Own.step_new {w:World}{τ:Tags}{b:Nat}{g:Tag}{t:TypeId}{d:List Value}(h:Own w τ b g t d) (o:Obj) (e:Tag):Own (w.alloc o) (τ.put w.heap.size e) b g t d :=
 (h.alloc o).put (Nat.ne_of_lt h.lt) e
end Go.Proofs.YtemacanaihaldaaGreat
namespace Go.Proofs.YtemacanaihaldaaGreat
open Go.RowKit Go.Maps
theorem Qeo:Keyed Tryz.prog 36 := int_keyed Tryz.underlying36
abbrev litK (k:Nat):Lit:=.int .u32 (k:Int)
theorem Jad (k:Nat) (h:k<4294967296):(litK k).wf=true:=by
 have b:IntKind.u32.min=0:=by decide
 have d:IntKind.u32.max=4294967295:=by decide
 simp only[Lit.wf,b,d,Bool.and_eq_true,decide_eq_true_eq];omega
theorem Qd4 (k:Nat) (h:k<4294967296):keyOf Tryz.prog 36 (.int .u32 (k:Int))=some (litK k) :=
 keyOf_int_mk Tryz.underlying36 (Jad k h)
theorem Qev {j k:Nat}(h:j≠k):litK j≠litK k:=fun e=>by injection e with _ e;omega
theorem Qfb (k:Nat) (h:k<4294967296):WideAt.IsKeyLit (litK k):=Qeo.key (Qd4 k h)
noncomputable abbrev rdInt:Value->Option (DataW Unit×List MemPlace):=plainElem Tryz.prog 3
def updO (f:Nat->Option Nat) (k:Nat) (v:Option Nat):Nat->Option Nat:=fun j=>if j=k then v else f j
structure MapIs (w:World) (τ:Tags) (b:Nat) (g:Tag) (N:Nat) (f:Nat->Option Nat):Prop where
 tag:τ b=g
 is:∃n D,w.ownsMap Tryz.prog 36 rdInt b n D/\(∀kl,has D kl=true->∃k,k<N/\kl=litK k)/\(∀k,has D (litK k)=(f k).isSome)/\(∀k v,f k=some v->∀z,D.atKey (litK k) z = .lit (.int .i64 (v:Int)))
theorem MapIs.step {w e:World}{τ d:Tags}{S:Tag->Prop}{b:Nat}{g:Tag}{n:Nat}{f:Nat->Option Nat}(h:MapIs w τ b g n f) (m:Step w τ e d S) (j:¬S g):MapIs e d b g n f:=by
 obtain⟨n,D,⟨es,c,i,k⟩,r⟩:=h.is
 have hl:b<w.heap.size:=(Array.getElem?_eq_some_iff.1 i).1
 exact⟨(m.ext b hl).trans h.tag,n,D,⟨es,c,by rw[m.mod.block b hl (by rw[h.tag];exact j)];exact i,k⟩,r⟩
theorem MapIs.made (w:World) (τ:Tags) (g:Tag) (N:Nat):MapIs (w.alloc (.map #[] 0)) (τ.put w.heap.size g) w.heap.size g N (fun _=>none) :=
 ⟨Tags.put_same _ _ _,0,_,World.ownsMap_made w _ _ _,fun kl h=>by simp[has] at h,fun k=>by simp[has],fun k v h=>by simp at h⟩
theorem Qk7:∀(n:Nat) (l:List Nat),l.Nodup->(∀x∈l,x<n)->l.length<=n:=by
 intro n
 induction n with
 | zero =>
   intro l _ h
   cases l with
   | nil=>exact Z0 _
   | cons x l=>exact absurd (h x (by simp)) (by omega)
 | succ n ih =>
   intro l hn h
   have h1:=ih (l.erase n) (hn.erase n) (fun x b=>by
    have h2:=h x (List.mem_of_mem_erase b)
    have h3:x≠n:=fun e=>by subst e;exact(List.Nodup.not_mem_erase hn) b
    omega)
   have h2:l.length-1<=(l.erase n).length:=List.le_length_erase
   omega
def Qfa:Lit->Nat
 | .int _ k=>k.toNat
 | _=>0
theorem Qu9 {w:World}{b n:Nat}{es:List (Lit×DataW Unit)}(e:w.ownsMap Tryz.prog 36 rdInt b n (.map es)):∀p∈es,WideAt.IsKeyLit p.1:=by
 obtain⟨ms,c,a1,F,a3,a4⟩:=e
 injection a4 with a4
 subst a4
 intro p h
 have d:=(WideShapes.sorted_perm _).mem_iff.1 h
 obtain⟨v,i⟩:=fit_keys F p d
 exact Qeo.key i
theorem Qur {D:DataW Unit}{N:Nat}(h:Tidy D) {w:World}{b n:Nat}(q:w.ownsMap Tryz.prog 36 rdInt b n D) (hk:∀m,has D m=true->∃k,k<N/\m=litK k):Maps.size D<=N:=by
 obtain⟨es,rfl,r⟩:=h
 have d:∀p∈es,∃k,k<N/\p.1=litK k:=fun p o=>hk p.1 (by rw[has_eq,List.any_eq_true];exact⟨p,o,WideAt.sameKey_self (Qu9 q p o)⟩)
 have hn:(es.map (fun p=>Qfa p.1)).Nodup:=by
  rw[List.nodup_iff_pairwise_ne,List.pairwise_map]
  have:es.Pairwise (fun x y=>x∈es/\y∈es/\x.1≠y.1):=List.Pairwise.imp_of_mem (fun s z h=>⟨s,z,h⟩) r
  refine this.imp ?_
  rintro x y ⟨j,B,l⟩ e
  obtain⟨k1,-,i⟩:=d x j
  obtain⟨k2,-,a2⟩:=d y B
  rw[i,a2] at e
  simp only[Qfa,Int.toNat_natCast] at e
  exact l (by rw[i,a2,e])
 have:=Qk7 N _ hn (fun k hk=>by
  obtain⟨x,j,rfl⟩:=List.mem_map.1 hk
  obtain⟨k1,a3,i⟩:=d x j
  rw[i]
  simpa [Qfa,litK] using a3)
 simpa [Maps.size] using this
theorem Step.turned {w d:World}{τ:Tags}{b:Nat}{g:Tag}(i:τ b=g) (h:w.mapTurned d b):Step w τ d τ (fun t=>t=g):=by
 obtain⟨es,c,es',c',h1,rfl⟩:=h
 exact⟨⟨rfl,rfl,rfl,by simp[ChangeMaps.setBlock],fun k hk hn=>by
  have:b≠k:=fun e=>hn (by rw[<-e];exact i)
  simp[ChangeMaps.setBlock,this]⟩,Ext.refl _ _⟩
theorem MapIs.look {w:World}{τ:Tags}{b:Nat}{g:Tag}{N:Nat}{f:Nat->Option Nat}(h:MapIs w τ b g N f) (k:Nat) (hk:k<4294967296) :
 (Instr.lookup 136 (.map (some b)) (.int .u32 (k:Int)) true).run Tryz.prog w = .ok (.tuple #[.int .i64 (((f k).getD 0:Nat):Int),.bool (f k).isSome]) w:=by
 obtain⟨n,D,j,h1,h2,l⟩:=h.is
 obtain⟨v,ps,m,o⟩:=j.look_ok Qeo Tryz.underlying136 (Tryz.zeroValue3 w) (plainElem_int Tryz.underlying3 (a:=0) (by decide)) (Qd4 k hk)
 rw[m,h2 k]
 obtain⟨a,rfl,e,-⟩:=plainElem_int_inv Tryz.underlying3 o
 have d:=congrArg Prod.fst e
 simp only at d
 cases i:f k with
 | none =>
   rw[atKey_of_not_has (by rw[h2 k,i];rfl)] at d
   simp only[DataW.lit.injEq,Lit.int.injEq,true_and] at d
   rw[<-d];simp
 | some v =>
   rw[l k v i] at d
   simp only[DataW.lit.injEq,Lit.int.injEq,true_and] at d
   rw[<-d];simp
theorem Qyz (v:Nat) (h:v<1000000000):(Lit.int .i64 (v:Int)).wf=true:=by
 have b:IntKind.i64.min = -9223372036854775808:=by decide
 have d:IntKind.i64.max=9223372036854775807:=by decide
 simp only[Lit.wf,b,d,Bool.and_eq_true,decide_eq_true_eq];omega
theorem MapIs.store {w:World}{τ:Tags}{b:Nat}{g:Tag}{N:Nat}{f:Nat->Option Nat}(h:MapIs w τ b g N f) (k v:Nat) (hn:N<=100000) (hk:k<N) (q:v<1000000000) :
 ∃d,(Instr.mapUpdate 136 (.map (some b)) (.int .u32 (k:Int)) (.int .i64 (v:Int))).run Tryz.prog w = .ok () d/\MapIs d τ b g N (updO f k (some v))/\Step w τ d τ (fun t=>t=g):=by
 obtain⟨n,D,i,h1,h2,r⟩:=h.is
 have hsz:=Qur (i.tidy Qeo) i h1
 have o:w.ownsMap Tryz.prog 36 rdInt b (Maps.size D) D:=by
  obtain⟨es,c,s,a2,a3,rfl⟩:=i
  exact⟨es,c,s,a2,by simp[Maps.size,length_sorted],rfl⟩
 obtain⟨d,x,l,y⟩:=o.store Qeo Tryz.underlying136 (by unfold maxLen;omega) (Qd4 k (by omega)) (plainElem_int Tryz.underlying3 (Qyz v q))
 refine⟨d,x,⟨h.tag,_,_,l,?_,?_,?_⟩,Step.turned h.tag y⟩
 ·intro p hh
  by_cases e:p=litK k
  ·exact⟨k,hk,e⟩
  ·rw[has_put_other e] at hh;exact h1 p hh
 ·intro j
  by_cases e:j=k
  ·subst e;rw[has_put_same i.isMap (Qfb j (by omega))];simp[updO]
  ·rw[has_put_other (Qev e),h2 j];simp[updO,e]
 ·intro j u m z
  by_cases e:j=k
  ·subst e
   simp[updO] at m;subst m
   exact atKey_put_same i.isMap (Qfb j (by omega)) _ _
  ·rw[atKey_put_other (Qev e)]
   simp[updO,e] at m
   exact r j u m z
theorem MapIs.drop {w:World}{τ:Tags}{b:Nat}{g:Tag}{n:Nat}{f:Nat->Option Nat}(h:MapIs w τ b g n f) (k:Nat) (hk:k<4294967296) (m:TypeId) :
 ∃d,(Builtin.delete_ #[136,36] m #[.map (some b),.int .u32 (k:Int)]).run Tryz.prog w = .ok (.tuple #[]) d/\MapIs d τ b g n (updO f k none)/\Step w τ d τ (fun t=>t=g):=by
 obtain⟨n,D,p,h1,h2,q⟩:=h.is
 obtain⟨d,r,i,s⟩:=p.drop Qeo Tryz.underlying136 (Qd4 k hk) m
 refine⟨d,r,⟨h.tag,_,_,i,?_,?_,?_⟩,Step.turned h.tag s⟩
 ·intro o hh
  by_cases e:o=litK k
  ·subst e;rw[has_del_same] at hh;cases hh
  ·rw[has_del_other e] at hh;exact h1 o hh
 ·intro j
  by_cases e:j=k
  ·subst e;rw[has_del_same];simp[updO]
  ·rw[has_del_other (Qev e),h2 j];simp[updO,e]
 ·intro j u l z
  by_cases e:j=k
  ·subst e;simp[updO] at l
  ·rw[atKey_del_other (Qev e)]
   simp[updO,e] at l
   exact q j u l z
def rdPtr:Value->Option (DataW Unit×List MemPlace)
 | .pointer none=>some (.lit (.int .i64 0),[])
 | .pointer (some ⟨b,0,none⟩)=>some (.lit (.int .i64 ((b:Int)+1)),[])
 | _=>none
def ptrV:Option Nat->Value
 | none=>.pointer none
 | some b=>.pointer (some ⟨b,0,none⟩)
def ptrL:Option Nat->DataW Unit
 | none=>.lit (.int .i64 0)
 | some b=>.lit (.int .i64 ((b:Int)+1))
theorem Qr5 (p:Option Nat):rdPtr (ptrV p)=some (ptrL p,[]):=by cases p <;> rfl
theorem Qno {p q:Option Nat}(h:ptrL p=ptrL q):p=q:=by
 cases p <;> cases q <;> simp[ptrL] at h ⊢ <;> omega
theorem Qo8 {v:Value}{z:DataW Unit×List MemPlace}(h:rdPtr v=some z):∃p,v=ptrV p/\z=(ptrL p,[]):=by
 unfold rdPtr at h
 split at h
 ·cases h;exact⟨none,rfl,rfl⟩
 ·cases h;exact⟨some _,rfl,rfl⟩
 ·cases h
structure PMap (w:World) (τ:Tags) (b:Nat) (g:Tag) (N:Nat) (f:Nat->Option Nat):Prop where
 tag:τ b=g
 is:∃n D,w.ownsMap Tryz.prog 36 rdPtr b n D/\(∀kl,has D kl=true->∃k,k<N/\kl=litK k)/\(∀k,has D (litK k)=(f k).isSome)/\(∀k v,f k=some v->∀z,D.atKey (litK k) z=ptrL (some v))
theorem PMap.step {w e:World}{τ d:Tags}{S:Tag->Prop}{b:Nat}{g:Tag}{n:Nat}{f:Nat->Option Nat}(h:PMap w τ b g n f) (m:Step w τ e d S) (j:¬S g):PMap e d b g n f:=by
 obtain⟨n,D,⟨es,c,i,k⟩,r⟩:=h.is
 have hl:b<w.heap.size:=(Array.getElem?_eq_some_iff.1 i).1
 exact⟨(m.ext b hl).trans h.tag,n,D,⟨es,c,by rw[m.mod.block b hl (by rw[h.tag];exact j)];exact i,k⟩,r⟩
theorem PMap.made (w:World) (τ:Tags) (g:Tag) (N:Nat):PMap (w.alloc (.map #[] 0)) (τ.put w.heap.size g) w.heap.size g N (fun _=>none) :=
 ⟨Tags.put_same _ _ _,0,_,World.ownsMap_made w _ _ _,fun kl h=>by simp[has] at h,fun k=>by simp[has],fun k v h=>by simp at h⟩
theorem Qpb {w:World}{b n:Nat}{es:List (Lit×DataW Unit)}(e:w.ownsMap Tryz.prog 36 rdPtr b n (.map es)):∀p∈es,WideAt.IsKeyLit p.1:=by
 obtain⟨ms,c,a1,F,a3,a4⟩:=e
 injection a4 with a4
 subst a4
 intro p h
 have d:=(WideShapes.sorted_perm _).mem_iff.1 h
 obtain⟨v,i⟩:=fit_keys F p d
 exact Qeo.key i
def Qpl (D:DataW Unit):List Nat:=match D with
 | .map es=>es.map (fun p=>Qfa p.1)
 | _=>[]
theorem Qpa {w:World}{b n N:Nat}{D:DataW Unit}{f:Nat->Option Nat}(m:w.ownsMap Tryz.prog 36 rdPtr b n D) (hk:∀q,has D q=true->∃k,k<N/\q=litK k) (r:∀k,has D (litK k)=(f k).isSome) (hN:N<=4294967296) :
 (Qpl D).Nodup/\(∀k,k∈Qpl D↔(f k).isSome=true)/\(Qpl D).length=Maps.size D/\(∀k∈Qpl D,k<N):=by
 obtain⟨es,rfl,s⟩:=m.tidy Qeo
 have d:∀p∈es,∃k,k<N/\p.1=litK k:=fun p i=>hk p.1 (by rw[has_eq,List.any_eq_true];exact⟨p,i,WideAt.sameKey_self (Qpb m p i)⟩)
 refine⟨?_,fun k=>⟨fun i=>?_,fun i=>?_⟩,by simp[Qpl,Maps.size],fun k i=>?_⟩
 ·show (es.map (fun p=>Qfa p.1)).Nodup
  rw[List.nodup_iff_pairwise_ne,List.pairwise_map]
  have:es.Pairwise (fun x y=>x∈es/\y∈es/\x.1≠y.1):=List.Pairwise.imp_of_mem (fun z B h=>⟨z,B,h⟩) s
  refine this.imp ?_
  rintro x y ⟨j,C,o⟩ e
  obtain⟨k1,-,l⟩:=d x j
  obtain⟨k2,-,a2⟩:=d y C
  rw[l,a2] at e
  simp only[Qfa,Int.toNat_natCast] at e
  exact o (by rw[l,a2,e])
 ·obtain⟨x,j,rfl⟩:=List.mem_map.1 (show k∈es.map (fun p=>Qfa p.1) from i)
  obtain⟨k1,_,l⟩:=d x j
  have e:Qfa x.1=k1:=by rw[l];simp[Qfa]
  rw[e,<-r k1,has_eq,List.any_eq_true]
  exact⟨x,j,by rw[<-l];exact WideAt.sameKey_self (Qpb m x j)⟩
 ·rw[<-r k,has_eq,List.any_eq_true] at i
  obtain⟨x,j,E⟩:=i
  have e:x.1=litK k:=WideAt.sameKey_eq E
  show k∈es.map (fun p=>Qfa p.1)
  exact List.mem_map.2 ⟨x,j,by rw[e];simp[Qfa]⟩
 ·obtain⟨x,j,rfl⟩:=List.mem_map.1 (show k∈es.map (fun p=>Qfa p.1) from i)
  obtain⟨k1,h1,l⟩:=d x j
  rw[l]
  simpa [Qfa,litK] using h1
theorem PMap.look {w:World}{τ:Tags}{b:Nat}{g:Tag}{N:Nat}{f:Nat->Option Nat}(h:PMap w τ b g N f) (k:Nat) (hk:k<4294967296) :
 (Instr.lookup 169 (.map (some b)) (.int .u32 (k:Int)) false).run Tryz.prog w = .ok (ptrV (f k)) w:=by
 obtain⟨n,D,j,h1,h2,l⟩:=h.is
 obtain⟨v,ps,m,o⟩:=j.lookup Qeo Tryz.underlying169 (Tryz.zeroValue172 w) (Qr5 none) (Qd4 k hk)
 rw[m]
 obtain⟨p,rfl,e⟩:=Qo8 o
 have d:=congrArg Prod.fst e
 simp only at d
 have:f k=p:=by
  cases i:f k with
  | none =>
    rw[atKey_of_not_has (by rw[h2 k,i];rfl)] at d
    exact Qno d
  | some v =>
    rw[l k v i] at d
    exact Qno d
 rw[this]
theorem Qph:∀(l m:List Nat),l.Nodup->(∀x∈l,x∈m)->l.length<=m.length:=by
 intro l
 induction l with
 | nil=>intro m _ _;exact Z9 _
 | cons a l ih =>
   intro m hn h
   have h1:=ih (m.erase a) (List.nodup_cons.1 hn).2 (fun x b=>(List.mem_erase_of_ne (fun e=>(List.nodup_cons.1 hn).1 (by rw[<-e];exact b))).2 (h x (Y2 _ b)))
   have h2:=List.length_erase_of_mem (h a (by simp))
   have h3:=List.length_pos_of_mem (h a (by simp))
   rw[Y4];omega
theorem PMap.len {w:World}{τ:Tags}{b:Nat}{g:Tag}{N:Nat}{f:Nat->Option Nat}(h:PMap w τ b g N f) (j:N<=4294967296) {l:List Nat}(hl:l.Nodup) (d:∀k,k∈l↔(f k).isSome=true) (e:TypeId) :
 (Builtin.len_ #[169] e #[.map (some b)]).run Tryz.prog w = .ok (.int .i64 (l.length:Int)) w:=by
 obtain⟨n,D,i,h1,h2,h3⟩:=h.is
 obtain⟨m,a2,a3,a4⟩:=Qpa i h1 h2 j
 have:Maps.size D=l.length:=by
  rw[<-a3]
  exact Nat.le_antisymm (Qph _ _ m (fun k hk=>(d k).2 ((a2 k).1 hk))) (Qph _ _ hl (fun k hk=>(a2 k).2 ((d k).1 hk)))
 rw[i.len Tryz.underlying169 e,this]
theorem PMap.store {w:World}{τ:Tags}{b:Nat}{g:Tag}{N:Nat}{f:Nat->Option Nat}(h:PMap w τ b g N f) (k v:Nat) (hn:N<=100000) (hk:k<N) :
 ∃d,(Instr.mapUpdate 169 (.map (some b)) (.int .u32 (k:Int)) (.pointer (some ⟨v,0,none⟩))).run Tryz.prog w = .ok () d/\PMap d τ b g N (updO f k (some v))/\Step w τ d τ (fun t=>t=g):=by
 obtain⟨n,D,l,h1,h2,q⟩:=h.is
 obtain⟨r,a2,a3,a4⟩:=Qpa l h1 h2 (by omega)
 have hsz:Maps.size D<=N:=by rw[<-a3];exact Qk7 N _ r a4
 have o:w.ownsMap Tryz.prog 36 rdPtr b (Maps.size D) D:=by
  obtain⟨es,c,s,x,b3,rfl⟩:=l
  exact⟨es,c,s,x,by simp[Maps.size,length_sorted],rfl⟩
 obtain⟨d,y,i,B⟩:=o.store Qeo Tryz.underlying169 (by unfold maxLen;omega) (Qd4 k (by omega)) (Qr5 (some v))
 refine⟨d,y,⟨h.tag,_,_,i,?_,?_,?_⟩,Step.turned h.tag B⟩
 ·intro p hh
  by_cases e:p=litK k
  ·exact⟨k,hk,e⟩
  ·rw[has_put_other e] at hh;exact h1 p hh
 ·intro j
  by_cases e:j=k
  ·subst e;rw[has_put_same l.isMap (Qfb j (by omega))];simp[updO]
  ·rw[has_put_other (Qev e),h2 j];simp[updO,e]
 ·intro j u m z
  by_cases e:j=k
  ·subst e
   simp[updO] at m;subst m
   exact atKey_put_same l.isMap (Qfb j (by omega)) _ _
  ·rw[atKey_put_other (Qev e)]
   simp[updO,e] at m
   exact q j u m z
theorem PMap.drop {w:World}{τ:Tags}{b:Nat}{g:Tag}{n:Nat}{f:Nat->Option Nat}(h:PMap w τ b g n f) (k:Nat) (hk:k<4294967296) (m:TypeId) :
 ∃d,(Builtin.delete_ #[169,36] m #[.map (some b),.int .u32 (k:Int)]).run Tryz.prog w = .ok (.tuple #[]) d/\PMap d τ b g n (updO f k none)/\Step w τ d τ (fun t=>t=g):=by
 obtain⟨n,D,p,h1,h2,q⟩:=h.is
 obtain⟨d,r,i,s⟩:=p.drop Qeo Tryz.underlying169 (Qd4 k hk) m
 refine⟨d,r,⟨h.tag,_,_,i,?_,?_,?_⟩,Step.turned h.tag s⟩
 ·intro o hh
  by_cases e:o=litK k
  ·subst e;rw[has_del_same] at hh;cases hh
  ·rw[has_del_other e] at hh;exact h1 o hh
 ·intro j
  by_cases e:j=k
  ·subst e;rw[has_del_same];simp[updO]
  ·rw[has_del_other (Qev e),h2 j];simp[updO,e]
 ·intro j u l z
  by_cases e:j=k
  ·subst e;simp[updO] at l
  ·rw[atKey_del_other (Qev e)]
   simp[updO,e] at l
   exact q j u l z
def PRange (w:World) (τ:Tags) (b r:Nat) (g:Tag) (N:Nat) (f:Nat->Option Nat) (l:List Nat) (cnt:Nat):Prop :=
 τ b=g/\∃n D left,w.ranges Tryz.prog 36 rdPtr b r n D left cnt/\(∀kl,has D kl=true->∃k,k<N/\kl=litK k)/\(∀k,has D (litK k)=(f k).isSome)/\(∀k v,f k=some v->∀z,D.atKey (litK k) z=ptrL (some v))/\l.Nodup/\(∀k,k<N->(left (litK k)=true↔k∈l))/\(∀k∈l,k<N/\(f k).isSome=true)
def tIt:Tag:=(304,0)
theorem PMap.range {w:World}{τ:Tags}{b:Nat}{g:Tag}{N:Nat}{f:Nat->Option Nat}(h:PMap w τ b g N f) (hN:N<=4294967296) {l:List Nat}(hl:l.Nodup) (m:∀k,k∈l↔(f k).isSome=true) :
 ∃d cnt,(Instr.range 169 (.map (some b))).run Tryz.prog w = .ok (.pointer (some ⟨w.heap.size,0,none⟩)) d/\PRange d (τ.put w.heap.size tIt) b w.heap.size g N f l cnt/\Step w τ d (τ.put w.heap.size tIt) nil:=by
 obtain⟨n,D,p,h1,h2,r⟩:=h.is
 have hb:=p.lt
 obtain⟨d,s,o,i,hs⟩:=p.range Qeo Tryz.underlying169
 refine⟨d,_,s,⟨by rw[Tags.put_ne _ _ _ _ (by omega)];exact h.tag,n,D,has D,o,h1,h2,r,hl,fun k hk=>by rw[h2 k];exact(m k).symm,fun k hk=>⟨?_,(m k).1 hk⟩⟩,⟨⟨i.os,i.tape,i.output,by omega,fun k hk _=>i.block k hk (by simp)⟩,fun k hk=>Tags.put_ne _ _ _ _ (by omega)⟩⟩
 obtain⟨j,hj,e⟩:=h1 (litK k) (by rw[h2 k];exact(m k).1 hk)
 have:k=j:=by
  by_cases q:k=j
  ·exact q
  ·exact absurd e (Qev q)
 omega
theorem PRange.next {w:World}{τ:Tags}{b r:Nat}{g:Tag}{N:Nat}{f:Nat->Option Nat}{l:List Nat}{cnt:Nat}(h:PRange w τ b r g N f l cnt) (hN:N<=4294967296) (hr:τ r=tIt) (M:TypeId) :
 (l=[]/\(Instr.next (.pointer (some ⟨r,0,none⟩)) false M).run Tryz.prog w = .ok (.tuple #[.bool false]) w) \/
 ∃k v B d,k∈l/\f k=some v/\(Instr.next (.pointer (some ⟨r,0,none⟩)) false M).run Tryz.prog w = .ok (.tuple #[.bool true,.int .u32 (k:Int),.pointer (some ⟨v,0,none⟩)]) B /\
   PRange B τ b r g N f (l.erase k) d/\d<cnt/\Mod w B (fun j=>j=r)/\(Instr.entry (.pointer (some ⟨r,0,none⟩))).run Tryz.prog B = .ok (.tuple #[.int .u32 (k:Int),.pointer (some ⟨v,0,none⟩)]) B:=by
 obtain⟨ht,n,D,left,E,h1,h2,h3,hl,O,hb⟩:=h
 rcases E.next Qeo M with ⟨h0,R,m⟩|⟨key,v,kl,y,B,d,F,G,hv,U,m,I,X,q,hsz,Y⟩
 ·refine .inl ⟨?_,m⟩
  cases l with
  | nil=>rfl
  | cons a l =>
    have:=(O a (hb a (by simp)).1).2 (by simp)
    rw[R] at this;cases this
 ·have s:has D kl=true:=by
   obtain⟨es,clock,since,seen,c0,q1,q2,q3,q4,q5,q6,q7,q8,q9,q10⟩:=E
   obtain⟨x,o,rfl⟩:=q9 kl G
   rw[q4]
   obtain⟨z,hz⟩:=q2.reads x o
   exact List.any_eq_true.2 ⟨_,mem_sorted.2 (List.mem_map.2 ⟨x,o,rfl⟩),WideAt.sameKey_self (by rw[WideElems.rg_of hz];exact Qeo.key (WideElems.rd_key hz))⟩
  obtain⟨k,Z,rfl⟩:=h1 kl s
  have C:key = .int .u32 (k:Int):=by
   obtain⟨x,rfl,e,_⟩:=Maps.keyOf_int_inv Tryz.underlying36 F
   simp only[Lit.int.injEq,true_and] at e
   rw[e]
  subst C
  obtain⟨p,rfl,rfl⟩:=Qo8 hv
  have J:=h2 k
  rw[s] at J
  obtain⟨v,L⟩:=Option.isSome_iff_exists.1 J.symm
  have a1:p=some v:=by
   have e1:=U (.lit (.int .i64 0))
   rw[h3 k v L] at e1
   exact(Qno e1).symm
  subst a1
  refine .inr ⟨k,v,B,d,(O k Z).1 G,L,m,⟨ht,n,D,_,I,h1,h2,h3,hl.erase k,fun j hj=>?_,fun j hj=>hb j (List.mem_of_mem_erase hj)⟩,X,⟨q.os,q.tape,q.output,by omega,fun i hi hn=>q.block i hi (fun e=>hn (by cases e;rfl))⟩,Y⟩
  by_cases e:j=k
  ·subst e
   have a7:=hl.not_mem_erase (a:=j)
   constructor
   ·intro o
    simp only[Bool.and_eq_true,Bool.not_eq_true'] at o
    rw[WideAt.sameKey_self (Qfb j (by omega))] at o
    cases o.2
   ·intro o;exact absurd o a7
  ·have a8:(litK j).sameKey (litK k)=false:=by
    cases o:(litK j).sameKey (litK k) with
    | false=>rfl
    | true=>exact absurd (WideAt.sameKey_eq o) (Qev e)
   rw[a8,Bool.not_false,Bool.and_true,List.mem_erase_of_ne e]
   exact O j hj
theorem PRange.step {w j:World}{τ d:Tags}{b r:Nat}{g:Tag}{N:Nat}{f:Nat->Option Nat}{l:List Nat}{cnt:Nat}(h:PRange w τ b r g N f l cnt) (k:τ r=tIt) {S:Tag->Prop}(m:Step w τ j d S) (h1:¬S g) (h2:¬S tIt):PRange j d b r g N f l cnt/\d r=tIt:=by
 obtain⟨o,n,D,left,⟨es,clock,e,seen,c0,p,y,z,B,s,C⟩,q⟩:=h
 have x:b<w.heap.size:=(Array.getElem?_eq_some_iff.1 p).1
 have i:r<w.heap.size:=(Array.getElem?_eq_some_iff.1 s).1
 exact⟨⟨(m.ext b x).trans o,n,D,left,⟨es,clock,e,seen,c0,by rw[m.mod.block b x (by rw[o];exact h1)];exact p,y,z,B,by rw[m.mod.block r i (by rw[k];exact h2)];exact s,C⟩,q⟩,(m.ext r i).trans k⟩
theorem PRange.left {w:World}{τ:Tags}{b r:Nat}{g:Tag}{N:Nat}{f:Nat->Option Nat}{l:List Nat}{cnt:Nat}(h:PRange w τ b r g N f l cnt):w.rangeLeft b r=cnt:=by
 obtain⟨_,n,D,left,d,_⟩:=h
 exact d.left_eq
