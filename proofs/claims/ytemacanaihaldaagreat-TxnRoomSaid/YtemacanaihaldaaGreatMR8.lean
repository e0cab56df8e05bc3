/-
 The reference's log: how it lies in memory;on,and what it tells.
-/
import Derived.Test.YtemacanaihaldaaGreatMR5D
set_option maxRecDepth 100000
set_option maxHeartbeats 4000000
set_option linter.all false
namespace Go.Proofs.YtemacanaihaldaaGreat
variable {D:Dev}{L:LogM}{bd bl:Nat}{w:World}{τ:Tags}
open Go.RowKit
def tRLog:Tag:=(50,0)
def Qee:Tag:=(51,0)
def Qef:Tag:=(52,0)
def RLogTag (g:Tag):Prop:=g=tRLog\/g=Qee\/g=Qef
def Qgb (L:LogM) (bd:Nat) (vs vt:Value):List Value :=
 [.pointer (some ⟨bd,0,none⟩),.int .i64 (L.strips:Int),.int .i64 (L.area:Int),.int .u64 (L.base:Int),vs,vt,.int .i64 (L.lasts:Int),.int .u64 (L.check:Int),.int .u64 (L.stamp:Int),.int .i64 (L.slot:Int)]
structure RLogAt (w:World) (τ:Tags) (bl bd:Nat) (L:LogM):Prop where
 is:∃vs vt,Own w τ bl tRLog 297 (Qgb L bd vs vt)/\Buf w τ Qee 5 1 vs L.stream.length (u8s L.stream)/\Buf w τ Qef 3 1 vt L.starts.length (i64s L.starts)
 isB:IsB L.stream
 ok:L.ok
theorem RLogAt.step {e:World} {b:Tags} {S:Tag->Prop}(h:RLogAt w τ bl bd L) (m:Step w τ e b S) (d:∀g,RLogTag g->¬S g):RLogAt e b bl bd L:=by
 obtain⟨i,j,k,h1,h2⟩:=h.is
 exact⟨⟨i,j,k.step m (d _ (.inl rfl)),h1.step m (d _ (.inr (.inl rfl))),h2.step m (d _ (.inr (.inr rfl)))⟩,h.isB,h.ok⟩
theorem Qc0 {g:Tag}(h:RLogTag g):¬RDevTag g:=by
 rcases h with rfl|rfl|rfl <;> simp[RDevTag,tRLog,Qee,Qef]
theorem Jal(h:RLogAt w τ bl bd L) :
 Calls Tryz.prog 182 #[.pointer (some ⟨bl,0,none⟩)] w fun e d=>e = .returned (.int .u64 (L.base:Int))/\w=d:=by
 obtain⟨vs,vt,b,-,-⟩:=h.is
 have c3:=b.at 3 (v:=.int .u64 (L.base:Int)) rfl
 clear h b
 go_enter Tryz.func182,Tryz.ntmps182
 go_wp2_with fail
 go_ret
 exact⟨rfl,rfl⟩
theorem Qza(h:RLogAt w τ bl bd L) :
 Calls Tryz.prog 186 #[.pointer (some ⟨bl,0,none⟩)] w fun e d=>e = .returned (.int .u64 (L.check:Int))/\w=d:=by
 obtain⟨vs,vt,b,-,-⟩:=h.is
 have c3:=b.at 7 (v:=.int .u64 (L.check:Int)) rfl
 clear h b
 go_enter Tryz.func186,Tryz.ntmps186
 go_wp2_with fail
 go_ret
 exact⟨rfl,rfl⟩
theorem Qy9(h:RLogAt w τ bl bd L) :
 Calls Tryz.prog 185 #[.pointer (some ⟨bl,0,none⟩)] w fun e j=>e = .returned (.int .u64 ((L.base+L.lasts:Nat):Int))/\Step w τ j τ nil:=by
 obtain⟨vs,vt,d,k,_⟩:=h.is
 have c1:=d.at 3 (v:=.int .u64 (L.base:Int)) rfl
 have c9:=d.at 6 (v:=.int .i64 (L.lasts:Int)) rfl
 have l:=h.ok.base
 have hl:=h.ok.stream
 have i:=h.ok.lasts
 have hw:=Qam L.lasts (by omega)
 have hw2:=Qer (a:=L.base) (b:=L.lasts) (by omega)
 generalize L.lasts=n at *
 generalize L.base=bs at *
 clear h d k l hl i
 go_enter Tryz.func185,Tryz.ntmps185
 go_wp2_with fail
 go_quiet (fail)
 go_wp2_with fail
 go_ret
 exact⟨rfl,(Step.refl w τ nil).drews nq⟩
theorem r8end(h:RLogAt w τ bl bd L) :
 Calls Tryz.prog 183 #[.pointer (some ⟨bl,0,none⟩)] w fun e j=>e = .returned (.int .u64 ((L.base+L.stream.length:Nat):Int))/\Step w τ j τ nil:=by
 obtain⟨vs,vt,d,i,_⟩:=h.is
 obtain⟨p,c,rfl⟩:=i.len
 have c1:=d.at 3 (v:=.int .u64 (L.base:Int)) rfl
 have c9:=d.at 4 (v:=.slice p L.stream.length c) rfl
 have k:=h.ok.base
 have hl:=h.ok.stream
 have hw:=Qam L.stream.length (by omega)
 have hw2:=Qer (a:=L.base) (b:=L.stream.length) (by omega)
 generalize L.stream.length=n at *
 generalize L.base=bs at *
 clear h d i k hl
 go_enter Tryz.func183,Tryz.ntmps183
 go_wp2_with fail
 go_quiet (fail)
 go_wp2_with fail
 go_ret
 exact⟨rfl,(Step.refl w τ nil).drews nq⟩
theorem Qxa(h:RDevAt w τ bd D) (h18:18<=D.f0.length) :
 Calls Tryz.prog 173 #[.pointer (some ⟨bd,0,none⟩)] w fun e o=>∃bl k,e = .returned (.tuple #[.pointer (some ⟨bl,0,none⟩),.bool true])/\w.heap.size<=bl/\RLogAt o k bl bd (newLog D.f0.length)/\Step w τ o k nil:=by
 have d:=Qkr h 0 (by omega)
 have l:=Qgt h 0 (by omega)
 have p:D.file 0=D.f0:=rfl
 rw[p] at d l
 generalize hn:D.f0.length=n at *
 have hl:=Own.new w τ tRLog 297 (Qgb (newLog n) bd (.slice none 0 0) (.slice none 0 0))
 have i:=(Step.refl w τ nil).alloc (.cells ⟨Qgb (newLog n) bd (.slice none 0 0) (.slice none 0 0)⟩ 297) tRLog
 have m:(newLog n).ok:=⟨by simp[newLog],by simp[newLog],by simp[newLog],by simp[newLog],by simp only[newLog];omega,by simp[newLog],by simp[newLog],by simp[newLog],by simp[newLog]⟩
 have z:((n:Int)-2)/2=(((n-2)/2:Nat):Int):=by omega
 have hs8:8<=(n-2)/2:=by omega
 have b:Qgb (newLog n) bd (.slice none 0 0) (.slice none 0 0)=[.pointer (some ⟨bd,0,none⟩),.int .i64 (((n-2)/2:Nat):Int),.int .i64 0,.int .u64 0,.slice none 0 0,.slice none 0 0,.int .i64 0,.int .u64 0,.int .u64 0,.int .i64 0]:=rfl
 have j:RLogAt (w.alloc (.cells ⟨Qgb (newLog n) bd (.slice none 0 0) (.slice none 0 0)⟩ 297)) (τ.put w.heap.size tRLog) w.heap.size bd (newLog n) :=
  ⟨⟨_,_,hl,Buf.nil _ _ _ _ _,Buf.nil _ _ _ _ _⟩,fun x B=>by simp[newLog] at B,m⟩
 rw[b] at j i
 generalize hq:(n-2)/2=s at *
 obtain⟨q,r,y,H_e1⟩:=hid4 d i j z
 clear d i j z h hl m b
 go_enter Tryz.func173,Tryz.ntmps173
 go_wp2_with fail
 refine q.out.mono ?_
 rintro e o ⟨rfl,rfl⟩
 have e3:((n:Int)-2)/2=(s:Int):=by omega
 have e4:decide ((8:Int)<=(s:Int))=true:=by simp;omega
 go_wp2_with fail
 go_ret2
 exact⟨w.heap.size,_,rfl,Z0 _,y.out,r.out⟩
theorem Quq {l m:List Int}(hl:IsB l) (b:IsB m) (h:l≠m):(toU8 l != toU8 m)=true/\(toU8 l==toU8 m)=false:=by
 have:=Qqc hl b
 rw[decide_eq_false h] at this
 exact⟨by rw[bne,this];rfl,this⟩
theorem Qei:¬RDevTag tData:=by simp[RDevTag,tData]
theorem r8lay(hl:RLogAt w τ bl bd L) (hd:RDevAt w τ bd D) {g:Tag}{v:Value}{want:List (List Int)}(hw:Waits w τ g v want) (hg:¬RDevTag g) (from_ n:Nat) (hfit:from_+n<=D.f0.length) (av:D.lim 800000) :
 Calls Tryz.prog 174 #[.pointer (some ⟨bl,0,none⟩),.int .i64 (from_:Int),.int .i64 (n:Int),v] w (RDevR w τ bd (D.make from_ n want) (.tuple #[])):=by
 have rn:=Qcz
 have b4:=Qgt hd 0 (by omega)
 have b5:D.file 0=D.f0:=rfl
 rw[b5] at b4
 obtain⟨pw,cw,rfl,hwm,-⟩:=hw.read
 generalize b6:want.length=nw at *
 obtain⟨Hl,Hw,Hd,b8,aw⟩:=hid5 hl hw hd av b6
 clear hl hw hd av b6
 go_enter Tryz.func174,Tryz.ntmps174
 go_wp2_with fail
 go_loopw [8,9] (fun c v wr=>∃(i:Nat) (ab:Tags),i<=n/\v = .int .i64 (i:Int)/\c = .bool (Qa7 D from_ want i).2/\RDevAt wr ab bd (Qa7 D from_ want i).1/\Step w τ wr ab RDevTag) (fun _ v _=>n-(intOf v).toNat)
 case atStart=>exact⟨0,_,Z9 _,rfl,rfl,Hd.out,Step.refl _ _ _⟩
 case round =>
  obtain⟨i,ab,hi,rfl,rfl,hd,z⟩:=hrel
  have F:=Hl.out.step z (fun g hg hS=>Qc0 hg hS)
  obtain⟨vs,vt,ho,-,-⟩:=F.is
  have c4:=ho.at 0 (v:=.pointer (some ⟨bd,0,none⟩)) rfl
  have G:=Qdo D from_ want i 0
  have l:=Qgw b8.out from_ want i
  have d:Qa7 D from_ want (i+1)=if (Qa7 D from_ want i).1.last 0 (from_+i)=Qck want i then Qa7 D from_ want i else ((Qa7 D from_ want i).1.write 0 (from_+i) (Qck want i),true):=rfl
  rw[b5] at G
  generalize hE:(Qa7 D from_ want i).1=E at *
  generalize hC:(Qa7 D from_ want i).2=C at *
  by_cases hlt:i<n
  ·
   have hz:=Bytes.noughts wr ab tData 128 (by unfold maxLen;omega)
   have R:=(Step.refl wr ab nil).alloc (.cells (madeCells #[.int .u8 0] 128) 5) tData
   have o:(Qck want i).length=128:=by
    unfold Qck
    split
    ·rename_i U
     obtain⟨p',c',_,_,hr⟩:=Hw.out.read
     have hx:want[i]?=some (want.getD i []):=by rw[Z5,Z3 U];rfl
     exact(hr i _ hx).1
    ·simp[Qff]
   obtain⟨vb,X,ax⟩:∃vb,Bytes (wr.alloc (.cells (madeCells #[.int .u8 0] 128) 5)) (ab.put wr.heap.size tData) tData vb (Qck want i)/\((i<nw/\∃b,pw=some ⟨b,0,none⟩/\(wr.alloc (.cells (madeCells #[.int .u8 0] 128) 5)).cell? ⟨b,i,none⟩=some vb)\/(¬i<nw/\vb = .slice (some ⟨wr.heap.size,0,none⟩) 128 128)):=by
    by_cases U:i<nw
    ·obtain⟨p',c',bk,_,hr⟩:=((Hw.out.step z hg Qei).step R (fun h=>h) (fun h=>h)).read
     cases bk
     obtain⟨x,hx⟩:∃x,want[i]?=some x:=⟨_,Z3 (by rw[aw.out];exact U)⟩
     obtain⟨_,b,u,bm,hc,hb⟩:=hr i x hx
     refine⟨u,?_,.inl ⟨U,b,bm,hc⟩⟩
     unfold Qck
     rw[if_pos (by rw[aw.out];exact U),Z5,hx];exact hb
    ·refine⟨_,?_,.inr ⟨U,rfl⟩⟩
     unfold Qck
     rw[if_neg (by rw[aw.out];exact U)];exact hz
   have hq:E.file 0=E.f0:=rfl
   have Y:=Qr6 (hd.step R (fun _ h=>h.elim)) 0 (by omega) (from_+i) (by omega) tData
   have p:=(Qkt hd 0 (from_+i) (by omega) (by omega)).1
   rw[X3] at Y
   obtain⟨pb,kb,rfl,-,-⟩:=X.any
   rw[o] at X ax
   have a1:(from_:Int)+(i:Int)<=4096:=by omega
   have c4':=(ho.alloc (.cells (madeCells #[.int .u8 0] 128) 5)).at 0 (v:=.pointer (some ⟨bd,0,none⟩)) rfl
   generalize bn:Qck want i=x at *
   generalize Z:E.last 0 (from_+i)=y at *
   have ba:pw=none->¬i<nw:=fun hp U=>by
    rcases ax with ⟨_,b,rfl,_⟩|⟨h,_⟩
    ·cases hp
    ·exact h U
   clear ho hz bn ba hq
   rcases ax with ⟨U,b,rfl,cb⟩|⟨hnin,bo⟩
   ·have hin2:(i:Int)<(nw:Int):=by omega
    by_cases heq:y=x
    ·rw[if_pos heq] at d
     obtain⟨Hd,I,ah,am,J,k,HE,HC,ac,M,ad,r⟩:=hid12 hd z F G l d hE hC X o Y p
     obtain⟨ae,ay,af⟩:=hid3 heq Z R
     clear hd z F G l d hE hC X o Y p heq Z R
     go_wp2_with fail
     refine ad.out.mono ?_
     rintro e w1 ⟨u1,τ1,rfl,m,s⟩
     obtain⟨p1,k1,rfl,-,-⟩:=m.any
     rw[r.out] at m ⊢
     have an:=m.conv
     have az:=(ac.out.step s (fun h=>h)).conv
     rw[ae.out] at an
     have j:=af.out.trans s
     have N:=Hd.out.step j (fun _ h=>h.elim)
     have q:=I.out.trans (j.mono (fun _ h=>h.elim))
     obtain⟨b0,O⟩:=hid2 N q
     clear N q m s j
     generalize toU8 x=xs at *
     go_wp2_with fail
     go_round
     case rel=>exact⟨i+1,τ1,by omega,by simp,by rw[k.out,HC.out],by rw[k.out,HE.out];exact b0.out,O.out⟩
     case measure=>simp[intOf];omega
    ·rw[if_neg heq] at d
     obtain⟨Hd,I,ah,am,J,k,HE,HC,ac,M,ad,r⟩:=hid12 hd z F G l d hE hC X o Y p
     obtain⟨ae,ay,af⟩:=hid3 heq Z R
     clear hd z F G l d hE hC X o Y p heq Z R
     go_wp2_with fail
     refine ad.out.mono ?_
     rintro e w1 ⟨u1,τ1,rfl,m,s⟩
     obtain⟨p1,k1,rfl,-,-⟩:=m.any
     rw[r.out] at m ⊢
     have B:=ac.out.step s (fun h=>h)
     have an:=m.conv
     have az:=B.conv
     obtain⟨bs,be⟩:=Quq m.isB B.isB ae.out
     have j:=af.out.trans s
     have a6:=ah.out.step j (fun _ _ h=>h)
     obtain⟨bv,bw,ao,-,-⟩:=a6.is
     have bz:=ao.at 0 (v:=.pointer (some ⟨bd,0,none⟩)) rfl
     have N:=Hd.out.step j (fun _ h=>h.elim)
     have ag:=Qqq N 0 (by omega) (from_+i) (by have:=am.out;omega) B M.out Qei (Dev.lim_mono J.out (by omega))
     rw[X3] at ag
     have q:=I.out.trans (j.mono (fun _ h=>h.elim))
     obtain⟨b1,O⟩:=hid2 ag q
     clear ag q m s j a6 ao N B
     generalize toU8 x=xs at *
     generalize toU8 y=ys at *
     go_wp2_with fail
     refine b1.out.mono ?_
     rintro e w2 ⟨rfl,ap,a7,a8⟩
     have aa:=O.out.trans a8
     obtain⟨aq,ar⟩:=hid2 a7 aa
     clear a7 aa a8
     go_wp2_with fail
     go_round
     case rel=>exact⟨i+1,ap,by omega,by simp,by rw[k.out],by rw[k.out];exact aq.out,ar.out⟩
     case measure=>simp[intOf];omega
   ·cases bo
    by_cases heq:y=x
    ·rw[if_pos heq] at d
     obtain⟨Hd,I,ah,am,J,k,HE,HC,ac,M,ad,r⟩:=hid12 hd z F G l d hE hC X o Y p
     obtain⟨ae,ay,af⟩:=hid3 heq Z R
     clear hd z F G l d hE hC X o Y p heq Z R
     go_wp2_with fail
     refine ad.out.mono ?_
     rintro e w1 ⟨u1,τ1,rfl,m,s⟩
     obtain⟨p1,k1,rfl,-,-⟩:=m.any
     rw[r.out] at m ⊢
     have an:=m.conv
     have az:=(ac.out.step s (fun h=>h)).conv
     rw[ae.out] at an
     have j:=af.out.trans s
     have N:=Hd.out.step j (fun _ h=>h.elim)
     have q:=I.out.trans (j.mono (fun _ h=>h.elim))
     obtain⟨b0,O⟩:=hid2 N q
     clear N q m s j
     generalize toU8 x=xs at *
     go_wp2_with fail
     go_round
     case rel=>exact⟨i+1,τ1,by omega,by simp,by rw[k.out,HC.out],by rw[k.out,HE.out];exact b0.out,O.out⟩
     case measure=>simp[intOf];omega
    ·rw[if_neg heq] at d
     obtain⟨Hd,I,ah,am,J,k,HE,HC,ac,M,ad,r⟩:=hid12 hd z F G l d hE hC X o Y p
     obtain⟨ae,ay,af⟩:=hid3 heq Z R
     clear hd z F G l d hE hC X o Y p heq Z R
     go_wp2_with fail
     refine ad.out.mono ?_
     rintro e w1 ⟨u1,τ1,rfl,m,s⟩
     obtain⟨p1,k1,rfl,-,-⟩:=m.any
     rw[r.out] at m ⊢
     have B:=ac.out.step s (fun h=>h)
     have an:=m.conv
     have az:=B.conv
     obtain⟨bs,be⟩:=Quq m.isB B.isB ae.out
     have j:=af.out.trans s
     have a6:=ah.out.step j (fun _ _ h=>h)
     obtain⟨bv,bw,ao,-,-⟩:=a6.is
     have bz:=ao.at 0 (v:=.pointer (some ⟨bd,0,none⟩)) rfl
     have N:=Hd.out.step j (fun _ h=>h.elim)
     have ag:=Qqq N 0 (by omega) (from_+i) (by have:=am.out;omega) B M.out Qei (Dev.lim_mono J.out (by omega))
     rw[X3] at ag
     have q:=I.out.trans (j.mono (fun _ h=>h.elim))
     obtain⟨b1,O⟩:=hid2 ag q
     clear ag q m s j a6 ao N B
     generalize toU8 x=xs at *
     generalize toU8 y=ys at *
     go_wp2_with fail
     refine b1.out.mono ?_
     rintro e w2 ⟨rfl,ap,a7,a8⟩
     have aa:=O.out.trans a8
     obtain⟨aq,ar⟩:=hid2 a7 aa
     clear a7 aa a8
     go_wp2_with fail
     go_round
     case rel=>exact⟨i+1,ap,by omega,by simp,by rw[k.out],by rw[k.out];exact aq.out,ar.out⟩
     case measure=>simp[intOf];omega
  ·obtain rfl:i=n:=by omega
   have ai:D.make from_ i want=if C=true then E.sync 0 else E:=by unfold Dev.make;rw[hE,hC]
   have b2:=Qyl hd 0 (by omega)
   cases C with
   | true =>
     rw[if_pos rfl] at ai
     obtain⟨c3,I,b3,ah⟩:=hid4 b2 z ai F
     clear b2 z ai F ho d G l hE hC hd
     go_wp2_with fail
     refine c3.out.mono ?_
     rintro e w2 ⟨rfl,ap,a7,a8⟩
     obtain⟨aq,c5⟩:=hid2 a7 a8
     clear a7 a8
     go_wp2_with fail
     go_returns
     exact⟨rfl,ap,by rw[b3.out];exact aq.out,I.out.trans c5.out⟩
   | false =>
     rw[if_neg (by simp)] at ai
     obtain⟨I,b3,Hd⟩:=hid3 z ai hd
     clear z ai hd ho d G l hE hC F b2
     go_wp2_with fail
     go_returns
     exact⟨rfl,ab,by rw[b3.out];exact Hd.out,I.out⟩
theorem Qvq {b:Nat}(h:DevAt w τ b D) (f:Nat) (hf:f<256) :
 Calls Tryz.prog 289 #[.pointer (some ⟨b,0,none⟩),.int .u8 (f:Int)] w fun e w'=>∃v x,e = .returned v/\NR w.heap.size w' x tOut v ((D.file f).map Sec.last)/\Step w τ w' x nil:=by
 obtain⟨v,R,j⟩:=Qoe h f hf
 have hn4096:=h.length f
 have U:(D.file f).take (D.file f).length=D.file f:=List.take_length
 generalize hl:D.file f=l at *
 obtain⟨p,cap,rfl,hcap,-,-⟩:=id j
 generalize hn:l.length=n at *
 obtain⟨af,G,Hn,Hl,ag⟩:=hid5 R j hn hl U
 clear R j hn hl U h
 go_enter Tryz.func289,Tryz.ntmps289
 go_wp2_with fail
 refine af.out.mono ?_
 rintro e w' ⟨rfl,rfl⟩
 go_wp2_with fail
 go_loopw [5,12] (fun m iv wr=>∃(i:Nat) (d:Tags),i<=n/\iv = .int .i64 (i:Int)/\NR w.heap.size wr d tOut m ((l.take i).map Sec.last)/\Step w τ wr d nil) (fun _ iv _=>n-(intOf iv).toNat)
 case atStart=>exact⟨0,τ,Z9 _,rfl,NR.nil _ _ _ _,Step.refl _ _ _⟩
 case round =>
  obtain⟨i,d,hi,rfl,o,q⟩:=hrel
  by_cases ai:i<n
  ·obtain⟨s,hs⟩:∃s,l[i]?=some s:=⟨_,Z3 (by rw[Hn.out];exact ai)⟩
   have X:=Qja hs
   obtain⟨p',cap',hv,-,-,z⟩:=G.out.mod q.no q.ext (fun _ _ _ h=>h) (fun _ _ _ _ h=>h) (fun _ _ _ h=>h)
   obtain⟨bf,xs,al,ho,B⟩:=z (by rw[Hn.out];omega)
   rw[Hn.out,al] at hv
   simp only[Value.slice.injEq,true_and] at hv
   obtain⟨rfl,rfl⟩:=hv
   obtain⟨⟨k,v,Y,O⟩,⟨u,hu,hw⟩⟩:=B i s hs
   have c0:=ho.at (i*2) Y
   have c1:=ho.at (i*2+1) hu
   obtain⟨pu,cu,rfl⟩:=hw.len
   have I:=fun W (m:Step wr d W d nil)=>Qeb (O.step m (fun h=>h)) tData (by omega)
   obtain⟨pv,cv,rfl,-,-⟩:=O.any
   rw[k] at I c0
   have C:((l.take i).map Sec.last).length=i:=by rw[Y0,List.length_take,Hn.out];omega
   have Z:i<=1000000000:=by omega
   generalize a1:(l.take i).map Sec.last=ls at *
   generalize s.waits.length=sw at *
   obtain⟨pm,cm,rfl⟩:=o.val
   obtain⟨Hls,J,an,r,ao,M,a6⟩:=hid7 a1 q I k X o C
   clear a1 q I k X o C B ho O Y hs hw hu z
   go_wp2_with fail
   refine(an.out _ ((Step.refl wr d nil).alloc' _)).mono ?_
   rintro e w2 ⟨uu,τ2,rfl,y,a7,a8⟩
   have N:=((Step.refl wr d nil).alloc' (.cells #[.slice pv 128 cv,.slice pu sw cu] 113)).trans (Step.of nil a8 a7)
   have E:=M.out.step N (fun h=>h) (fun h=>h)
   have F:=J.out.trans N
   obtain⟨pq,cq,rfl,-,-⟩:=y.any
   rw[r.out] at y ⊢
   obtain⟨ap,aa,ab⟩:=hid3 y E F
   clear y E F N a7 a8
   go_wp2_with (at_builtin;refine Qbz ab.out (by decide) aa.out ap.out r.out (by rw[a6.out];exact Z) rfl rfl _ _ rfl rfl rfl ?_;intro v' w' x O he ac;obtain⟨Hb,He,Hmo⟩:=hid3 O he ac;clear O he ac)
   go_round
   case rel=>exact⟨i+1,x,by omega,by simp,by rw[ao.out];exact Hb.out,He.out⟩
   case measure=>simp[intOf];omega
  ·obtain rfl:i=n:=by omega
   rw[show l.take i=l from ag.out] at o
   obtain⟨M,J⟩:=hid2 o q
   clear o q
   go_wp2_with fail
   go_returns
   exact⟨_,d,rfl,M.out,J.out⟩
theorem Ql8 {g g2:Tag} {v u:Value} {l:List (List Int)}(h:Waits w τ g v l) (k:Waits w τ g2 u l) :
 Calls Tryz.prog 32 #[v,u] w fun e I=>e = .returned (.bool true)/\∃q,I=w.drewN q:=by
 obtain⟨p,c,rfl,h1,F⟩:=h.read
 obtain⟨p2,d,rfl,-,G⟩:=k.read
 generalize hn:l.length=n at *
 have hmx:n<=9223372036854775807:=by unfold maxLen at h1;omega
 obtain⟨J,s,M⟩:=hid3 F G hn
 clear F G hn h1 h k
 go_enter Tryz.func32,Tryz.ntmps32
 go_wp2_with fail
 go_loopw [5] (fun v wr=>∃i q:Nat,i<=n/\v = .int .i64 (i:Int)/\wr=w.drewN q) (fun v _=>n-(intOf v).toNat)
 case atStart=>exact⟨0,0,Z9 _,rfl,rfl⟩
 case round =>
  obtain⟨i,q,hi,rfl,j⟩:=hrel
  by_cases B:i<n
  ·obtain⟨x,C⟩:∃x,l[i]?=some x:=⟨_,Z3 (by rw[M.out];exact B)⟩
   obtain⟨y,b,u1,rfl,E,z⟩:=J.out i x C
   obtain⟨-,N,u2,rfl,o,m⟩:=s.out i x C
   obtain⟨O,R,rfl,-,-⟩:=z.any
   obtain⟨U,X,rfl,-,-⟩:=m.any
   rw[y] at E o z m
   have ci':wr.cell? ⟨b,i,none⟩=some (.slice O 128 R):=by rw[j];exact E
   have di':wr.cell? ⟨N,i,none⟩=some (.slice U 128 X):=by rw[j];exact o
   have k1:=fun n=>(z.step (show Step w τ (wr.drewN n) τ nil by rw[j];exact((Step.refl w τ nil).drews q).drews n) (fun h=>h)).conv
   have k2:=fun n=>(m.step (show Step w τ (wr.drewN n) τ nil by rw[j];exact((Step.refl w τ nil).drews q).drews n) (fun h=>h)).conv
   have hin:(i:Int)<(n:Int):=by omega
   generalize toU8 x=xs at *
   have r:=Z2 j
   clear j E o z m C
   go_wp2_with fail
   go_quiet (fail)
   go_wp2_with fail
   go_round
   case rel=>exact⟨i+1,q+nq,by omega,by simp,by rw[r.out,World.drewN_drewN]⟩
   case measure=>simp[intOf];omega
  ·obtain rfl:i=n:=by omega
   have r:=Z2 j
   clear j
   go_wp2_with fail
   go_ret
   exact⟨rfl,q,r.out⟩
theorem Qwl {br:Nat}(hd:DevAt w τ bd D) (hr:RDevAt w τ br D) :
 Calls Tryz.prog 254 #[.pointer (some ⟨bd,0,none⟩),.pointer (some ⟨br,0,none⟩)] w fun e I=>e = .returned (.bool true)/\∃ap,Step w τ I ap nil:=by
 obtain⟨Hd,Hr⟩:=hid2 hd hr
 clear hd hr
 go_enter Tryz.func254,Tryz.ntmps254
 go_wp2_with fail
 go_loopw [5] (fun fv wr=>∃(f:Nat) (j:Tags),f<=2/\fv = .int .u8 (f:Int)/\Step w τ wr j nil) (fun fv _=>2-(intOf fv).toNat)
 case atStart=>exact⟨0,τ,Z9 _,rfl,Step.refl _ _ _⟩
 case round =>
  obtain⟨f,j,hf,rfl,b⟩:=hrel
  by_cases J:f<2
  ·have hlt':(f:Int)<2:=by omega
   generalize hl:D.file f=l at *
   have af:=(Hd.out.length f)
   rw[hl] at af
   have Hl:=Z2 hl
   clear hl
   have k:=Z2 b
   clear b
   go_wp2_with fail
   go_loopw [6] (fun iv wr=>∃(i:Nat) (j:Tags),i<=l.length/\iv = .int .i64 (i:Int)/\Step w τ wr j nil) (fun iv _=>l.length-(intOf iv).toNat)
   case atStart=>exact⟨0,j,Z9 _,rfl,k.out⟩
   case round =>
    clear k
    obtain⟨i,j,hi,rfl,b⟩:=hrel
    have m:=Hd.out.step b (fun _ h=>h.elim)
    have y:=Hr.out.step b (fun _ h=>h.elim)
    have z:=Qkr y f (by omega)
    rw[Hl.out] at z
    generalize hn:l.length=n at *
    by_cases ax:i<n
    ·have B:i<(D.file f).length:=by rw[Hl.out,hn];exact ax
     obtain⟨s,hs⟩:∃s,(D.file f)[i]?=some s:=⟨_,Z3 B⟩
     have ag:=Qnm m f (by omega) i B tData
     have C:=(m.last128 f i B).1
     generalize hx:D.last f i=x at *
     obtain⟨U,ay,X,E,k,Hs,F,Hx,Hn,az⟩:=hid10 z ag m y b hs C hx hn B
     clear z ag m y b hs C hx hn B
     go_wp2_with fail
     refine U.out.mono ?_
     rintro e I ⟨rfl,rfl⟩
     go_wp2_with fail
     refine ay.out.mono ?_
     rintro e w2 ⟨u2,b0,rfl,M,o⟩
     have Y:=Qr6 (E.out.step o (fun _ h=>h.elim)) f J i az.out tData
     rw[Hx.out] at Y
     obtain⟨p2,k2,rfl,-,-⟩:=M.any
     rw[F.out] at M ⊢
     obtain⟨b1,b2,Z⟩:=hid3 Y M o
     clear Y M o
     go_wp2_with fail
     refine b1.out.mono ?_
     rintro e w3 ⟨u3,G,rfl,a1,p⟩
     have r:=Qng (b2.out.step p (fun h=>h)) a1
     rw[decide_eq_true rfl] at r
     obtain⟨p3,k3,rfl,-,-⟩:=a1.any
     rw[F.out] at r ⊢
     have d:=Z.out.trans p
     have ah:=Qui (X.out.step d (fun _ h=>h.elim)) f (by omega) i s Hs.out
     have ai:=Qzb (E.out.step d (fun _ h=>h.elim)) f J i Hs.out
     have O:=k.out.trans d
     generalize s.waits.length=sw at *
     obtain⟨a6,b3,b4,aj⟩:=hid4 r ah ai O
     clear r ah ai O a1 p d
     go_wp2_with fail
     refine a6.out.mono ?_
     rintro e I ⟨rfl,rfl⟩
     go_wp2_with fail
     refine b3.out.mono ?_
     rintro e I ⟨rfl,rfl⟩
     go_wp2_with fail
     refine b4.out.mono ?_
     rintro e I ⟨rfl,rfl⟩
     go_wp2_with fail
     go_round
     case rel=>exact⟨i+1,G,by omega,by simp,aj.out⟩
     case measure=>simp[intOf];omega
    ·have ak:i=n:=by omega
     have a7:=Qvq m f (by omega)
     obtain⟨LL,a8⟩:∃LL,(D.file f).map Sec.last=LL:=⟨_,rfl⟩
     rw[a8] at a7
     obtain⟨U,X,E,k,b5,Hii,Hn,b6⟩:=hid8 z m y b a7 ak hn a8
     clear z m y b a7 ak hn a8
     go_wp2_with fail
     refine U.out.mono ?_
     rintro e I ⟨rfl,rfl⟩
     go_wp2_with fail
     refine b5.out.mono ?_
     rintro e w2 ⟨u2,b0,rfl,aa,o⟩
     have ab:=Qzc (E.out.step o (fun _ h=>h.elim)) f J
     rw[b6.out] at ab
     obtain⟨p2,k2,rfl⟩:=aa.val
     obtain⟨b7,b8,Z⟩:=hid3 ab aa o
     clear ab aa o
     go_wp2_with fail
     refine b7.out.mono ?_
     rintro e w3 ⟨u3,G,rfl,ac,p⟩
     have r:=Ql8 (b8.out.row.step p (fun h=>h) (fun h=>h)) ac.row
     obtain⟨p3,k3,rfl⟩:=ac.val
     have d:=Z.out.trans p
     obtain⟨a6,al⟩:=hid2 r d
     clear r d ac p
     go_wp2_with fail
     refine a6.out.mono ?_
     rintro e w4 ⟨rfl,q,am⟩
     have N:Step wr j w4 G nil:=al.out.trans (by rw[am];exact(Step.refl w3 G nil).drews q)
     have ad:=Qjs (X.out.step N (fun _ h=>h.elim)) f (by omega)
     have ae:=Qkr (E.out.step N (fun _ h=>h.elim)) f J
     rw[Hl.out,Hn.out] at ad ae
     have R:=k.out.trans N
     have hu8:IntKind.u8.wrap ((f:Int)+1)=(f:Int)+1:=by
      have:IntKind.u8.wrap ((f:Int)+1)=((f:Int)+1)%256:=by simp[IntKind.wrap,IntKind.bits,IntKind.signed]
      rw[this];omega
     obtain⟨b9,ba,an⟩:=hid3 ad ae R
     clear ad ae R am N
     go_wp2_with fail
     refine b9.out.mono ?_
     rintro e I ⟨rfl,rfl⟩
     go_wp2_with fail
     refine ba.out.mono ?_
     rintro e I ⟨rfl,rfl⟩
     go_wp2_with fail
     go_round
     case rel=>exact⟨f+1,G,by omega,by simp,an.out⟩
     case measure=>simp[intOf];omega
  ·obtain rfl:f=2:=by omega
   have h1:=Qtn (Hd.out.step b (fun _ h=>h.elim))
   obtain⟨v0,v1,ao⟩:=Hr.out.step b (fun _ h=>h.elim)
   have h2:=Qxb ao
   generalize D.halted=hh at *
   obtain⟨H1,H2,k⟩:=hid3 h1 h2 b
   clear h1 h2 b ao
   go_wp2_with fail
   refine H1.out.mono ?_
   rintro e I ⟨rfl,rfl⟩
   go_wp2_with fail
   refine H2.out.mono ?_
   rintro e I ⟨rfl,rfl⟩
   go_wp2_with fail
   go_ret
   exact⟨by simp,j,k.out⟩
theorem Qw6 {br:Nat}(hd:DevAt w τ bd D) (d:RDevAt w τ br D) :
 Calls Tryz.prog 187 #[.pointer (some ⟨bd,0,none⟩),.pointer (some ⟨br,0,none⟩)] w fun e i=>e = .returned (.int .i64 1)/\∃b,Step w τ i b nil:=by
 have h1:=Qwl hd d
 have j:=Z2 h1
 clear h1 hd d
 go_enter Tryz.func187,Tryz.ntmps187
 go_wp2_with fail
 refine j.out.mono ?_
 rintro e w1 ⟨rfl,τ1,h⟩
 have k:=Z2 h
 clear h
 go_wp2_with fail
 go_ret
 exact⟨rfl,τ1,k.out⟩
theorem Qcj (n:Nat):(Builtin.zeroCells (Value.int .u8 0).cells n).toList=u8s (List.replicate n 0):=by
 apply List.ext_getElem?
 intro j
 have e:(Value.int .u8 0).cells=#[Value.int .u8 0]:=rfl
 rw[e]
 simp only[Builtin.zeroCells,Array.toList_map,Array.toList_range,u8s,List.map_replicate,List.getElem?_map,List.getElem?_replicate]
 by_cases b:j<n
 ·rw[List.getElem?_range (by simpa using b)]
  simp[b,Nat.mod_one]
 ·rw[List.getElem?_eq_none (by simp;omega)]
  simp[b]
theorem Qga {P:Program}(w:World) (t x y e:TypeId) (i:TypeInfo) (z:Value) (B C:IntKind) (E:P.underlying t=some (.slice e)) (q:P.underlying x=some (.int C)) (hi:P.info? e=some i) (F:i.zero=some z)
 (g b d:Nat) (h:Array Value) (G:w.heap[g]?=some (.cells h e (0,0))) (k:Nat) (h0:0<k) (hs:0<i.size) (h63:(k:Int)<=9223372036854775807) (h48:k*i.bytes<=281474976710656)
 (j:b+k<=d) (l:b*i.size+(Builtin.zeroCells z.cells k).toList.length<=h.size) (h1:∀u∈(Builtin.zeroCells z.cells k).toList,u.oneCell'=true) :
 (Builtin.append_ #[t,x] y #[.slice (some ⟨g,0,none⟩) b d,.int B k]).run P w =
   .ok (.slice (some ⟨g,0,none⟩) (b+k) d) (w.setRow g (h.toList.take (b*i.size)++(Builtin.zeroCells z.cells k).toList++h.toList.drop (b*i.size+(Builtin.zeroCells z.cells k).toList.length)).toArray):=by
 have hk:k≠0:=by omega
 have I:IntKind.i64.wrap (k:Int)=k:=by rw[IntKind.wrap_i64];omega
 have m:¬(281474976710656<(k:Int)*(i.bytes:Int)):=by
  rw[<-Int.natCast_mul]
  omega
 have o:¬((k:Int)<0):=by omega
 have r:¬(k*i.size=0):=Nat.mul_ne_zero hk (by omega)
 have p:=run_storeCells_at P g (b*i.size) e (Builtin.zeroCells z.cells k).toList 0 h w G (by simpa using l) h1
 simp only[Nat.add_zero] at p
 generalize s:Builtin.zeroCells z.cells k=Z at *
 simp[Builtin.append_,run_underlying E,run_underlying q,sizeOf,typeInfo,zeroValue,hi,F,asInt,asIntOf,I,o,r,m,j,s,Addr.add_lit,p]
theorem Qhb {r:World} {s:Tags} {S:Tag->Prop}(i:Step r s w τ S) {g:Tag}{v:Value}{l:List Int}(d:NB r.heap.size w τ g v l) (hl:0<l.length) (n:Nat) (h0:0<n) (hn:l.length+n<=1000000) (M:TypeId) :
 ∃U J o,(Builtin.append_ #[37,3] M #[v,.int .i64 (n:Int)]).run Tryz.prog w = .ok U J/\NB r.heap.size J o g U (l++List.replicate n 0)/\Step r s J o S/\Step w τ J o (fun t=>t=g):=by
 obtain⟨i0,hi,y,e,p⟩:=info_parts Tryz.infoU8
 have X:IsB (l++List.replicate n 0):=d.isB.append (fun x Z=>by rw[(List.mem_replicate.1 Z).2];omega)
 obtain⟨h1,⟨rfl,h2⟩|⟨b,cap,ys,rfl,z,h3,h4,h5⟩⟩:=d.buf
 ·omega
 have B:(Builtin.zeroCells (Value.int .u8 0).cells n).toList.length=n:=by rw[Qcj,Qac,Z7]
 have C:r.heap.size<=b:=d.low b rfl
 rw[Qac] at h1 h3
 by_cases h:l.length+n<=cap
 ·have E:=Qga (P:=Tryz.prog) w 37 3 M 5 i0 (.int .u8 0) .i64 .i64 Tryz.underlying37 Tryz.underlying3 hi y b l.length cap (u8s l++ys).toArray z.row n h0 (by rw[e];omega) (by omega) (by rw[p];omega) h
   (by rw[B,e,List.size_toArray,Z6,Qac];omega) (by rw[Qcj];exact Qkd _)
  have F:((u8s l++ys).toArray.toList.take (l.length*i0.size)++(Builtin.zeroCells (Value.int .u8 0).cells n).toList++(u8s l++ys).toArray.toList.drop (l.length*i0.size+(Builtin.zeroCells (Value.int .u8 0).cells n).toList.length))=u8s (l++List.replicate n 0)++ys.drop n:=by
   rw[B,e,Nat.mul_one,Qcj,Qig]
   have e1:(u8s l++ys).take l.length=u8s l:=by rw[<-Qac l];exact List.take_left
   have e2:(u8s l++ys).drop (l.length+n)=ys.drop n:=by rw[<-List.drop_drop,<-Qac l,List.drop_left]
   show (u8s l++ys).take l.length++_++(u8s l++ys).drop (l.length+n)=_
   rw[e1,e2]
  rw[F] at E
  have m:Mod w (w.setRow b (u8s (l++List.replicate n 0)++ys.drop n).toArray) (fun k=>k=b):=⟨rfl,rfl,rfl,by simp,fun k _ hk=>setRow_other w b k _ hk⟩
  have q:Step w τ (w.setRow b (u8s (l++List.replicate n 0)++ys.drop n).toArray) τ (fun t=>t=g):=⟨m.mono (fun k hk Y=>by rw[Y];exact z.tag),Ext.refl _ _⟩
  refine⟨_,_,τ,E,⟨⟨by rw[Qac,Z6,Z7,Nat.mul_one],.inr ⟨b,cap,ys.drop n,by rw[Z6,Z7],⟨setRow_heap w b _ _ 5 _ z.row,z.tag⟩,?_,by rw[Z6,Z7];exact h,h5⟩⟩,X,fun k hk=>by
   have:b=k:=by simpa [Value.ownBlock] using hk
   rw[<-this];exact C⟩,⟨i.mod.seq m (fun k hk Y=>absurd hk (by omega)),i.ext⟩,q⟩
  rw[Qac,Z6,Z7,List.length_drop];omega
 ·have I:(Builtin.firstCells i0.size l.length (.slice (some ⟨b,0,none⟩) l.length cap)).run Tryz.prog w.drew = .ok (u8s l).toArray w.drew:=by
   refine run_firstCells_some (P:=Tryz.prog) w.drew i0.size l.length ⟨b,0,none⟩ l.length cap (u8s l) (by rw[Qac,e,Nat.mul_one]) (fun j u hu=>?_)
   rw[Qid]
   refine z.drew.at j ?_
   rw[Y5 (Z4 hu).1];exact hu
  have E:=Lib.run_append_grow_zeros (P:=Tryz.prog) w 37 3 M 5 i0 (.int .u8 0) .i64 .i64 Tryz.underlying37 Tryz.underlying3 hi y (some ⟨b,0,none⟩) l.length cap (u8s l) I n h0 (by rw[e];omega) (by omega) (by omega) (by rw[p];omega) (growslice_fits (by omega) (by rw[p];omega))
  have N:=grownCap_ge w (l.length+n) cap 5
  have O:grownCap w (l.length+n) cap 5 <= maxLen:=grownCap_le_maxLen w (l.length+n) cap _ (by unfold maxLen;omega)
  generalize grownCap w (l.length+n) cap 5 = G at *
  have R:((u8s l).toArray++Builtin.zeroCells (Value.int .u8 0).cells n++Builtin.zeroCells (Value.int .u8 0).cells (G-(l.length+n)))=(⟨u8s (l++List.replicate n 0)++u8s (List.replicate (G-(l.length+n)) 0)⟩:Array Value):=by
   apply Array.toList_inj.1
   rw[Array.toList_append,Array.toList_append,Qcj,Qcj,Qig]
  rw[R] at E
  have q:=((Step.refl w τ (fun t=>t=g)).drew).alloc (.cells ⟨u8s (l++List.replicate n 0)++u8s (List.replicate (G-(l.length+n)) 0)⟩ 5) g
  refine⟨_,_,τ.put w.heap.size g,E,⟨⟨by rw[Qac,Z6,Z7,Nat.mul_one],.inr ⟨w.heap.size,G,u8s (List.replicate (G-(l.length+n)) 0),by rw[Z6,Z7],Own.new w.drew τ g 5 _,?_,by rw[Z6,Z7];exact N,O⟩⟩,X,fun k hk=>by
   have:w.heap.size=k:=by simpa [Value.ownBlock] using hk
   rw[<-this];exact i.size⟩,i.drew.alloc _ g,q⟩
  simp only[Qac,Z6,Z7];omega
theorem Qf2 {j:World} {e:Tags} {S:Tag->Prop}(m:Step j e w τ S) {g:Tag}{v:Value}{l:List Int}(i:NB j.heap.size w τ g v l) (hl:0<l.length) (n:Nat) (h0:0<n) (hn:l.length+n<=1000000)
 {ops:Array Oper} {rest:List Oper} {o:Oper} {a:Act} {Q:Exit->Act->World->Prop} (p:o.guard=none) (s x:Operand)
 (q:o.op = .call {callee:=.builtin .append,args:=#[s,x],argTypes:=#[37,3]}) (r:a.eval s=v) (y:a.eval x = .int .i64 (n:Int))
 (h:∀k d b,NB j.heap.size d b g k (l++List.replicate n 0)->Step j e d b S->Step w τ d b (fun t=>t=g)->wpList Tryz.prog ops Q rest (a.put o.dst k) d):wpList Tryz.prog ops Q (o::rest) a w:=by
 refine wpList_plain p fun K z=>?_
 obtain⟨k,d,b,B,h2,C,E⟩:=Qhb m i hl n h0 hn o.type
 unfold Oper.wp execOp
 simp only[q,resolve,invoke,builtin,Sem.run_bind,Sem.run_pure,Result.andThen_ok,List.map_toArray,X1,List.map_nil,r,y,B]
 exact z _ _ (h k d b h2 C E)
def RWalTag (g:Tag):Prop:=RLogTag g\/RDevTag g
def RWalR (w:World) (τ:Tags) (bl bd:Nat) (L:LogM) (D:Dev) (r:Value) (e:Ending) (w':World):Prop:=e = .returned r/\∃τ',RLogAt w' τ' bl bd L/\RDevAt w' τ' bd D/\Step w τ w' τ' RWalTag
theorem Jak(hl:RLogAt w τ bl bd L) (hd:RDevAt w τ bd D) (h2:2<=D.f0.length) (a7:D.lim 800000) :
 Calls Tryz.prog 176 #[.pointer (some ⟨bl,0,none⟩)] w (RWalR w τ bl bd L.said (Qf9 L D) (.tuple #[])):=by
 have ah:=hl.ok
 have hB:=hl.isB
 obtain⟨vs,vt,ho,hs,ht⟩:=hl.is
 have hsl:=ah.slot
 have c8:=ho.at 8 (v:=.int .u64 (L.stamp:Int)) rfl
 have z8:=ho.fz 8
 have c9:=ho.at 9 (v:=.int .i64 (L.slot:Int)) rfl
 have z9:=ho.fz 9
 have r:=(ho.set 8 (.int .u64 (((L.stamp+1)%18446744073709551616:Nat):Int))).set 9 (.int .i64 ((1-L.slot:Nat):Int))
 have j:Step w τ ((w.setCell ⟨bl,8,none⟩ (.int .u64 (((L.stamp+1)%18446744073709551616:Nat):Int))).setCell ⟨bl,9,none⟩ (.int .i64 ((1-L.slot:Nat):Int))) τ (fun g=>g=tRLog):=((Step.refl w τ (fun g=>g=tRLog)).set (o:=8) ho.tag rfl _).set (o:=9) (ho.set 8 (.int .u64 (((L.stamp+1)%18446744073709551616:Nat):Int))).tag rfl _
 have s:RLogAt ((w.setCell ⟨bl,8,none⟩ (.int .u64 (((L.stamp+1)%18446744073709551616:Nat):Int))).setCell ⟨bl,9,none⟩ (.int .i64 ((1-L.slot:Nat):Int))) τ bl bd L.said :=
  ⟨⟨vs,vt,r,hs.step j (by simp[Qee,tRLog]),ht.step j (by simp[Qef,tRLog])⟩,hB,ah.said⟩
 have U:=hd.step j (fun g hg=>by subst hg;exact⟨Qc0 (.inl rfl),by simp[tRLog,tData]⟩)
 have hw:=Qrw L.stamp
 have ch:(1:Int)-(L.slot:Int)=((1-L.slot:Nat):Int):=by omega
 have l:L.said={L with stamp:=(L.stamp+1)%18446744073709551616,slot:=1-L.slot}:=rfl
 have p:=j.mono (T:=RLogTag) (fun g hg=>.inl hg)
 generalize ci:L.said=Ls at *
 have e0:Ls.stamp=(L.stamp+1)%18446744073709551616:=by rw[l]
 have e6:Ls.slot=1-L.slot:=by rw[l]
 rw[<-e0] at hw p s U
 rw[<-e6] at ch p s U
 have b9:Qf9 L D=(D.write 0 Ls.slot Ls.head).sync 0:=by unfold Qf9;rw[ci]
 have aa:=s.ok
 obtain⟨ba,bb,cj,bc,ck,d⟩:=hid6 p s U a7 b9 aa
 clear p s U a7 b9 aa ho hs ht r j hl hd ah l e0 e6 hB
 go_enter Tryz.func176,Tryz.ntmps176
 go_wp2_with fail
 generalize (w.setCell ⟨bl,8,none⟩ (.int .u64 (Ls.stamp:Int))).setCell ⟨bl,9,none⟩ (.int .i64 (Ls.slot:Int))=W1 at *
 obtain⟨vs1,vt1,r,-,-⟩:=bb.out.is
 clear c8 z8 c9 z9
 have hba:=d.out.base
 have har:=d.out.area
 have hsl2:=d.out.slot
 have be:=r1put W1 τ tOut Ls.stamp 8 d.out.stamp (by omega) (by omega)
 have bf:=fun W t=>r1put W t tData Ls.base 8 (by omega) (by omega) (by omega)
 have bg:=fun W t=>r1put W t tData Ls.check 8 d.out.check (by omega) (by omega)
 have bh:=fun W t=>r1put W t tData Ls.stamp 8 d.out.stamp (by omega) (by omega)
 have hwa:IntKind.u8.wrap (Ls.area:Int)=(Ls.area:Int):=by
  have:IntKind.u8.wrap (Ls.area:Int)=(Ls.area:Int)%256:=by simp[IntKind.wrap,IntKind.bits,IntKind.signed]
  rw[this];omega
 have m:Ls.head=headB Ls.stamp Ls.base Ls.check Ls.area:=rfl
 unfold headB at m
 have c8:=r.at 8 (v:=.int .u64 (Ls.stamp:Int)) rfl
 obtain⟨x,cm,cn,co,cp,aj⟩:=hid6 r be bf bg bh m
 clear r be bf bg bh m
 go_wp2_with fail
 refine cm.out.mono ?_
 rintro e w2 ⟨v2,τ2,rfl,y,ak⟩
 have bi:=x.out.step ak (fun h=>h)
 have c22:=bi.at 2 (v:=.int .i64 (Ls.area:Int)) rfl
 obtain⟨L2,X⟩:∃L,L=leB Ls.stamp 8:=⟨_,rfl⟩
 have al:L2.length=8:=by rw[X,Qaa]
 rw[<-X] at y
 obtain⟨p2,k2,rfl⟩:=y.val
 rw[al] at y ⊢
 obtain⟨cq,cr,cs,bj⟩:=hid4 y ak X al
 clear y ak X al bi
 have bk:(0:Int)<=(Ls.area:Int)/\(Ls.area:Int)<=255:=by omega
 go_wp2_with (at_builtin;refine Qez cr.out (v:=.slice p2 8 k2) cq.out (Ls.area:Int) bk (by rw[bj.out];omega) rfl rfl _ _ rfl rfl rfl ?_;intro v3 w3 ct z am cv;clear cv;obtain⟨L3,Y⟩:∃L,L=L2++[(Ls.area:Int)]:=⟨_,rfl⟩;have an:L3.length=9:=by {rw[Y,Z6,bj.out];rfl}
              rw[<-Y] at z
              obtain⟨p3,k3,rfl⟩:=z.val
              rw[an] at z ⊢
              have c33:=(x.out.step am (fun h=>h)).at 3 (v:=.int .u64 (Ls.base:Int)) rfl
              obtain⟨cw,cx,cy,bm⟩:=hid4 z am Y an
              clear z am Y an)
 refine(cn.out w3 ct).mono ?_
 rintro e w4 ⟨v4,τ4,rfl,ao,ap⟩
 have bn:=cx.out.trans ap
 have bo:=cw.out.step ap (fun h=>h)
 have aq:=ao.bytes
 obtain⟨p4,k4,rfl⟩:=ao.val
 rw[Qaa] at aq ⊢
 obtain⟨cz,da,db⟩:=hid3 bn bo aq
 clear bn bo aq ao ap
 go_wp2_with (at_builtin;refine Qal cz.out (v:=.slice p3 9 k3) da.out db.out (by rw[bm.out,Qaa];omega) rfl _ _ rfl rfl rfl ?_;intro v5 w5 dc B ar dd;clear dd;obtain⟨L5,Z⟩:∃L,L=L3++leB Ls.base 8:=⟨_,rfl⟩;have av:L5.length=17:=by {rw[Z,Z6,bm.out,Qaa]}
              rw[<-Z] at B
              obtain⟨p5,k5,rfl⟩:=B.val
              rw[av] at B ⊢
              have c57:=(x.out.step ar (fun h=>h)).at 7 (v:=.int .u64 (Ls.check:Int)) rfl
              obtain⟨de,df,dh,bp⟩:=hid4 B ar Z av
              clear B ar Z av)
 refine(co.out w5 dc).mono ?_
 rintro e w6 ⟨v6,τ6,rfl,aw,ax⟩
 have bq:=df.out.trans ax
 have br:=de.out.step ax (fun h=>h)
 have ay:=aw.bytes
 obtain⟨p6,k6,rfl⟩:=aw.val
 rw[Qaa] at ay ⊢
 obtain⟨di,dj,dk⟩:=hid3 bq br ay
 clear bq br ay aw ax
 go_wp2_with (first
  | (at_builtin
     refine Qal di.out (v:=.slice p5 17 k5) dj.out dk.out (by rw[bp.out,Qaa];omega) rfl _ _ rfl rfl rfl ?_;intro v7 w7 τ7 C az dl;clear dl;obtain⟨L7,a1⟩:∃L,L=L5++leB Ls.check 8:=⟨_,rfl⟩;have b0:L7.length=25:=by {rw[a1,Z6,bp.out,Qaa]}
     rw[<-a1] at C
     obtain⟨p7,k7,rfl⟩:=C.val
     rw[b0] at C ⊢
     have c78:=(x.out.step az (fun h=>h)).at 8 (v:=.int .u64 (Ls.stamp:Int)) rfl
     obtain⟨dm,dn,dp,b1⟩:=hid4 C az a1 b0
     clear C az a1 b0)
  | (at_builtin
     refine Qf2 dn.out (v:=.slice p7 25 k7) dm.out (by rw[b1.out];omega) 95 (by omega) (by rw[b1.out];omega) rfl _ _ rfl rfl rfl ?_;intro v8 w8 dq E b2 dr;clear dr;obtain⟨L8,a6⟩:∃L,L=L7++List.replicate 95 0:=⟨_,rfl⟩;have b3:L8.length=120:=by {rw[a6,Z6,b1.out,Z7]}
     rw[<-a6] at E
     obtain⟨p8,k8,rfl⟩:=E.val
     rw[b3] at E ⊢
     have c88:=(x.out.step b2 (fun h=>h)).at 8 (v:=.int .u64 (Ls.stamp:Int)) rfl
     obtain⟨ds,dt,dv,bs⟩:=hid4 E b2 a6 b3
     clear E b2 a6 b3))
 refine(cp.out w8 dq).mono ?_
 rintro e w9 ⟨v9,τ9,rfl,b4,b5⟩
 have bv:=dt.out.trans b5
 have bw:=ds.out.step b5 (fun h=>h)
 have b6:=b4.bytes
 obtain⟨p9,k9,rfl⟩:=b4.val
 rw[Qaa] at b6 ⊢
 obtain⟨dw,dx,dy⟩:=hid3 bv bw b6
 clear bv bw b6 b4 b5
 go_wp2_with (at_builtin;refine Qal dw.out (v:=.slice p8 120 k8) dx.out dy.out (by rw[bs.out,Qaa];omega) rfl _ _ rfl rfl rfl ?_;intro v10 b7 F k ab bz;clear bz;obtain⟨c3,q⟩:∃L,L=L8++leB Ls.stamp 8:=⟨_,rfl⟩;have b:c3.length=128:=by {rw[q,Z6,bs.out,Qaa]}
              rw[<-q] at k
              obtain⟨p10,k10,rfl⟩:=k.val
              rw[b] at k ⊢
              obtain⟨c4,G,c5,I⟩:=hid4 k ab q b
              clear k ab q b)
 have i:=c4.out.bytes
 have b8:c3=Ls.head:=by rw[c5.out,dv.out,dp.out,dh.out,cy.out,cs.out,aj.out]
 rw[b8] at i
 have c6:Ls.head.length=128:=by rw[<-b8];exact I.out
 have ac:=cj.out.step G.out (fun _ h=>h.elim)
 have b:=bb.out.step G.out (fun _ _ h=>h)
 obtain⟨vs10,vt10,J,-,-⟩:=b.is
 have c100:=J.at 0 (v:=.pointer (some ⟨bd,0,none⟩)) rfl
 have c109:=J.at 9 (v:=.int .i64 (Ls.slot:Int)) rfl
 have c7:=Qqq (ac.step (Step.refl b7 F nil).drew (fun _ h=>h.elim)) 0 (by omega) Ls.slot (by have hq:D.file 0=D.f0:=rfl;rw[hq];omega) (i.step (Step.refl b7 F nil).drew (fun h=>h)) c6 (by simp[RDevTag,tOut]) (Dev.lim_mono bc.out (by omega))
 obtain⟨I,dz⟩:=hid2 b c7
 clear b c7 J ac i b8 c6
 go_wp2_with fail
 go_region_held3 (fun w'=>w'.cell? ⟨bl,0,none⟩=some (.pointer (some ⟨bd,0,none⟩))/\w'.cell? ⟨bl,9,none⟩=some (.int .i64 (Ls.slot:Int))) (go_keep) (first
  | (go_at_call 246
     refine dz.out.mono ?_
     rintro e w11 ⟨rfl,τ11,ad,M⟩
     have N:=(I.out.step (Step.refl b7 F nil).drew (fun _ _ h=>h)).step M (fun g hg hS=>Qc0 hg hS)
     obtain⟨vs11,vt11,O,-,-⟩:=N.is
     have d0:=O.at 0 (v:=.pointer (some ⟨bd,0,none⟩)) rfl
     have d9:=O.at 9 (v:=.int .i64 (Ls.slot:Int)) rfl
     have ca:=Qyl ad 0 (by omega)
     obtain⟨cb,cc,e2⟩:=hid3 N M ca
     clear N M ca
     clear O ad))
 go_wp2_with fail
 refine e2.out.mono ?_
 rintro e w12 ⟨rfl,cd,ae,R⟩
 have af:=cb.out.step R (fun g hg hS=>Qc0 hg hS)
 have ag:=(((ba.out.mono (T:=RWalTag) (fun _ h=>.inl h)).trans ((G.out.drew).mono (fun _ h=>h.elim))).trans (cc.out.mono (T:=RWalTag) (fun _ h=>.inr h))).trans (R.mono (T:=RWalTag) (fun _ h=>.inr h))
 obtain⟨ce,cf,cg⟩:=hid3 af ae ag
 clear af ae ag R
 go_wp2_with fail
 go_returns
 exact⟨rfl,cd,ce.out,by rw[ck.out];exact cf.out,cg.out⟩
theorem Qu6(h:RDevAt w τ bd D) (a8:18<=D.f0.length) (p:D.lim 700000) :
 Calls Tryz.prog 110 #[.pointer (some ⟨bd,0,none⟩)] w fun e w'=>∃bl s,e = .returned (.tuple #[.pointer (some ⟨bl,0,none⟩),.int .i64 0])/\w.heap.size<=bl/\RLogAt w' s bl bd (walNewLog D.f0.length)/\RDevAt w' s bd (Qbl D)/\Step w τ w' s RWalTag:=by
 have h1:=Qxa h a8
 have G:=Qgt h 0 (by omega)
 have j:D.file 0=D.f0:=rfl
 rw[j] at G
 generalize hn:D.f0.length=n at *
 have I:Qbl D=Qf9 (Qb8 n) (D.make 0 n []):=by unfold Qbl;rw[hn]
 obtain⟨H1,aa,q,ab,Hn⟩:=hid5 h1 h p I hn
 clear h1 h p I hn j
 go_enter Tryz.func110,Tryz.ntmps110
 go_wp2_with fail
 refine H1.out.mono ?_
 rintro e w1 ⟨bl,τ1,rfl,J,x,y⟩
 have k:=aa.out.step y (fun _ h=>h.elim)
 have z:=Qkr k 0 (by omega)
 have j:D.file 0=D.f0:=rfl
 rw[j,Hn.out] at z
 have M:=r8lay x k (g:=tData) (v:=.slice none 0 0) (want:=[]) (.inl ⟨rfl,rfl⟩) Qei 0 n (by rw[Hn.out];omega) (Dev.lim_mono q.out (by omega))
 obtain⟨ad,ae,Hd1,af,ag⟩:=hid5 x y k z M
 clear x y k z M H1 j
 go_wp2_with fail
 refine af.out.mono ?_
 rintro e w' ⟨rfl,rfl⟩
 go_wp2_with fail
 refine ag.out.mono ?_
 rintro e w2 ⟨rfl,l,N,B⟩
 have m:=ad.out.step B (fun g hg hS=>Qc0 hg hS)
 have b:=m.ok
 obtain⟨vs,vt,d,O,R⟩:=m.is
 have c1:=d.at 3 (v:=.int .u64 0) rfl
 have z1:=d.fz 3
 have c6:=d.at 9 (v:=.int .i64 0) rfl
 have z6:=d.fz 9
 have i:Step w2 l ((w2.setCell ⟨bl,3,none⟩ (.int .u64 1)).setCell ⟨bl,9,none⟩ (.int .i64 1)) l (fun g=>g=tRLog):=((Step.refl w2 l (fun g=>g=tRLog)).set (o:=3) d.tag rfl _).set (o:=9) (d.set 3 (.int .u64 1)).tag rfl _
 have C:RLogAt ((w2.setCell ⟨bl,3,none⟩ (.int .u64 1)).setCell ⟨bl,9,none⟩ (.int .i64 1)) l bl bd (Qb8 n) :=
  ⟨⟨vs,vt,(d.set 3 (.int .u64 1)).set 9 (.int .i64 1),O.step i (by simp[Qee,tRLog]),R.step i (by simp[Qef,tRLog])⟩,m.isB,⟨b.stamp,by simp[Qb8],b.check,b.area,b.strips,by simp[Qb8],b.stream,b.starts,b.lasts⟩⟩
 have F:=N.step i (fun g hg=>by subst hg;exact⟨Qc0 (.inl rfl),by simp[tRLog,tData]⟩)
 have r:=Jak C F (by have:=Dev.make_length D 0 n [] 0;have hq:∀E:Dev,E.file 0=E.f0:=fun _=>rfl;rw[hq,hq,Hn.out] at this;omega) (Dev.lim_mono (Dev.make_lim q.out 0 n []) (by omega))
 obtain⟨ai,U,Hl3,Hd3,X⟩:=hid5 B i C F r
 clear B i C F r d O R m b N
 go_wp2_with fail
 refine X.out.mono ?_
 rintro e w4 ⟨rfl,aj,Y,Z,a1⟩
 obtain⟨ak,al,am⟩:=hid3 Y Z a1
 clear Y Z a1
 go_wp2_with fail
 go_ret2
 refine⟨bl,aj,rfl,J,ak.out,by rw[ab.out];exact al.out,?_⟩
 exact(((ae.out.mono (fun _ h=>h.elim)).trans (ai.out.mono (T:=RWalTag) (fun _ h=>.inr h))).trans (U.out.mono (T:=RWalTag) (fun _ h=>.inl (.inl h)))).trans am.out
