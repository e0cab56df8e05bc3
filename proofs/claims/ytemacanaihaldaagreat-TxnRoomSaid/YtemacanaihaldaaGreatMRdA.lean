/-
 Records: the reader takes bytes,numbers.
-/
import Derived.Test.YtemacanaihaldaaGreatMWalG
import Derived.Test.YtemacanaihaldaaGreatMDevE
import Derived.WalkSmall
import Derived.Recover
set_option maxRecDepth 100000
set_option maxHeartbeats 4000000
set_option linter.all false
namespace Go.Proofs.YtemacanaihaldaaGreat
variable {b br c o:Nat}{g:Tag}{l:List Int}{w:World}{τ:Tags}
open Go.RowKit
def tRd:Tag:=(198,0)
structure LieAt (w:World) (τ:Tags) (g:Tag) (b o c:Nat) (l:List Int):Prop where
 isB:IsB l
 le:l.length<=c
 cap:c<=maxLen
 tag:τ b=g
 lt:b<w.heap.size
 cell:∀i,i<l.length->w.cell? ⟨b,o+i,none⟩=some (.int .u8 (l.getD i 0))
theorem LieAt.step {e:World} {d:Tags} {S:Tag->Prop}(h:LieAt w τ g b o c l) (m:Step w τ e d S) (j:¬S g):LieAt e d g b o c l :=
 ⟨h.isB,h.le,h.cap,(m.ext b h.lt).trans h.tag,Nat.lt_of_lt_of_le h.lt m.size,fun i hi=>cell_kept m (h.cell i hi) (by rw[h.tag];exact j)⟩
theorem LieAt.bytes(h:LieAt w τ g b o c l):Bytes w τ g (.slice (some ⟨b,o,none⟩) l.length c) l :=
 ⟨h.isB,_,c,rfl,h.le,h.cap,fun _=>⟨b,o,rfl,h.tag,h.cell⟩⟩
theorem LieAt.take(h:LieAt w τ g b o c l) (n:Nat):LieAt w τ g b o c (l.take n) :=
 ⟨fun x d=>h.isB x (List.mem_of_mem_take d),by have:=h.le;rw[List.length_take];omega,h.cap,h.tag,h.lt,fun i hi=>by
  rw[List.length_take] at hi
  rw[h.cell i (by omega),Z5,Z5,List.getElem?_take,if_pos (by omega)]⟩
theorem LieAt.drop(h:LieAt w τ g b o c l) (n:Nat) (hn:n<=l.length):LieAt w τ g b (o+n) (c-n) (l.drop n) :=
 ⟨fun x d=>h.isB x (List.mem_of_mem_drop d),by have:=h.le;rw[List.length_drop];omega,by have:=h.cap;omega,h.tag,h.lt,fun i hi=>by
  rw[List.length_drop] at hi
  rw[Nat.add_assoc,h.cell (n+i) (by omega),Z5,Z5,List.getElem?_drop]⟩
theorem Bytes.lies {v:Value}(h:Bytes w τ g v l) (h0:0<l.length):∃b o c,v = .slice (some ⟨b,o,none⟩) l.length c/\LieAt w τ g b o c l:=by
 obtain⟨p,c,rfl,h1,h2,e⟩:=h.is
 obtain⟨b,o,rfl,i,d⟩:=e h0
 exact⟨b,o,c,rfl,h.isB,h1,h2,i,cell_lt (d 0 h0),d⟩
def RdAt (w:World) (τ:Tags) (br:Nat) (g:Tag) (l:List Int):Prop:=∃b o c,Own w τ br tRd 311 [.slice (some ⟨b,o,none⟩) l.length c]/\LieAt w τ g b o c l
theorem RdAt.step {e:World} {d:Tags} {S:Tag->Prop}(h:RdAt w τ br g l) (m:Step w τ e d S) (h1:¬S tRd) (h2:¬S g):RdAt e d br g l:=by
 obtain⟨b,o,c,i,j⟩:=h
 exact⟨b,o,c,i.step m h1,j.step m h2⟩
def RdTag (t:Tag):Prop:=t=tRd
def Qav:Ending:=.panicked [{v:=.iface 360 (.agg #[]),recovered:=false}]
def RdD {α:Type}(w:World) (τ:Tags) (br:Nat) (g:Tag) (r:Option (α×List Int)) (V:World->Tags->Value->α->Prop) (e:Ending) (w':World):Prop :=
 ∃τ',Step w τ w' τ' RdTag/\((r=none/\e=Qav)\/∃x l v,r=some (x,l)/\e = .returned v/\V w' τ' v x/\RdAt w' τ' br g l)
def pTake (n:Nat) (l:List Int):Option (List Int×List Int):=if l.length<n then none else some (l.take n,l.drop n)
def Ja6 (g:Tag) (w:World) (τ:Tags) (v:Value) (x:List Int):Prop:=∃b o c,v = .slice (some ⟨b,o,none⟩) x.length c/\LieAt w τ g b o c x
theorem Qkp(h:RdAt w τ br g l) (I:g≠tRd) (n:Nat) (hn:n<=100000) :
 Calls Tryz.prog 203 #[.pointer (some ⟨br,0,none⟩),.int .i64 (n:Int)] w (RdD w τ br g (pTake n l) (Ja6 g)):=by
 obtain⟨b,o,c,k,e⟩:=h
 have c0:=k.at 0 (v:=.slice (some ⟨b,o,none⟩) l.length c) rfl
 have z0:=k.fz 0
 have hlc:=e.le
 have J:=e.cap
 unfold pTake
 obtain⟨m,d⟩:∃m,l.length=m:=⟨_,rfl⟩
 have hlc':(m:Int)<=(c:Int):=by omega
 have hmm:m<=9223372036854775807:=by unfold maxLen at J;omega
 by_cases hlt:m<n
 ·rw[if_pos (by omega)]
  rw[d] at c0
  have p:(m:Int)<(n:Int):=by omega
  obtain⟨L,G,R⟩:=hid3 k e d
  clear k e d
  go_enter Tryz.func203,Tryz.ntmps203
  go_wp2_with fail
  exact⟨rfl,τ,Step.refl _ _ _,.inl ⟨rfl,rfl⟩⟩
 ·rw[if_neg (by omega)]
  rw[d] at c0
  have p:¬(m:Int)<(n:Int):=by omega
  have hltI2:(n:Int)<=(m:Int):=by omega
  have hltI3:(n:Int)<=(c:Int):=by omega
  have q:=(Step.refl w τ RdTag).set (o:=0) k.tag rfl
  have r:=e.take n
  have s:(l.take n).length=n:=by rw[List.length_take];omega
  have y:=e.drop n (by omega)
  have z:(l.drop n).length=m-n:=by rw[List.length_drop,d]
  obtain⟨L,G,B,C,M,D,E⟩:=hid7 k e q r y s z
  clear k e q r y s z
  by_cases N:c=n
  ·have O:m=n:=by omega
   subst N
   subst O
   have R:=Z2 d
   clear d
   go_enter Tryz.func203,Tryz.ntmps203
   go_wp2_with fail
   go_returns
   have j:=B.out (.slice (some ⟨b,o,none⟩) 0 0)
   have F:l.drop m=[]:=List.eq_nil_of_length_eq_zero (by rw[E.out];omega)
   refine⟨τ,j,.inr ⟨_,_,_,rfl,rfl,⟨b,o,m,by rw[D.out];rfl,C.out.step j (fun h=>I h)⟩,⟨b,o,0,?_,?_⟩⟩⟩
   ·have:=L.out.set 0 (.slice (some ⟨b,o,none⟩) 0 0)
    rw[F];exact this
   ·rw[F]
    exact⟨fun x U=>by simp at U,Z0 _,Z9 _,(j.ext b G.out.lt).trans G.out.tag,Nat.lt_of_lt_of_le G.out.lt j.size,fun i hi=>by simp at hi⟩
  ·have R:=Z2 d
   clear d
   go_enter Tryz.func203,Tryz.ntmps203
   go_wp2_with fail
   go_returns
   have j:=B.out (.slice (some ⟨b,o+n,none⟩) (m-n) (c-n))
   refine⟨τ,j,.inr ⟨_,_,_,rfl,rfl,⟨b,o,c,by rw[D.out];rfl,C.out.step j (fun h=>I h)⟩,⟨b,o+n,c-n,?_,M.out.step j (fun h=>I h)⟩⟩⟩
   have:=L.out.set 0 (.slice (some ⟨b,o+n,none⟩) (m-n) (c-n))
   rw[E.out];exact this
def pNum (k:Nat) (l:List Int):Option (Nat×List Int):=if l.length<k then none else some (leN (l.take k) k,l.drop k)
def NumV (w:World) (τ:Tags) (v:Value) (x:Nat):Prop:=v = .int .u64 (x:Int)
theorem Qar(h:RdAt w τ br g l) (C:g≠tRd) (k:Nat) (h1:1<=k) (h8:k<=8) :
 Calls Tryz.prog 204 #[.pointer (some ⟨br,0,none⟩),.int .i64 (k:Int)] w (RdD w τ br g (pNum k l) NumV):=by
 have z:=Qkp h C k (by omega)
 have D:=Z2 z
 clear z
 go_enter Tryz.func204,Tryz.ntmps204
 go_wp2_with fail
 refine D.out.mono ?_
 rintro e w1 ⟨τ1,d,⟨i,rfl⟩|⟨x,l1,v,i,rfl,⟨b,o,c,rfl,B⟩,p⟩⟩
 ·have j:=Z2 d
  clear d
  unfold Qav
  go_wp2_with fail
  refine⟨rfl,τ1,j.out,.inl ⟨?_,rfl⟩⟩
  unfold pTake at i
  unfold pNum
  split at i
  ·rw[if_pos (by assumption)]
  ·cases i
 ·unfold pTake at i
  split at i
  ·cases i
  ·have r:¬l.length<k:=by assumption
   simp only[Option.some.injEq,Prod.mk.injEq] at i
   obtain⟨rfl,rfl⟩:=i
   have q:(l.take k).length=k:=by rw[List.length_take];omega
   have m:=Qip B.bytes (by omega) (by omega)
   rw[q] at m ⊢
   obtain⟨s,j,y⟩:=hid3 m d p
   clear m d p B
   go_wp2_with fail
   refine s.out.mono ?_
   rintro e w2 ⟨rfl,rfl⟩
   go_wp2_with fail
   go_returns
   exact⟨τ1,j.out,.inr ⟨leN (l.take k) k,l.drop k,_,by unfold pNum;rw[if_neg r],rfl,rfl,y.out⟩⟩
def tTwo:Tag:=(76,1)
def Qi8 (l:List Int):Option (List Int×List Int):=(pNum 1 l).bind fun x=>pTake x.1 x.2
def OwnV (w:World) (τ:Tags) (v:Value) (x:List Int):Prop:=∃p c,v = .slice p x.length c/\Bytes w τ tData v x
theorem OwnV.step {e:World} {d:Tags} {S:Tag->Prop} {v:Value} {x:List Int}(h:OwnV w τ v x) (m:Step w τ e d S) (i:¬S tData):OwnV e d v x:=by
 obtain⟨p,c,h1,h2⟩:=h
 exact⟨p,c,h1,h2.step m i⟩
theorem Qy8:¬RdTag tData:=by unfold RdTag;decide
theorem Qpf {k:Nat} {x:Nat} {d:List Int}(h:pNum k l=some (x,d)):k<=l.length/\x=leN (l.take k) k/\d=l.drop k:=by
 unfold pNum at h
 split at h
 ·cases h
 ·cases h
  exact⟨by omega,rfl,rfl⟩
theorem RdAt.isB(h:RdAt w τ br g l):IsB l:=by
 obtain⟨b,o,c,-,d⟩:=h
 exact d.isB
theorem Qcb {k:Nat} {x:Nat} {d:List Int}(h:pNum k l=some (x,d)) (e:IsB l):x<2 ^ (8*k):=by
 obtain⟨-,rfl,-⟩:=Qpf h
 exact Qle (fun y i=>e y (List.mem_of_mem_take i)) k
theorem Qmu {k:Nat} {x d:List Int}(h:pTake k l=some (x,d)):k<=l.length/\x=l.take k/\d=l.drop k/\x.length=k:=by
 unfold pTake at h
 split at h
 ·cases h
 ·cases h
  exact⟨by omega,rfl,rfl,by rw[List.length_take];omega⟩
theorem Qmq(h:RdAt w τ br g l) (R:g≠tRd) :
 Calls Tryz.prog 257 #[.pointer (some ⟨br,0,none⟩)] w (RdD w τ br g (Qi8 l) OwnV):=by
 have hn:=Qar h R 1 (by omega) (by omega)
 have U:=h.isB
 obtain⟨Hn,HB⟩:=hid2 hn U
 clear hn U h
 go_enter Tryz.func257,Tryz.ntmps257
 go_wp2_with fail
 refine Hn.out.mono ?_
 rintro e w1 ⟨τ1,p,⟨E,rfl⟩|⟨k,l1,v,E,rfl,rfl,i⟩⟩
 ·have q:=Z2 p
  clear p
  unfold Qav
  go_wp2_with fail
  exact⟨rfl,τ1,q.out,.inl ⟨by unfold Qi8;rw[E];rfl,rfl⟩⟩
 ·have hk:=Qcb E HB.out
  rw[show (2:Nat) ^ (8*1)=256 from by decide] at hk
  have hkw:IntKind.i64.wrap (k:Int)=(k:Int):=Qd5 _ (by omega) (by omega)
  have X:=Qkp i R k (by omega)
  obtain⟨Ht,q,Y⟩:=hid3 X p E
  clear X p E i
  go_wp2_with fail
  refine Ht.out.mono ?_
  rintro e w2 ⟨I,y,⟨j,rfl⟩|⟨x,l2,v,j,rfl,⟨b,o,c,rfl,Z⟩,i⟩⟩
  ·have d:=q.out.trans y
   have m:=Z2 d
   clear d
   unfold Qav
   go_wp2_with fail
   exact⟨rfl,I,m.out,.inl ⟨by unfold Qi8;rw[Y.out];exact j,rfl⟩⟩
  ·obtain⟨-,-,-,z⟩:=Qmu j
   have B:=Qu3 Z.bytes tData (by omega)
   rw[z] at B
   have d:=q.out.trans y
   obtain⟨J,m,L,M⟩:=hid4 B d i j
   clear B d i j Z y
   go_wp2_with fail
   refine J.out.mono ?_
   rintro e w3 ⟨u,N,rfl,C,D⟩
   have r:=m.out.trans (D.mono (T:=RdTag) (fun _ h=>h.elim))
   have s:=L.out.step D (fun h=>h) (fun h=>h)
   obtain⟨p3,c3,rfl⟩:=C.val
   obtain⟨F,G,O⟩:=hid3 r s C
   clear r s C D
   go_wp2_with fail
   go_returns
   exact⟨N,F.out,.inr ⟨x,l2,_,by unfold Qi8;rw[Y.out];exact M.out,rfl,⟨p3,c3,by rw[z];rfl,by have:=O.out.bytes;rw[z] at this;exact this⟩,G.out⟩⟩
structure ChangeP where
 page:Nat
 slot:Nat
 had:Bool
 has:Bool
 before:List Int
 after:List Int
def Qd3 (l:List Int):Option (ChangeP×List Int) :=
 (pNum 4 l).bind fun a=>(pNum 2 a.2).bind fun b=>(pNum 1 b.2).bind fun f=>if 3<f.1 then none else (Qi8 f.2).bind fun x=>(Qi8 x.2).bind fun y=>some (⟨a.1,b.1,decide (f.1%2=1),decide (f.1/2%2=1),x.1,y.1⟩,y.2)
def Qz8 (w:World) (τ:Tags) (v:Value) (x:ChangeP):Prop:=∃vb va,v = .agg #[.int .u32 (x.page:Int),.int .u16 (x.slot:Int),.bool x.had,.bool x.has,vb,va]/\x.page<4294967296/\x.slot<65536/\OwnV w τ vb x.before/\OwnV w τ va x.after
theorem Qqp(h:RdAt w τ br g l) (hg:g≠tRd) (dz:g≠tTwo) (e6:g≠tOne) :
 Calls Tryz.prog 205 #[.pointer (some ⟨br,0,none⟩)] w (RdD w τ br g (Qd3 l) Qz8):=by
 have ba:=(Step.refl w τ nil).alloc (.cells #[.int .u32 0,.int .u16 0,.bool false,.bool false,.slice none 0 0,.slice none 0 0] 124) tOne
 have a6:=Own.born w τ tOne 124 #[.int .u32 0,.int .u16 0,.bool false,.bool false,.slice none 0 0,.slice none 0 0]
 have h0:=h.step ba (fun h=>h) (fun h=>h)
 have a7:=ba.mono (T:=RdTag) (fun _ h=>h.elim)
 obtain⟨m,bb⟩:∃m,w.heap.size=m:=⟨_,rfl⟩
 rw[bb] at a6 h0 a7
 generalize τ.put m tOne=τ0 at *
 obtain⟨w0,bd⟩:∃w0,w.alloc (.cells #[.int .u32 0,.int .u16 0,.bool false,.bool false,.slice none 0 0,.slice none 0 0] 124)=w0:=⟨_,rfl⟩
 rw[bd] at a6 h0 a7
 have bw:=Qar h0 hg 4 (by omega) (by omega)
 have bz:=h0.isB
 obtain⟨c3,e7,e8,c4,c5,c6⟩:=hid6 bw bz a6 a7 bd bb
 clear bw bz a6 a7 bd bb h h0 ba
 go_enter Tryz.func205,Tryz.ntmps205
 go_wp2_with fail
 rw[c6.out,c5.out]
 refine c3.out.mono ?_
 rintro e w1 ⟨τ1,a8,⟨hr,rfl⟩|⟨pg,l1,v,be,rfl,rfl,D⟩⟩
 ·have q:=c4.out.trans a8
  have Hs:=Z2 q
  clear q
  unfold Qav
  go_wp2_with fail
  exact⟨rfl,τ1,Hs.out,.inl ⟨by unfold Qd3;rw[hr];rfl,rfl⟩⟩
 have bf:=Qcb be e7.out
 rw[show (2:Nat) ^ (8*4)=4294967296 from by decide] at bf
 have hpw:IntKind.u32.wrap (pg:Int)=(pg:Int):=Qb1 pg bf
 have am:=c4.out.trans a8
 have c7:=e8.out.step a8 (by unfold RdTag;decide)
 have c8:=Qar D hg 2 (by omega) (by omega)
 have c9:=D.isB
 obtain⟨an,e9,cc,ea,z⟩:=hid5 am c7 c8 c9 be
 clear am c7 c8 c9 be a8 D c3
 go_wp2_with fail
 refine cc.out.mono ?_
 rintro e w2 ⟨ac,ad,⟨hr,rfl⟩|⟨sl,l2,v,bg,rfl,rfl,ao⟩⟩
 ·have q:=an.out.trans ad
  have Hs:=Z2 q
  clear q
  unfold Qav
  go_wp2_with fail
  exact⟨rfl,ac,Hs.out,.inl ⟨by unfold Qd3;rw[z.out];simp only[Z8];rw[hr];rfl,rfl⟩⟩
 have cd:=Qcb bg ea.out
 rw[show (2:Nat) ^ (8*2)=65536 from by decide] at cd
 have hsw:IntKind.u16.wrap (sl:Int)=(sl:Int):=by
  have:IntKind.u16.wrap (sl:Int)=(sl:Int)%65536:=by simp[IntKind.wrap,IntKind.bits,IntKind.signed]
  rw[this];omega
 have E:=an.out.trans ad
 have ce:=e9.out.step ad (by unfold RdTag;decide)
 have ae:=(Step.refl w2 ac nil).alloc (.cells #[.int .u32 (pg:Int),.int .u16 (sl:Int),.bool false,.bool false,.slice none 0 0,.slice none 0 0] 124) tTwo
 have af:=Own.born w2 ac tTwo 124 #[.int .u32 (pg:Int),.int .u16 (sl:Int),.bool false,.bool false,.slice none 0 0,.slice none 0 0]
 have p:=ao.step ae (fun h=>h) (fun h=>h)
 have ag:=ce.step ae (fun h=>h)
 have r:=E.trans (ae.mono (T:=RdTag) (fun _ h=>h.elim))
 obtain⟨bc,bh⟩:∃bc,w2.heap.size=bc:=⟨_,rfl⟩
 rw[bh] at af p ag r
 generalize ac.put bc tTwo=τ3 at *
 obtain⟨w3,bi⟩:∃w3,w2.alloc (.cells #[.int .u32 (pg:Int),.int .u16 (sl:Int),.bool false,.bool false,.slice none 0 0,.slice none 0 0] 124)=w3:=⟨_,rfl⟩
 rw[bi] at af p ag r
 have cf:=Qar p hg 1 (by omega) (by omega)
 have cg:=p.isB
 have s:w.heap.size<=bc:=by have:=E.size;omega
 obtain⟨ap,eb,ec,F,ch,HB3,ci,ed⟩:=hid8 r ag af bg cf cg bi bh
 clear r ag af bg cf cg bi bh ad E ce ao p ae cc
 go_wp2_with fail
 rw[ed.out,ci.out]
 refine ch.out.mono ?_
 rintro e w4 ⟨bj,G,⟨hr,rfl⟩|⟨f,l4,v,bk,rfl,rfl,aq⟩⟩
 ·have q:=ap.out.trans G
  have Hs:=Z2 q
  clear q
  unfold Qav
  go_wp2_with fail
  exact⟨rfl,bj,Hs.out,.inl ⟨by unfold Qd3;rw[z.out];simp only[Z8];rw[F.out];simp only[Z8];rw[hr];rfl,rfl⟩⟩
 have x:=ap.out.trans G
 have cj:=eb.out.step G (by unfold RdTag;decide)
 have B:=ec.out.step G (by unfold RdTag;decide)
 by_cases ah:3<f
 ·have ee:(3:Int)<(f:Int):=by omega
  have y:=Z2 x
  clear x
  go_wp2_with fail
  exact⟨rfl,bj,y.out,.inl ⟨by unfold Qd3;rw[z.out];simp only[Z8];rw[F.out];simp only[Z8];rw[bk];simp only[Z8];rw[if_pos ah],rfl⟩⟩
 have ee:¬(3:Int)<(f:Int):=by omega
 have z40:=B.fz 2
 have z41:=B.fz 3
 have d40:=B.at 2 (v:=.bool false) rfl
 have d41:=B.at 3 (v:=.bool false) rfl
 obtain⟨y,ck,ai,ar,bl⟩:=hid5 x cj B aq bk
 clear x cj B aq bk G ch
 obtain⟨had,I⟩:∃b,decide (f%2=1)=b:=⟨_,rfl⟩
 obtain⟨has,J⟩:∃b,decide (f/2%2=1)=b:=⟨_,rfl⟩
 have cm:(bits BinOp.and IntKind.u64 (f:Int) 1 != 0)=had:=by
  rw[<-I]
  rcases (show f=0\/f=1\/f=2\/f=3 by omega) with rfl|rfl|rfl|rfl <;> rfl
 have cn:(bits BinOp.and IntKind.u64 (f:Int) 2 != 0)=has:=by
  rw[<-J]
  rcases (show f=0\/f=1\/f=2\/f=3 by omega) with rfl|rfl|rfl|rfl <;> rfl
 obtain⟨ef,eg,co,cp⟩:=hid4 cm cn I J
 clear cm cn I J
 go_wp2_with fail
 rw[ef.out,eg.out]
 have bm:=((Step.refl w4 bj (fun t=>t=tTwo)).set (b:=bc) (o:=2) ai.out.tag rfl (.bool had)).set (b:=bc) (o:=3) ai.out.tag rfl (.bool has)
 have av:=(y.out.setNew (b:=bc) (o:=2) s (.bool had)).setNew (b:=bc) (o:=3) s (.bool has)
 have cq:=(ai.out.set 2 (.bool had)).set 3 (.bool has)
 have cr:=ck.out.step bm (by decide)
 have bn:g≠tTwo:=dz
 have aw:=ar.out.step bm (by decide) (fun h=>bn h)
 generalize (w4.setCell ⟨bc,2,none⟩ (.bool had)).setCell ⟨bc,3,none⟩ (.bool has)=w5 at *
 have cs:=Qmq aw hg
 obtain⟨L,ct,cv,cw⟩:=hid4 av cq cr cs
 clear av cq cr cs bm aw ai ck y ar d40 d41 z40 z41
 refine cw.out.mono ?_
 rintro e w6 ⟨cx,M,⟨hr,rfl⟩|⟨N,l6,vb,cy,rfl,⟨pb,cb,rfl,cz⟩,ax⟩⟩
 ·have q:=L.out.trans M
  have Hs:=Z2 q
  clear q
  unfold Qav
  go_wp2_with fail
  exact⟨rfl,cx,Hs.out,.inl ⟨by unfold Qd3;rw[z.out];simp only[Z8];rw[F.out];simp only[Z8];rw[bl.out];simp only[Z8];rw[if_neg ah,hr];rfl,rfl⟩⟩
 have ay:=L.out.trans M
 have O:=ct.out.step M (by unfold RdTag;decide)
 have da:=cv.out.step M (by unfold RdTag;decide)
 have d6:=O.at 4 (v:=.slice none 0 0) rfl
 have z6:=O.fz 4
 have aj:=(Step.refl w6 cx (fun t=>t=tTwo)).set (b:=bc) (o:=4) O.tag rfl (.slice pb N.length cb)
 have R:=ay.setNew (b:=bc) (o:=4) s (.slice pb N.length cb)
 have bo:=O.set 4 (.slice pb N.length cb)
 have bp:=da.step aj (by decide)
 have U:=ax.step aj (by decide) (fun h=>bn h)
 have X:=cz.step aj (by decide)
 obtain⟨w7,bq⟩:∃w7,w6.setCell ⟨bc,4,none⟩ (.slice pb N.length cb)=w7:=⟨_,rfl⟩
 rw[bq] at R bo bp U X
 have db:=Qmq U hg
 obtain⟨Y,dc,dd,az,de,df,dh⟩:=hid7 R bo bp X db cy bq
 clear R bo bp X db cy bq M ay O da aj U ax cz cw L ct cv
 go_wp2_with fail
 rw[dh.out]
 refine de.out.mono ?_
 rintro e w8 ⟨ak,C,⟨hr,rfl⟩|⟨xa,l8,va,di,rfl,⟨pa,ca,rfl,dj⟩,b0⟩⟩
 ·have q:=Y.out.trans C
  have Hs:=Z2 q
  clear q
  unfold Qav
  go_wp2_with fail
  exact⟨rfl,ak,Hs.out,.inl ⟨by unfold Qd3;rw[z.out];simp only[Z8];rw[F.out];simp only[Z8];rw[bl.out];simp only[Z8];rw[if_neg ah,df.out];simp only[Z8];rw[hr];rfl,rfl⟩⟩
 have b1:=Y.out.trans C
 have j:=dc.out.step C (by unfold RdTag;decide)
 have d:=dd.out.step C (by unfold RdTag;decide)
 have b2:=az.out.step C Qy8
 have d8:=j.at 5 (v:=.slice none 0 0) rfl
 have z8:=j.fz 5
 have Z:=(Step.refl w8 ak (fun t=>t=tTwo)).set (b:=bc) (o:=5) j.tag rfl (.slice pa xa.length ca)
 have b3:=b1.setNew (b:=bc) (o:=5) s (.slice pa xa.length ca)
 have dk:=j.set 5 (.slice pa xa.length ca)
 have i:=d.step Z (by decide)
 have b4:=b0.step Z (by decide) (fun h=>bn h)
 have b5:=b2.step Z (by decide)
 have b6:=dj.step Z (by decide)
 have k:w.heap.size<=m:=by have:=c6.out;omega
 have dl:m≠bc:=d.ne j (by decide)
 have hne2:bc≠m:=fun e=>dl e.symm
 have e0:=j.at 0 (v:=.int .u32 (pg:Int)) rfl
 have e1:=j.at 1 (v:=.int .u16 (sl:Int)) rfl
 have e2:=j.at 2 (v:=.bool had) rfl
 have e3:=j.at 3 (v:=.bool has) rfl
 have e4:=j.at 4 (v:=.slice pb N.length cb) rfl
 have k0:=d.at 0 (v:=.int .u32 0) rfl
 have f0:=d.fz 0
 have k1:=d.at 1 (v:=.int .u16 0) rfl
 have f1:=d.fz 1
 have k2:=d.at 2 (v:=.bool false) rfl
 have f2:=d.fz 2
 have k3:=d.at 3 (v:=.bool false) rfl
 have f3:=d.fz 3
 have k4:=d.at 4 (v:=.slice none 0 0) rfl
 have f4:=d.fz 4
 have k5:=d.at 5 (v:=.slice none 0 0) rfl
 have f5:=d.fz 5
 have e5:=dk.at 5 (v:=.slice pa xa.length ca) rfl
 have y0:=(i.set 0 (.int .u32 (pg:Int))).at 0 (v:=.int .u32 (pg:Int)) rfl
 have y1:=((i.set 0 (.int .u32 (pg:Int))).set 1 (.int .u16 (sl:Int))).at 1 (v:=.int .u16 (sl:Int)) rfl
 have y2:=(((i.set 0 (.int .u32 (pg:Int))).set 1 (.int .u16 (sl:Int))).set 2 (.bool had)).at 2 (v:=.bool had) rfl
 have y3:=((((i.set 0 (.int .u32 (pg:Int))).set 1 (.int .u16 (sl:Int))).set 2 (.bool had)).set 3 (.bool has)).at 3 (v:=.bool has) rfl
 have y4:=(((((i.set 0 (.int .u32 (pg:Int))).set 1 (.int .u16 (sl:Int))).set 2 (.bool had)).set 3 (.bool has)).set 4 (.slice pb N.length cb)).at 4 (v:=.slice pb N.length cb) rfl
 have y5:=((((((i.set 0 (.int .u32 (pg:Int))).set 1 (.int .u16 (sl:Int))).set 2 (.bool had)).set 3 (.bool has)).set 4 (.slice pb N.length cb)).set 5 (.slice pa xa.length ca)).at 5 (v:=.slice pa xa.length ca) rfl
 have al:=(((((((Step.refl (w8.setCell ⟨bc,5,none⟩ (.slice pa xa.length ca)) ak (fun t=>t=tOne)).set (b:=m) (o:=0) i.tag rfl (.int .u32 (pg:Int))).set (b:=m) (o:=1) i.tag rfl (.int .u16 (sl:Int))).set (b:=m) (o:=2) i.tag rfl (.bool had)).set (b:=m) (o:=3) i.tag rfl (.bool has)).set (b:=m) (o:=4) i.tag rfl (.slice pb N.length cb)).set (b:=m) (o:=5) i.tag rfl (.slice pa xa.length ca))
 have dm:=((((((b3.setNew (b:=m) (o:=0) k (.int .u32 (pg:Int))).setNew (b:=m) (o:=1) k (.int .u16 (sl:Int))).setNew (b:=m) (o:=2) k (.bool had)).setNew (b:=m) (o:=3) k (.bool has)).setNew (b:=m) (o:=4) k (.slice pb N.length cb)).setNew (b:=m) (o:=5) k (.slice pa xa.length ca))
 have b7:=b4.step al (by decide) (fun h=>e6 h)
 have b8:=b5.step al (by decide)
 have b9:=b6.step al (by decide)
 have HY:=Z2 (And.intro y0 (And.intro y1 (And.intro y2 (And.intro y3 (And.intro y4 y5)))))
 clear y0 y1 y2 y3 y4 y5
 obtain⟨eh,dn,dp,dq,ei⟩:=hid5 dm b7 b8 b9 di
 clear dm b7 b8 b9 di C b1 j d b2 Z b3 dk i b4 b5 b6 al dj b0 de Y dc dd az dh ci c5
 go_wp2_with fail
 obtain⟨y0,y1,y2,y3,y4,y5⟩:=HY.out
 try simp only[Exit.inBlock,Exit.then]
 refine bodyPost_ret (by simp[results,Tryz.results205,go_sem,y0,y1,y2,y3,y4,y5];try rfl) rfl ?_
 refine⟨ak,eh.out,.inr ⟨⟨pg,sl,had,has,N,xa⟩,l8,_,?_,rfl,⟨_,_,rfl,bf,cd,⟨pb,cb,rfl,dp.out⟩,⟨pa,ca,rfl,dq.out⟩⟩,dn.out⟩⟩
 unfold Qd3
 rw[z.out]
 simp only[Z8]
 rw[F.out]
 simp only[Z8]
 rw[bl.out]
 simp only[Z8]
 rw[if_neg ah,df.out]
 simp only[Z8]
 rw[ei.out,co.out,cp.out]
 rfl
