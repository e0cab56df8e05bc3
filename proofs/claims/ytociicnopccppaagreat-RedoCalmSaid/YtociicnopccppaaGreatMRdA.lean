/-
 Records: the reader takes bytes,numbers.
-/
import Derived.Test.YtociicnopccppaaGreatMPoolQ
import Derived.Test.YtociicnopccppaaGreatMDevE
import Derived.WalkSmall
import Derived.Recover
set_option maxRecDepth 100000
set_option maxHeartbeats 40000000
set_option linter.all false
namespace Go.Proofs.YtociicnopccppaaGreat
variable {b br o:Nat}{g:Tag}{l:List Int}{w:World}{τ:qa1}
open Go.RowKit
def tRd:Tag:=(198,0)
structure qf3 (w:World) (τ:qa1) (g:Tag) (b o c:Nat) (l:List Int):Prop where
 isB:IsB l
 le:l.length<=c
 cap:c<=maxLen
 tag:τ b=g
 lt:b<w.heap.size
 cell:∀i,i<l.length->w.cell? ⟨b,o+i,none⟩=some (.int .u8 (l.getD i 0))
theorem qf3.step {d:World} {a:qa1} {S:Tag->Prop} {c:Nat}(h:qf3 w τ g b o c l) (m:Step w τ d a S) (e:¬S g):qf3 d a g b o c l :=
 ⟨h.isB,h.le,h.cap,(m.ext b h.lt).trans h.tag,Nat.lt_of_lt_of_le h.lt m.size,fun i hi=>cell_kept m (h.cell i hi) (by rw[h.tag];exact e)⟩
theorem qf3.bytes {c:Nat}(h:qf3 w τ g b o c l):Bytes w τ g (.slice (some ⟨b,o,none⟩) l.length c) l :=
 ⟨h.isB,_,c,rfl,h.le,h.cap,fun _=>⟨b,o,rfl,h.tag,h.cell⟩⟩
theorem qf3.take {c:Nat}(h:qf3 w τ g b o c l) (n:Nat):qf3 w τ g b o c (l.take n) :=
 ⟨fun x a=>h.isB x (List.mem_of_mem_take a),by have:=h.le;rw[List.length_take];omega,h.cap,h.tag,h.lt,fun i hi=>by
  rw[List.length_take] at hi
  rw[h.cell i oM,Z5,Z5,List.getElem?_take,if_pos oM]⟩
theorem qf3.drop {c:Nat}(h:qf3 w τ g b o c l) (n:Nat) (hn:n<=l.length):qf3 w τ g b (o+n) (c-n) (l.drop n) :=
 ⟨fun x a=>h.isB x (List.mem_of_mem_drop a),by have:=h.le;rw[List.length_drop];omega,by have:=h.cap;omega,h.tag,h.lt,fun i hi=>by
  rw[List.length_drop] at hi
  rw[Nat.add_assoc,h.cell (n+i) oM,Z5,Z5,List.getElem?_drop]⟩
theorem Bytes.lies {v:Value}(h:Bytes w τ g v l) (h0:0<l.length):∃b o c,v = .slice (some ⟨b,o,none⟩) l.length c/\qf3 w τ g b o c l:=by
 obtain⟨p,c,rfl,h1,h2,d⟩:=h.is
 obtain⟨b,o,rfl,e,a⟩:=d h0
 exact⟨b,o,c,rfl,h.isB,h1,h2,e,qb0 (a 0 h0),a⟩
def qhn (w:World) (τ:qa1) (br:Nat) (g:Tag) (l:List Int):Prop:=∃b o c,Own w τ br tRd 273 [.slice (some ⟨b,o,none⟩) l.length c]/\qf3 w τ g b o c l
theorem qhn.step {d:World} {a:qa1} {S:Tag->Prop}(h:qhn w τ br g l) (m:Step w τ d a S) (h1:¬S tRd) (h2:¬S g):qhn d a br g l:=by
 obtain⟨b,o,c,e,i⟩:=h
 exact⟨b,o,c,e.step m h1,i.step m h2⟩
def qb8 (t:Tag):Prop:=t=tRd
def Qav:Ending:=.panicked [{v:=.iface 308 (.agg #[]),recovered:=false}]
def RdD {α:Type}(w:World) (τ:qa1) (br:Nat) (g:Tag) (r:Option (α×List Int)) (V:World->qa1->Value->α->Prop) (e:Ending) (w':World):Prop :=
 ∃τ',Step w τ w' τ' qb8/\((r=none/\e=Qav)\/∃x l v,r=some (x,l)/\e = .returned v/\V w' τ' v x/\qhn w' τ' br g l)
def qg2 (n:Nat) (l:List Int):Option (List Int×List Int):=if l.length<n then none else some (l.take n,l.drop n)
def Ja6 (g:Tag) (w:World) (τ:qa1) (v:Value) (x:List Int):Prop:=∃b o c,v = .slice (some ⟨b,o,none⟩) x.length c/\qf3 w τ g b o c x
theorem Qkp(h:qhn w τ br g l) (G:g≠tRd) (n:Nat) (hn:n<=100000) :
 Calls Tryz.prog 175 #[.pointer (some ⟨br,0,none⟩),.int .i64 n] w (RdD w τ br g (qg2 n l) (Ja6 g)):=by
 obtain⟨b,o,c,e,a⟩:=h
 have c0:=e.at 0 rfl
 have z0:=e.fz 0
 have hlc:=a.le
 have hcm:=a.cap
 unfold qg2
 obtain⟨m,j⟩:=gN l.length
 have hlc':(m:Int)<=c:=oM
 by_cases hlt:m<n
 ·rw[if_pos oM]
  rw[j] at c0
  have k:(m:Int)<n:=oM
  obtain⟨I,F⟩:=qaj e a
  clear e a j
  go_enter Tryz.func175,Tryz.ntmps175
  go_wp2_with fail
  exact⟨rfl,τ,Step.refl _ _ _,.inl ⟨rfl,rfl⟩⟩
 ·rw[if_neg oM]
  rw[j] at c0
  have k:¬(m:Int)<n:=oM
  have hltI2:(n:Int)<=m:=oM
  have hltI3:(n:Int)<=c:=oM
  have p:=(Step.refl w τ qb8).set (o:=0) e.tag rfl
  have q:=a.take n
  have r:(l.take n).length=n:=by rw[List.length_take];omega
  have s:=a.drop n oM
  have y:(l.drop n).length=m-n:=by rw[List.length_drop,j]
  obtain⟨I,F,z,B,J,C,D⟩:=qdr e a p q s r y
  clear e a p q s r y
  by_cases L:c=n
  ·have M:m=n:=oM
   subst L
   subst M
   clear j
   go_enter Tryz.func175,Tryz.ntmps175
   go_wp2_with fail
   go_returns
   have d:=z (.slice (some ⟨b,o,none⟩) 0 0)
   have E:l.drop m=[]:=List.eq_nil_of_length_eq_zero (by rw[D.out];omega)
   refine⟨τ,d,.inr ⟨_,_,_,rfl,rfl,⟨b,o,m,by rw[C.out];rfl,B.step d (fun h=>G h)⟩,⟨b,o,0,?_,?_⟩⟩⟩
   ·have:=I.set 0 (.slice (some ⟨b,o,none⟩) 0 0)
    rw[E];exact this
   ·rw[E]
    exact⟨fun x O=>by simp at O,Z0 _,Z9 _,(d.ext b F.lt).trans F.tag,Nat.lt_of_lt_of_le F.lt d.size,fun i hi=>by simp at hi⟩
  ·clear j
   go_enter Tryz.func175,Tryz.ntmps175
   go_wp2_with fail
   go_returns
   have d:=z (.slice (some ⟨b,o+n,none⟩) (m-n) (c-n))
   refine⟨τ,d,.inr ⟨_,_,_,rfl,rfl,⟨b,o,c,by rw[C.out];rfl,B.step d (fun h=>G h)⟩,⟨b,o+n,c-n,?_,J.step d (fun h=>G h)⟩⟩⟩
   have:=I.set 0 (.slice (some ⟨b,o+n,none⟩) (m-n) (c-n))
   rw[D.out];exact this
def qem (k:Nat) (l:List Int):Option (Nat×List Int):=if l.length<k then none else some (leN (l.take k) k,l.drop k)
def NumV (w:World) (τ:qa1) (v:Value) (x:Nat):Prop:=v = .int .u64 x
theorem Qar(h:qhn w τ br g l) (B:g≠tRd) (k:Nat) (h1:1<=k) (h8:k<=8) :
 Calls Tryz.prog 176 #[.pointer (some ⟨br,0,none⟩),.int .i64 k] w (RdD w τ br g (qem k l) NumV):=by
 have y:=Qkp h B k oM
 have C:=Z2 y
 clear y
 go_enter Tryz.func176,Tryz.ntmps176
 go_wp2_with fail
 refine C.mono ?_
 rintro e w1 ⟨τ1,a,⟨d,rfl⟩|⟨x,l1,v,d,rfl,⟨b,o,c,rfl,z⟩,n⟩⟩
 ·have i:=Z2 a
  clear a
  unfold Qav
  go_wp2_with fail
  refine⟨rfl,τ1,i,.inl ⟨?_,rfl⟩⟩
  unfold qg2 at d
  unfold qem
  split at d
  ·rw[if_pos (by assumption)]
  ·cases d
 ·unfold qg2 at d
  split at d
  ·cases d
  ·have q:¬l.length<k:=by assumption
   simp only[Option.some.injEq,Prod.mk.injEq] at d
   obtain⟨rfl,rfl⟩:=d
   have p:(l.take k).length=k:=by rw[List.length_take];omega
   have j:=Qip z.bytes oM oM
   rw[p] at j ⊢
   obtain⟨r,i,s⟩:=qan j a n
   clear j a n z
   go_wp2_with fail
   refine r.mono ?_
   rintro e w2 ⟨rfl,rfl⟩
   go_wp2_with fail
   go_returns
   exact⟨τ1,i,.inr ⟨leN (l.take k) k,l.drop k,_,by unfold qem;rw[if_neg q],rfl,rfl,s⟩⟩
def qh3:Tag:=(76,1)
def Qi8 (l:List Int):Option (List Int×List Int):=(qem 1 l).bind fun x=>qg2 x.1 x.2
def qin (w:World) (τ:qa1) (v:Value) (x:List Int):Prop:=∃p c,v = .slice p x.length c/\Bytes w τ qa2 v x
theorem qin.step {d:World} {a:qa1} {S:Tag->Prop} {v:Value} {x:List Int}(h:qin w τ v x) (m:Step w τ d a S) (e:¬S qa2):qin d a v x:=by
 obtain⟨p,c,h1,h2⟩:=h
 exact⟨p,c,h1,h2.step m e⟩
theorem Qy8:¬qb8 qa2:=by unfold qb8;decide
theorem Qpf {k:Nat} {x:Nat} {a:List Int}(h:qem k l=some (x,a)):k<=l.length/\x=leN (l.take k) k/\a=l.drop k:=by
 unfold qem at h
 split at h
 ·cases h
 ·cases h
  exact⟨oM,rfl,rfl⟩
theorem qhn.isB(h:qhn w τ br g l):IsB l:=by
 obtain⟨b,o,c,-,a⟩:=h
 exact a.isB
theorem Qcb {k:Nat} {x:Nat} {a:List Int}(h:qem k l=some (x,a)) (hB:IsB l):x<2 ^ (8*k):=by
 obtain⟨-,rfl,-⟩:=Qpf h
 exact Qle (fun y c=>hB y (List.mem_of_mem_take c)) k
theorem Qmu {k:Nat} {x a:List Int}(h:qg2 k l=some (x,a)):k<=l.length/\x=l.take k/\a=l.drop k/\x.length=k:=by
 unfold qg2 at h
 split at h
 ·cases h
 ·cases h
  exact⟨oM,rfl,rfl,by rw[List.length_take];omega⟩
theorem Qmq(h:qhn w τ br g l) (R:g≠tRd) :
 Calls Tryz.prog 224 #[.pointer (some ⟨br,0,none⟩)] w (RdD w τ br g (Qi8 l) qin):=by
 have hn:=Qar h R 1 oM oM
 have hB:=h.isB
 obtain⟨Z,HB⟩:=qaj hn hB
 clear hn hB h
 go_enter Tryz.func224,Tryz.ntmps224
 go_wp2_with fail
 refine Z.mono ?_
 rintro e w1 ⟨τ1,n,⟨D,rfl⟩|⟨k,l1,v,D,rfl,rfl,d⟩⟩
 ·have p:=Z2 n
  clear n
  unfold Qav
  go_wp2_with fail
  exact⟨rfl,τ1,p,.inl ⟨by unfold Qi8;rw[D];rfl,rfl⟩⟩
 ·have hk:=Qcb D HB
  rw[show (2:Nat) ^ (8*1)=256 from by decide] at hk
  have hkw:IntKind.i64.wrap (k:Int)=k:=Qd5 _ oM oM
  have U:=Qkp d R k oM
  obtain⟨Ht,p,X⟩:=qan U n D
  clear U n D d
  go_wp2_with fail
  refine Ht.mono ?_
  rintro e w2 ⟨G,s,⟨i,rfl⟩|⟨x,l2,v,i,rfl,⟨b,o,c,rfl,Y⟩,d⟩⟩
  ·have a:=p.trans s
   have j:=Z2 a
   clear a
   unfold Qav
   go_wp2_with fail
   exact⟨rfl,G,j,.inl ⟨by unfold Qi8;rw[X.out];exact i,rfl⟩⟩
  ·obtain⟨-,-,-,y⟩:=Qmu i
   have z:=Qu3 Y.bytes qa2 oM
   rw[y] at z
   have a:=p.trans s
   obtain⟨I,j,J,L⟩:=qb9 z a d i
   clear z a d i Y s
   go_wp2_with fail
   refine I.mono ?_
   rintro e w3 ⟨u,M,rfl,B,C⟩
   have q:=j.trans C.nz
   have r:=J.step C id id
   obtain⟨p3,c3,rfl⟩:=B.val
   obtain⟨E,F,O⟩:=qan q r B
   clear q r B C
   go_wp2_with fail
   go_returns
   exact⟨M,E,.inr ⟨x,l2,_,by unfold Qi8;rw[X.out];exact L,rfl,⟨p3,c3,by rw[y];rfl,by have:=O.bytes;rw[y] at this;exact this⟩,F⟩⟩
structure qa7 where
 page:Nat
 slot:Nat
 had:Bool
 has:Bool
 before:List Int
 after:List Int
def Qd3 (l:List Int):Option (qa7×List Int) :=
 (qem 4 l).bind fun a=>(qem 2 a.2).bind fun b=>(qem 1 b.2).bind fun f=>if 3<f.1 then none else (Qi8 f.2).bind fun x=>(Qi8 x.2).bind fun y=>some (⟨a.1,b.1,decide (f.1%2=1),decide (f.1/2%2=1),x.1,y.1⟩,y.2)
def Qz8 (w:World) (τ:qa1) (v:Value) (x:qa7):Prop:=∃vb va,v = .agg #[.int .u32 x.page,.int .u16 x.slot,.bool x.had,.bool x.has,vb,va]/\x.page<4294967296/\x.slot<65536/\qin w τ vb x.before/\qin w τ va x.after
theorem Qqp(h:qhn w τ br g l) (hg:g≠tRd) (dh:g≠qh3) (di:g≠qbv) :
 Calls Tryz.prog 177 #[.pointer (some ⟨br,0,none⟩)] w (RdD w τ br g (Qd3 l) Qz8):=by
 have b3:=(zS w τ).alloc (.cells #[.int .u32 0,.int .u16 0,.bool false,.bool false,.slice none 0 0,.slice none 0 0] 70) qbv
 have Y:=Own.born w τ qbv 70 #[.int .u32 0,.int .u16 0,.bool false,.bool false,.slice none 0 0,.slice none 0 0]
 have h0:=h.step b3 id id
 have Z:=b3.nz (T:=qb8)
 obtain⟨j,b4⟩:=gN w.heap.size
 rw[b4] at Y h0 Z
 generalize τ.put j qbv=τ0 at *
 obtain⟨w0,b5⟩:=gN (w.alloc (.cells #[.int .u32 0,.int .u16 0,.bool false,.bool false,.slice none 0 0,.slice none 0 0] 70))
 rw[b5] at Y h0 Z
 have bl:=Qar h0 hg 4 oM oM
 have bm:=h0.isB
 obtain⟨bn,dj,dk,bo,bp,bq⟩:=qcq bl bm Y Z b5 b4
 clear bl bm Y Z b5 b4 h h0 b3
 go_enter Tryz.func177,Tryz.ntmps177
 go_wp2_with fail
 rw[bq.out,bp.out]
 refine bn.mono ?_
 rintro e w1 ⟨τ1,a0,⟨hr,rfl⟩|⟨pg,l1,v,b6,rfl,rfl,B⟩⟩
 ·have k:=bo.trans a0
  have Hs:=Z2 k
  clear k
  unfold Qav
  go_wp2_with fail
  exact⟨rfl,τ1,Hs,.inl ⟨by unfold Qd3;rw[hr];rfl,rfl⟩⟩
 have b7:=Qcb b6 dj
 rw[show (2:Nat) ^ (8*4)=4294967296 from by decide] at b7
 have hpw:IntKind.u32.wrap (pg:Int)=pg:=Qb1 pg b7
 have ae:=bo.trans a0
 have bs:=dk.step a0 (by unfold qb8;decide)
 have bw:=Qar B hg 2 oM oM
 have bz:=B.isB
 obtain⟨af,dl,c3,dm,x⟩:=qbq ae bs bw bz b6
 clear ae bs bw bz b6 a0 B bn
 go_wp2_with fail
 refine c3.mono ?_
 rintro e w2 ⟨a3,a4,⟨hr,rfl⟩|⟨sl,l2,v,b8,rfl,rfl,ag⟩⟩
 ·have k:=af.trans a4
  have Hs:=Z2 k
  clear k
  unfold Qav
  go_wp2_with fail
  exact⟨rfl,a3,Hs,.inl ⟨by unfold Qd3;rw[x.out];simp only[Z8];rw[hr];rfl,rfl⟩⟩
 have c4:=Qcb b8 dm
 rw[show (2:Nat) ^ (8*2)=65536 from by decide] at c4
 have hsw:IntKind.u16.wrap (sl:Int)=sl:=by
  have:IntKind.u16.wrap (sl:Int)=sl%65536:=by simp[IntKind.wrap,IntKind.bits,IntKind.signed]
  rw[this];omega
 have C:=af.trans a4
 have c5:=dl.step a4 (by unfold qb8;decide)
 have a5:=(zS w2 a3).alloc (.cells #[.int .u32 pg,.int .u16 sl,.bool false,.bool false,.slice none 0 0,.slice none 0 0] 70) qh3
 have a6:=Own.born w2 a3 qh3 70 #[.int .u32 pg,.int .u16 sl,.bool false,.bool false,.slice none 0 0,.slice none 0 0]
 have n:=ag.step a5 id id
 have a7:=c5.step a5 id
 have p:=C.trans a5.nz
 obtain⟨bc,b9⟩:=gN w2.heap.size
 rw[b9] at a6 n a7 p
 generalize a3.put bc qh3=τ3 at *
 obtain⟨w3,ba⟩:=gN (w2.alloc (.cells #[.int .u32 pg,.int .u16 sl,.bool false,.bool false,.slice none 0 0,.slice none 0 0] 70))
 rw[ba] at a6 n a7 p
 have c6:=Qar n hg 1 oM oM
 have q:w.heap.size<=bc:=by have:=C.size;omega
 obtain⟨ah,dn,dp,D,c7,c8,dq⟩:=qdr p a7 a6 b8 c6 ba b9
 clear p a7 a6 b8 c6 ba b9 a4 C c5 ag n a5 c3
 go_wp2_with fail
 rw[dq.out,c8.out]
 refine c7.mono ?_
 rintro e w4 ⟨bb,E,⟨hr,rfl⟩|⟨f,l4,v,bd,rfl,rfl,ai⟩⟩
 ·have k:=ah.trans E
  have Hs:=Z2 k
  clear k
  unfold Qav
  go_wp2_with fail
  exact⟨rfl,bb,Hs,.inl ⟨by unfold Qd3;rw[x.out];simp only[Z8];rw[D.out];simp only[Z8];rw[hr];rfl,rfl⟩⟩
 have r:=ah.trans E
 have c9:=dn.step E (by unfold qb8;decide)
 have y:=dp.step E (by unfold qb8;decide)
 by_cases a8:3<f
 ·have dr:(3:Int)<f:=oM
  have s:=Z2 r
  clear r
  go_wp2_with fail
  exact⟨rfl,bb,s,.inl ⟨by unfold Qd3;rw[x.out];simp only[Z8];rw[D.out];simp only[Z8];rw[bd];simp only[Z8];rw[if_pos a8],rfl⟩⟩
 have dr:¬(3:Int)<f:=oM
 have ds:=y.fz 2
 have dt:=y.fz 3
 have dv:=y.at 2 rfl
 have dw:=y.at 3 rfl
 obtain⟨s,cc,a9,aj,be⟩:=qbq r c9 y ai bd
 clear r c9 y ai bd E c7
 obtain⟨had,F⟩:=gN (decide (f%2=1))
 obtain⟨has,G⟩:=gN (decide (f/2%2=1))
 have cd:(bits BinOp.and IntKind.u64 (f:Int) 1 != 0)=had:=by
  rw[<-F]
  rcases (show f=0\/f=1\/f=2\/f=3 by omega) with rfl|rfl|rfl|rfl <;> rfl
 have ce:(bits BinOp.and IntKind.u64 (f:Int) 2 != 0)=has:=by
  rw[<-G]
  rcases (show f=0\/f=1\/f=2\/f=3 by omega) with rfl|rfl|rfl|rfl <;> rfl
 obtain⟨dx,dy,cf,cg⟩:=qb9 cd ce F G
 clear cd ce F G
 go_wp2_with fail
 rw[dx.out,dy.out]
 have bf:=((Step.refl w4 bb (fun t=>t=qh3)).set (b:=bc) (o:=2) a9.tag rfl (.bool had)).set (b:=bc) (o:=3) a9.tag rfl (.bool has)
 have ak:=(s.qa3 (b:=bc) (o:=2) q (.bool had)).qa3 (b:=bc) (o:=3) q (.bool has)
 have ch:=(a9.set 2 (.bool had)).set 3 (.bool has)
 have ci:=cc.step bf dC
 have bg:g≠qh3:=dh
 have al:=aj.step bf dC (fun h=>bg h)
 generalize (w4.setCell ⟨bc,2,none⟩ (.bool had)).setCell ⟨bc,3,none⟩ (.bool has)=w5 at *
 have cj:=Qmq al hg
 obtain⟨I,ck,cm,cn⟩:=qb9 ak ch ci cj
 clear ak ch ci cj bf al a9 cc s aj dv dw ds dt
 refine cn.mono ?_
 rintro e w6 ⟨co,J,⟨hr,rfl⟩|⟨xb,l6,vb,cp,rfl,⟨pb,cb,rfl,cq⟩,am⟩⟩
 ·have k:=I.trans J
  have Hs:=Z2 k
  clear k
  unfold Qav
  go_wp2_with fail
  exact⟨rfl,co,Hs,.inl ⟨by unfold Qd3;rw[x.out];simp only[Z8];rw[D.out];simp only[Z8];rw[be.out];simp only[Z8];rw[if_neg a8,hr];rfl,rfl⟩⟩
 have an:=I.trans J
 have L:=ck.step J (by unfold qb8;decide)
 have cr:=cm.step J (by unfold qb8;decide)
 have d6:=L.at 4 rfl
 have z6:=L.fz 4
 have ab:=(Step.refl w6 co (fun t=>t=qh3)).set (b:=bc) (o:=4) L.tag rfl (.slice pb xb.length cb)
 have M:=an.qa3 (b:=bc) (o:=4) q (.slice pb xb.length cb)
 have bh:=L.set 4 (.slice pb xb.length cb)
 have bi:=cr.step ab dC
 have O:=am.step ab dC (fun h=>bg h)
 have R:=cq.step ab dC
 obtain⟨w7,bj⟩:=gN (w6.setCell ⟨bc,4,none⟩ (.slice pb xb.length cb))
 rw[bj] at M bh bi O R
 have cs:=Qmq O hg
 obtain⟨U,ct,cv,ao,cw,cx,cy⟩:=qdr M bh bi R cs cp bj
 clear M bh bi R cs cp bj J an L cr ab O am cq cn I ck cm
 go_wp2_with fail
 rw[cy.out]
 refine cw.mono ?_
 rintro e w8 ⟨ac,z,⟨hr,rfl⟩|⟨xa,l8,va,cz,rfl,⟨pa,ca,rfl,d0⟩,aq⟩⟩
 ·have k:=U.trans z
  have Hs:=Z2 k
  clear k
  unfold Qav
  go_wp2_with fail
  exact⟨rfl,ac,Hs,.inl ⟨by unfold Qd3;rw[x.out];simp only[Z8];rw[D.out];simp only[Z8];rw[be.out];simp only[Z8];rw[if_neg a8,cx.out];simp only[Z8];rw[hr];rfl,rfl⟩⟩
 have ar:=U.trans z
 have d:=ct.step z (by unfold qb8;decide)
 have a:=cv.step z (by unfold qb8;decide)
 have av:=ao.step z Qy8
 have d8:=d.at 5 rfl
 have z8:=d.fz 5
 have X:=(Step.refl w8 ac (fun t=>t=qh3)).set (b:=bc) (o:=5) d.tag rfl (.slice pa xa.length ca)
 have aw:=ar.qa3 (b:=bc) (o:=5) q (.slice pa xa.length ca)
 have d1:=d.set 5 (.slice pa xa.length ca)
 have c:=a.step X dC
 have ax:=aq.step X dC (fun h=>bg h)
 have ay:=av.step X dC
 have az:=d0.step X dC
 have i:w.heap.size<=j:=by have:=bq.out;omega
 have d2:j≠bc:=a.ne d dC
 have hne2:bc≠j:=fun e=>d2 e.symm
 have e0:=d.at 0 rfl
 have e1:=d.at 1 rfl
 have e2:=d.at 2 rfl
 have e3:=d.at 3 rfl
 have e4:=d.at 4 rfl
 have k0:=a.at 0 rfl
 have f0:=a.fz 0
 have k1:=a.at 1 rfl
 have f1:=a.fz 1
 have k2:=a.at 2 rfl
 have f2:=a.fz 2
 have k3:=a.at 3 rfl
 have f3:=a.fz 3
 have k4:=a.at 4 rfl
 have f4:=a.fz 4
 have k5:=a.at 5 rfl
 have f5:=a.fz 5
 have e5:=d1.at 5 rfl
 have y0:=(c.set 0 (.int .u32 pg)).at 0 rfl
 have y1:=((c.set 0 (.int .u32 pg)).set 1 (.int .u16 sl)).at 1 rfl
 have y2:=(((c.set 0 (.int .u32 pg)).set 1 (.int .u16 sl)).set 2 (.bool had)).at 2 rfl
 have y3:=((((c.set 0 (.int .u32 pg)).set 1 (.int .u16 sl)).set 2 (.bool had)).set 3 (.bool has)).at 3 rfl
 have y4:=(((((c.set 0 (.int .u32 pg)).set 1 (.int .u16 sl)).set 2 (.bool had)).set 3 (.bool has)).set 4 (.slice pb xb.length cb)).at 4 rfl
 have y5:=((((((c.set 0 (.int .u32 pg)).set 1 (.int .u16 sl)).set 2 (.bool had)).set 3 (.bool has)).set 4 (.slice pb xb.length cb)).set 5 (.slice pa xa.length ca)).at 5 rfl
 have ad:=(((((((Step.refl (w8.setCell ⟨bc,5,none⟩ (.slice pa xa.length ca)) ac (fun t=>t=qbv)).set (b:=j) (o:=0) c.tag rfl (.int .u32 pg)).set (b:=j) (o:=1) c.tag rfl (.int .u16 sl)).set (b:=j) (o:=2) c.tag rfl (.bool had)).set (b:=j) (o:=3) c.tag rfl (.bool has)).set (b:=j) (o:=4) c.tag rfl (.slice pb xb.length cb)).set (b:=j) (o:=5) c.tag rfl (.slice pa xa.length ca))
 have d3:=((((((aw.qa3 (b:=j) (o:=0) i (.int .u32 pg)).qa3 (b:=j) (o:=1) i (.int .u16 sl)).qa3 (b:=j) (o:=2) i (.bool had)).qa3 (b:=j) (o:=3) i (.bool has)).qa3 (b:=j) (o:=4) i (.slice pb xb.length cb)).qa3 (b:=j) (o:=5) i (.slice pa xa.length ca))
 have b0:=ax.step ad dC (fun h=>di h)
 have b1:=ay.step ad dC
 have b2:=az.step ad dC
 have HY:=Z2 (And.intro y0 (And.intro y1 (And.intro y2 (And.intro y3 (And.intro y4 y5)))))
 clear y0 y1 y2 y3 y4 y5
 obtain⟨dz,d4,d5,d7,e6⟩:=qbq d3 b0 b1 b2 cz
 clear d3 b0 b1 b2 cz z ar d a av X aw d1 c ax ay az ad d0 aq cw U ct cv ao cy c8 bp
 go_wp2_with fail
 obtain⟨y0,y1,y2,y3,y4,y5⟩:=HY.out
 try simp only[Exit.inBlock,Exit.then]
 refine bodyPost_ret (by simp[results,Tryz.results177,go_sem,y0,y1,y2,y3,y4,y5];try rfl) rfl ?_
 refine⟨ac,dz,.inr ⟨⟨pg,sl,had,has,xb,xa⟩,l8,_,?_,rfl,⟨_,_,rfl,b7,c4,⟨pb,cb,rfl,d5⟩,⟨pa,ca,rfl,d7⟩⟩,d4⟩⟩
 unfold Qd3
 rw[x.out]
 simp only[Z8]
 rw[D.out]
 simp only[Z8]
 rw[be.out]
 simp only[Z8]
 rw[if_neg a8,cx.out]
 simp only[Z8]
 rw[e6.out,cf.out,cg.out]
 rfl
def Jdl (h:qjf):Array Value:=#[.int .u64 h.stamp,.int .u64 h.base,.int .u64 h.check,.int .i64 h.qc0]
theorem Jfo {v:Value}(h:Bytes w τ g v l) (hl:l.length=128) (F:(Jct l).stamp=0\/Jc3 l=true) :
 Calls Tryz.prog 121 #[v] w fun e D=>e = .returned (.tuple #[.agg (Jdl (Jct l)),.bool (Jc3 l)])/\∃a2,Step w τ D a2 nil:=by
 obtain⟨b,o,c,rfl,hb⟩:=h.lies oM
 have aq:=hb.le
 rw[hl] at aq
 have hB:=hb.isB
 obtain⟨k,c4⟩:=gN ((l.getD 8 0).toNat)
 have c5:=hB.at 8
 have a9:l.getD 8 0=(k:Int):=oM
 have av:k<256:=oM
 have hq:=(zS w τ).alloc (.cells #[.int .u64 0,.int .u64 0,.int .u64 0,.int .i64 0] 120) qbv
 have hx:=Own.born w τ qbv 120 #[.int .u64 0,.int .u64 0,.int .u64 0,.int .i64 0]
 have B:=hb.step hq id
 obtain⟨bx,c6⟩:=gN w.heap.size
 rw[c6] at hx B hq
 generalize τ.put bx qbv=τ1 at *
 obtain⟨C,ag⟩:=gN (w.alloc (.cells #[.int .u64 0,.int .u64 0,.int .u64 0,.int .i64 0] 120))
 rw[ag] at hx B hq
 have hG:∀(i j:Nat),i+8=j->j<=128->∀W a2,Step C τ1 W a2 nil->Calls Tryz.prog 122 #[.slice (some ⟨b,o+i,none⟩) 8 (c-i)] W fun e D=>e = .returned (.int .u64 (leN ((l.drop i).take 8) 8:Int))/\W=D:=fun i j hij hj W a2 hW=>by
  have:=Qip (((B.step hW id).drop i oM).take 8).bytes (by rw[List.length_take,List.length_drop];omega) (by rw[List.length_take,List.length_drop];omega)
  rwa [show ((l.drop i).take 8).length=8 by rw[List.length_take,List.length_drop];omega] at this
 have G1:=hG 0 8 rfl oM
 have G2:=hG 9 17 rfl oM
 have G3:=hG 17 25 rfl oM
 have ah:=(zS C τ1).drew
 have ay:=Own.born C.drew τ1 qbv 120 #[.int .u64 0,.int .u64 0,.int .u64 0,.int .i64 0]
 have ai:=ah.alloc (.cells #[.int .u64 0,.int .u64 0,.int .u64 0,.int .i64 0] 120) qbv
 have cB:=(B.step ai id).cell 8 oM
 have c1:=B.cell 8 oM
 rw[a9] at cB c1
 rw[Nat.add_zero,Nat.sub_zero] at G1
 rw[List.drop_zero] at G1
 obtain⟨st,a3⟩:=gN (leN (l.take 8) 8)
 obtain⟨d,a4⟩:=gN (leN ((l.drop 9).take 8) 8)
 obtain⟨ck,a5⟩:=gN (leN ((l.drop 17).take 8) 8)
 rw[a3] at G1
 rw[a4] at G2
 rw[a5] at G3
 have az:st<2 ^ 64:=a3▸Qle (fun x hx=>hB x (List.mem_of_mem_take hx)) 8
 have b0:d<2 ^ 64:=a4▸Qle (fun x hx=>hB x (List.mem_of_mem_drop (List.mem_of_mem_take hx))) 8
 have b1:ck<2 ^ 64:=a5▸Qle (fun x hx=>hB x (List.mem_of_mem_drop (List.mem_of_mem_take hx))) 8
 have r:Jct l=⟨st,d,ck,k⟩:=by unfold Jct;rw[a3,a4,a5,c4]
 have hn9:¬c=9:=oM
 have hn17:¬c=17:=oM
 have hc8:(8:Int)<=c:=oM
 have hc17:(17:Int)<=c:=oM
 have hc25:(25:Int)<=c:=oM
 have b2:st=0\/(0<d/\d<=9223372036854775808/\k<2/\l=qdg st d ck k):=by
  rcases F with F|F
  ·rw[r] at F;exact .inl F
  ·unfold Jc3 at F
   rw[r] at F
   simp only[Bool.and_eq_true,decide_eq_true_eq] at F
   exact .inr ⟨F.1.1.2.1,F.1.1.2.2,F.1.2,F.2⟩
 obtain⟨R,hR⟩:=gN (Jc3 l)
 have b4:Jdl (Jct l)=#[.int .u64 st,.int .u64 d,.int .u64 ck,.int .i64 k]:=by rw[r];rfl
 rw[hl,hR,b4]
 unfold Jc3 at hR
 rw[r] at hR
 have aa:=fun W τ=>Qs5 W τ qcs st d ck k az b0 b1 av
 rw[hl] at h
 clear b4 aq c5 a9
 obtain⟨HR,b5,ca⟩:=qan hR aa b2
 clear hR aa hB b2
 obtain⟨ab,ac,ad,b6,G,b7,Hx,Hq,cb⟩:=qgw G1 G2 G3 ah ay ai hx hq B
 clear G1 G2 G3 ah ay ai hx hq B r a3 a4 a5 h
 have I:=Z2 ag
 clear ag hG
 go_enter Tryz.func121,Tryz.ntmps121
 go_wp2_with fail
 rw[I.out]
 have a6:(∃T,Step C τ1 C.drew T nil)/\C.drew.cell? ⟨b,o+8,none⟩=some (.int .u8 k):=⟨⟨τ1,b6⟩,c1⟩
 clear c1
 refine Qaf (S:=fun W:World=>(∃T,Step C τ1 W T nil)/\W.cell? ⟨b,o+8,none⟩=some (.int .u8 k)) kR ?_
 refine tk0 [0,1,3,4,6,7,9,10,11,12] ?_
 iterate 10
  refine tkv (v:=?_) ?_ ?_
  rotate_left
  ·intro w a;(try dsimp only at a);go_simp
   all_goals with_reducible rfl
  try simp only[Act.put,lz1,lz2,lz3]
 refine tk9 ?_
 try simp only[lz4,lz5,lz6,lz1,lz2,lz3]
 refine tkc (i:=2) (v:=.int .u64 st) rfl ⟨by rfl,fun W hW=>⟨_,_,by simp[go_sem],ab W _ hW.1.choose_spec⟩⟩ a6 ?_
 try simp only[Act.put]
 try simp only[lz4,lz5,lz6,lz1,lz2,lz3]
 refine tkc (i:=5) (v:=.int .u64 d) rfl ⟨by rfl,fun W hW=>⟨_,_,by simp[go_sem],ac W _ hW.1.choose_spec⟩⟩ a6 ?_
 try simp only[Act.put]
 try simp only[lz4,lz5,lz6,lz1,lz2,lz3]
 refine tkc (i:=8) (v:=.int .u64 ck) rfl ⟨by rfl,fun W hW=>⟨_,_,by simp[go_sem],ad W _ hW.1.choose_spec⟩⟩ a6 ?_
 try simp only[Act.put]
 try simp only[lz4,lz5,lz6,lz1,lz2,lz3]
 refine tk (i:=13) (v:=?_) rfl (Or.inl ⟨by rfl,?_⟩) (by assumption) ?_
 rotate_left
 ·intro w a;(try dsimp only at a);go_simp
  all_goals with_reducible rfl
 try simp only[Act.put,lz1,lz2,lz3]
 try simp only[lz4,lz5,lz6,lz1,lz2,lz3]
 refine Qst (i:=14) dK rfl (fun K s=>?_)
 go_simp
 have b8:(∃T,Step C τ1 (C.drew.alloc (.cells #[.int .u64 0,.int .u64 0,.int .u64 0,.int .i64 0] 120)) T nil)/\(C.drew.alloc (.cells #[.int .u64 0,.int .u64 0,.int .u64 0,.int .i64 0] 120)).cell? ⟨b,o+8,none⟩=some (.int .u8 k):=⟨⟨_,b7⟩,cB⟩
 refine s.out _ _ (fun _=>b8) ?_
 clear s K
 have hwr:IntKind.i64.wrap (k:Int)=k:=IntWalk.i64_in _ oM
 have z0:=G.fz 0
 have z1:=G.fz 1
 have z2:=G.fz 2
 have z3:=G.fz 3
 refine Qst (i:=15) dK rfl (fun K s=>?_)
 go_simp
 refine s.out _ _ (fun h=>absurd h dK) ?_
 clear s K
 refine Qad kR ?_ _
 have hlx:=Hx.lt
 have aj:=Own.born C τ1 qbv 120 #[.int .u64 st,.int .u64 d,.int .u64 ck,.int .i64 k]
 have ak:=(zS C τ1).alloc (.cells #[.int .u64 st,.int .u64 d,.int .u64 ck,.int .i64 k] 120) qbv
 have al:=Hx.qbn (.cells #[.int .u64 st,.int .u64 d,.int .u64 ck,.int .i64 k] 120) qbv
 obtain⟨w2,am⟩:=gN (C.alloc (.cells #[.int .u64 st,.int .u64 d,.int .u64 ck,.int .i64 k] 120))
 rw[am] at aj ak al
 have b9:C.drew.heap.size=C.heap.size:=rfl
 try rw[b9]
 rw[am]
 clear z0 z1 z2 z3 cB a6 b8 am b9 G b7 b6 ab ac ad Hx
 generalize τ1.put C.heap.size qbv=cc at *
 generalize C.heap.size=bh at *
 have bb:=ak.drew
 have bc:=aj.drew
 have z:=al.drew
 have Hw1':=Z2 I
 clear aj al ak I
 generalize w2.drew=w3 at *
 have x0:=z.at 0 rfl
 have x1:=z.at 1 rfl
 have x2:=z.at 2 rfl
 have x3:=z.at 3 rfl
 have z0:=z.fz 0
 have z1:=z.fz 1
 have z2:=z.fz 2
 have z3:=z.fz 3
 obtain⟨an,E,n⟩:=qan bb bc z
 clear bb bc z
 by_cases a7:st=0
 ·skip
  have a8:R=false:=by rw[<-HR.out];simp;omega
  have hz:(st:Int)=0:=oM
  rw[hz] at ⊢
  have ao:=E.out
  rw[hz] at ao
  obtain⟨J,Hz⟩:=qaj ao hz
  clear ao hz a7
  go_wp2_with fail
  refine Qaf (S:=fun D:World=>D.cell? ⟨bh,0,none⟩=some (.int .u64 0)/\D.cell? ⟨bh,1,none⟩=some (.int .u64 d)/\D.cell? ⟨bh,2,none⟩=some (.int .u64 ck)/\D.cell? ⟨bh,3,none⟩=some (.int .i64 k)) kR ?_
  have cd:w3.drew.cell? ⟨bh,0,none⟩=some (.int .u64 0)/\w3.drew.cell? ⟨bh,1,none⟩=some (.int .u64 d)/\w3.drew.cell? ⟨bh,2,none⟩=some (.int .u64 ck)/\w3.drew.cell? ⟨bh,3,none⟩=some (.int .i64 k):=⟨J.drew.at 0 rfl,J.drew.at 1 rfl,J.drew.at 2 rfl,J.drew.at 3 rfl⟩
  have x0:=n.drew.at 0 rfl
  have z0:=n.drew.fz 0
  have x1:=n.drew.at 1 rfl
  have z1:=n.drew.fz 1
  have x2:=n.drew.at 2 rfl
  have z2:=n.drew.fz 2
  have x3:=n.drew.at 3 rfl
  have z3:=n.drew.fz 3
  have y0:=(n.set 0 (.int .u64 0)).at 0 rfl
  have y1:=((n.set 0 (.int .u64 0)).set 1 (.int .u64 d)).at 1 rfl
  have y2:=(((n.set 0 (.int .u64 0)).set 1 (.int .u64 d)).set 2 (.int .u64 ck)).at 2 rfl
  have y3:=((((n.set 0 (.int .u64 0)).set 1 (.int .u64 d)).set 2 (.int .u64 ck)).set 3 (.int .i64 k)).at 3 rfl
  have y:=((((J.drew.qd1 (p:=⟨bx,0,none⟩) (by show bh≠bx;omega) (.int .u64 0)).qd1 (p:=⟨bx,1,none⟩) (by show bh≠bx;omega) (.int .u64 d)).qd1 (p:=⟨bx,2,none⟩) (by show bh≠bx;omega) (.int .u64 ck)).qd1 (p:=⟨bx,3,none⟩) (by show bh≠bx;omega) (.int .i64 k))
  have L:Nat->((((w3.drew.setCell ⟨bx,0,none⟩ (.int .u64 0)).setCell ⟨bx,1,none⟩ (.int .u64 d)).setCell ⟨bx,2,none⟩ (.int .u64 ck)).setCell ⟨bx,3,none⟩ (.int .i64 k)).cell? ⟨bh,0,none⟩=some (.int .u64 0)/\((((w3.drew.setCell ⟨bx,0,none⟩ (.int .u64 0)).setCell ⟨bx,1,none⟩ (.int .u64 d)).setCell ⟨bx,2,none⟩ (.int .u64 ck)).setCell ⟨bx,3,none⟩ (.int .i64 k)).cell? ⟨bh,1,none⟩=some (.int .u64 d)/\((((w3.drew.setCell ⟨bx,0,none⟩ (.int .u64 0)).setCell ⟨bx,1,none⟩ (.int .u64 d)).setCell ⟨bx,2,none⟩ (.int .u64 ck)).setCell ⟨bx,3,none⟩ (.int .i64 k)).cell? ⟨bh,2,none⟩=some (.int .u64 ck)/\((((w3.drew.setCell ⟨bx,0,none⟩ (.int .u64 0)).setCell ⟨bx,1,none⟩ (.int .u64 d)).setCell ⟨bx,2,none⟩ (.int .u64 ck)).setCell ⟨bx,3,none⟩ (.int .i64 k)).cell? ⟨bh,3,none⟩=some (.int .i64 k):=fun _=>⟨y.at 0 rfl,y.at 1 rfl,y.at 2 rfl,y.at 3 rfl⟩
  obtain⟨M,O,U,X,ap⟩:=qbq y0 y1 y2 y3 L
  clear y0 y1 y2 y3 L y
  refine tk0 [0,1,2,3,4] ?_
  iterate 5
   refine tkv (v:=?_) ?_ ?_
   rotate_left
   ·intro w a;(try dsimp only at a);go_simp
    all_goals with_reducible rfl
   try simp only[Act.put,lz1,lz2,lz3]
  refine tk9 ?_
  try simp only[lz4,lz5,lz6,lz1,lz2,lz3]
  refine tk0 [5,6,7,8] ?_
  iterate 4
   refine tks (v:=undef) rfl (Or.inr ⟨by rfl,rfl⟩) (by assumption) ?_
   try simp only[Act.put,lz1,lz2,lz3]
  refine tk9 ?_
  try simp only[lz4,lz5,lz6,lz1,lz2,lz3]
  refine tk0 [9,10] ?_
  iterate 2
   refine tkv (v:=?_) ?_ ?_
   rotate_left
   ·intro w a;(try dsimp only at a);go_simp
    all_goals with_reducible rfl
   try simp only[Act.put,lz1,lz2,lz3]
  refine tk9 ?_
  try simp only[lz4,lz5,lz6,lz1,lz2,lz3]
  refine tk0 [11,12,13] ?_
  iterate 3
   refine tks (v:=undef) rfl (Or.inr ⟨by rfl,rfl⟩) (by assumption) ?_
   try simp only[Act.put,lz1,lz2,lz3]
  refine tk9 ?_
  try simp only[lz4,lz5,lz6,lz1,lz2,lz3]
  refine tk0 [14,15] ?_
  iterate 2
   refine tkv (v:=?_) ?_ ?_
   rotate_left
   ·intro w a;(try dsimp only at a);go_simp
    all_goals with_reducible rfl
   try simp only[Act.put,lz1,lz2,lz3]
  refine tk9 ?_
  try simp only[lz4,lz5,lz6,lz1,lz2,lz3]
  refine tk0 [16,17,18,19] ?_
  iterate 4
   refine tks (v:=undef) rfl (Or.inr ⟨by rfl,rfl⟩) (by assumption) ?_
   try simp only[Act.put,lz1,lz2,lz3]
  refine tk9 ?_
  try simp only[lz4,lz5,lz6,lz1,lz2,lz3]
  refine tk (i:=20) (v:=?_) rfl (Or.inl ⟨by rfl,?_⟩) (by assumption) ?_
  rotate_left
  ·intro w a;(try dsimp only at a);go_simp
   all_goals with_reducible rfl
  try simp only[Act.put,lz1,lz2,lz3]
  try simp only[lz4,lz5,lz6,lz1,lz2,lz3]
  refine Qst (i:=21) dK rfl (fun K s=>?_)
  go_simp
  refine s.out _ _ (fun _=>ap 0) ?_
  clear s K
  refine Qst (i:=22) dK rfl (fun K s=>?_)
  go_simp
  refine s.out _ _ (fun h=>absurd h dK) ?_
  clear s K
  refine Qad kR ?_ _
  go_wp2_with fail
  try simp only[Exit.inBlock,Exit.then]
  refine bodyPost_ret (by simp[results,Tryz.results121,go_sem,M.out,O.out,U.out,X.out];try rfl) rfl ?_
  exact⟨by rw[a8,Hz.out],_,(((((Hq.trans an.drew).qa3 (b:=bx) (o:=0) oM _).qa3 (b:=bx) (o:=1) oM _).qa3 (b:=bx) (o:=2) oM _).qa3 (b:=bx) (o:=3) oM _)⟩
 ·skip
  have bi:((st:Int) != 0)=true:=by simp;omega
  obtain⟨bj,ae,bk,Y⟩:=ca.resolve_left a7
  have hbw:IntKind.u64.wrap ((d:Int)-1)=(d:Int)-1:=by
   simp[IntKind.wrap,IntKind.bits,IntKind.signed];omega
  have B:(d:Int)-1<9223372036854775808:=oM
  have ha:(k:Int)<2:=oM
  have a8:R=true:=by rw[<-HR.out];simp;exact⟨⟨⟨a7,bj,ae⟩,bk⟩,Y⟩
  have bl:=b5 w3.drew cc
  have bm:=(cb.step (an.drew) id).bytes
  obtain⟨ce,bn,cf,cg⟩:=qb9 a8 Y bl bm
  clear a8 a7 Y bl bm bj ae bk
  go_wp2_with fail
  refine Qaf (S:=fun D:World=>D.cell? ⟨bh,0,none⟩=some (.int .u64 st)/\D.cell? ⟨bh,1,none⟩=some (.int .u64 d)/\D.cell? ⟨bh,2,none⟩=some (.int .u64 ck)/\D.cell? ⟨bh,3,none⟩=some (.int .i64 k)) kR ?_
  have cd:w3.drew.cell? ⟨bh,0,none⟩=some (.int .u64 st)/\w3.drew.cell? ⟨bh,1,none⟩=some (.int .u64 d)/\w3.drew.cell? ⟨bh,2,none⟩=some (.int .u64 ck)/\w3.drew.cell? ⟨bh,3,none⟩=some (.int .i64 k):=⟨E.drew.at 0 rfl,E.drew.at 1 rfl,E.drew.at 2 rfl,E.drew.at 3 rfl⟩
  refine tk0 [0,1,2,3,4] ?_
  iterate 5
   refine tkv (v:=?_) ?_ ?_
   rotate_left
   ·intro w a;(try dsimp only at a);go_simp
    all_goals with_reducible rfl
   try simp only[Act.put,lz1,lz2,lz3]
  refine tk9 ?_
  try simp only[lz4,lz5,lz6,lz1,lz2,lz3]
  try simp only[bi]
  refine tk0 [5,6,7,8,9,10] ?_
  iterate 6
   refine tkv (v:=?_) ?_ ?_
   rotate_left
   ·intro w a;(try dsimp only at a);go_simp
    all_goals with_reducible rfl
   try simp only[Act.put,lz1,lz2,lz3]
  refine tk9 ?_
  try simp only[lz4,lz5,lz6,lz1,lz2,lz3]
  try simp only[bi]
  refine tk0 [11,12,13,14,15] ?_
  iterate 5
   refine tkv (v:=?_) ?_ ?_
   rotate_left
   ·intro w a;(try dsimp only at a);go_simp
    all_goals with_reducible rfl
   try simp only[Act.put,lz1,lz2,lz3]
  refine tk9 ?_
  try simp only[lz4,lz5,lz6,lz1,lz2,lz3]
  refine tk0 [16,17] ?_
  iterate 2
   refine tkv (v:=?_) ?_ ?_
   rotate_left
   ·intro w a;(try dsimp only at a);go_simp
    all_goals with_reducible rfl
   try simp only[Act.put,lz1,lz2,lz3]
  refine tk9 ?_
  try simp only[lz4,lz5,lz6,lz1,lz2,lz3]
  refine Qst (i:=18) dK rfl (fun K s=>?_)
  go_simp
  go_at_call 133
  refine cf.mono ?_
  rintro e w4 ⟨u,τ4,rfl,hu,Z⟩
  have q:=n.drew.step Z id
  have a0:=E.drew.step Z id
  have bo:w4.cell? ⟨bh,0,none⟩=some (.int .u64 st)/\w4.cell? ⟨bh,1,none⟩=some (.int .u64 d)/\w4.cell? ⟨bh,2,none⟩=some (.int .u64 ck)/\w4.cell? ⟨bh,3,none⟩=some (.int .i64 k):=⟨a0.at 0 rfl,a0.at 1 rfl,a0.at 2 rfl,a0.at 3 rfl⟩
  have x0:=q.at 0 rfl
  have z0:=q.fz 0
  have x1:=q.at 1 rfl
  have z1:=q.fz 1
  have x2:=q.at 2 rfl
  have z2:=q.fz 2
  have x3:=q.at 3 rfl
  have z3:=q.fz 3
  have y0:=(q.set 0 (.int .u64 st)).at 0 rfl
  have y1:=((q.set 0 (.int .u64 st)).set 1 (.int .u64 d)).at 1 rfl
  have y2:=(((q.set 0 (.int .u64 st)).set 1 (.int .u64 d)).set 2 (.int .u64 ck)).at 2 rfl
  have y3:=((((q.set 0 (.int .u64 st)).set 1 (.int .u64 d)).set 2 (.int .u64 ck)).set 3 (.int .i64 k)).at 3 rfl
  have y:=((((a0.qd1 (p:=⟨bx,0,none⟩) (by show bh≠bx;omega) (.int .u64 st)).qd1 (p:=⟨bx,1,none⟩) (by show bh≠bx;omega) (.int .u64 d)).qd1 (p:=⟨bx,2,none⟩) (by show bh≠bx;omega) (.int .u64 ck)).qd1 (p:=⟨bx,3,none⟩) (by show bh≠bx;omega) (.int .i64 k))
  have L:Nat->((((w4.setCell ⟨bx,0,none⟩ (.int .u64 st)).setCell ⟨bx,1,none⟩ (.int .u64 d)).setCell ⟨bx,2,none⟩ (.int .u64 ck)).setCell ⟨bx,3,none⟩ (.int .i64 k)).cell? ⟨bh,0,none⟩=some (.int .u64 st)/\((((w4.setCell ⟨bx,0,none⟩ (.int .u64 st)).setCell ⟨bx,1,none⟩ (.int .u64 d)).setCell ⟨bx,2,none⟩ (.int .u64 ck)).setCell ⟨bx,3,none⟩ (.int .i64 k)).cell? ⟨bh,1,none⟩=some (.int .u64 d)/\((((w4.setCell ⟨bx,0,none⟩ (.int .u64 st)).setCell ⟨bx,1,none⟩ (.int .u64 d)).setCell ⟨bx,2,none⟩ (.int .u64 ck)).setCell ⟨bx,3,none⟩ (.int .i64 k)).cell? ⟨bh,2,none⟩=some (.int .u64 ck)/\((((w4.setCell ⟨bx,0,none⟩ (.int .u64 st)).setCell ⟨bx,1,none⟩ (.int .u64 d)).setCell ⟨bx,2,none⟩ (.int .u64 ck)).setCell ⟨bx,3,none⟩ (.int .i64 k)).cell? ⟨bh,3,none⟩=some (.int .i64 k):=fun _=>⟨y.at 0 rfl,y.at 1 rfl,y.at 2 rfl,y.at 3 rfl⟩
  obtain⟨M,O,U,X,ap⟩:=qbq y0 y1 y2 y3 L
  clear y0 y1 y2 y3 L y
  obtain⟨pu,cu,rfl,-,-⟩:=hu.any
  have bp:=cg.step Z id
  have heq:=Qh7 bp hu
  rw[decide_eq_true bn.out,Qgm,hl] at heq
  rw[Qgm]
  have ci:=Z2 heq
  clear heq
  have bq:=(Hq.trans an.drew).trans Z
  have cj:=Z2 bq
  clear bq hu Z bp
  refine s.out _ _ (fun _=>bo) ?_
  clear s K
  refine Qst (i:=19) dK rfl (fun K s=>?_)
  go_simp
  go_at_call 124
  refine ci.mono ?_
  rintro e w5 ⟨rfl,rfl⟩
  refine s.out _ _ (fun _=>bo) ?_
  clear s K
  refine tk (i:=20) (v:=?_) rfl (Or.inl ⟨by rfl,?_⟩) (by assumption) ?_
  rotate_left
  ·intro w a;(try dsimp only at a);go_simp
   all_goals with_reducible rfl
  try simp only[Act.put,lz1,lz2,lz3]
  try simp only[lz4,lz5,lz6,lz1,lz2,lz3]
  refine Qst (i:=21) dK rfl (fun K s=>?_)
  go_simp
  refine s.out _ _ (fun _=>ap 0) ?_
  clear s K
  refine Qst (i:=22) dK rfl (fun K s=>?_)
  go_simp
  refine s.out _ _ (fun h=>absurd h dK) ?_
  clear s K
  refine Qad kR ?_ _
  go_wp2_with fail
  try simp only[Exit.inBlock,Exit.then]
  refine bodyPost_ret (by simp[results,Tryz.results121,go_sem,M.out,O.out,U.out,X.out];try rfl) rfl ?_
  exact⟨by rw[ce.out],_,((((cj.qa3 (b:=bx) (o:=0) oM _).qa3 (b:=bx) (o:=1) oM _).qa3 (b:=bx) (o:=2) oM _).qa3 (b:=bx) (o:=3) oM _)⟩
def qac.qbw (L:qac) (c:qjf×Nat):qac:={L with stamp:=c.1.stamp,base:=c.1.base,check:=c.1.check,qc0:=c.1.qc0,slot:=c.2}
theorem Jeh(h:Jc3 l=true) (hB:IsB l):0<(Jct l).stamp/\(Jct l).stamp<2 ^ 64/\(Jct l).base<=9223372036854775808/\0<(Jct l).base/\(Jct l).check<2 ^ 64/\(Jct l).qc0<2:=by
 unfold Jc3 at h
 simp only[Bool.and_eq_true,decide_eq_true_eq] at h
 have h1:(Jct l).stamp<2 ^ 64:=Qle (fun x a=>hB x (List.mem_of_mem_take a)) 8
 have h2:(Jct l).check<2 ^ 64:=Qle (fun x a=>hB x (List.mem_of_mem_drop (List.mem_of_mem_take a))) 8
 exact⟨by have:=h.1.1.1;omega,h1,h.1.1.2.2,h.1.1.2.1,h2,h.1.2⟩
theorem Jgg {bl bd n:Nat} {D:Dev}(hl:qaw w τ bl bd (qby n)) (hd:qax w τ bd D) (h2:2<=D.f0.length) (hk:∀i,i<2->(Jct (D.last 0 i)).stamp=0\/Jc3 (D.last 0 i)=true) :
 Calls Tryz.prog 67 #[.pointer (some ⟨bl,0,none⟩)] w fun e w'=>e = .returned (.bool (decide (0<(qbo D 2).1.stamp)))/\∃ak,qaw w' ak bl bd ((qby n).qbw (qbo D 2))/\Step w τ w' ak (fun g=>g=qb1):=by
 have al:D.file 0=D.f0:=rfl
 obtain⟨L,hL⟩:=gN (qby n)
 have am:L.qbw (qbo D 0)=L:=by rw[<-hL];rfl
 rw[hL] at hl ⊢
 obtain⟨Hl,Hd,Hk,bb⟩:=qb9 hl hd hk am
 clear hl hd hk am hL
 go_enter Tryz.func67,Tryz.ntmps67
 go_wp2_with fail
 go_loopw [8] (fun v wr=>∃(i:Nat) (E:qa1),i<=2/\v = .int .i64 i/\qaw wr E bl bd (L.qbw (qbo D i))/\qax wr E bd D/\Step w τ wr E (fun g=>g=qb1)) (fun v _=>2-(intOf v).toNat)
 case atStart=>exact⟨0,τ,Z9 _,rfl,by rw[bb.out];exact Hl,Hd,Step.refl _ _ _⟩
 case round =>
  obtain⟨i,E,hi,rfl,p,F,R⟩:=hrel
  by_cases an:i<2
  ·have ao:=Qnm F 0 oM i (by rw[al];omega) qa2
   have Z:=F.qg5 0 i (by rw[al];omega)
   obtain⟨vs,vt,ho,a8,a9⟩:=p.is
   have c4:=ho.at 4 (v:=.pointer (some ⟨bd,0,none⟩)) rfl
   have ap:=Hk i an
   have hltI:(i:Int)<2:=oM
   have s:qbo D (i+1)=if Jc3 (D.last 0 i)=true/\(qbo D i).1.stamp<(Jct (D.last 0 i)).stamp then (Jct (D.last 0 i),i) else qbo D i:=rfl
   generalize D.last 0 i=l at *
   generalize qbo D i=c at *
   obtain⟨aa,bc,ab,be,bf,Ho,a0⟩:=qdr p F R ao ap ho Z
   clear p F R ao ap ho a8 a9 Z
   go_wp2_with fail
   refine be.mono ?_
   rintro e w1 ⟨u,τ1,rfl,hb,aq⟩
   have hB:=hb.isB
   have ac:=Jfo hb a0.1 bf
   obtain⟨pu,cu,rfl,-,-⟩:=hb.any
   rw[a0.1] at ac ⊢
   obtain⟨bg,bi,HB⟩:=qan ac aq hB
   clear ac aq hB hb
   go_wp2_with fail
   refine bg.mono ?_
   rintro e w2 ⟨rfl,ad,av⟩
   have z:Jdl (Jct l)=#[.int .u64 ((Jct l).stamp:Int),.int .u64 ((Jct l).base:Int),.int .u64 ((Jct l).check:Int),.int .i64 ((Jct l).qc0:Int)]:=rfl
   rw[z]
   obtain⟨q,hq⟩:=gN (Jct l)
   obtain⟨r,hr⟩:=gN (Jc3 l)
   have ae:=Jeh (l:=l) (hB:=HB.out)
   rw[hq,hr] at ae
   rw[hq,hr] at s
   rw[hq,hr]
   have aw:=(zS w2 ad).alloc (.cells #[.int .u64 q.stamp,.int .u64 q.base,.int .u64 q.check,.int .i64 q.qc0] 120) qbv
   have B:=Own.born w2 ad qbv 120 #[.int .u64 q.stamp,.int .u64 q.base,.int .u64 q.check,.int .i64 q.qc0]
   have C:=bi.trans (av.trans aw)
   generalize ad.put w2.heap.size qbv=a at *
   obtain⟨bh,af⟩:=gN w2.heap.size
   obtain⟨G,U⟩:=gN (w2.alloc (.cells #[.int .u64 q.stamp,.int .u64 q.base,.int .u64 q.check,.int .i64 q.qc0] 120))
   rw[af,U] at B
   rw[U] at C
   have X:=aa.step C zN
   have ax:=bc.step C zE
   have d:=Ho.step C id
   have a1:=ab.trans (C.nz)
   have g0:=B.at 0 (v:=.int .u64 q.stamp) rfl
   have g1:=B.at 1 (v:=.int .u64 q.base) rfl
   have g2:=B.at 2 (v:=.int .u64 q.check) rfl
   have g3:=B.at 3 (v:=.int .i64 q.qc0) rfl
   have k0:=d.at 0 (v:=.int .u64 c.1.stamp) rfl
   have k1:=d.at 1 (v:=.int .u64 c.1.base) rfl
   have k2:=d.at 2 (v:=.int .u64 c.1.check) rfl
   have k3:=d.at 3 (v:=.int .i64 c.1.qc0) rfl
   have k6:=d.at 6 (v:=.int .i64 c.2) rfl
   have f0:=d.fz 0
   have f1:=d.fz 1
   have f2:=d.fz 2
   have f3:=d.fz 3
   have f6:=d.fz 6
   have a2:=X.ok
   have ay:=X.isB
   have I:=Z2 U
   have a3:=Z2 af
   obtain⟨ag,ah,J,x,bm,az,bn⟩:=qdr X ax a1 s ae a2 ay
   clear X ax d a1 s ae a2 ay aw B av C U af z c4
   cases r with
   | false =>
     have j:qbo D (i+1)=c:=by rw[x.out,if_neg (fun h=>by cases h.1)]
     have M:=Z2 j
     clear j
     go_wp2_with fail
     rw[I.out]
     go_quiet (fail)
     go_wp2_with fail
     go_round
     case rel=>exact⟨i+1,a,oM,sM,by rw[M.out];exact ag.step ((zS G a).qcp nq) (fun _ _ h=>h),ah.step ((zS G a).qcp nq) (fun _ h=>h.elim),J.trans (((zS G a).qcp nq).nz)⟩
     case measure=>simp[intOf];omega
   | true =>
     by_cases b0:c.1.stamp<q.stamp
     ·have j:qbo D (i+1)=(q,i):=by rw[x.out,if_pos ⟨rfl,b0⟩]
      have b1:(c.1.stamp:Int)<q.stamp:=oM
      have M:=Z2 j
      clear j
      go_wp2_with fail
      rw[I.out,a3.out]
      go_quiet (fail)
      have b2:=ag.step ((zS G a).qcp nq) (fun _ _ h=>h)
      have b3:=ah.step ((zS G a).qcp nq) (fun _ h=>h.elim)
      have a4:=J.trans (((zS G a).qcp nq).mono (T:=fun g=>g=qb1) (fun _ h=>h.elim))
      obtain⟨bo,bp,y,a5,a6⟩:=b2.is
      have b4:=((((y.set 0 (.int .u64 q.stamp)).set 1 (.int .u64 q.base)).set 2 (.int .u64 q.check)).set 3 (.int .i64 q.qc0)).set 6 (.int .i64 i)
      have k:=(((((Step.refl (G.drewN nq) a (fun g=>g=qb1)).set (b:=bl) (o:=0) y.tag rfl (.int .u64 q.stamp)).set (b:=bl) (o:=1) y.tag rfl (.int .u64 q.base)).set (b:=bl) (o:=2) y.tag rfl (.int .u64 q.check)).set (b:=bl) (o:=3) y.tag rfl (.int .i64 q.qc0)).set (b:=bl) (o:=6) y.tag rfl (.int .i64 i)
      have Y:=bm (by first|trivial|rfl)
      have O:=az.out
      have b5:qaw ((((((G.drewN nq).setCell ⟨bl,0,none⟩ (.int .u64 q.stamp)).setCell ⟨bl,1,none⟩ (.int .u64 q.base)).setCell ⟨bl,2,none⟩ (.int .u64 q.check)).setCell ⟨bl,3,none⟩ (.int .i64 q.qc0)).setCell ⟨bl,6,none⟩ (.int .i64 i)) a bl bd (L.qbw (q,i)) :=
       ⟨⟨bo,bp,b4,a5.step k (by simp[qa5,qb1]),a6.step k (by simp[qa6,qb1])⟩,bn,⟨Y.2.1,by show q.base<=_;omega,Y.2.2.2.2.1,Y.2.2.2.2.2,O.strips,an,O.stream,O.starts,O.lasts⟩⟩
      have b6:=b3.step k (fun g hg=>by subst hg;exact⟨Qau _ (.inl rfl),by simp[qb1,qa2]⟩)
      have a7:=a4.trans k
      obtain⟨bq,bs,b7⟩:=qan b5 b6 a7
      clear b5 b6 a7 y a5 a6 b4 k Y O b2 b3 a4
      go_wp2_with fail
      go_round
      case rel=>exact⟨i+1,a,oM,sM,by rw[M.out];exact bq,bs,b7⟩
      case measure=>simp[intOf];omega
     ·have j:qbo D (i+1)=c:=by rw[x.out,if_neg (fun h=>b0 h.2)]
      have b1:¬(c.1.stamp:Int)<q.stamp:=oM
      have M:=Z2 j
      clear j
      go_wp2_with fail
      rw[I.out,a3.out]
      go_quiet (fail)
      go_wp2_with fail
      go_round
      case rel=>exact⟨i+1,a,oM,sM,by rw[M.out];exact ag.step ((zS G a).qcp nq) (fun _ _ h=>h),ah.step ((zS G a).qcp nq) (fun _ h=>h.elim),J.trans (((zS G a).qcp nq).nz)⟩
      case measure=>simp[intOf];omega
  ·have bv:i=2:=oM
   subst bv
   obtain⟨c,ai⟩:=gN (qbo D 2)
   rw[ai] at p
   obtain⟨vs,vt,ho,a8,a9⟩:=p.is
   have c0:=ho.at 0 (v:=.int .u64 c.1.stamp) rfl
   obtain⟨aa,ab,b8⟩:=qan p R ai
   clear p R ai ho a8 a9 F
   go_wp2_with fail
   go_ret
   exact⟨by rw[b8.out];simp,E,by rw[b8.out];exact aa,ab⟩
