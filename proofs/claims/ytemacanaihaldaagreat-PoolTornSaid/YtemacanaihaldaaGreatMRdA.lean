/-
 Records: the reader takes bytes,numbers.
-/
import Derived.Test.YtemacanaihaldaaGreatMWalG
import Derived.Test.YtemacanaihaldaaGreatMDevE
import Derived.WalkSmall
import Derived.Recover
set_option maxRecDepth 100000
set_option maxHeartbeats 4000000
set_option linter.all false
namespace Go.Proofs.YtemacanaihaldaaGreat
variable {b br c o:Nat}{g:Tag}{l:List Int}{w:World}{τ:Tags}
open Go.RowKit
def tRd:Tag:=(198,0)
structure LieAt (w:World) (τ:Tags) (g:Tag) (b o c:Nat) (l:List Int):Prop where
 isB:IsB l
 le:l.length≤c
 cap:c≤maxLen
 tag:τ b=g
 lt:b<w.heap.size
 cell:∀i,i<l.length→w.cell? ⟨b,o+i,none⟩=some (.int .u8 (l.getD i 0))
theorem LieAt.step {w':World} {τ':Tags} {S:Tag→Prop}(h:LieAt w τ g b o c l) (m:Step w τ w' τ' S) (hs:¬S g):LieAt w' τ' g b o c l :=
 ⟨h.isB,h.le,h.cap,(m.ext b h.lt).trans h.tag,Nat.lt_of_lt_of_le h.lt m.size,fun i hi=>cell_kept m (h.cell i hi) (by rw[h.tag];exact hs)⟩
theorem LieAt.bytes(h:LieAt w τ g b o c l):Bytes w τ g (.slice (some ⟨b,o,none⟩) l.length c) l :=
 ⟨h.isB,_,c,rfl,h.le,h.cap,fun _=>⟨b,o,rfl,h.tag,h.cell⟩⟩
theorem LieAt.take(h:LieAt w τ g b o c l) (n:Nat):LieAt w τ g b o c (l.take n) :=
 ⟨fun x hx=>h.isB x (List.mem_of_mem_take hx),by have:=h.le;rw[List.length_take];omega,h.cap,h.tag,h.lt,fun i hi=>by
  rw[List.length_take] at hi
  rw[h.cell i (by omega),List.getD_eq_getElem?_getD,List.getD_eq_getElem?_getD,List.getElem?_take,if_pos (by omega)]⟩
theorem LieAt.drop(h:LieAt w τ g b o c l) (n:Nat) (hn:n≤l.length):LieAt w τ g b (o+n) (c-n) (l.drop n) :=
 ⟨fun x hx=>h.isB x (List.mem_of_mem_drop hx),by have:=h.le;rw[List.length_drop];omega,by have:=h.cap;omega,h.tag,h.lt,fun i hi=>by
  rw[List.length_drop] at hi
  rw[Nat.add_assoc,h.cell (n+i) (by omega),List.getD_eq_getElem?_getD,List.getD_eq_getElem?_getD,List.getElem?_drop]⟩
theorem Bytes.lies {v:Value}(h:Bytes w τ g v l) (h0:0<l.length):∃b o c,v = .slice (some ⟨b,o,none⟩) l.length c∧LieAt w τ g b o c l:=by
 obtain⟨p,c,rfl,h1,h2,hc⟩:=h.is
 obtain⟨b,o,rfl,ht,hcell⟩:=hc h0
 exact⟨b,o,c,rfl,h.isB,h1,h2,ht,cell_lt (hcell 0 h0),hcell⟩
def RdAt (w:World) (τ:Tags) (br:Nat) (g:Tag) (l:List Int):Prop:=∃b o c,Own w τ br tRd 311 [.slice (some ⟨b,o,none⟩) l.length c]∧LieAt w τ g b o c l
theorem RdAt.step {w':World} {τ':Tags} {S:Tag→Prop}(h:RdAt w τ br g l) (m:Step w τ w' τ' S) (h1:¬S tRd) (h2:¬S g):RdAt w' τ' br g l:=by
 obtain⟨b,o,c,ho,hb⟩:=h
 exact⟨b,o,c,ho.step m h1,hb.step m h2⟩
def RdTag (t:Tag):Prop:=t=tRd
def Qav:Ending:=.panicked [{v:=.iface 360 (.agg #[]),recovered:=false}]
def RdD {α:Type}(w:World) (τ:Tags) (br:Nat) (g:Tag) (r:Option (α×List Int)) (V:World→Tags→Value→α→Prop) (e:Ending) (w':World):Prop :=
 ∃τ',Step w τ w' τ' RdTag∧((r=none∧e=Qav)∨∃x l v,r=some (x,l)∧e = .returned v∧V w' τ' v x∧RdAt w' τ' br g l)
def pTake (n:Nat) (l:List Int):Option (List Int×List Int):=if l.length<n then none else some (l.take n,l.drop n)
def Ja6 (g:Tag) (w:World) (τ:Tags) (v:Value) (x:List Int):Prop:=∃b o c,v = .slice (some ⟨b,o,none⟩) x.length c∧LieAt w τ g b o c x
theorem Qkp(h:RdAt w τ br g l) (hg:g≠tRd) (n:Nat) (hn:n≤100000) :
 Calls Tryz.prog 203 #[.pointer (some ⟨br,0,none⟩),.int .i64 (n:Int)] w (RdD w τ br g (pTake n l) (Ja6 g)):=by
 obtain⟨b,o,c,ho,hb⟩:=h
 have c0:=ho.at 0 (v:=.slice (some ⟨b,o,none⟩) l.length c) rfl
 have z0:=ho.fz 0
 have hlc:=hb.le
 have hcm:=hb.cap
 unfold pTake
 obtain⟨m,hm⟩:∃m,l.length=m:=⟨_,rfl⟩
 have hlc':(m:Int)≤(c:Int):=by omega
 have hmm:m≤9223372036854775807:=by unfold maxLen at hcm;omega
 by_cases hlt:m<n
 ·rw[if_pos (by omega)]
  rw[hm] at c0
  have hltI:(m:Int)<(n:Int):=by omega
  obtain⟨Ho,Hb,Hm⟩:=hid3 ho hb hm
  clear ho hb hm
  go_enter Tryz.func203,Tryz.ntmps203
  go_wp2_with fail
  exact⟨rfl,τ,Step.refl _ _ _,.inl ⟨rfl,rfl⟩⟩
 ·rw[if_neg (by omega)]
  rw[hm] at c0
  have hltI:¬(m:Int)<(n:Int):=by omega
  have hltI2:(n:Int)≤(m:Int):=by omega
  have hltI3:(n:Int)≤(c:Int):=by omega
  have hst:=(Step.refl w τ RdTag).set (o:=0) ho.tag rfl
  have hbt:=hb.take n
  have htl:(l.take n).length=n:=by rw[List.length_take];omega
  have hbd:=hb.drop n (by omega)
  have hdl:(l.drop n).length=m-n:=by rw[List.length_drop,hm]
  obtain⟨Ho,Hb,Hst,Hbt,Hbd,Htl,Hdl⟩:=hid7 ho hb hst hbt hbd htl hdl
  clear ho hb hst hbt hbd htl hdl
  by_cases hcn:c=n
  ·have hmn:m=n:=by omega
   subst hcn
   subst hmn
   have Hm:=Lib.hid hm
   clear hm
   go_enter Tryz.func203,Tryz.ntmps203
   go_wp2_with fail
   go_returns
   have hs:=Hst.out (.slice (some ⟨b,o,none⟩) 0 0)
   have hdn:l.drop m=[]:=List.eq_nil_of_length_eq_zero (by rw[Hdl.out];omega)
   refine⟨τ,hs,.inr ⟨_,_,_,rfl,rfl,⟨b,o,m,by rw[Htl.out];rfl,Hbt.out.step hs (fun h=>hg h)⟩,⟨b,o,0,?_,?_⟩⟩⟩
   ·have:=Ho.out.set 0 (.slice (some ⟨b,o,none⟩) 0 0)
    rw[hdn];exact this
   ·rw[hdn]
    exact⟨fun x hx=>by simp at hx,Nat.le_refl _,Nat.zero_le _,(hs.ext b Hb.out.lt).trans Hb.out.tag,Nat.lt_of_lt_of_le Hb.out.lt hs.size,fun i hi=>by simp at hi⟩
  ·have Hm:=Lib.hid hm
   clear hm
   go_enter Tryz.func203,Tryz.ntmps203
   go_wp2_with fail
   go_returns
   have hs:=Hst.out (.slice (some ⟨b,o+n,none⟩) (m-n) (c-n))
   refine⟨τ,hs,.inr ⟨_,_,_,rfl,rfl,⟨b,o,c,by rw[Htl.out];rfl,Hbt.out.step hs (fun h=>hg h)⟩,⟨b,o+n,c-n,?_,Hbd.out.step hs (fun h=>hg h)⟩⟩⟩
   have:=Ho.out.set 0 (.slice (some ⟨b,o+n,none⟩) (m-n) (c-n))
   rw[Hdl.out];exact this
def pNum (k:Nat) (l:List Int):Option (Nat×List Int):=if l.length<k then none else some (leN (l.take k) k,l.drop k)
def NumV (w:World) (τ:Tags) (v:Value) (x:Nat):Prop:=v = .int .u64 (x:Int)
theorem Qar(h:RdAt w τ br g l) (hg:g≠tRd) (k:Nat) (h1:1≤k) (h8:k≤8) :
 Calls Tryz.prog 204 #[.pointer (some ⟨br,0,none⟩),.int .i64 (k:Int)] w (RdD w τ br g (pNum k l) NumV):=by
 have ht:=Qkp h hg k (by omega)
 have Ht:=Lib.hid ht
 clear ht
 go_enter Tryz.func204,Tryz.ntmps204
 go_wp2_with fail
 refine Ht.out.mono ?_
 rintro e w1 ⟨τ1,hs1,⟨hr,rfl⟩|⟨x,l1,v,hr,rfl,⟨b,o,c,rfl,hb⟩,hrd⟩⟩
 ·have Hs1:=Lib.hid hs1
  clear hs1
  unfold Qav
  go_wp2_with fail
  refine⟨rfl,τ1,Hs1.out,.inl ⟨?_,rfl⟩⟩
  unfold pTake at hr
  unfold pNum
  split at hr
  ·rw[if_pos (by assumption)]
  ·cases hr
 ·unfold pTake at hr
  split at hr
  ·cases hr
  ·have hlk:¬l.length<k:=by assumption
   simp only[Option.some.injEq,Prod.mk.injEq] at hr
   obtain⟨rfl,rfl⟩:=hr
   have hlen:(l.take k).length=k:=by rw[List.length_take];omega
   have hgt:=Qip hb.bytes (by omega) (by omega)
   rw[hlen] at hgt ⊢
   obtain⟨Hgt,Hs1,Hrd⟩:=hid3 hgt hs1 hrd
   clear hgt hs1 hrd hb
   go_wp2_with fail
   refine Hgt.out.mono ?_
   rintro e w2 ⟨rfl,rfl⟩
   go_wp2_with fail
   go_returns
   exact⟨τ1,Hs1.out,.inr ⟨leN (l.take k) k,l.drop k,_,by unfold pNum;rw[if_neg hlk],rfl,rfl,Hrd.out⟩⟩
def tTwo:Tag:=(76,1)
def Qi8 (l:List Int):Option (List Int×List Int):=(pNum 1 l).bind fun x=>pTake x.1 x.2
def OwnV (w:World) (τ:Tags) (v:Value) (x:List Int):Prop:=∃p c,v = .slice p x.length c∧Bytes w τ tData v x
theorem OwnV.step {w':World} {τ':Tags} {S:Tag→Prop} {v:Value} {x:List Int}(h:OwnV w τ v x) (m:Step w τ w' τ' S) (hs:¬S tData):OwnV w' τ' v x:=by
 obtain⟨p,c,h1,h2⟩:=h
 exact⟨p,c,h1,h2.step m hs⟩
theorem Qy8:¬RdTag tData:=by unfold RdTag;decide
theorem Qpf {k:Nat} {x:Nat} {l':List Int}(h:pNum k l=some (x,l')):k≤l.length∧x=leN (l.take k) k∧l'=l.drop k:=by
 unfold pNum at h
 split at h
 ·cases h
 ·cases h
  exact⟨by omega,rfl,rfl⟩
theorem RdAt.isB(h:RdAt w τ br g l):IsB l:=by
 obtain⟨b,o,c,-,hb⟩:=h
 exact hb.isB
theorem Qcb {k:Nat} {x:Nat} {l':List Int}(h:pNum k l=some (x,l')) (hB:IsB l):x<2 ^ (8*k):=by
 obtain⟨-,rfl,-⟩:=Qpf h
 exact Qle (fun y hy=>hB y (List.mem_of_mem_take hy)) k
theorem Qmu {k:Nat} {x l':List Int}(h:pTake k l=some (x,l')):k≤l.length∧x=l.take k∧l'=l.drop k∧x.length=k:=by
 unfold pTake at h
 split at h
 ·cases h
 ·cases h
  exact⟨by omega,rfl,rfl,by rw[List.length_take];omega⟩
theorem Qmq(h:RdAt w τ br g l) (hg:g≠tRd) :
 Calls Tryz.prog 257 #[.pointer (some ⟨br,0,none⟩)] w (RdD w τ br g (Qi8 l) OwnV):=by
 have hn:=Qar h hg 1 (by omega) (by omega)
 have hB:=h.isB
 obtain⟨Hn,HB⟩:=hid2 hn hB
 clear hn hB h
 go_enter Tryz.func257,Tryz.ntmps257
 go_wp2_with fail
 refine Hn.out.mono ?_
 rintro e w1 ⟨τ1,hs1,⟨hr,rfl⟩|⟨k,l1,v,hr,rfl,rfl,hrd⟩⟩
 ·have Hs1:=Lib.hid hs1
  clear hs1
  unfold Qav
  go_wp2_with fail
  exact⟨rfl,τ1,Hs1.out,.inl ⟨by unfold Qi8;rw[hr];rfl,rfl⟩⟩
 ·have hk:=Qcb hr HB.out
  rw[show (2:Nat) ^ (8*1)=256 from by decide] at hk
  have hkw:IntKind.i64.wrap (k:Int)=(k:Int):=Qd5 _ (by omega) (by omega)
  have ht:=Qkp hrd hg k (by omega)
  obtain⟨Ht,Hs1,Hr⟩:=hid3 ht hs1 hr
  clear ht hs1 hr hrd
  go_wp2_with fail
  refine Ht.out.mono ?_
  rintro e w2 ⟨τ2,hs2,⟨hr2,rfl⟩|⟨x,l2,v,hr2,rfl,⟨b,o,c,rfl,hb⟩,hrd⟩⟩
  ·have hs12:=Hs1.out.trans hs2
   have Hs12:=Lib.hid hs12
   clear hs12
   unfold Qav
   go_wp2_with fail
   exact⟨rfl,τ2,Hs12.out,.inl ⟨by unfold Qi8;rw[Hr.out];exact hr2,rfl⟩⟩
  ·obtain⟨-,-,-,hxl⟩:=Qmu hr2
   have hcl:=Qu3 hb.bytes tData (by omega)
   rw[hxl] at hcl
   have hs12:=Hs1.out.trans hs2
   obtain⟨Hcl,Hs12,Hrd,Hr2⟩:=hid4 hcl hs12 hrd hr2
   clear hcl hs12 hrd hr2 hb hs2
   go_wp2_with fail
   refine Hcl.out.mono ?_
   rintro e w3 ⟨u,τ3,rfl,hnb,hs3⟩
   have hs13:=Hs12.out.trans (hs3.mono (T:=RdTag) (fun _ h=>h.elim))
   have hrd3:=Hrd.out.step hs3 (fun h=>h) (fun h=>h)
   obtain⟨p3,c3,rfl⟩:=hnb.val
   obtain⟨Hs13,Hrd3,Hnb⟩:=hid3 hs13 hrd3 hnb
   clear hs13 hrd3 hnb hs3
   go_wp2_with fail
   go_returns
   exact⟨τ3,Hs13.out,.inr ⟨x,l2,_,by unfold Qi8;rw[Hr.out];exact Hr2.out,rfl,⟨p3,c3,by rw[hxl];rfl,by have:=Hnb.out.bytes;rw[hxl] at this;exact this⟩,Hrd3.out⟩⟩
structure ChangeP where
 page:Nat
 slot:Nat
 had:Bool
 has:Bool
 before:List Int
 after:List Int
def Qd3 (l:List Int):Option (ChangeP×List Int) :=
 (pNum 4 l).bind fun a=>(pNum 2 a.2).bind fun b=>(pNum 1 b.2).bind fun f=>if 3<f.1 then none else (Qi8 f.2).bind fun x=>(Qi8 x.2).bind fun y=>some (⟨a.1,b.1,decide (f.1%2=1),decide (f.1/2%2=1),x.1,y.1⟩,y.2)
def Qz8 (w:World) (τ:Tags) (v:Value) (x:ChangeP):Prop:=∃vb va,v = .agg #[.int .u32 (x.page:Int),.int .u16 (x.slot:Int),.bool x.had,.bool x.has,vb,va]∧x.page<4294967296∧x.slot<65536∧OwnV w τ vb x.before∧OwnV w τ va x.after
theorem Qqp(h:RdAt w τ br g l) (hg:g≠tRd) (hg':g≠tTwo) (hg3:g≠tOne) :
 Calls Tryz.prog 205 #[.pointer (some ⟨br,0,none⟩)] w (RdD w τ br g (Qd3 l) Qz8):=by
 have hq0:=(Step.refl w τ nil).alloc (.cells #[.int .u32 0,.int .u16 0,.bool false,.bool false,.slice none 0 0,.slice none 0 0] 124) tOne
 have ho0:=Own.born w τ tOne 124 #[.int .u32 0,.int .u16 0,.bool false,.bool false,.slice none 0 0,.slice none 0 0]
 have h0:=h.step hq0 (fun h=>h) (fun h=>h)
 have hs0:=hq0.mono (T:=RdTag) (fun _ h=>h.elim)
 obtain⟨bv,hbv⟩:∃bv,w.heap.size=bv:=⟨_,rfl⟩
 rw[hbv] at ho0 h0 hs0
 generalize τ.put bv tOne=τ0 at *
 obtain⟨w0,hw0⟩:∃w0,w.alloc (.cells #[.int .u32 0,.int .u16 0,.bool false,.bool false,.slice none 0 0,.slice none 0 0] 124)=w0:=⟨_,rfl⟩
 rw[hw0] at ho0 h0 hs0
 have hn1:=Qar h0 hg 4 (by omega) (by omega)
 have hB0:=h0.isB
 obtain⟨Hn1,HB0,Ho0,Hs0,Hw0,Hbv⟩:=hid6 hn1 hB0 ho0 hs0 hw0 hbv
 clear hn1 hB0 ho0 hs0 hw0 hbv h h0 hq0
 go_enter Tryz.func205,Tryz.ntmps205
 go_wp2_with fail
 rw[Hbv.out,Hw0.out]
 refine Hn1.out.mono ?_
 rintro e w1 ⟨τ1,hs1,⟨hr,rfl⟩|⟨pg,l1,v,hr1,rfl,rfl,hrd1⟩⟩
 ·have hs:=Hs0.out.trans hs1
  have Hs:=Lib.hid hs
  clear hs
  unfold Qav
  go_wp2_with fail
  exact⟨rfl,τ1,Hs.out,.inl ⟨by unfold Qd3;rw[hr];rfl,rfl⟩⟩
 have hp1:=Qcb hr1 HB0.out
 rw[show (2:Nat) ^ (8*4)=4294967296 from by decide] at hp1
 have hpw:IntKind.u32.wrap (pg:Int)=(pg:Int):=Qb1 pg hp1
 have hs01:=Hs0.out.trans hs1
 have ho1:=Ho0.out.step hs1 (by unfold RdTag;decide)
 have hn2:=Qar hrd1 hg 2 (by omega) (by omega)
 have hB1:=hrd1.isB
 obtain⟨Hs01,Ho1,Hn2,HB1,Hr1⟩:=hid5 hs01 ho1 hn2 hB1 hr1
 clear hs01 ho1 hn2 hB1 hr1 hs1 hrd1 Hn1
 go_wp2_with fail
 refine Hn2.out.mono ?_
 rintro e w2 ⟨τ2,hs2,⟨hr,rfl⟩|⟨sl,l2,v,hr2,rfl,rfl,hrd2⟩⟩
 ·have hs:=Hs01.out.trans hs2
  have Hs:=Lib.hid hs
  clear hs
  unfold Qav
  go_wp2_with fail
  exact⟨rfl,τ2,Hs.out,.inl ⟨by unfold Qd3;rw[Hr1.out];simp only[Option.bind_some];rw[hr];rfl,rfl⟩⟩
 have hp2:=Qcb hr2 HB1.out
 rw[show (2:Nat) ^ (8*2)=65536 from by decide] at hp2
 have hsw:IntKind.u16.wrap (sl:Int)=(sl:Int):=by
  have:IntKind.u16.wrap (sl:Int)=(sl:Int)%65536:=by simp[IntKind.wrap,IntKind.bits,IntKind.signed]
  rw[this];omega
 have hs02:=Hs01.out.trans hs2
 have ho2:=Ho1.out.step hs2 (by unfold RdTag;decide)
 have hq3:=(Step.refl w2 τ2 nil).alloc (.cells #[.int .u32 (pg:Int),.int .u16 (sl:Int),.bool false,.bool false,.slice none 0 0,.slice none 0 0] 124) tTwo
 have hc3:=Own.born w2 τ2 tTwo 124 #[.int .u32 (pg:Int),.int .u16 (sl:Int),.bool false,.bool false,.slice none 0 0,.slice none 0 0]
 have hrd3:=hrd2.step hq3 (fun h=>h) (fun h=>h)
 have ho3:=ho2.step hq3 (fun h=>h)
 have hs03:=hs02.trans (hq3.mono (T:=RdTag) (fun _ h=>h.elim))
 obtain⟨bc,hbc⟩:∃bc,w2.heap.size=bc:=⟨_,rfl⟩
 rw[hbc] at hc3 hrd3 ho3 hs03
 generalize τ2.put bc tTwo=τ3 at *
 obtain⟨w3,hw3⟩:∃w3,w2.alloc (.cells #[.int .u32 (pg:Int),.int .u16 (sl:Int),.bool false,.bool false,.slice none 0 0,.slice none 0 0] 124)=w3:=⟨_,rfl⟩
 rw[hw3] at hc3 hrd3 ho3 hs03
 have hn3:=Qar hrd3 hg 1 (by omega) (by omega)
 have hB3:=hrd3.isB
 have hlow:w.heap.size≤bc:=by have:=hs02.size;omega
 obtain⟨Hs03,Ho3,Hc3,Hr2,Hn3,HB3,Hw3,Hbc⟩:=hid8 hs03 ho3 hc3 hr2 hn3 hB3 hw3 hbc
 clear hs03 ho3 hc3 hr2 hn3 hB3 hw3 hbc hs2 hs02 ho2 hrd2 hrd3 hq3 Hn2
 go_wp2_with fail
 rw[Hbc.out,Hw3.out]
 refine Hn3.out.mono ?_
 rintro e w4 ⟨τ4,hs4,⟨hr,rfl⟩|⟨f,l4,v,hr4,rfl,rfl,hrd4⟩⟩
 ·have hs:=Hs03.out.trans hs4
  have Hs:=Lib.hid hs
  clear hs
  unfold Qav
  go_wp2_with fail
  exact⟨rfl,τ4,Hs.out,.inl ⟨by unfold Qd3;rw[Hr1.out];simp only[Option.bind_some];rw[Hr2.out];simp only[Option.bind_some];rw[hr];rfl,rfl⟩⟩
 have hs04:=Hs03.out.trans hs4
 have ho4:=Ho3.out.step hs4 (by unfold RdTag;decide)
 have hc4:=Hc3.out.step hs4 (by unfold RdTag;decide)
 by_cases hf3:3<f
 ·have hfI:(3:Int)<(f:Int):=by omega
  have Hs04:=Lib.hid hs04
  clear hs04
  go_wp2_with fail
  exact⟨rfl,τ4,Hs04.out,.inl ⟨by unfold Qd3;rw[Hr1.out];simp only[Option.bind_some];rw[Hr2.out];simp only[Option.bind_some];rw[hr4];simp only[Option.bind_some];rw[if_pos hf3],rfl⟩⟩
 have hfI:¬(3:Int)<(f:Int):=by omega
 have z40:=hc4.fz 2
 have z41:=hc4.fz 3
 have d40:=hc4.at 2 (v:=.bool false) rfl
 have d41:=hc4.at 3 (v:=.bool false) rfl
 obtain⟨Hs04,Ho4,Hc4,Hrd4,Hr4⟩:=hid5 hs04 ho4 hc4 hrd4 hr4
 clear hs04 ho4 hc4 hrd4 hr4 hs4 Hn3
 obtain⟨had,hhad⟩:∃b,decide (f%2=1)=b:=⟨_,rfl⟩
 obtain⟨has,hhas⟩:∃b,decide (f/2%2=1)=b:=⟨_,rfl⟩
 have hb1:(bits BinOp.and IntKind.u64 (f:Int) 1 != 0)=had:=by
  rw[←hhad]
  rcases (show f=0∨f=1∨f=2∨f=3 by omega) with rfl|rfl|rfl|rfl <;> rfl
 have hb2:(bits BinOp.and IntKind.u64 (f:Int) 2 != 0)=has:=by
  rw[←hhas]
  rcases (show f=0∨f=1∨f=2∨f=3 by omega) with rfl|rfl|rfl|rfl <;> rfl
 obtain⟨Hb1,Hb2,Hhad,Hhas⟩:=hid4 hb1 hb2 hhad hhas
 clear hb1 hb2 hhad hhas
 go_wp2_with fail
 rw[Hb1.out,Hb2.out]
 have hq5:=((Step.refl w4 τ4 (fun t=>t=tTwo)).set (b:=bc) (o:=2) Hc4.out.tag rfl (.bool had)).set (b:=bc) (o:=3) Hc4.out.tag rfl (.bool has)
 have hs05:=(Hs04.out.setNew (b:=bc) (o:=2) hlow (.bool had)).setNew (b:=bc) (o:=3) hlow (.bool has)
 have hc5:=(Hc4.out.set 2 (.bool had)).set 3 (.bool has)
 have ho5:=Ho4.out.step hq5 (by decide)
 have hg2:g≠tTwo:=hg'
 have hrd5:=Hrd4.out.step hq5 (by decide) (fun h=>hg2 h)
 generalize (w4.setCell ⟨bc,2,none⟩ (.bool had)).setCell ⟨bc,3,none⟩ (.bool has)=w5 at *
 have hn5:=Qmq hrd5 hg
 obtain⟨Hs05,Hc5,Ho5,Hn5⟩:=hid4 hs05 hc5 ho5 hn5
 clear hs05 hc5 ho5 hn5 hq5 hrd5 Hc4 Ho4 Hs04 Hrd4 d40 d41 z40 z41
 refine Hn5.out.mono ?_
 rintro e w6 ⟨τ6,hs6,⟨hr,rfl⟩|⟨xb,l6,vb,hr6,rfl,⟨pb,cb,rfl,hbb⟩,hrd6⟩⟩
 ·have hs:=Hs05.out.trans hs6
  have Hs:=Lib.hid hs
  clear hs
  unfold Qav
  go_wp2_with fail
  exact⟨rfl,τ6,Hs.out,.inl ⟨by unfold Qd3;rw[Hr1.out];simp only[Option.bind_some];rw[Hr2.out];simp only[Option.bind_some];rw[Hr4.out];simp only[Option.bind_some];rw[if_neg hf3,hr];rfl,rfl⟩⟩
 have hs06:=Hs05.out.trans hs6
 have hc6:=Hc5.out.step hs6 (by unfold RdTag;decide)
 have ho6:=Ho5.out.step hs6 (by unfold RdTag;decide)
 have d6:=hc6.at 4 (v:=.slice none 0 0) rfl
 have z6:=hc6.fz 4
 have hq7:=(Step.refl w6 τ6 (fun t=>t=tTwo)).set (b:=bc) (o:=4) hc6.tag rfl (.slice pb xb.length cb)
 have hs07:=hs06.setNew (b:=bc) (o:=4) hlow (.slice pb xb.length cb)
 have hc7:=hc6.set 4 (.slice pb xb.length cb)
 have ho7:=ho6.step hq7 (by decide)
 have hrd7:=hrd6.step hq7 (by decide) (fun h=>hg2 h)
 have hbb7:=hbb.step hq7 (by decide)
 obtain⟨w7,hw7⟩:∃w7,w6.setCell ⟨bc,4,none⟩ (.slice pb xb.length cb)=w7:=⟨_,rfl⟩
 rw[hw7] at hs07 hc7 ho7 hrd7 hbb7
 have hn7:=Qmq hrd7 hg
 obtain⟨Hs07,Hc7,Ho7,Hbb7,Hn7,Hr6,Hw7⟩:=hid7 hs07 hc7 ho7 hbb7 hn7 hr6 hw7
 clear hs07 hc7 ho7 hbb7 hn7 hr6 hw7 hs6 hs06 hc6 ho6 hq7 hrd7 hrd6 hbb Hn5 Hs05 Hc5 Ho5
 go_wp2_with fail
 rw[Hw7.out]
 refine Hn7.out.mono ?_
 rintro e w8 ⟨τ8,hs8,⟨hr,rfl⟩|⟨xa,l8,va,hr8,rfl,⟨pa,ca,rfl,hba⟩,hrd8⟩⟩
 ·have hs:=Hs07.out.trans hs8
  have Hs:=Lib.hid hs
  clear hs
  unfold Qav
  go_wp2_with fail
  exact⟨rfl,τ8,Hs.out,.inl ⟨by unfold Qd3;rw[Hr1.out];simp only[Option.bind_some];rw[Hr2.out];simp only[Option.bind_some];rw[Hr4.out];simp only[Option.bind_some];rw[if_neg hf3,Hr6.out];simp only[Option.bind_some];rw[hr];rfl,rfl⟩⟩
 have hs08:=Hs07.out.trans hs8
 have hc8:=Hc7.out.step hs8 (by unfold RdTag;decide)
 have ho8:=Ho7.out.step hs8 (by unfold RdTag;decide)
 have hbb8:=Hbb7.out.step hs8 Qy8
 have d8:=hc8.at 5 (v:=.slice none 0 0) rfl
 have z8:=hc8.fz 5
 have hq9:=(Step.refl w8 τ8 (fun t=>t=tTwo)).set (b:=bc) (o:=5) hc8.tag rfl (.slice pa xa.length ca)
 have hs09:=hs08.setNew (b:=bc) (o:=5) hlow (.slice pa xa.length ca)
 have hc9:=hc8.set 5 (.slice pa xa.length ca)
 have ho9:=ho8.step hq9 (by decide)
 have hrd9:=hrd8.step hq9 (by decide) (fun h=>hg2 h)
 have hbb9:=hbb8.step hq9 (by decide)
 have hba9:=hba.step hq9 (by decide)
 have hbvl:w.heap.size≤bv:=by have:=Hbv.out;omega
 have hne1:bv≠bc:=ho8.ne hc8 (by decide)
 have hne2:bc≠bv:=fun e=>hne1 e.symm
 have e0:=hc8.at 0 (v:=.int .u32 (pg:Int)) rfl
 have e1:=hc8.at 1 (v:=.int .u16 (sl:Int)) rfl
 have e2:=hc8.at 2 (v:=.bool had) rfl
 have e3:=hc8.at 3 (v:=.bool has) rfl
 have e4:=hc8.at 4 (v:=.slice pb xb.length cb) rfl
 have k0:=ho8.at 0 (v:=.int .u32 0) rfl
 have f0:=ho8.fz 0
 have k1:=ho8.at 1 (v:=.int .u16 0) rfl
 have f1:=ho8.fz 1
 have k2:=ho8.at 2 (v:=.bool false) rfl
 have f2:=ho8.fz 2
 have k3:=ho8.at 3 (v:=.bool false) rfl
 have f3:=ho8.fz 3
 have k4:=ho8.at 4 (v:=.slice none 0 0) rfl
 have f4:=ho8.fz 4
 have k5:=ho8.at 5 (v:=.slice none 0 0) rfl
 have f5:=ho8.fz 5
 have e5:=hc9.at 5 (v:=.slice pa xa.length ca) rfl
 have y0:=(ho9.set 0 (.int .u32 (pg:Int))).at 0 (v:=.int .u32 (pg:Int)) rfl
 have y1:=((ho9.set 0 (.int .u32 (pg:Int))).set 1 (.int .u16 (sl:Int))).at 1 (v:=.int .u16 (sl:Int)) rfl
 have y2:=(((ho9.set 0 (.int .u32 (pg:Int))).set 1 (.int .u16 (sl:Int))).set 2 (.bool had)).at 2 (v:=.bool had) rfl
 have y3:=((((ho9.set 0 (.int .u32 (pg:Int))).set 1 (.int .u16 (sl:Int))).set 2 (.bool had)).set 3 (.bool has)).at 3 (v:=.bool has) rfl
 have y4:=(((((ho9.set 0 (.int .u32 (pg:Int))).set 1 (.int .u16 (sl:Int))).set 2 (.bool had)).set 3 (.bool has)).set 4 (.slice pb xb.length cb)).at 4 (v:=.slice pb xb.length cb) rfl
 have y5:=((((((ho9.set 0 (.int .u32 (pg:Int))).set 1 (.int .u16 (sl:Int))).set 2 (.bool had)).set 3 (.bool has)).set 4 (.slice pb xb.length cb)).set 5 (.slice pa xa.length ca)).at 5 (v:=.slice pa xa.length ca) rfl
 have hqA:=(((((((Step.refl (w8.setCell ⟨bc,5,none⟩ (.slice pa xa.length ca)) τ8 (fun t=>t=tOne)).set (b:=bv) (o:=0) ho9.tag rfl (.int .u32 (pg:Int))).set (b:=bv) (o:=1) ho9.tag rfl (.int .u16 (sl:Int))).set (b:=bv) (o:=2) ho9.tag rfl (.bool had)).set (b:=bv) (o:=3) ho9.tag rfl (.bool has)).set (b:=bv) (o:=4) ho9.tag rfl (.slice pb xb.length cb)).set (b:=bv) (o:=5) ho9.tag rfl (.slice pa xa.length ca))
 have hsA:=((((((hs09.setNew (b:=bv) (o:=0) hbvl (.int .u32 (pg:Int))).setNew (b:=bv) (o:=1) hbvl (.int .u16 (sl:Int))).setNew (b:=bv) (o:=2) hbvl (.bool had)).setNew (b:=bv) (o:=3) hbvl (.bool has)).setNew (b:=bv) (o:=4) hbvl (.slice pb xb.length cb)).setNew (b:=bv) (o:=5) hbvl (.slice pa xa.length ca))
 have hrdA:=hrd9.step hqA (by decide) (fun h=>hg3 h)
 have hbbA:=hbb9.step hqA (by decide)
 have hbaA:=hba9.step hqA (by decide)
 have HY:=Lib.hid (And.intro y0 (And.intro y1 (And.intro y2 (And.intro y3 (And.intro y4 y5)))))
 clear y0 y1 y2 y3 y4 y5
 obtain⟨HsA,HrdA,HbbA,HbaA,Hr8⟩:=hid5 hsA hrdA hbbA hbaA hr8
 clear hsA hrdA hbbA hbaA hr8 hs8 hs08 hc8 ho8 hbb8 hq9 hs09 hc9 ho9 hrd9 hbb9 hba9 hqA hba hrd8 Hn7 Hs07 Hc7 Ho7 Hbb7 Hw7 Hw3 Hw0
 go_wp2_with fail
 obtain⟨y0,y1,y2,y3,y4,y5⟩:=HY.out
 try simp only[Exit.inBlock,Exit.then]
 refine bodyPost_ret (by simp[results,Tryz.results205,go_sem,y0,y1,y2,y3,y4,y5];try rfl) rfl ?_
 refine⟨τ8,HsA.out,.inr ⟨⟨pg,sl,had,has,xb,xa⟩,l8,_,?_,rfl,⟨_,_,rfl,hp1,hp2,⟨pb,cb,rfl,HbbA.out⟩,⟨pa,ca,rfl,HbaA.out⟩⟩,HrdA.out⟩⟩
 unfold Qd3
 rw[Hr1.out]
 simp only[Option.bind_some]
 rw[Hr2.out]
 simp only[Option.bind_some]
 rw[Hr4.out]
 simp only[Option.bind_some]
 rw[if_neg hf3,Hr6.out]
 simp only[Option.bind_some]
 rw[Hr8.out,Hhad.out,Hhas.out]
 rfl
end Go.Proofs.YtemacanaihaldaaGreat