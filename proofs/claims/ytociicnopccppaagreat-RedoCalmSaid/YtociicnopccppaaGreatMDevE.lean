/-
 The program's device: Crash does what the plain model says.
-/
import Derived.Test.YtociicnopccppaaGreatMPoolD
import Derived.Lib.MinMax
import Derived.Test.YtociicnopccppaaGreatMRegL
set_option maxRecDepth 100000
set_option maxHeartbeats 4000000
set_option linter.all false
namespace Go.Proofs.YtociicnopccppaaGreat
variable {b:Nat}{v0 v1:Value}{w w':World}{τ τ':qa1}
open Go.RowKit
structure Fate where
 file:Nat
 sector:Int
 keep:Int
 torn:Int
def qig (x:Fate):Value:=.agg #[.int .u8 x.file,.int .i64 x.sector,.int .i64 x.keep,.int .i64 x.torn]
def Sec.qhd (s:Sec) (k:Int):Nat:=min k.toNat s.waits.length
def Sec.base (s:Sec) (k:Nat):List Int:=if k=0 then s.last else s.waits.getD (k-1) []
def qjv (t:Nat) (new old:List Int):List Int:=new.take t++old.drop t
def Sec.left (s:Sec) (x:Fate):List Int:=if s.qhd x.keep<s.waits.length then qjv (min x.torn.toNat 128) (s.waits.getD (s.qhd x.keep) []) (s.base (s.qhd x.keep)) else s.base (s.qhd x.keep)
def Sec.crash (s:Sec) (x:Fate):Sec:=⟨s.left x,[]⟩
def Fate.hits (f i:Nat) (x:Fate):Bool:=x.file==f && x.sector==(i:Int)
def qia:Fate:=⟨0,0,0,0⟩
def Qpr (l:List Fate) (f i:Nat):Fate:=(l.find? (Fate.hits f i)).getD qia
def Qbk (l:List Fate) (f i:Nat) (ss:List Sec):List Sec:=ss.mapIdx (fun j s=>if j<i then s.crash (Qpr l f j) else s)
def Dev.qd7 (D:Dev) (l:List Fate) (f i:Nat):Dev :=
 ⟨if f=0 then Qbk l 0 i D.f0 else Qbk l 0 D.f0.length D.f0,if f=0 then D.f1 else if f=1 then Qbk l 1 i D.f1 else Qbk l 1 D.f1.length D.f1,none,false⟩
def Dev.crash (D:Dev) (l:List Fate):Dev:=D.qd7 l 2 0
theorem Qlu (l:List Fate) (f i:Nat) (a:List Sec):(Qbk l f i a).length=a.length:=by simp[Qbk]
theorem Qdi (l:List Fate) (f i:Nat) (a:List Sec) (j:Nat):(Qbk l f i a)[j]?=(a[j]?).map (fun s=>if j<i then s.crash (Qpr l f j) else s):=by
 simp[Qbk,List.getElem?_mapIdx]
theorem Qol (l:List Fate) (f:Nat) (a:List Sec):Qbk l f 0 a=a:=by
 apply List.ext_getElem?
 intro j
 rw[Qdi]
 cases a[j]? with
 | none=>rfl
 | some s=>simp
theorem Qx6 (l:List Fate) (f i:Nat) (a:List Sec) (s:Sec) (c:a[i]?=some s):Qbk l f (i+1) a=(Qbk l f i a).set i (s.crash (Qpr l f i)):=by
 have hi:=(Z4 c).1
 apply List.ext_getElem?
 intro j
 by_cases e:i=j
 ·subst e
  rw[Qdi,c,List.getElem?_set_self (by rw[Qlu];exact hi)]
  simp
 ·rw[List.getElem?_set_ne e,Qdi,Qdi]
  cases a[j]? with
  | none=>rfl
  | some t =>
    have:(j<i+1)=(j<i):=by apply propext;omega
    simp[this]
theorem Dev.qde (D:Dev) (l:List Fate) (f i:Nat) (hf:f<2):(D.qd7 l f i).file f=Qbk l f i (D.file f):=by
 rcases (show f=0\/f=1 by omega) with rfl|rfl <;> rfl
theorem Dev.qi1 (D:Dev) (l:List Fate) (f i:Nat) (hf:f<2):(D.qd7 l f i).put f (Qbk l f (i+1) (D.file f))=D.qd7 l f (i+1):=by
 rcases (show f=0\/f=1 by omega) with rfl|rfl <;> rfl
theorem Dev.qhg (D:Dev) (l:List Fate) (f:Nat) (hf:f<2):D.qd7 l f (D.file f).length=D.qd7 l (f+1) 0:=by
 rcases (show f=0\/f=1 by omega) with rfl|rfl
 ·unfold Dev.qd7
  rw[if_pos rfl,if_pos rfl,if_neg oM,if_neg oM,if_pos rfl,Qol];rfl
 ·unfold Dev.qd7
  rw[if_neg oM,if_neg oM,if_pos rfl,if_neg oM,if_neg oM,if_neg oM];rfl
theorem Dev.qhf (D:Dev) (l:List Fate):D.qd7 l 0 0={D with left:=none,halted:=false}:=by
 unfold Dev.qd7
 rw[if_pos rfl,if_pos rfl,Qol]
structure qgo (w:World) (b o:Nat) (x:Fate):Prop where
 fb:x.file<256
 c0:w.cell? ⟨b,o,none⟩=some (.int .u8 x.file)
 c1:w.cell? ⟨b,o+1,none⟩=some (.int .i64 x.sector)
 c2:w.cell? ⟨b,o+2,none⟩=some (.int .i64 x.keep)
 c3:w.cell? ⟨b,o+3,none⟩=some (.int .i64 x.torn)
def qf4 (w:World) (τ:qa1) (a:Option Addr) (l:List Fate):Prop:=∀k x,l[k]?=some x->∃b o,a=some ⟨b,o,none⟩/\τ b=qay/\qgo w b (o+k*4) x
theorem cell_kept {S:Tag->Prop}(m:Step w τ w' τ' S) {b o:Nat}{v:Value}(h:w.cell? ⟨b,o,none⟩=some v) (a:¬S (τ b)):w'.cell? ⟨b,o,none⟩=some v:=by
 have:=m.mod.block b (qb0 h) a
 unfold World.cell? at h ⊢
 rw[this];exact h
theorem qgo.step {S:Tag->Prop}(m:Step w τ w' τ' S) {b o:Nat}{x:Fate}(h:qgo w b o x) (a:¬S (τ b)):qgo w' b o x :=
 ⟨h.fb,cell_kept m h.c0 a,cell_kept m h.c1 a,cell_kept m h.c2 a,cell_kept m h.c3 a⟩
theorem qf4.step {S:Tag->Prop}(m:Step w τ w' τ' S) {a:Option Addr}{l:List Fate}(h:qf4 w τ a l) (e:¬S qay):qf4 w' τ' a l:=fun k x g=>by
 obtain⟨b,o,i,c,d⟩:=h k x g
 exact⟨b,o,i,(m.ext b (qb0 d.c0)).trans c,d.step m (by rw[c];exact e)⟩
theorem Jbl (x:Nat) (h:x<256):IntKind.i64.wrap (x:Int)=x:=by
 simp[IntKind.wrap,IntKind.bits,IntKind.signed];omega
theorem Je8(x:Fate) (d:x.file<256) {g h f i:Nat}(h1:w.cell? ⟨g,0,none⟩=some (.int .i64 f)) (h2:w.cell? ⟨h,0,none⟩=some (.int .i64 i)) :
 Calls Tryz.prog 58 #[qig x,.pointer (some ⟨g,0,none⟩),.pointer (some ⟨h,0,none⟩)] w fun e w'=>e = .returned (.bool (Fate.hits f i x))/\∀τ,Step w τ w' τ nil:=by
 have hl1:=qb0 h1
 have hl2:=qb0 h2
 have a:∀τ,Step w τ (w.alloc (.cells #[.int .u8 x.file,.int .i64 x.sector,.int .i64 x.keep,.int .i64 x.torn] 140)) τ nil:=fun τ=>(zS w τ).alloc' _
 have l:IntKind.i64.wrap (x.file:Int)=x.file:=Jbl _ d
 unfold qig Fate.hits
 obtain⟨j,n,xk,xt⟩:=x
 simp only at a l d
 have c:=Z2 a
 clear a
 by_cases k:j=f
 ·subst k
  by_cases o:n=(i:Int)
  ·subst o
   go_enter Tryz.func58,Tryz.ntmps58
   go_wp2_with fail
   go_ret
   exact⟨sM,c⟩
  ·go_enter Tryz.func58,Tryz.ntmps58
   go_wp2_with fail
   go_ret
   exact⟨by simp[],c⟩
 ·have e1':¬(j:Int)=f:=oM
  go_enter Tryz.func58,Tryz.ntmps58
  go_wp2_with fail
  go_ret
  exact⟨by simp[k],c⟩
def Jbw (w:World) (l:List Fate) (f i:Nat) (e:Ending) (w':World):Prop :=
 ((e = .returned (.int .i64 (-1))/\Qpr l f i=qia)\/∃k:Nat,e = .returned (.int .i64 k)/\l[k]?=some (Qpr l f i))/\∀τ,Step w τ w' τ nil
theorem Jbu {l:List Fate} {p:Fate->Bool} {k:Nat} {x:Fate}(d:l[k]?=some x) (e:p x=true) (c:∀(j:Nat) (y:Fate),j<k->l[j]?=some y->p y=false):l.find? p=some x:=by
 rw[List.find?_eq_some_iff_append]
 have hi:=(Z4 d).1
 have g:=(Z4 d).2
 refine⟨e,l.take k,l.drop (k+1),?_,fun a h=>?_⟩
 ·rw[<-g,List.getElem_cons_drop,List.take_append_drop]
 ·obtain⟨j,i,rfl⟩:=List.mem_iff_getElem.1 h
  rw[List.length_take] at i
  rw[List.getElem_take,c j l[j] oM (Z3 oM)]
  rfl
theorem Jbt {l:List Fate} {p:Fate->Bool}(a:∀(j:Nat) (y:Fate),l[j]?=some y->p y=false):l.find? p=none:=by
 rw[List.find?_eq_none]
 intro x c
 obtain⟨j,d,rfl⟩:=List.mem_iff_getElem.1 c
 rw[a j l[j] (Z3 d)];simp
theorem Jej {a:Option Addr} {l:List Fate} {len cap:Nat}(hl:l.length=len) (s:len<=maxLen) (h:∀k x,l[k]?=some x->∃b o,a=some ⟨b,o,none⟩/\qgo w b (o+k*4) x) {L M f i:Nat}(h1:w.cell? ⟨L,0,none⟩=some (.int .i64 f)) (h2:w.cell? ⟨M,0,none⟩=some (.int .i64 i)) :
 Calls Tryz.prog 57 #[.slice a len cap,.func (.func 58) #[] #[.pointer (some ⟨L,0,none⟩),.pointer (some ⟨M,0,none⟩)]] w (Jbw w l f i):=by
 have hbig:len<=9223372036854775807:=by unfold maxLen at s;omega
 obtain⟨G,O,H1,R⟩:=qb9 h hl h1 h2
 clear h hl h1 h2 s
 go_enter Tryz.func57,Tryz.ntmps57
 go_wp2_with fail
 go_loopw [8] (fun v wr=>∃k:Nat,k<=len/\v = .int .i64 k/\(∀τ,Step w τ wr τ nil)/\∀(j:Nat) (y:Fate),j<k->l[j]?=some y->Fate.hits f i y=false) (fun v _=>len-(intOf v).toNat)
 case atStart=>exact⟨0,Z9 _,rfl,fun τ=>Step.refl _ _ _,fun j y U=>oM⟩
 case round =>
  obtain⟨k,hk,rfl,c,d⟩:=hrel
  by_cases I:k<len
  ·obtain⟨x,D⟩:∃x,l[k]?=some x:=⟨_,Z3 (by rw[O.out];exact I)⟩
   obtain⟨b,o,rfl,hi⟩:=G k x D
   have g:=hi.step (c (fun _=>qay)) id
   have c0:=g.c0
   have c1:=g.c1
   have c2:=g.c2
   have c3:=g.c3
   have hkI:(k:Int)<len:=oM
   have r:=Je8 x hi.fb (cell_kept (c (fun _=>qay)) H1 id) (cell_kept (c (fun _=>qay)) R id)
   unfold qig at r
   cases hh:Fate.hits f i x with
   | true =>
     rw[hh] at r
     have n:Qpr l f i=x:=by unfold Qpr;rw[Jbu D hh d];rfl
     obtain⟨X,Y,Z,xt⟩:=x
     simp only at c0 c1 c2 c3 r
     obtain⟨J,p,Hx,B⟩:=qb9 r c D n
     clear r c D n hi g d hh
     go_wp2_with (go_at_call 58;refine J.mono ?_;rintro e w2 ⟨rfl,q⟩;have C:=Z2 q;clear q)
     go_returns
     exact⟨.inr ⟨k,rfl,by rw[B.out];exact Hx⟩,fun τ=>(p τ).trans (C τ)⟩
   | false =>
     rw[hh] at r
     have z:∀(j:Nat) (y:Fate),j<k+1->l[j]?=some y->Fate.hits f i y=false:=fun j y U E=>by
      by_cases e:j=k
      ·subst e
       rw[D] at E
       cases E
       exact hh
      ·exact d j y oM E
     obtain⟨X,Y,Z,xt⟩:=x
     simp only at c0 c1 c2 c3 r
     obtain⟨J,p⟩:=qaj r c
     have F:=Z2 z
     clear r c z hi g d hh D
     go_wp2_with (go_at_call 58;refine J.mono ?_;rintro e w2 ⟨rfl,q⟩;have C:=Z2 q;clear q)
     go_round
     case rel=>exact⟨k+1,oM,sM,fun τ=>(p τ).trans (C τ),F⟩
     case measure=>simp[intOf];omega
  ·obtain rfl:k=len:=oM
   have n:Qpr l f i=qia:=by
    unfold Qpr
    rw[Jbt (fun j y E=>d j y (by have:=(Z4 E).1;have:=O.out;omega) E)];rfl
   obtain⟨p,B⟩:=qaj c n
   clear c n d
   go_wp2_with fail
   go_returns
   exact⟨.inl ⟨rfl,B⟩,p⟩
theorem Qu3 {g:Tag} {a:Addr} {n c:Nat} {l:List Int}(h:Bytes w τ g (.slice (some a) n c) l) (d:Tag) (i:l.length<=100000000) :
 Calls Tryz.prog 72 #[.slice (some a) n c] w fun e w'=>∃u τ',e = .returned u/\NB w.heap.size w' τ' d u l/\Step w τ w' τ' nil:=by
 have hnil:=fun (W:World) (a:Option Addr) (n c:Nat)=>Lib.run_eql_slice_nil (P:=Tryz.prog) W 58 5 a n c 0 0 Tryz.underlying58
 have j:=(zS w τ).alloc (.cells #[] 5) d
 have o:NB w.heap.size (w.alloc (.cells #[] 5)) (τ.put w.heap.size d) d (.slice (some ⟨w.heap.size,0,none⟩) 0 0) [] :=
  ⟨⟨rfl,.inr ⟨w.heap.size,0,[],rfl,Own.new w τ d _ [],Z0 _,Z0 _,Z9 _⟩⟩,fun x E=>by simp at E,fun k F=>by
    have:w.heap.size=k:=by simpa [Value.ownBlock] using F
    omega⟩
 have p:=h.step ((zS w τ).alloc (.cells #[] 5) d) id
 have q:([]:List Int).length+l.length<=100000000000:=by simp;omega
 obtain⟨s,y,z,B⟩:=qb9 j o p q
 clear j o p q h i
 go_enter Tryz.func72,Tryz.ntmps72
 go_wp2_with (at_builtin;refine Qal s y z B rfl _ _ rfl rfl rfl ?_;intro v' w' τ' C D r;obtain⟨G,I,Hmo⟩:=qan C D r;clear C D r)
 go_ret
 exact⟨_,τ',rfl,G,I⟩
theorem Qzr {t:Nat} {n o:List Int}(hn:n.length=128) (ho:o.length=128):(qjv t n o).length=128:=by
 unfold qjv
 rw[Z6,List.length_take,List.length_drop];omega
theorem Jbi {t:Nat} {n o:List Int}(hn:IsB n) (a:IsB o):IsB (qjv t n o):=by
 intro x c
 rcases List.mem_append.1 c with h|h
 ·exact hn x (List.mem_of_mem_take h)
 ·exact a x (List.mem_of_mem_drop h)
theorem Jaq {t:Nat} {n o:List Int}(ys:List Value) (ht:t<=128) (hn:n.length=128) (ho:o.length=128):over (u8s o++ys) 0 (u8s (n.take t))=u8s (qjv t n o)++ys:=by
 unfold over qjv u8s
 simp only[List.take_zero,List.nil_append,Nat.zero_add,List.map_append,List.map_take,List.map_drop,Y0,List.length_take]
 rw[show min t n.length=t by omega,List.drop_append_of_le_length (by rw[Y0];omega),Y9]
theorem Own.sector {cap:Nat} {g:Tag} {l:List Int} {ys:List Value}(h:Own w τ b g 5 (u8s l++ys)) (hl:l.length=128) (c:IsB l) (hn:128<=cap) (hc:cap<=128+ys.length) (a:cap<=maxLen):Bytes w τ g (.slice (some ⟨b,0,none⟩) 128 cap) l:=by
 have:Buf w τ g 5 1 (.slice (some ⟨b,0,none⟩) 128 cap) 128 (u8s l):=⟨by rw[Qac,hl],.inr ⟨b,cap,ys,rfl,h,by rw[Qac,hl];omega,oM,a⟩⟩
 exact this.bytes c
theorem Jdz {f i bf:Nat} {xs:List Value} {s:Sec}(ho:Own w τ bf (qco f) 144 xs) (hs:qfd w τ f i xs s) (x:Fate) :
 Calls Tryz.prog 59 #[.pointer (some ⟨bf,i*2,none⟩),qig x] w fun e w'=>∃p c τ',e = .returned (.agg #[.slice p 128 c,.slice none 0 0])/\Bytes w' τ' qa2 (.slice p 128 c) (s.left x)/\(s.left x).length=128/\Step w τ w' τ' nil:=by
 unfold qig
 have k:=((zS w τ).alloc (.cells #[.int .u8 x.file,.int .i64 x.sector,.int .i64 x.keep,.int .i64 x.torn] 140) qay).alloc (.cells #[.slice none 0 0,.slice none 0 0] 144) qay
 have L:=(Own.born w τ qay 140 #[.int .u8 x.file,.int .i64 x.sector,.int .i64 x.keep,.int .i64 x.torn]).qbn (.cells #[.slice none 0 0,.slice none 0 0] 144) qay
 have a2:=Own.born (w.alloc (.cells #[.int .u8 x.file,.int .i64 x.sector,.int .i64 x.keep,.int .i64 x.torn] 140)) (τ.put w.heap.size qay) qay 144 #[.slice none 0 0,.slice none 0 0]
 simp only[World.size_alloc] at k L a2
 have M:=ho.step k id
 have ci:=hs.mod k.mod k.ext (fun _ _ _ h=>h) (fun _ _ _ h=>h)
 generalize (τ.put w.heap.size qay).put (w.heap.size+1) qay=τ1 at *
 obtain⟨⟨al,v0,cj,an⟩,⟨u0,b7,b8⟩⟩:=ci
 obtain⟨pw,cw,hu,b9,ao⟩:=b8.read
 obtain⟨n,hn⟩:=gN s.waits.length
 obtain⟨d,a3⟩:=gN (s.qhd x.keep)
 obtain⟨t,ht⟩:=gN (min x.torn.toNat 128)
 rw[hn] at hu b9
 subst hu
 have a4:d<=n:=by unfold Sec.qhd at a3;omega
 have q:s.left x=if d<n then qjv t (s.waits.getD d []) (s.base d) else s.base d:=by unfold Sec.left;rw[a3,hn,ht]
 have hk1:min (max x.keep 0) (n:Int)=d:=by unfold Sec.qhd at a3;omega
 have ht1:min (max x.torn 0) 128=(t:Int):=oM
 have ap:t<=128:=oM
 have htk:Int.toNat (t:Int)=t:=oM
 have c0:=M.at _ cj
 have c1:=M.at _ b7
 have f2:=L.at 2 rfl
 obtain⟨ab,cb,k1,B,hbl,D⟩:∃(ab:Addr) (cb k1:Nat),Bytes ((w.alloc (.cells #[.int .u8 x.file,.int .i64 x.sector,.int .i64 x.keep,.int .i64 x.torn] 140)).alloc (.cells #[.slice none 0 0,.slice none 0 0] 144)) τ1 qa2 (.slice (some ab) 128 cb) (s.base d)/\(s.base d).length=128 /\
  ((d=0/\v0 = .slice (some ab) 128 cb)\/(d=k1+1/\∃bq,pw=some ⟨bq,0,none⟩/\((w.alloc (.cells #[.int .u8 x.file,.int .i64 x.sector,.int .i64 x.keep,.int .i64 x.torn] 140)).alloc (.cells #[.slice none 0 0,.slice none 0 0] 144)).cell? ⟨bq,k1,none⟩=some (.slice (some ab) 128 cb))):=by
  have ba:∀(v:Value) (l:List Int),l.length=128->Bytes ((w.alloc (.cells #[.int .u8 x.file,.int .i64 x.sector,.int .i64 x.keep,.int .i64 x.torn] 140)).alloc (.cells #[.slice none 0 0,.slice none 0 0] 144)) τ1 qa2 v l->∃ab cb,v = .slice (some ab) 128 cb:=fun v l hl hb=>by
   obtain⟨p,c,rfl,h1,h2,hc⟩:=hb.is
   obtain⟨b,o,rfl,-⟩:=hc oM
   exact⟨_,c,by rw[hl]⟩
  by_cases h0:d=0
  ·obtain⟨ab,cb,rfl⟩:=ba _ _ al an
   have he:s.base d=s.last:=by unfold Sec.base;rw[if_pos h0]
   exact⟨ab,cb,0,by rw[he];exact an,by rw[he];exact al,.inl ⟨h0,rfl⟩⟩
  ·obtain⟨k1,rfl⟩:∃k1,d=k1+1:=⟨d-1,oM⟩
   have O:s.waits[k1]?=some (s.base (k1+1)):=by
    unfold Sec.base
    rw[if_neg h0,Nat.add_sub_cancel,Z5,Z3 oM];rfl
   obtain⟨e1,b,u,e2,e3,e4⟩:=ao k1 _ O
   obtain⟨ab,cb,rfl⟩:=ba _ _ e1 e4
   exact⟨ab,cb,k1,e4,e1,.inr ⟨rfl,b,e2,e3⟩⟩
 have j:d<n->∃bq am cm,pw=some ⟨bq,0,none⟩/\((w.alloc (.cells #[.int .u8 x.file,.int .i64 x.sector,.int .i64 x.keep,.int .i64 x.torn] 140)).alloc (.cells #[.slice none 0 0,.slice none 0 0] 144)).cell? ⟨bq,d,none⟩=some (.slice (some am) 128 cm)/\Bytes ((w.alloc (.cells #[.int .u8 x.file,.int .i64 x.sector,.int .i64 x.keep,.int .i64 x.torn] 140)).alloc (.cells #[.slice none 0 0,.slice none 0 0] 144)) τ1 qa2 (.slice (some am) 128 cm) (s.waits.getD d [])/\(s.waits.getD d []).length=128:=fun a5=>by
  have O:s.waits[d]?=some (s.waits.getD d []):=by
   rw[Z5,Z3 oM];rfl
  obtain⟨e1,b,u,e2,e3,e4⟩:=ao d _ O
  obtain⟨p,c,rfl,h1,h2,hc⟩:=e4.is
  obtain⟨bb,oo,rfl,-⟩:=hc oM
  rw[e1] at e3 e4
  exact⟨b,_,c,e2,e3,e4,e1⟩
 have hlow:w.heap.size<=w.heap.size+1:=oM
 obtain⟨bl,a6⟩:∃l,s.base d=l:=⟨_,rfl⟩
 obtain⟨ml,J⟩:=gN (s.waits.getD d [])
 rw[a6] at B hbl q
 rw[J] at j q
 obtain⟨R,hR⟩:=gN (s.left x)
 rw[hR] at q ⊢
 have HR:=Z2 q
 clear hR ao b8 an al hs ho q a3 J a6
 obtain⟨W1,ar⟩:=gN ((w.alloc (.cells #[.int .u8 x.file,.int .i64 x.sector,.int .i64 x.keep,.int .i64 x.torn] 140)).alloc (.cells #[.slice none 0 0,.slice none 0 0] 144))
 rw[ar] at k L a2 M c0 c1 f2 B D j
 obtain⟨a8,bg,bh,bi,U,E,bj⟩:=qdr k L a2 M B j ar
 clear k L a2 M B j ar
 go_enter Tryz.func59,Tryz.ntmps59
 go_wp2_with fail
 rw[bj.out]
 go_quiet (fail)
 have hq:=(zS W1 τ1).qcp nq
 have a9:=bg.step hq id
 have aa:=bh.step hq id
 have bk:=bi.step hq id
 have F:=U.step hq id
 have ac:=a8.trans hq
 have r:=fun a5=>E a5
 have hc:∀a,W1.cell? a=(W1.drewN nq).cell? a:=fun _=>rfl
 have hz:∀a,W1.frozen? a=(W1.drewN nq).frozen? a:=fun _=>rfl
 rw[hc] at c0 c1 f2
 simp only[hc] at D r
 have X:∀v l,Bytes W1 τ1 qa2 v l->Bytes (W1.drewN nq) τ1 qa2 v l:=fun v l hb=>hb.step hq id
 replace r:=fun a5=>(r a5).imp fun _ h=>h.imp fun _ h=>h.imp fun _ h=>And.intro h.1 (And.intro h.2.1 (And.intro (X _ _ h.2.2.1) h.2.2.2))
 clear hc hz X a8 bg bh bi U E hq bj
 generalize W1.drewN nq=W2 at *
 have bn:=Qu3 F qcs oM
 obtain⟨bo,ad,co,bp,aw,br⟩:=qcq a9 aa bk ac r bn
 clear a9 aa bk ac r bn F
 rcases D with ⟨D,rfl⟩|⟨D,bq,rfl,hcq⟩
 all_goals first
  | (have cp:¬(0:Int)<d:=by omega)
  | (have cp:(0:Int)<d:=by omega
     have hkq:(d:Int)-1=(k1:Int):=oM
     have hkw:IntKind.i64.wrap (k1:Int)=k1:=by
      have h1:n<=9223372036854775807:=by unfold maxLen at b9;omega
      simp[IntKind.wrap,IntKind.bits,IntKind.signed];omega
     have hkl:(k1:Int)<n:=oM)
 all_goals (have Hk0:=Z2 D;clear D)
 all_goals (
  go_wp2_with fail
  refine br.mono ?_
  rintro e w3 ⟨u3,Y,rfl,G,C⟩
  obtain⟨hx3,⟨rfl,hlb⟩|⟨I,g,ys,rfl,bs,ax,h43,bv⟩⟩:=G.buf
  ·omega
  have bw:=G.isB
  have hlow3:=G.low I rfl
  have z:=ad.step C id
  have ae:=co.step C id
  have af:=bo.step C id
  have ag:=bp.trans C
  have d1:=ae.at _ b7
  have e3:=af.at 3 rfl
  have y0:=z.at 0 rfl
  have y1:=z.at 1 rfl
  have zz0:=z.fz 0
  have zz1:=z.fz 1
  rw[hbl]
  rw[Qac,hbl,Nat.mul_one] at ax
  obtain⟨ah,Z,bz,c3⟩:=qb9 ag z bs bw
  clear G ag z ae af bs bw
  clear br)
 all_goals have hW2:=ad.lt
 all_goals (
  by_cases a4:d<n
  ·obtain⟨bm,am,cm,c4,cq,ay,J⟩:=aw a4
   rw[c4] at d1
   clear c4
   have c5:=cell_kept C cq id
   have ai:=(ay.step C id).step (zS w3 Y).drew id
   have c6:(d:Int)<n:=oM
   have c7:=bz.step (zS w3 Y).drew id
   have c8:=ah.drew
   have cr:w.heap.size<=I:=oM
   have aj:0+t<=(u8s bl++ys).length:=by rw[Z6,Qac,hbl];omega
   have c9:t=Nat.min ml.length t:=by rw[J];show t=min 128 t;omega
   have htc:t<=g:=oM
   have htcI:(t:Int)<=g:=oM
   obtain⟨cs,ct,ca,cc,cv,cd,cx⟩:=qdr c7 c8 ai aj c9 J ay
   clear c7 c8 ai aj c9 J ay C
   go_wp2_with fail
   refine Qaf (S:=fun w':World=>w'.cell? ⟨w.heap.size,3,none⟩=some (.int .i64 x.torn)/\w'.cell? ⟨bf,i*2+1,none⟩=some (.slice (some ⟨bm,0,none⟩) n cw)/\w'.cell? ⟨bm,d,none⟩=some (.slice (some am) 128 cm)) kR ?_
   have ce:w3.drew.cell? ⟨w.heap.size,3,none⟩=some (.int .i64 x.torn)/\w3.drew.cell? ⟨bf,i*2+1,none⟩=some (.slice (some ⟨bm,0,none⟩) n cw)/\w3.drew.cell? ⟨bm,d,none⟩=some (.slice (some am) 128 cm):=⟨e3,d1,c5⟩
   refine tk0 [0,1,2,3,4,5,6,7,8,9,10,11,12,13] ?_
   iterate 14
    refine tkv (v:=?_) ?_ ?_
    rotate_left
    ·intro w cy;(try dsimp only at cy);go_simp
     all_goals with_reducible rfl
    try simp only[Act.put,lz1,lz2,lz3]
   refine tk9 ?_
   refine Qst (i:=14) dK rfl (fun K hK=>?_)
   go_simp
   refine hK.out _ _ (fun _=>ce) ?_
   clear hK K ce
   refine Qst (i:=15) dK rfl (fun K hK=>?_)
   refine Qbb ct cs (.inr cr) ca t cv cc rfl _ _ rfl rfl rfl ?_
   intro w4 az cg ch
   rw[Jaq ys ap cd hbl] at az
   have y:=(Z.step (zS w3 Y).drew id).step ch dC
   have y30:=y.at 0 rfl
   have y31:=y.at 1 rfl
   have b0:=(y.set 0 (.slice (some ⟨I,0,none⟩) 128 g)).at 0 rfl
   have b1:=((y.set 0 (.slice (some ⟨I,0,none⟩) 128 g)).set 1 (.slice none 0 0)).at 1 rfl
   have z40:=y.fz 0
   have z41:=y.fz 1
   obtain⟨cz,d0⟩:=qaj az cg
   clear az cg y ch
   refine hK.out _ _ (fun h=>absurd h dK) ?_
   clear hK K
   refine Qad kR ?_ _
   go_wp2_with fail
   try simp only[Exit.inBlock,Exit.then]
   refine bodyPost_ret (by simp[results,Tryz.results59,go_sem,b0,b1];try rfl) rfl ?_
   have a0:=HR.out
   rw[if_pos a4] at a0
   rw[a0]
   have ak:=Qzr (t:=t) cd hbl
   refine⟨_,g,Y.put I qa2,rfl,?_,ak,?_⟩
   ·exact(((cz.retag qa2).qd1 (p:=⟨w.heap.size+1,0,none⟩) (by show I≠w.heap.size+1;omega) _).qd1 (p:=⟨w.heap.size+1,1,none⟩) (by show I≠w.heap.size+1;omega) _).sector ak (Jbi cx.isB c3) (oM) ax bv
   ·exact((d0.retag (b:=I) oM qa2).qa3 (b:=w.heap.size+1) (o:=0) oM _).qa3 (b:=w.heap.size+1) (o:=1) oM _
  ·have c6:¬(d:Int)<n:=oM
   have b0:=(Z.set 0 (.slice (some ⟨I,0,none⟩) 128 g)).at 0 rfl
   have b1:=((Z.set 0 (.slice (some ⟨I,0,none⟩) 128 g)).set 1 (.slice none 0 0)).at 1 rfl
   clear C
   go_wp2_with fail
   try simp only[Exit.inBlock,Exit.then]
   refine bodyPost_ret (by simp[results,Tryz.results59,go_sem,b0,b1];try rfl) rfl ?_
   have a0:=HR.out
   rw[if_neg a4] at a0
   rw[a0]
   refine⟨_,g,Y.put I qa2,rfl,?_,hbl,?_⟩
   ·exact(((bz.retag qa2).qd1 (p:=⟨w.heap.size+1,0,none⟩) (by show I≠w.heap.size+1;omega) _).qd1 (p:=⟨w.heap.size+1,1,none⟩) (by show I≠w.heap.size+1;omega) _).sector hbl c3 (oM) ax bv
   ·exact((ah.retag (b:=I) oM qa2).qa3 (b:=w.heap.size+1) (o:=0) oM _).qa3 (b:=w.heap.size+1) (o:=1) oM _)
def qdn (g:Tag):Prop:=g=qd0\/∃f,g=qco f
theorem qdn.fst {g:Tag}(h:qdn g):g.1=2\/g.1=3:=by
 rcases h with rfl|⟨f,rfl⟩
 ·exact .inl rfl
 ·exact .inr rfl
theorem qcz.qjo {D:Dev}(h:qcz w τ b D v0 v1) (f:Nat) (G:f<2) {bf n cap k:Nat}(hv:qew v0 v1 f = .slice (some ⟨bf,0,none⟩) n cap) {l:List Int}{s:Sec}(E:(D.file f)[k]?=some s) {v:Value}(I:Bytes w τ qa2 v l) (hl:l.length=128) :
 qcz ((w.setCell ⟨bf,k*2,none⟩ v).setCell ⟨bf,k*2+1,none⟩ (.slice none 0 0)) τ b (D.put f ((D.file f).set k ⟨l,[]⟩)) v0 v1/\Step w τ ((w.setCell ⟨bf,k*2,none⟩ v).setCell ⟨bf,k*2+1,none⟩ (.slice none 0 0)) τ qdn:=by
 obtain⟨p,cap',c,h1,h2,J⟩:=h.file f
 have x:=(Z4 E).1
 obtain⟨bf',xs,rfl,d,F⟩:=J oM
 rw[hv] at c
 cases c
 have L:Mod w (w.setCell ⟨bf,k*2,none⟩ v) (fun j=>j=bf):=Mod.one w bf (k*2) v
 have m:Mod w ((w.setCell ⟨bf,k*2,none⟩ v).setCell ⟨bf,k*2+1,none⟩ (.slice none 0 0)) (fun j=>j=bf):=L.setCell (p:=⟨bf,k*2+1,none⟩) (fun _=>rfl) (.slice none 0 0)
 have hd:∀i,i<w.heap.size->τ i=qa2->¬i=bf:=fun i _ g e=>by rw[e,d.tag] at g;simp[qco,qa2] at g
 obtain⟨⟨a0,u0,y,_⟩,⟨u1,z,_⟩⟩:=F k s E
 have l0:=(Z4 y).1
 have l1:=(Z4 z).1
 refine⟨h.put f G m (Ext.refl _ _) (fun j _ e=>by rw[e];exact .inl d.tag) _ ?_,m.mono (fun j _ e=>by rw[e,d.tag];exact .inr ⟨f,rfl⟩),Ext.refl _ _⟩
 rw[hv]
 refine⟨some ⟨bf,0,none⟩,cap,by rw[Y1],by rw[Y1];exact h1,by rw[Y1];exact h2,fun _=>⟨bf,_,rfl,(d.set (k*2) v).set (k*2+1) (.slice none 0 0),fun j t r=>?_⟩⟩
 by_cases o:j=k
 ·subst o
  rw[List.getElem?_set_self x] at r
  cases r
  refine⟨⟨hl,v,?_,I.mod m (Ext.refl _ _) hd⟩,⟨.slice none 0 0,?_,.inl ⟨rfl,rfl⟩⟩⟩
  ·rw[List.getElem?_set_ne oM,List.getElem?_set_self l0]
  ·rw[List.getElem?_set_self (by simpa using l1)]
 ·rw[List.getElem?_set_ne (fun e=>o e.symm)] at r
  have hi:=(F j t r).mod m (Ext.refl _ _) (fun i _ g e=>by rw[e,d.tag] at g;simp[qco,qbl] at g) hd
  obtain⟨⟨a,M,c,B⟩,⟨q,O,C⟩⟩:=hi
  refine⟨⟨a,M,?_,B⟩,⟨q,?_,C⟩⟩
  ·rw[List.getElem?_set_ne oM,List.getElem?_set_ne oM];exact c
  ·rw[List.getElem?_set_ne oM,List.getElem?_set_ne oM];exact O
theorem qcz.step {S:Tag->Prop} {D:Dev}(h:qcz w τ b D v0 v1) (m:Step w τ w' τ' S) (c:∀g,S g->¬qah g/\g≠qa2):qcz w' τ' b D v0 v1:=by
 obtain⟨pl,l,h0,h1,hl⟩:=h.is
 have hd:∀k,k<w.heap.size->τ k=qa2->¬S (τ k):=fun k _ e a=>(c _ a).2 e
 have d:∀g,qah g->∀k,k<w.heap.size->τ k=g->¬S (τ k):=fun g o k _ e a=>(c _ a).1 (e▸o)
 refine⟨pl,l.step m (fun a=>(c _ a).1 (.inl rfl)),h0.mod m.mod m.ext (d _ (.inr (.inl rfl))) (fun i=>d _ (.inr (.inr (.inr rfl)))) hd,h1.mod m.mod m.ext (d _ (.inr (.inl rfl))) (fun i=>d _ (.inr (.inr (.inr rfl)))) hd,?_⟩
 rcases hl with hl|⟨bl,n,p,hn,q,j⟩
 ·exact .inl hl
 ·exact .inr ⟨bl,n,p,hn,q,j.step m (fun a=>(c _ a).1 (.inr (.inr (.inl rfl))))⟩
def qbv:Tag:=(76,0)
theorem Jbr:∀g:Tag,g=qbv->¬qah g/\g≠qa2:=fun g a=>by
 subst a
 refine⟨fun h=>?_,dC⟩
 rcases h with h|h|h|h <;> cases h
theorem qcz.cell {D:Dev}(h:qcz w τ b D v0 v1) (f:Nat) (hf:f<2):∃t a,Own w τ b qd0 t a/\a[f]?=some (qew v0 v1 f):=by
 obtain⟨pl,c,-⟩:=h.is
 refine⟨_,_,c,?_⟩
 rcases (by omega:f=0\/f=1) with rfl|rfl <;> rfl
theorem qcz.free {D:Dev}(h:qcz w τ b D v0 v1) (l:List Fate) :
 qcz ((w.setCell ⟨b,2,none⟩ (.pointer none)).setCell ⟨b,3,none⟩ (.bool false)) τ b (D.qd7 l 0 0) v0 v1/\Step w τ ((w.setCell ⟨b,2,none⟩ (.pointer none)).setCell ⟨b,3,none⟩ (.bool false)) τ qdn:=by
 obtain⟨pl,c,h0,h1,hl⟩:=h.is
 rw[Dev.qhf]
 have d:Mod w (w.setCell ⟨b,2,none⟩ (.pointer none)) (fun j=>j=b):=Mod.one w b 2 _
 have m:Mod w ((w.setCell ⟨b,2,none⟩ (.pointer none)).setCell ⟨b,3,none⟩ (.bool false)) (fun j=>j=b):=d.setCell (p:=⟨b,3,none⟩) (fun _=>rfl) _
 have a:∀g,g≠qd0->∀i,i<w.heap.size->τ i=g->¬i=b:=fun g a i _ k e=>a (by rw[<-k,e,c.tag])
 refine⟨⟨.pointer none,(c.set 2 (.pointer none)).set 3 (.bool false),h0.mod m (Ext.refl _ _) (a _ (by simp[qco,qd0])) (fun i=>a _ (by simp[qbl,qd0])) (a _ (by simp[qa2,qd0])),h1.mod m (Ext.refl _ _) (a _ (by simp[qco,qd0])) (fun i=>a _ (by simp[qbl,qd0])) (a _ (by simp[qa2,qd0])),.inl ⟨rfl,rfl⟩⟩,m.mono (fun j _ e=>by rw[e,c.tag];exact .inl rfl),Ext.refl _ _⟩
theorem Jec {D:Dev}(h:qax w τ b D) {a:Option Addr}{l:List Fate}{len cap:Nat}(hl:l.length=len) (b0:len<=maxLen) (c5:qf4 w τ a l) :
 Calls Tryz.prog 18 #[.pointer (some ⟨b,0,none⟩),.slice a len cap] w fun e w'=>e = .returned (.tuple #[])/\∃τ',qax w' τ' b (D.crash l)/\Step w τ w' τ' qdn:=by
 obtain⟨v0,v1,ha⟩:=h.as
 obtain⟨pl,ho,-⟩:=id ha.is
 have c2:=ho.at 2 rfl
 have c3:=ho.at 3 rfl
 have z2:=ho.fz 2
 have z3:=ho.fz 3
 obtain⟨c8,q⟩:=ha.free l
 obtain⟨c9,E,d4,Hl,ca⟩:=qbq c8 q c5 hl b0
 clear ha c8 q c5 ho hl b0 h
 go_enter Tryz.func18,Tryz.ntmps18
 go_wp2_with fail
 generalize (w.setCell ⟨b,2,none⟩ (.pointer none)).setCell ⟨b,3,none⟩ (.bool false)=w1 at *
 go_loopw [14] (fun v wr=>∃(f:Nat) (R:qa1),f<=2/\v = .int .i64 f/\qcz wr R b (D.qd7 l f 0) v0 v1/\Step w τ wr R qdn) (fun v _=>2-(intOf v).toNat)
 case atStart=>exact⟨0,τ,oM,rfl,c9,E⟩
 case round =>
  clear c9 E c2 c3 z2 z3
  obtain⟨f,R,hf,rfl,hd,an⟩:=hrel
  by_cases p:f<2
  ·have hfI:(f:Int)<2:=oM
   have z:=(zS wr R).alloc (.cells #[.int .i64 f] 3) qay
   have ao:=Own.born wr R qay 3 #[.int .i64 f]
   have a5:=hd.step z zE
   have q:=an.trans z.nz
   obtain⟨bx,be⟩:=gN wr.heap.size
   rw[be] at ao a5 q
   generalize R.put bx qay=τ1 at *
   obtain⟨pf,n,hv,h1,h2,hp⟩:=a5.file f
   rw[Dev.qde D l f 0 p,Qlu] at hv h1 h2 hp
   obtain⟨tt,xx,F,j⟩:=a5.cell f p
   rw[hv] at j
   have cf:=F.at f j
   have cb:=ao.at 0 rfl
   obtain⟨nf,bg⟩:=gN ((D.file f).length)
   rw[bg] at hv j cf h1 h2
   obtain⟨cc,cd,E,Hv,ap,d5⟩:=qcq ao a5 q hv bg be
   clear ao a5 q hv hp F j bg be z hd an
   go_wp2_with fail
   rw[d5.out]
   generalize wr.alloc (.cells #[.int .i64 f] 3)=w2 at *
   go_quiet (fail)
   have aq:=(zS w2 τ1).qcp nq
   have b2:=cc.step aq id
   have ce:=cd.step aq zE
   have b3:=E.trans aq.nz
   generalize w2.drewN nq=w3 at *
   obtain⟨b4,cg,b5⟩:=qan b2 ce b3
   clear b2 ce b3 aq cc cd E cf cb
   go_wp2_with fail
   go_loopw [24] (fun v wq=>∃(i:Nat) (B:qa1),i<=nf/\v = .int .i64 i/\qcz wq B b (D.qd7 l f i) v0 v1/\Own wq B bx qay 3 [.int .i64 f]/\Step w τ wq B qdn) (fun v _=>nf-(intOf v).toNat)
   case atStart=>exact⟨0,τ1,Z9 _,rfl,cg,b4,b5⟩
   case round =>
    clear cg b4 b5
    obtain⟨i,B,hi,rfl,a6,b6,G⟩:=hrel
    by_cases hil:i<nf
    ·have z:=((zS wr B).alloc (.cells #[.int .i64 i] 3) qay).alloc (.cells #[.int .u8 0,.int .i64 0,.int .i64 0,.int .i64 0] 140) qbv
     have U:=(Own.born wr B qay 3 #[.int .i64 i]).qbn (.cells #[.int .u8 0,.int .i64 0,.int .i64 0,.int .i64 0] 140) qbv
     have a3:=Own.born (wr.alloc (.cells #[.int .i64 i] 3)) (B.put wr.heap.size qay) qbv 140 #[.int .u8 0,.int .i64 0,.int .i64 0,.int .i64 0]
     simp only[World.size_alloc] at z U a3
     have a7:=a6.step z zE
     have r:=b6.step z id
     have y:=G.trans z.nz
     obtain⟨bi,a8⟩:∃bi,wr.heap.size=bi:=⟨_,rfl⟩
     obtain⟨d,a9⟩:∃d,wr.heap.size+1=d:=⟨_,rfl⟩
     rw[a9] at a7 r y a3 U
     rw[a8] at a7 r y a3 U
     generalize (B.put bi qay).put d qbv=aa at *
     obtain⟨w4,bh⟩:=gN ((wr.alloc (.cells #[.int .i64 i] 3)).alloc (.cells #[.int .u8 0,.int .i64 0,.int .i64 0,.int .i64 0] 140))
     rw[bh] at a7 r y a3 U
     have ab:=d4.step y (fun h=>by have:=h.fst;rcases this with h|h <;> cases h)
     have ch:=Jej (cap:=cap) Hl ca (fun k x hx=>by obtain⟨b,o,e1,-,e3⟩:=ab k x hx;exact⟨b,o,e1,e3⟩) (r.at 0 rfl) (U.at 0 rfl)
     obtain⟨x,hx⟩:=gN (Qpr l f i)
     obtain⟨d7,ci,cj,d8,d9,da,ck,db,Hx⟩:=qgw a7 r y a3 U bh ab ch hx
     have cm:=Z2 a8
     have b7:=Z2 a9
     clear a7 r y a3 U bh ab ch hx a8 a9
     have a1:w.heap.size<=d:=by have:=G.size;have:=b7.out;omega
     clear z a6 b6 G
     go_wp2_with fail
     rw[b7.out,cm.out,da.out]
     refine db.mono ?_
     rintro e w5 ⟨C,bj⟩
     have g:=bj aa
     have ac:=d7.step g zE
     have I:=ci.step g id
     have J:=d9.step g id
     have c:=d8.step g id
     have L:=cj.trans g.nz
     have ad:=ck.step g id
     rw[Hx.out] at C
     refine Or.elim C ?c1 ?c2
     case' c1 =>
      rintro⟨rfl,cn⟩
      have X:Own w5 aa d qbv 140 [.int .u8 x.file,.int .i64 x.sector,.int .i64 x.keep,.int .i64 x.torn]:=by rw[cn];exact c
      obtain⟨w6,Y⟩:=gN w5
      rw[Y] at ac I J L X
      obtain⟨ar,ae,af,b8,a4,bk⟩:=qcq ac I J L X Y
      clear ac I J L X c ad cn bj g Y C
      go_wp2_with fail
      rw[bk.out]
     case' c2 =>
      rintro⟨k,rfl,hk⟩
      obtain⟨bl,ol,rfl,-,hF⟩:=ad k x hk
      have g0:=hF.c0
      have g1:=hF.c1
      have g2:=hF.c2
      have g3:=hF.c3
      have q0:=c.at 0 rfl
      have q1:=c.at 1 rfl
      have q2:=c.at 2 rfl
      have q3:=c.at 3 rfl
      have y0:=c.fz 0
      have y1:=c.fz 1
      have y2:=c.fz 2
      have y3:=c.fz 3
      have hkl:(k:Int)<len:=by
       have:=(Z4 hk).1
       have:=Hl.out
       omega
      have X:=(((c.set 0 (.int .u8 x.file)).set 1 (.int .i64 x.sector)).set 2 (.int .i64 x.keep)).set 3 (.int .i64 x.torn)
      have av:=((((Step.refl w5 aa (fun t=>t=qbv)).set (b:=d) (o:=0) c.tag rfl (.int .u8 x.file)).set (b:=d) (o:=1) c.tag rfl (.int .i64 x.sector)).set (b:=d) (o:=2) c.tag rfl (.int .i64 x.keep)).set (b:=d) (o:=3) c.tag rfl (.int .i64 x.torn)
      have ag:=(((L.qa3 (b:=d) (o:=0) a1 (.int .u8 x.file)).qa3 (b:=d) (o:=1) a1 (.int .i64 x.sector)).qa3 (b:=d) (o:=2) a1 (.int .i64 x.keep)).qa3 (b:=d) (o:=3) a1 (.int .i64 x.torn)
      have bm:=ac.step av Jbr
      have ah:=I.step av dC
      have ai:=J.step av dC
      obtain⟨w6,Y⟩:=gN ((((w5.setCell ⟨d,0,none⟩ (.int .u8 x.file)).setCell ⟨d,1,none⟩ (.int .i64 x.sector)).setCell ⟨d,2,none⟩ (.int .i64 x.keep)).setCell ⟨d,3,none⟩ (.int .i64 x.torn))
      rw[Y] at bm ah ai ag X
      obtain⟨ar,ae,af,b8,a4,bk⟩:=qcq bm ah ai ag X Y
      clear bm ah ai ag X Y ac I J c L ad hk hF bj g av C
      go_wp2_with fail
      rw[bk.out]
     all_goals (
      obtain⟨pf6,n6,aw,dd,de,bn⟩:=ar.file f
      rw[Dev.qde D l f i p,Qlu,ap.out] at aw
      rw[Dev.qde D l f i p,Qlu] at bn
      obtain⟨bf,xs,rfl,aj,Z⟩:=bn (by have:=ap.out;omega)
      obtain⟨sc,bo⟩:∃sc,(D.file f)[i]?=some sc:=⟨_,Z3 (by have:=ap.out;omega)⟩
      have a2:(Qbk l f i (D.file f))[i]?=some sc:=by rw[Qdi,bo];simp
      have ay:=(zS w6 aa).drew
      have bp:=Jdz (aj.step ay id) ((Z i sc a2).mod ay.mod ay.ext (fun _ _ _ h=>h) (fun _ _ _ h=>h)) x
      unfold qig at bp
      obtain⟨⟨-,u0,cp,-⟩,⟨u1,cq,-⟩⟩:=Z i sc a2
      obtain⟨tt,xx,F,j⟩:=ar.cell f p
      rw[aw] at j
      have ak:w6.drew.cell? ⟨bx,0,none⟩=some (.int .i64 f)/\w6.drew.cell? ⟨bi,0,none⟩=some (.int .i64 i)/\w6.drew.cell? ⟨b,f,none⟩=some (.slice (some ⟨bf,0,none⟩) nf n6)/\w6.drew.cell? ⟨d,0,none⟩=some (.int .u8 x.file)/\w6.drew.cell? ⟨d,1,none⟩=some (.int .i64 x.sector)/\w6.drew.cell? ⟨d,2,none⟩=some (.int .i64 x.keep)/\w6.drew.cell? ⟨d,3,none⟩=some (.int .i64 x.torn) :=
       ⟨ae.at 0 rfl,af.at 0 rfl,F.at f j,a4.at 0 rfl,a4.at 1 rfl,a4.at 2 rfl,a4.at 3 rfl⟩
      have hkI:(i:Int)<nf:=oM
      obtain⟨df,cr,cs,dh,ct,di,dj⟩:=qdr bp a2 aw bo aj cp cq
      clear bp a2 aw bo aj cp cq Z bn F j dd de ay
      refine Qaf (S:=fun w':World=>w'.cell? ⟨bx,0,none⟩=some (.int .i64 f)/\w'.cell? ⟨bi,0,none⟩=some (.int .i64 i)/\w'.cell? ⟨b,f,none⟩=some (.slice (some ⟨bf,0,none⟩) nf n6)/\w'.cell? ⟨d,0,none⟩=some (.int .u8 x.file)/\w'.cell? ⟨d,1,none⟩=some (.int .i64 x.sector)/\w'.cell? ⟨d,2,none⟩=some (.int .i64 x.keep)/\w'.cell? ⟨d,3,none⟩=some (.int .i64 x.torn)) kR ?_
      refine tk0 [0,1,2,3,4,5,6,7,8,9,10,11,12,13,14,15] ?_
      iterate 16
       refine tkv (v:=?_) ?_ ?_
       rotate_left
       ·intro w dk;(try dsimp only at dk);go_simp
        all_goals with_reducible rfl
       try simp only[Act.put,lz1,lz2,lz3]
      refine tk9 ?_
      clear ak
      refine Qst (i:=16) dK rfl (fun K hK=>?_)
      go_simp
      go_at_call 59
      refine df.mono ?_
      rintro e w7 ⟨p7,c7,dl,rfl,cv,dm,cw⟩
      have a0:=(zS w6 aa).drew.trans cw
      have br:=ar.step a0 zE
      have al:=ae.step a0 id
      have ba:=af.step a0 id
      have M:=a4.step a0 id
      have O:=ct.step a0 id
      have bb:=b8.trans a0.nz
      obtain⟨tt,xx,F,j⟩:=br.cell f p
      rw[cs.out] at j
      have ak:w7.cell? ⟨bx,0,none⟩=some (.int .i64 f)/\w7.cell? ⟨bi,0,none⟩=some (.int .i64 i)/\w7.cell? ⟨b,f,none⟩=some (.slice (some ⟨bf,0,none⟩) nf n6)/\w7.cell? ⟨d,0,none⟩=some (.int .u8 x.file)/\w7.cell? ⟨d,1,none⟩=some (.int .i64 x.sector)/\w7.cell? ⟨d,2,none⟩=some (.int .i64 x.keep)/\w7.cell? ⟨d,3,none⟩=some (.int .i64 x.torn) :=
       ⟨al.at 0 rfl,ba.at 0 rfl,F.at f j,M.at 0 rfl,M.at 1 rfl,M.at 2 rfl,M.at 3 rfl⟩
      have r0:=O.at _ di
      have r1:=O.at _ dj
      have rz0:=O.fz (i*2)
      have rz1:=O.fz (i*2+1)
      obtain⟨az,bs⟩:=br.qjo f p cs (k:=i) (s:=sc) (by rw[Dev.qde D l f i p];exact cr) cv dm
      have bc:=bb.trans bs
      have bd:=al.step bs (fun h=>by have:=h.fst;rcases this with h|h <;> cases h)
      have bv:=Qx6 l f i (D.file f) sc dh
      rw[Hx.out] at bv
      have bw:=Dev.qi1 D l f i p
      rw[bv] at bw
      rw[Dev.qde D l f i p] at az
      have cx:(⟨sc.left x,[]⟩:Sec)=sc.crash x:=rfl
      rw[cx,bw] at az
      obtain⟨dn,cy,cz⟩:=qan az bc bd
      clear az bc bd cw a0 br al ba M O bb F j bs bv bw cx cv
      refine hK.out _ _ (fun _=>ak) ?_
      clear hK K
      refine Qst (i:=17) dK rfl (fun K hK=>?_)
      go_simp
      refine hK.out _ _ (fun _=>ak) ?_
      clear hK K
      refine Qst (i:=18) dK rfl (fun K hK=>?_)
      go_simp
      refine hK.out _ _ (fun h=>absurd h dK) ?_
      clear hK K ak
      refine Qad kR ?_ _
      go_wp2_with fail
      go_round
      case rel=>exact⟨i+1,dl,oM,sM,dn,cz,cy⟩
      case measure=>simp[intOf];omega)
    ·obtain rfl:i=nf:=oM
     have hn:=Dev.qhg D l f p
     rw[ap.out] at hn
     rw[hn] at a6
     obtain⟨dp,d0⟩:=qaj a6 G
     clear a6 G
     go_wp2_with fail
     go_round
     case rel=>exact⟨f+1,B,oM,sM,dp,d0⟩
     case measure=>simp[intOf];omega
  ·obtain rfl:f=2:=oM
   obtain⟨Hd,dq⟩:=qaj hd an
   clear hd an
   go_wp2_with fail
   go_returns
   exact⟨rfl,R,Hd.at,dq⟩
