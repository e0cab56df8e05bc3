/-
 The device in plain Lean,and how it lies in memory.
-/
import Derived.Test.YtociicnopccppaaGreatMem
import Derived.WalkSpells
import Derived.Deep.AppendLies
import Derived.Deep.RegionLaw
import Derived.Handy
import Derived.Deep.Cut
set_option linter.all false
namespace Go.Proofs.YtociicnopccppaaGreat
variable {b bd bf f k n row:Nat}{g:Tag}{v v0 v1:Value}{w w' w0 wr:World}{τ τ' τ0:qa1}
open Go.RowKit
structure Sec where
 last:List Int
 waits:List (List Int)
structure Dev where
 f0:List Sec
 f1:List Sec
 left:Option Nat
 halted:Bool
def Sec.newest (s:Sec):List Int:=s.waits.getLastD s.last
def Dev.file (D:Dev) (f:Nat):List Sec:=if f=0 then D.f0 else if f=1 then D.f1 else []
def Dev.put (D:Dev) (f:Nat) (l:List Sec):Dev:=if f=0 then {D with f0:=l} else if f=1 then {D with f1:=l} else D
def Dev.go (D:Dev):Bool×Dev :=
 match D.left with
 | none=>(true,D)
 | some 0=>(false,{D with halted:=true})
 | some (n+1)=>(true,{D with left:=some n})
def qd0:Tag:=(2,0)
def qco (f:Nat):Tag:=(3,f)
def qcj:Tag:=(4,0)
def qbl (f i:Nat):Tag:=(5,2*i+f)
def qah (g:Tag):Prop:=g.1=2\/g.1=3\/g.1=4\/g.1=5
def qcv (w:World) (τ:qa1) (g:Tag) (v:Value) (l:List (List Int)):Prop :=
 (v = .slice none 0 0/\l=[]) \/
 ∃b cap xs ys,v = .slice (some ⟨b,0,none⟩) l.length cap/\Own w τ b g 58 (xs++ys)/\xs.length=l.length/\(l.length<=cap/\cap<=xs.length+ys.length)/\cap<=maxLen /\
   ∀(k:Nat) (x:List Int),l[k]?=some x->x.length=128/\∃u,xs[k]?=some u/\Bytes w τ qa2 u x
structure qfd (w:World) (τ:qa1) (f i:Nat) (xs:List Value) (s:Sec):Prop where
 last:s.last.length=128/\∃v,xs[i*2]?=some v/\Bytes w τ qa2 v s.last
 waits:∃v,xs[i*2+1]?=some v/\qcv w τ (qbl f i) v s.waits
def File (w:World) (τ:qa1) (f:Nat) (v:Value) (l:List Sec):Prop :=
 ∃p cap,v = .slice p l.length cap/\l.length<=cap/\l.length<=4096/\(0<l.length->∃b xs,p=some ⟨b,0,none⟩/\Own w τ b (qco f) 144 xs/\∀(i:Nat) (s:Sec),l[i]?=some s->qfd w τ f i xs s)
structure qax (w:World) (τ:qa1) (b:Nat) (D:Dev):Prop where
 is:∃v0 v1 pl,Own w τ b qd0 138 [v0,v1,pl,.bool D.halted]/\File w τ 0 v0 D.f0/\File w τ 1 v1 D.f1 /\
  ((pl = .pointer none/\D.left=none)\/∃bl n,pl = .pointer (some ⟨bl,0,none⟩)/\D.left=some n/\n<=maxLen/\Own w τ bl qcj 3 [.int .i64 n])
theorem qcv.mod {l:List (List Int)}(h:qcv w τ g v l) {S:Nat->Prop}(m:Mod w w' S) (e:Ext w τ τ')
 (d:∀k,k<w.heap.size->τ k=g->¬S k) (hd:∀k,k<w.heap.size->τ k=qa2->¬S k):qcv w' τ' g v l:=by
 rcases h with h|⟨b,cap,xs,ys,hv,c,h1,h2,i,j⟩
 ·exact .inl h
 ·refine .inr ⟨b,cap,xs,ys,hv,c.mod m e (d b c.lt c.tag),h1,h2,i,fun k x o=>?_⟩
  obtain⟨a,u,p,q⟩:=j k x o
  exact⟨a,u,p,q.mod m e hd⟩
theorem qfd.mod {i:Nat} {c:List Value} {s:Sec}(h:qfd w τ f i c s) {S:Nat->Prop}(m:Mod w w' S) (e:Ext w τ τ')
 (d:∀k,k<w.heap.size->τ k=qbl f i->¬S k) (hd:∀k,k<w.heap.size->τ k=qa2->¬S k):qfd w' τ' f i c s:=by
 obtain⟨⟨a,v,hv,j⟩,⟨u,l,o⟩⟩:=h
 exact⟨⟨a,v,hv,j.mod m e hd⟩,⟨u,l,o.mod m e d hd⟩⟩
theorem File.mod {l:List Sec}(h:File w τ f v l) {S:Nat->Prop}(m:Mod w w' S) (e:Ext w τ τ')
 (c:∀k,k<w.heap.size->τ k=qco f->¬S k) (d:∀i k,k<w.heap.size->τ k=qbl f i->¬S k) (hd:∀k,k<w.heap.size->τ k=qa2->¬S k):File w' τ' f v l:=by
 obtain⟨p,cap,hv,h1,h2,j⟩:=h
 refine⟨p,cap,hv,h1,h2,fun hl=>?_⟩
 obtain⟨b,o,q,a,r⟩:=j hl
 exact⟨b,o,q,a.mod m e (c b a.lt a.tag),fun i s hi=>(r i s hi).mod m e (d i) hd⟩
theorem qax.mod {D:Dev}(h:qax w τ b D) {S:Nat->Prop}(m:Mod w w' S) (e:Ext w τ τ')
 (p:∀k,k<w.heap.size->S k->¬qah (τ k)/\τ k≠qa2):qax w' τ' b D:=by
 obtain⟨v0,v1,pl,d,h0,h1,hl⟩:=h.is
 have hd:∀k,k<w.heap.size->τ k=qa2->¬S k:=fun k j l o=>(p k j o).2 l
 have c:∀g,qah g->∀k,k<w.heap.size->τ k=g->¬S k:=fun g q k j l o=>(p k j o).1 (l▸q)
 refine⟨v0,v1,pl,d.mod m e (c qd0 (by simp[qah,qd0]) _ d.lt d.tag),h0.mod m e (c _ (by simp[qah,qco])) (fun i=>c _ (by simp[qah,qbl])) hd,
  h1.mod m e (c _ (by simp[qah,qco])) (fun i=>c _ (by simp[qah,qbl])) hd,?_⟩
 rcases hl with hl|⟨bl,n,r,hn,s,a⟩
 ·exact .inl hl
 ·exact .inr ⟨bl,n,r,hn,s,a.mod m e (c _ (by simp[qah,qcj]) _ a.lt a.tag)⟩
structure qcz (w:World) (τ:qa1) (b:Nat) (D:Dev) (v0 v1:Value):Prop where
 is:∃pl,Own w τ b qd0 138 [v0,v1,pl,.bool D.halted]/\File w τ 0 v0 D.f0/\File w τ 1 v1 D.f1 /\
  ((pl = .pointer none/\D.left=none)\/∃bl n,pl = .pointer (some ⟨bl,0,none⟩)/\D.left=some n/\n<=maxLen/\Own w τ bl qcj 3 [.int .i64 n])
theorem qcz.at {D:Dev}(h:qcz w τ b D v0 v1):qax w τ b D:=by
 obtain⟨pl,h⟩:=h.is
 exact⟨v0,v1,pl,h⟩
theorem qax.as {D:Dev}(h:qax w τ b D):∃v0 v1,qcz w τ b D v0 v1:=by
 obtain⟨v0,v1,pl,h⟩:=h.is
 exact⟨v0,v1,pl,h⟩
def qew (v0 v1:Value) (f:Nat):Value:=if f=0 then v0 else if f=1 then v1 else .slice none 0 0
theorem qcz.file {D:Dev}(h:qcz w τ b D v0 v1) (f:Nat):File w τ f (qew v0 v1 f) (D.file f):=by
 obtain⟨pl,_,h0,h1,_⟩:=h.is
 unfold qew Dev.file
 by_cases a:f=0
 ·subst a;simpa using h0
 by_cases c:f=1
 ·subst c;simpa using h1
 ·simp only[a,c,if_false]
  exact⟨none,0,rfl,Z0 _,sM,fun d=>by simp at d⟩
def Ql2 (f:Nat) (g:Tag):Prop:=g=qco f\/∃i,g=qbl f i
theorem qcz.put {D:Dev}(h:qcz w τ b D v0 v1) (f:Nat) (hf:f<2) {S:Nat->Prop}(m:Mod w w' S) (e:Ext w τ τ')
 (r:∀k,k<w.heap.size->S k->Ql2 f (τ k)) (l:List Sec) (hl:File w' τ' f (qew v0 v1 f) l):qcz w' τ' b (D.put f l) v0 v1:=by
 obtain⟨pl,q,h0,h1,d⟩:=h.is
 have a:∀g,¬Ql2 f g->∀k,k<w.heap.size->τ k=g->¬S k:=fun g s k x y z=>s (y▸r k x z)
 have hd:¬Ql2 f qa2:=by rintro(h|⟨i,h⟩) <;> simp[qa2,qco,qbl] at h
 have o:=q.mod m e (a qd0 (by rintro(h|⟨i,h⟩) <;> simp[qd0,qco,qbl] at h) _ q.lt q.tag)
 have p:(pl = .pointer none/\D.left=none)\/∃bl n,pl = .pointer (some ⟨bl,0,none⟩)/\D.left=some n/\n<=maxLen/\Own w' τ' bl qcj 3 [.int .i64 n]:=by
  rcases d with d|⟨bl,n,d,hn,B,c⟩
  ·exact .inl d
  ·exact .inr ⟨bl,n,d,hn,B,c.mod m e (a _ (by rintro(h|⟨i,h⟩) <;> simp[qcj,qco,qbl] at h) _ c.lt c.tag)⟩
 by_cases C:f=0
 ·subst C
  refine⟨pl,by simpa [Dev.put] using o,by simpa [Dev.put,qew] using hl,?_,by simpa [Dev.put] using p⟩
  have:=h1.mod m e (a _ (by rintro(h|⟨i,h⟩) <;> simp[qco,qbl] at h)) (fun i=>a _ (by rintro(h|⟨j,h⟩) <;> simp[qco,qbl] at h;omega)) (a _ hd)
  simpa [Dev.put] using this
 ·have E:f=1:=oM
  subst E
  refine⟨pl,by simpa [Dev.put] using o,?_,by simpa [Dev.put,qew] using hl,by simpa [Dev.put] using p⟩
  have:=h0.mod m e (a _ (by rintro(h|⟨i,h⟩) <;> simp[qco,qbl] at h)) (fun i=>a _ (by rintro(h|⟨j,h⟩) <;> simp[qco,qbl] at h;omega)) (a _ hd)
  simpa [Dev.put] using this
theorem Qoe {D:Dev}(h:qax w τ b D) (f:Nat) (hf:f<256) :
 ∃v,(Calls Tryz.prog 73 #[.pointer (some ⟨b,0,none⟩),.int .u8 f] w fun e w'=>e = .returned v/\w=w')/\File w τ f v (D.file f):=by
 obtain⟨v0,v1,pl,a,h0,h1,hl⟩:=h.is
 have c0:=a.at 0 rfl
 have c1:=a.at 1 rfl
 by_cases c:f=0
 ·subst c
  refine⟨v0,?_,h0⟩
  clear h0 h1 hl a
  show Calls Tryz.prog 73 #[.pointer (some ⟨b,0,none⟩),.int .u8 0] w _
  go_enter Tryz.func73,Tryz.ntmps73
  go_wp2
  go_ret
  exact⟨rfl,rfl⟩
 by_cases d:f=1
 ·subst d
  refine⟨v1,?_,h1⟩
  clear h0 h1 hl a
  show Calls Tryz.prog 73 #[.pointer (some ⟨b,0,none⟩),.int .u8 1] w _
  go_enter Tryz.func73,Tryz.ntmps73
  go_wp2
  go_ret
  exact⟨rfl,rfl⟩
 ·have i:D.file f=[]:=by simp[Dev.file,c,d]
  rw[i]
  refine⟨.slice none 0 0,?_,none,0,rfl,Z0 _,sM,fun j=>by simp at j⟩
  have hge:decide ((2:Int)<=f)=true:=by simp;omega
  clear h0 h1 hl a i c d
  go_enter Tryz.func73,Tryz.ntmps73
  go_wp2
  go_ret
  exact⟨rfl,rfl⟩
def Ja8 (w:World) (τ:qa1) (f:Nat) (l:List Sec) (i:Int) (v:Value):Prop :=
 ((i<0\/(l.length:Int)<=i)/\v = .pointer none) \/
 ∃(k bf:Nat) (xs:List Value) (s:Sec),i=(k:Int)/\l[k]?=some s/\v = .pointer (some ⟨bf,k*2,none⟩)/\Own w τ bf (qco f) 144 xs/\(∀j t,l[j]?=some t->qfd w τ f j xs t)
theorem Ja2 {D:Dev}(h:qax w τ b D) (f:Nat) (q:f<256) (i:Int) :
 ∃v,(Calls Tryz.prog 102 #[.pointer (some ⟨b,0,none⟩),.int .u8 f,.int .i64 i] w fun e w'=>e = .returned v/\w=w')/\Ja8 w τ f (D.file f) i v:=by
 obtain⟨v,j,p,cap,rfl,h1,h2,c⟩:=Qoe h f q
 have d:=Z2 j
 clear j h
 by_cases a:0<=i/\i<((D.file f).length:Int)
 ·obtain⟨k,rfl⟩:=Int.eq_ofNat_of_zero_le a.1
  have r:k<(D.file f).length:=oM
  obtain⟨bf,s,rfl,l,o⟩:=c oM
  refine⟨.pointer (some ⟨bf,k*2,none⟩),?_,.inr ⟨k,bf,s,(D.file f)[k],rfl,Z3 r,rfl,l,o⟩⟩
  generalize (D.file f).length=n at *
  have x:decide ((n:Int)<=k)=false:=by simp;omega
  clear l o c a
  go_enter Tryz.func102,Tryz.ntmps102
  go_wp2_with fail
  refine zC d ?_
  go_wp2_with fail
  go_ret
  exact⟨rfl,rfl⟩
 ·refine⟨.pointer none,?_,.inl ⟨oM,rfl⟩⟩
  generalize (D.file f).length=n at *
  clear c
  by_cases h0:i<0
  ·clear a
   go_enter Tryz.func102,Tryz.ntmps102
   go_wp2_with fail
   refine zC d ?_
   go_wp2_with fail
   go_ret
   exact⟨rfl,rfl⟩
  ·have a0:decide (i<0)=false:=by simp;omega
   have x:decide ((n:Int)<=i)=true:=by simp;omega
   clear a
   go_enter Tryz.func102,Tryz.ntmps102
   go_wp2_with fail
   refine zC d ?_
   go_wp2_with fail
   go_ret
   exact⟨rfl,rfl⟩
theorem Qjs {D:Dev}(h:qax w τ b D) (f:Nat) (c:f<256) :
 Calls Tryz.prog 77 #[.pointer (some ⟨b,0,none⟩),.int .u8 f] w fun e w'=>e = .returned (.int .i64 ((D.file f).length:Int))/\w=w':=by
 obtain⟨v,a,p,cap,rfl,h1,h2,d⟩:=Qoe h f c
 have i:=Z2 a
 clear a h d
 go_enter Tryz.func77,Tryz.ntmps77
 go_wp2_with fail
 refine zC i ?_
 go_wp2_with fail
 go_ret
 exact⟨rfl,rfl⟩
theorem Qtn {D:Dev}(h:qax w τ b D) :
 Calls Tryz.prog 40 #[.pointer (some ⟨b,0,none⟩)] w fun e w'=>e = .returned (.bool D.halted)/\w=w':=by
 obtain⟨v0,v1,pl,a,h0,h1,hl⟩:=h.is
 have c3:=a.at 3 rfl
 clear h a h0 h1 hl
 go_enter Tryz.func40,Tryz.ntmps40
 go_wp2
 go_ret
 exact⟨rfl,rfl⟩
theorem Qre {D:Dev}(h:qcz w τ b D v0 v1) :
 Calls Tryz.prog 103 #[.pointer (some ⟨b,0,none⟩)] w fun e w'=>e = .returned (.bool D.go.1)/\qcz w' τ b D.go.2 v0 v1/\Mod w w' (fun k=>τ k=qd0\/τ k=qcj)/\w'.heap.size=w.heap.size:=by
 obtain⟨pl,d,h0,h1,hl⟩:=h.is
 have c2:=d.at 2 rfl
 have c3:=d.at 3 rfl
 have f3:=d.fz 3
 rcases hl with ⟨rfl,hn⟩|⟨bl,n,rfl,hn,s,a⟩
 ·have j:D.go=(true,D):=by simp[Dev.go,hn]
  rw[j]
  clear j d h0 h1 hn
  go_enter Tryz.func103,Tryz.ntmps103
  go_wp2
  go_ret
  exact⟨rfl,h,Mod.refl _ _,rfl⟩
 ·have o:b≠bl:=d.ne a (by simp[qd0,qcj])
  have cl:=a.at 0 rfl
  have fl:=a.fz 0
  cases n with
  | zero =>
    have j:D.go=(false,{D with halted:=true}):=by simp[Dev.go,hn]
    rw[j]
    have p:Mod w (w.setCell ⟨b,3,none⟩ (.bool true)) (fun k=>τ k=qd0\/τ k=qcj):=(Mod.refl _ _).setCell (fun _=>.inl d.tag) _
    have hd:qcz (w.setCell ⟨b,3,none⟩ (.bool true)) τ b {D with halted:=true} v0 v1:=by
     have l:Mod w (w.setCell ⟨b,3,none⟩ (.bool true)) (fun k=>k=b):=Mod.one _ _ _ _
     have c:∀g,g≠qd0->∀k,k<w.heap.size->τ k=g->¬k=b:=fun g q k _ r e=>q (by rw[<-r,e,d.tag])
     refine⟨.pointer (some ⟨bl,0,none⟩),d.set 3 _,h0.mod l (Ext.refl _ _) (c _ (by simp[qco,qd0])) (fun i=>c _ (by simp[qbl,qd0])) (c _ (by simp[qa2,qd0])),
      h1.mod l (Ext.refl _ _) (c _ (by simp[qco,qd0])) (fun i=>c _ (by simp[qbl,qd0])) (c _ (by simp[qa2,qd0])),.inr ⟨bl,0,rfl,hn,s,a.mod l (Ext.refl _ _) (fun e=>o e.symm)⟩⟩
    clear j d h0 h1 hn a
    go_enter Tryz.func103,Tryz.ntmps103
    go_wp2
    go_ret
    exact⟨rfl,hd,p,by simp[World.setCell]⟩
  | succ n =>
    have j:D.go=(true,{D with left:=some n}):=by simp[Dev.go,hn]
    rw[j]
    have p:Mod w (w.setCell ⟨bl,0,none⟩ (.int .i64 n)) (fun k=>τ k=qd0\/τ k=qcj):=(Mod.refl _ _).setCell (fun _=>.inr a.tag) _
    have hd:qcz (w.setCell ⟨bl,0,none⟩ (.int .i64 n)) τ b {D with left:=some n} v0 v1:=by
     have l:Mod w (w.setCell ⟨bl,0,none⟩ (.int .i64 n)) (fun k=>k=bl):=Mod.one _ _ _ _
     have c:∀g,g≠qcj->∀k,k<w.heap.size->τ k=g->¬k=bl:=fun g q k _ r e=>q (by rw[<-r,e,a.tag])
     refine⟨.pointer (some ⟨bl,0,none⟩),d.mod l (Ext.refl _ _) o,h0.mod l (Ext.refl _ _) (c _ (by simp[qco,qcj])) (fun i=>c _ (by simp[qbl,qcj])) (c _ (by simp[qa2,qcj])),
      h1.mod l (Ext.refl _ _) (c _ (by simp[qco,qcj])) (fun i=>c _ (by simp[qbl,qcj])) (c _ (by simp[qa2,qcj])),.inr ⟨bl,n,rfl,rfl,oM,a.set 0 _⟩⟩
    clear j d h0 h1 hn a
    have hmx:n+1<=9223372036854775807:=by have:=s;unfold maxLen at this;omega
    go_enter Tryz.func103,Tryz.ntmps103
    go_wp2
    go_ret
    exact⟨rfl,hd,p,by simp[World.setCell]⟩
theorem Qsi {D:Dev}(h:qax w τ b D) :
 Calls Tryz.prog 103 #[.pointer (some ⟨b,0,none⟩)] w fun e w'=>e = .returned (.bool D.go.1)/\qax w' τ b D.go.2/\Mod w w' (fun k=>τ k=qd0\/τ k=qcj)/\w'.heap.size=w.heap.size:=by
 obtain⟨v0,v1,h⟩:=h.as
 exact(Qre h).mono fun e w' ⟨a,b,c,d⟩=>⟨a,b.at,c,d⟩
theorem Qrh {D:Dev}(h:qcz w τ b D v0 v1) (f:Nat) (hf:f<256) :
 Calls Tryz.prog 73 #[.pointer (some ⟨b,0,none⟩),.int .u8 f] w fun e w'=>e = .returned (qew v0 v1 f)/\w=w':=by
 obtain⟨pl,a,h0,h1,hl⟩:=h.is
 have c0:=a.at 0 rfl
 have c1:=a.at 1 rfl
 clear h0 h1 hl a h
 by_cases c:f=0
 ·subst c
  show Calls Tryz.prog 73 #[.pointer (some ⟨b,0,none⟩),.int .u8 0] w _
  go_enter Tryz.func73,Tryz.ntmps73
  go_wp2
  go_ret
  exact⟨rfl,rfl⟩
 by_cases d:f=1
 ·subst d
  show Calls Tryz.prog 73 #[.pointer (some ⟨b,0,none⟩),.int .u8 1] w _
  go_enter Tryz.func73,Tryz.ntmps73
  go_wp2
  go_ret
  exact⟨rfl,rfl⟩
 ·have i:qew v0 v1 f = .slice none 0 0:=by simp[qew,c,d]
  rw[i]
  have hge:decide ((2:Int)<=f)=true:=by simp;omega
  clear i c d c0 c1
  go_enter Tryz.func73,Tryz.ntmps73
  go_wp2
  go_ret
  exact⟨rfl,rfl⟩
theorem at_as {D:Dev}(h:qcz w τ b D v0 v1) (f:Nat) (c:f<256) {bf n cap:Nat}(hv:qew v0 v1 f = .slice (some ⟨bf,0,none⟩) n cap) (hn:n<=4096) (k:Nat) (hk:k<n) :
 Calls Tryz.prog 102 #[.pointer (some ⟨b,0,none⟩),.int .u8 f,.int .i64 k] w fun e w'=>e = .returned (.pointer (some ⟨bf,k*2,none⟩))/\w=w':=by
 have a:=Qrh h f c
 rw[hv] at a
 have d:=Z2 a
 clear a h hv
 go_enter Tryz.func102,Tryz.ntmps102
 go_wp2_with fail
 refine zC d ?_
 go_wp2_with fail
 go_ret
 exact⟨rfl,rfl⟩
def Buf (w:World) (τ:qa1) (g:Tag) (e:TypeId) (size:Nat) (v:Value) (n:Nat) (xs:List Value):Prop :=
 xs.length=n*size/\((v = .slice none 0 0/\n=0) \/
  ∃b cap ys,v = .slice (some ⟨b,0,none⟩) n cap/\Own w τ b g e (xs++ys)/\cap*size<=xs.length+ys.length/\n<=cap/\cap<=maxLen)
theorem Buf.nil (w:World) (τ:qa1) (g:Tag) (e:TypeId) (size:Nat):Buf w τ g e size (.slice none 0 0) 0 []:=⟨sM,.inl ⟨rfl,rfl⟩⟩
theorem Buf.mod {e:TypeId} {size:Nat} {c:List Value}(h:Buf w τ g e size v n c) {S:Nat->Prop}(m:Mod w w' S) (x:Ext w τ τ')
 (d:∀k,k<w.heap.size->τ k=g->¬S k):Buf w' τ' g e size v n c:=by
 obtain⟨h1,h2|⟨b,cap,ys,hv,a,i,j,l⟩⟩:=h
 ·exact⟨h1,.inl h2⟩
 ·exact⟨h1,.inr ⟨b,cap,ys,hv,a.mod m x (d b a.lt a.tag),i,j,l⟩⟩
theorem Qid (b j:Nat):(⟨b,0,none⟩:Addr).add j=⟨b,j,none⟩:=by unfold Addr.add;split <;> simp_all
theorem Qap {P:Program}(w:World) (τ:qa1) (g:Tag) (t E e:TypeId) (i:TypeInfo) (z:Value) (size bytes:Nat) (D:P.underlying t=some (.slice e)) (hi:P.info? e=some i) (Z:i.zero=some z)
 (y:i.size=size) (R:i.bytes=bytes) (F:z.cells.size=size) (hsz:0<size)
 (v:Value) (n:Nat) (p:List Value) (d:Buf w τ g e size v n p)
 (O:Option Addr) (m c:Nat) (news:List Value) (hl:news.length=m*size) (B:O=none->m=0/\c=0) (l:∀a,O=some a->∀j u,news[j]?=some u->w.cell? (a.add j)=some u) (h1:∀u∈news,u.oneCell'=true)
 (G:n+m<=maxLen) (r:(n+m)*bytes<=140737488355328) :
 ∃U w' τ',(Builtin.append_ #[t,t] E #[v,.slice O m c]).run P w = .ok U w'/\Buf w' τ' g e size U (n+m) (p++news)/\Ext w τ τ'/\Mod w w' (fun k=>v.ownBlock=some k)/\(∀k,U.ownBlock=some k->v.ownBlock=some k\/w.heap.size<=k):=by
 have hsmall:n+m<=9223372036854775807:=by simp only[maxLen] at G;omega
 have s:(p++news).length=(n+m)*size:=by rw[Z6,d.1,hl,Nat.add_mul]
 subst y
 subst R
 cases O with
 | none =>
   obtain⟨rfl,rfl⟩:=B rfl
   have hn:news=[]:=List.eq_nil_of_length_eq_zero (by simpa using hl)
   subst hn
   have x:(Builtin.append_ #[t,t] E #[v,.slice none 0 0]).run P w = .ok v w:=by
    rcases d.2 with ⟨rfl,rfl⟩|⟨b,cap,ys,rfl,I,h3,h4,h5⟩
    ·simp[Builtin.append_,run_underlying D,sizeOf,typeInfo,hi,Builtin.lenOf,Builtin.firstCells]
    ·simp[Builtin.append_,run_underlying D,sizeOf,typeInfo,hi,Builtin.lenOf,Builtin.firstCells,h4,storeCells]
   exact⟨v,w,τ,x,by simpa using d,Ext.refl _ _,Mod.refl _ _,fun k h=>.inl h⟩
 | some a =>
   have l:=l a rfl
   rcases d.2 with ⟨rfl,rfl⟩|⟨b,cap,ys,rfl,I,h3,h4,h5⟩
   ·have hx:p=[]:=List.eq_nil_of_length_eq_zero (by simpa using d.1)
    subst hx
    by_cases hm:m=0
    ·subst hm
     have hn:news=[]:=List.eq_nil_of_length_eq_zero (by simpa using hl)
     subst hn
     refine⟨.slice none 0 0,w,τ,?_,Buf.nil _ _ _ _ _,Ext.refl _ _,Mod.refl _ _,fun k h=>.inl h⟩
     simp[Builtin.append_,run_underlying D,sizeOf,typeInfo,hi,Builtin.lenOf,Builtin.firstCells,loadCells,loadCellsFrom]
    ·have x:=run_append_nil (P:=P) w t E e i z D hi Z a m c news hl l oM oM (by have hb:=r;simp only[Nat.zero_add] at hb;omega)
     have J:=grownCap_ge w m 0 e
     have C:grownCap w m 0 e<=maxLen:=grownCap_le_maxLen w m 0 e oM
     refine⟨_,_,τ.put w.heap.size g,x,⟨by simpa using s,.inr ⟨w.heap.size,_,(Builtin.zeroCells z.cells (grownCap w m 0 e-m)).toList,sM,?_,?_,oM,C⟩⟩,(Ext.refl _ _).put _ _ (Z0 _),((Mod.refl _ _).drew).alloc _,fun k h=>.inr (by simp[Value.ownBlock] at h;omega)⟩
     ·have X:=Own.new w.drew τ g e (news++(Builtin.zeroCells z.cells (grownCap w m 0 e-m)).toList)
      have Y:(news.toArray++Builtin.zeroCells z.cells (grownCap w m 0 e-m))=(⟨news++(Builtin.zeroCells z.cells (grownCap w m 0 e-m)).toList⟩:Array Value):=by apply Array.toList_inj.1;simp
      rw[Y]
      simpa using X
     ·refine Nat.le_of_eq (Eq.symm ?_)
      simp only[List.nil_append,hl,Array.length_toList,size_zeroCells,F,<-Nat.add_mul]
      congr 1;omega
   ·by_cases o:n+m<=cap
    ·have L:n*i.size+news.length<=(p++ys).toArray.size:=by
      simp only[List.size_toArray,Z6,hl,<-Nat.add_mul];exact Y3 (Y7 _ o) h3
     have x:=run_append_room (P:=P) w t E e i D hi b n cap (p++ys).toArray I.row a m c news hl l h1 o L
     have M:((p++ys).toArray.toList.take (n*i.size)++news++(p++ys).toArray.toList.drop (n*i.size+news.length))=p++news++ys.drop news.length:=by
      rw[<-d.1]
      simp
     rw[M] at x
     refine⟨_,_,τ,x,⟨s,.inr ⟨b,cap,ys.drop news.length,rfl,⟨setRow_heap w b _ _ e _ I.row,I.tag⟩,?_,o,h5⟩⟩,Ext.refl _ _,⟨rfl,rfl,rfl,sM,fun k _ hk=>setRow_other w b k _ (fun q=>hk (by simp[Value.ownBlock,q]))⟩,fun k h=>.inl (by simpa [Value.ownBlock] using h)⟩
     have h6:news.length<=ys.length:=by
      have h7:(n+m)*i.size<=cap*i.size:=Y7 _ o
      rw[Nat.add_mul,<-d.1,<-hl] at h7;omega
     rw[Z6,List.length_drop];omega
    ·have holds:∀j u,p[j]?=some u->w.cell? ((⟨b,0,none⟩:Addr).add j)=some u:=by
      intro j u hu
      rw[Qid]
      refine I.at j ?_
      rw[Y5 (Z4 hu).1];exact hu
     have x:=run_append_grow (P:=P) w t E e i z D hi Z ⟨b,0,none⟩ n cap p d.1 holds a m c news hl l oM oM (growslice_fits oM r)
     have J:=grownCap_ge w (n+m) cap e
     have C:grownCap w (n+m) cap e<=maxLen:=grownCap_le_maxLen w (n+m) cap e G
     refine⟨_,_,τ.put w.heap.size g,x,⟨s,.inr ⟨w.heap.size,_,(Builtin.zeroCells z.cells (grownCap w (n+m) cap e-(n+m))).toList,rfl,?_,?_,J,C⟩⟩,(Ext.refl _ _).put _ _ (Z0 _),((Mod.refl _ _).drew).alloc _,fun k h=>.inr (by simp[Value.ownBlock] at h;omega)⟩
     ·have X:=Own.new w.drew τ g e (p++news++(Builtin.zeroCells z.cells (grownCap w (n+m) cap e-(n+m))).toList)
      have Y:(p.toArray++news.toArray++Builtin.zeroCells z.cells (grownCap w (n+m) cap e-(n+m)))=(⟨p++news++(Builtin.zeroCells z.cells (grownCap w (n+m) cap e-(n+m))).toList⟩:Array Value):=by apply Array.toList_inj.1;simp
      rw[Y]
      simpa using X
     ·refine Nat.le_of_eq (Eq.symm ?_)
      simp only[s,Array.length_toList,size_zeroCells,F,<-Nat.add_mul]
      congr 1;omega
theorem Qe0 {P:Program}(w:World) (τ:qa1) (g:Tag) {ops:Array Oper}{rest:List Oper}{o:Oper}{a:Act}{Q:Exit->Act->World->Prop}(C:o.guard=none) (s x:Operand) (t:TypeId)
 (L:o.op = .call {callee:=.builtin .append,args:=#[s,x],argTypes:=#[t,t]})
 (e:TypeId) (i:TypeInfo) (z:Value) (size bytes:Nat) (M:P.underlying t=some (.slice e)) (hi:P.info? e=some i) (O:i.zero=some z)
 (l:i.size=size) (D:i.bytes=bytes) (E:z.cells.size=size) (F:0<size)
 (v:Value) (n:Nat) (G:List Value) (R:a.eval s=v) (r:Buf w τ g e size v n G)
 (B:Option Addr) (m c:Nat) (news:List Value) (U:a.eval x = .slice B m c) (hl:news.length=m*size) (p:B=none->m=0/\c=0) (q:∀J,B=some J->∀j u,news[j]?=some u->w.cell? (J.add j)=some u) (h1:∀u∈news,u.oneCell'=true)
 (I:n+m<=maxLen) (d:(n+m)*bytes<=140737488355328)
 (h:∀y w' τ',Buf w' τ' g e size y (n+m) (G++news)->Ext w τ τ'->Mod w w' (fun k=>v.ownBlock=some k)->(∀k,y.ownBlock=some k->v.ownBlock=some k\/w.heap.size<=k)->wpList P ops Q rest (a.put o.dst y) w'):wpList P ops Q (o::rest) a w:=by
 refine wpList_plain C fun K X=>?_
 obtain⟨y,w',τ',Y,h2,Z,h4,h5⟩:=Qap (P:=P) w τ g t o.type e i z size bytes M hi O l D E F v n G r B m c news hl p q h1 I d
 unfold Oper.wp execOp
 simp only[L,resolve,invoke,builtin,Sem.run_bind,Sem.run_pure,Result.andThen_ok,List.map_toArray,X0,List.map_nil,R,U,Y]
 exact X _ _ (h y w' τ' h2 Z h4 h5)
theorem Qkl {P:Program}(w:World) (τ:qa1) (g:Tag) {ops:Array Oper}{o:Oper}{a:Act}{K:Act->World->Prop}{Q:Exit->Act->World->Prop}{E:Prop}(C:o.guard=none) (s x:Operand) (t:TypeId)
 (M:o.op = .call {callee:=.builtin .append,args:=#[s,x],argTypes:=#[t,t]})
 (e:TypeId) (i:TypeInfo) (z:Value) (size bytes:Nat) (O:P.underlying t=some (.slice e)) (hi:P.info? e=some i) (R:i.zero=some z)
 (l:i.size=size) (D:i.bytes=bytes) (F:z.cells.size=size) (G:0<size)
 (v:Value) (n:Nat) (I:List Value) (U:a.eval s=v) (r:Buf w τ g e size v n I)
 (B:Option Addr) (m c:Nat) (news:List Value) (X:a.eval x = .slice B m c) (hl:news.length=m*size) (p:B=none->m=0/\c=0) (q:∀L,B=some L->∀j u,news[j]?=some u->w.cell? (L.add j)=some u) (h1:∀u∈news,u.oneCell'=true)
 (J:n+m<=maxLen) (d:(n+m)*bytes<=140737488355328)
 (h:∀y w' τ',Buf w' τ' g e size y (n+m) (I++news)->Ext w τ τ'->Mod w w' (fun k=>v.ownBlock=some k)->(∀k,y.ownBlock=some k->v.ownBlock=some k\/w.heap.size<=k)->K (a.put o.dst y) w') :
 if Region.wanted o (yielded ops a.tmps)=true then Oper.wp P o a w K Q else E:=by
 have Y:Region.wanted o (yielded ops a.tmps)=true:=by simp[Region.wanted,C]
 rw[if_pos Y]
 obtain⟨y,w',τ',Z,h2,h3,h4,h5⟩:=Qap (P:=P) w τ g t o.type e i z size bytes O hi R l D F G v n I r B m c news hl p q h1 J d
 unfold Oper.wp execOp
 simp only[M,resolve,invoke,builtin,Sem.run_bind,Sem.run_pure,Result.andThen_ok,List.map_toArray,X0,List.map_nil,U,X,Z]
 exact h y w' τ' h2 h3 h4 h5
theorem Tryz.infoU8:(Tryz.prog.info? 5).map (fun i=>(i.zero,i.size,i.bytes))=some (some (.int .u8 0),1,1):=kR
theorem Qkd (l:List Int):∀u∈u8s l,u.oneCell'=true:=ints_oneCell .u8 l
theorem Bytes.news {p:Option Addr} {c:Nat} {l:List Int}(h:Bytes w τ g (.slice p n c) l) :
 n=l.length/\∀a,p=some a->∀j u,(u8s l)[j]?=some u->w.cell? (a.add j)=some u:=by
 obtain⟨p',c',hv,h1,h2,r⟩:=h.is
 simp only[Value.slice.injEq] at hv
 obtain⟨rfl,rfl,rfl⟩:=hv
 refine⟨rfl,fun a s j u e=>?_⟩
 have q:j<l.length:=by have:=(Z4 e).1;rwa [Qac] at this
 obtain⟨b,o,i,ht,d⟩:=r oM
 rw[s] at i
 simp only[Option.some.injEq] at i
 subst i
 rw[Qfw l j q] at e
 rw[<-Option.some.inj e,<-d j q]
 unfold Addr.add;split <;> simp_all
theorem Buf.bytes {l:List Int}(h:Buf w τ g 5 1 v n (u8s l)) (a:IsB l):Bytes w τ g v l:=by
 obtain⟨h1,⟨rfl,rfl⟩|⟨b,cap,ys,rfl,c,h3,d,e⟩⟩:=h
 ·have:l=[]:=List.eq_nil_of_length_eq_zero (by simpa [u8s] using h1)
  subst this
  exact⟨a,none,0,rfl,Z0 _,Z9 _,fun j=>by simp at j⟩
 ·have hn:n=l.length:=by rw[Qac] at h1;omega
  subst hn
  refine⟨a,some ⟨b,0,none⟩,cap,rfl,d,e,fun hl=>⟨b,0,rfl,c.tag,fun i hi=>?_⟩⟩
  rw[Nat.zero_add,c.cell,Y5 (by rw[Qac];exact hi),Qfw l i hi]
def NewB (w:World) (τ:qa1) (g:Tag) (l:List Int) (e:Ending) (w':World):Prop:=∃u τ',e = .returned u/\Bytes w' τ' g u l/\Ext w τ τ'/\Mod w w' no
theorem Qeb {l:List Int}(h:Bytes w τ g v l) (B:Tag) (e:l.length<=100000000) :
 Calls Tryz.prog 72 #[v] w (NewB w τ B l):=by
 have hB:=h.isB
 obtain⟨p,c,rfl,h1,h2,M⟩:=h.is
 obtain⟨_,i⟩:=h.news
 cases p with
 | none =>
   have hl:l=[]:=by
    cases l with
    | nil=>rfl
    | cons x r=>obtain⟨b,o,y,_⟩:=M sM;cases y
   subst hl
   have C:=fun (W:World) (a:Option Addr) (n c:Nat)=>Lib.run_eql_slice_nil (P:=Tryz.prog) W 58 5 a n c 0 0 Tryz.underlying58
   clear e
   go_enter Tryz.func72,Tryz.ntmps72
   go_wp2
   go_ret
   exact⟨_,τ,rfl,⟨hB,none,0,rfl,Z0 _,Z9 _,fun z=>by simp at z⟩,Ext.refl _ _,Mod.refl _ _⟩
 | some a =>
   obtain⟨U,hi,F,G,I⟩:=info_parts Tryz.infoU8
   have q:Buf (w.alloc (.cells #[] 5)) (τ.put w.heap.size B) B 5 1 (.slice (some ⟨w.heap.size,0,none⟩) 0 0) 0 [] :=
    ⟨rfl,.inr ⟨w.heap.size,0,[],rfl,Own.new w τ B _ [],Z0 _,Z0 _,Z9 _⟩⟩
   have O:Mod w (w.alloc (.cells #[] 5)) no:=(Mod.refl _ _).alloc _
   have d:∀D,some a=some D->∀j u,(u8s l)[j]?=some u->(w.alloc (.cells #[] 5)).cell? (D.add j)=some u:=by
    intro D had j u X
    have z:=i D had j u X
    have J:D.block<w.heap.size:=by
     have:=World.block_lt_of_cell? w _ z
     unfold Addr.add at this;split at this <;> exact this
    rw[<-z]
    exact World.cell?_of_block (w:=w) (Below.heap_alloc _ _ _ (by unfold Addr.add;split <;> exact J))
   obtain⟨Y,Z,Hm⟩:=qan d q O
   have C:=fun (W:World) (a:Option Addr) (n c:Nat)=>Lib.run_eql_slice_nil (P:=Tryz.prog) W 58 5 a n c 0 0 Tryz.underlying58
   have s:=Z2 e
   clear i d q O M h e
   go_enter Tryz.func72,Tryz.ntmps72
   go_wp2_with (at_builtin;refine Qe0 _ _ B rfl _ _ 58 rfl 5 U (.int .u8 0) 1 1 Tryz.underlying58 hi F G I rfl dC (.slice (some ⟨w.heap.size,0,none⟩) 0 0) 0 [] rfl Z (some a) l.length c (u8s l) rfl (by rw[Qac,Nat.mul_one]) (by intro z;cases z) Y (Qkd l) (by have:=s.out;unfold maxLen;omega) (by have:=s.out;omega) ?_;intro v' w' τ' y R E L;clear L;obtain⟨B1,E1,M1⟩:=qan y R E;clear y R E)
   go_ret
   have y:=B1.out
   rw[Nat.zero_add,List.nil_append] at y
   refine⟨_,τ',rfl,y.bytes hB,Ext.trans ((Ext.refl w τ).put _ B (Z0 _)) E1.out sM,Hm.seq M1.out (fun k hk hS=>?_)⟩
   have z:w.heap.size=k:=by simpa [Value.ownBlock] using hS
   omega
theorem Qin {i:Nat} {B:List Value} {s:Sec}(j:Own w τ bf (qco f) 144 B) (D:qfd w τ f i B s) :
 ∃v,(Calls Tryz.prog 104 #[.pointer (some ⟨bf,i*2,none⟩)] w fun e w'=>e = .returned v/\w=w')/\Bytes w τ qa2 v s.newest/\s.newest.length=128:=by
 obtain⟨⟨hl,v,hv,l⟩,⟨u,x,E⟩⟩:=D
 have c0:=j.at _ hv
 have c1:=j.at _ x
 rcases E with ⟨rfl,hn⟩|⟨b,cap,ys,zs,rfl,h,h1,h2,C,y⟩
 ·have a:s.newest=s.last:=by simp[Sec.newest,hn]
  rw[a]
  refine⟨v,?_,l,hl⟩
  clear j hv x l hn a hl
  go_enter Tryz.func104,Tryz.ntmps104
  go_wp2
  go_ret
  exact⟨rfl,rfl⟩
 ·by_cases o:s.waits=[]
  ·have a:s.newest=s.last:=by simp[Sec.newest,o]
   rw[a]
   refine⟨v,?_,l,hl⟩
   rw[o] at c1
   clear j hv x l o a hl h y h1 h2
   go_enter Tryz.func104,Tryz.ntmps104
   go_wp2
   go_ret
   exact⟨rfl,rfl⟩
  ·have p:0<s.waits.length:=List.length_pos_iff.2 o
   obtain⟨m,z⟩:∃m,s.waits.length=m+1:=⟨s.waits.length-1,oM⟩
   have c:s.waits[m]?=some s.newest:=by
    unfold Sec.newest
    rw[List.getLastD_eq_getLast?,List.getLast?_eq_getElem?,z]
    simp only[Nat.add_sub_cancel]
    rw[Z3 oM];rfl
   obtain⟨d,u,q,r⟩:=y m _ c
   refine⟨u,?_,r,d⟩
   have cm:=h.at m (v:=u) (by rw[Y5 oM];exact q)
   rw[z] at c1
   have hmx:m+1<=9223372036854775807:=by unfold maxLen at C;omega
   clear j hv x l o hl h y h1 h2 c r p q d C z
   go_enter Tryz.func104,Tryz.ntmps104
   go_wp2
   go_ret
   exact⟨rfl,rfl⟩
theorem Qwj {D:Dev}(h:qax w τ b D) (f:Nat) (c:f<256) (k:Nat) (hk:k<(D.file f).length) :
 ∃bf a,(Calls Tryz.prog 102 #[.pointer (some ⟨b,0,none⟩),.int .u8 f,.int .i64 k] w fun e w'=>e = .returned (.pointer (some ⟨bf,k*2,none⟩))/\w=w') /\
   Own w τ bf (qco f) 144 a/\∀(j:Nat) (t:Sec),(D.file f)[j]?=some t->qfd w τ f j a t:=by
 obtain⟨v,d,⟨hi,rfl⟩|⟨i,bf,a,s,hkk,hk',rfl,l,o⟩⟩:=Ja2 h f c (k:Int)
 ·omega
 ·have:k=i:=oM
  subst this
  exact⟨bf,a,d,l,o⟩
def ReadD (w:World) (τ:qa1) (g:Tag) (l:List Int) (e:Ending) (w':World):Prop:=∃u τ',e = .returned (.tuple #[u,.int .u16 0])/\Bytes w' τ' g u l/\Ext w τ τ'/\Mod w w' no
theorem Qw9 {D:Dev}(h:qax w τ b D) (f:Nat) (q:f<256) (k:Nat) (s:Sec) (d:(D.file f)[k]?=some s) (g:Tag) :
 Calls Tryz.prog 68 #[.pointer (some ⟨b,0,none⟩),.int .u8 f,.int .i64 k] w (ReadD w τ g s.newest):=by
 obtain⟨bf,xs,i,j,l⟩:=Qwj h f q k (Z4 d).1
 obtain⟨v,hn,a,hl⟩:=Qin j (l k s d)
 have c:=Qeb a g oM
 obtain⟨r,x,y⟩:=qan i hn c
 clear i hn c h d l a hl j
 go_enter Tryz.func68,Tryz.ntmps68
 go_wp2_with fail
 refine zC r ?_
 go_wp2_with fail
 refine zC x ?_
 go_wp2_with fail
 refine y.mono ?_
 rintro e w' ⟨u,τ',rfl,a,o,p⟩
 obtain⟨B,E,M⟩:=qan a o p
 clear a o p
 go_wp2_with fail
 go_ret2
 exact⟨u,τ',rfl,B.out,E.out,M.out⟩
theorem qcv.len {l:List (List Int)}(h:qcv w τ g v l):∃p c,v = .slice p l.length c:=by
 rcases h with ⟨rfl,rfl⟩|⟨b,cap,xs,ys,rfl,_⟩
 ·exact⟨none,0,rfl⟩
 ·exact⟨_,_,rfl⟩
theorem Tryz.infoU8s:(Tryz.prog.info? 58).map (fun i=>(i.zero,i.size,i.bytes))=some (some (.slice none 0 0),1,24):=kR
theorem qcv.buf {l:List (List Int)}(h:qcv w τ g v l) :
 ∃a,Buf w τ g 58 1 v l.length a/\∀(k:Nat) (x:List Int),l[k]?=some x->x.length=128/\∃u,a[k]?=some u/\Bytes w τ qa2 u x:=by
 rcases h with ⟨rfl,rfl⟩|⟨b,cap,a,ys,rfl,c,h1,h2,d,e⟩
 ·exact⟨[],Buf.nil _ _ _ _ _,fun k x i=>by simp at i⟩
 ·exact⟨a,⟨oM,.inr ⟨b,cap,ys,rfl,c,oM,oM,d⟩⟩,e⟩
theorem Buf.waits {l:List (List Int)} {a:List Value}(h:Buf w τ g 58 1 v l.length a)
 (c:∀(k:Nat) (x:List Int),l[k]?=some x->x.length=128/\∃u,a[k]?=some u/\Bytes w τ qa2 u x):qcv w τ g v l:=by
 obtain⟨h1,⟨rfl,h2⟩|⟨b,cap,ys,rfl,d,h3,h4,e⟩⟩:=h
 ·exact .inl ⟨rfl,List.eq_nil_of_length_eq_zero h2⟩
 ·exact .inr ⟨b,cap,a,ys,rfl,d,oM,oM,e,c⟩
theorem Qsr {D:Dev}(h:qax w τ b D) (f:Nat) (hf:f<2) (k:Nat) (d:k<(D.file f).length) (p:Option Addr) (c:Nat) (i:D.go.1=false) :
 Calls Tryz.prog 51 #[.pointer (some ⟨b,0,none⟩),.int .u8 f,.int .i64 k,.slice p 128 c] w fun e w'=>e = .returned (.int .u16 0)/\qax w' τ b D.go.2/\Mod w w' (fun k=>τ k=qd0\/τ k=qcj)/\w'.heap.size=w.heap.size:=by
 obtain⟨bf,xs,j,q,r⟩:=Qwj h f oM k d
 have a:=Qsi h
 rw[i] at a
 obtain⟨s,x⟩:=qaj j a
 clear j a h d q r i
 go_enter Tryz.func51,Tryz.ntmps51
 go_wp2_with fail
 refine zC s ?_
 go_wp2_with fail
 refine x.mono ?_
 rintro e w' ⟨rfl,hd,l,o⟩
 obtain⟨y,z,B⟩:=qan hd l o
 clear hd l o
 go_wp2_with fail
 go_ret
 exact⟨rfl,y.out,z.out,B.out⟩
def Sec.add (s:Sec) (l:List Int):Sec:={s with waits:=s.waits++[l]}
theorem File.add {l:List Sec} {cap:Nat} {E:List Value} {s:Sec}(hn:n=l.length) (p:l.length<=cap) (y:l.length<=4096) (F:l[k]?=some s) {S:Nat->Prop}(m:Mod w w' S) (e:Ext w τ τ')
 (G:∀j,j<w.heap.size->S j->j=bf\/τ j=qbl f k) (I:τ bf=qco f) {u:Value} (J:Own w' τ' bf (qco f) 144 (E.set (k*2+1) u))
 (r:∀j t,l[j]?=some t->qfd w τ f j E t) {s':Sec} (hl:s'.last=s.last) (L:qcv w' τ' (qbl f k) u s'.waits) :
 File w' τ' f (.slice (some ⟨bf,0,none⟩) n cap) (l.set k s'):=by
 subst hn
 have hd:∀j,j<w.heap.size->τ j=qa2->¬S j:=fun j o c z=>by
  rcases G j o z with rfl|h
  ·rw[I] at c;simp[qco,qa2] at c
  ·rw[h] at c;simp[qbl,qa2] at c
 have B:=(Z4 F).1
 refine⟨_,cap,by rw[Y1],by simpa using p,by simpa using y,fun _=>⟨bf,_,rfl,J,fun j t o=>?_⟩⟩
 by_cases x:j=k
 ·subst x
  rw[List.getElem?_set_self B] at o
  cases o
  obtain⟨⟨a,v,hv,d⟩,⟨q,C,_⟩⟩:=r j s F
  refine⟨⟨by rw[hl];exact a,v,?_,by rw[hl];exact d.mod m e hd⟩,⟨u,?_,L⟩⟩
  ·rw[List.getElem?_set_ne oM];exact hv
  ·rw[List.getElem?_set_self (Z4 C).1]
 ·rw[List.getElem?_set_ne (fun h=>x h.symm)] at o
  have hi:=(r j t o).mod m e (fun i hi c z=>by
   rcases G i hi z with rfl|h
   ·rw[I] at c;simp[qco,qbl] at c
   ·rw[h] at c;simp[qbl] at c;omega) hd
  obtain⟨⟨a,v,hv,d⟩,⟨q,C,D⟩⟩:=hi
  refine⟨⟨a,v,?_,d⟩,⟨q,?_,D⟩⟩
  ·rw[List.getElem?_set_ne oM];exact hv
  ·rw[List.getElem?_set_ne oM];exact C
theorem Bytes.drew {l:List Int}(h:Bytes w τ g v l):Bytes w.drew τ g v l:=⟨h.isB,h.is⟩
theorem Buf.own {e:TypeId} {size:Nat} {d:List Value}(h:Buf w τ g e size v n d):∀b,v.ownBlock=some b->τ b=g/\b<w.heap.size:=by
 intro b a
 rcases h.2 with ⟨rfl,_⟩|⟨b',cap,ys,rfl,c,_⟩
 ·simp[Value.ownBlock] at a
 ·have:b'=b:=by simpa [Value.ownBlock] using a
  subst this
  exact⟨c.tag,c.lt⟩
theorem Buf.len {e:TypeId} {size:Nat} {a:List Value}(h:Buf w τ g e size v n a):∃p c,v = .slice p n c:=by
 rcases h.2 with ⟨rfl,rfl⟩|⟨b',cap,ys,rfl,ho,_⟩
 ·exact⟨_,_,rfl⟩
 ·exact⟨_,_,rfl⟩
def Qyw (w:World) (τ:qa1) (b:Nat) (D:Dev) (f k:Nat) (l:List Int) (e:Ending) (w':World):Prop :=
 e = .returned (.int .u16 0)/\∃τ',qax w' τ' b D/\Ext w τ τ'/\Mod w w' (fun j=>τ j=qd0\/τ j=qcj\/Ql2 f (τ j))
theorem Dev.qd6 (D:Dev) (f:Nat):D.go.2.file f=D.file f:=by
 unfold Dev.go
 split <;> rfl
theorem Qsq {o p q:World} {c d:qa1} {D:Dev} {s:Sec} {l:List Int} {cap cw cu B:Nat} {pw G C:Option Addr}{M ys:List Value}
 (hf:f<2) (hk:(D.file f)[k]?=some s) (h1:(D.file f).length<=cap) (h2:(D.file f).length<=4096) (hv:qew v0 v1 f = .slice (some ⟨bf,0,none⟩) (D.file f).length cap)
 (hl:l.length=128) (O:Buf o τ (qbl f k) 58 1 (.slice pw s.waits.length cw) s.waits.length ys) (KK:Mod w o fun k=>τ k=qd0\/τ k=qcj) (K2:qcz o τ b D.go.2 v0 v1)
 (K3:∀j t,(D.file f)[j]?=some t->qfd o τ f j M t) (K4:∀(k:Nat) (x:List Int),s.waits[k]?=some x->x.length=128/\∃u,ys[k]?=some u/\Bytes o τ qa2 u x)
 (I:Own o τ bf (qco f) 144 M) (B2:Bytes p c qa2 (.slice G l.length cu) l) (R:Ext o.drew τ c) (M2:Mod o p no) (O3:Own q d bf (qco f) 144 M)
 (B3:Buf q d (qbl f k) 58 1 (.slice C (s.waits.length+1) B) (s.waits.length+1) (ys++[.slice G l.length cu]))
 (E3:Ext (p.alloc (.cells #[.slice G l.length cu] 58)) (c.put p.heap.size qa2) d) (M3:Mod (p.alloc (.cells #[.slice G l.length cu] 58)) q fun k=>(Value.slice pw s.waits.length cw).ownBlock=some k) :
 Qyw w τ b (D.go.2.put f ((D.file f).set k (s.add l))) f k l (.returned (.int .u16 0)) (q.setCell ⟨bf,k*2+1,none⟩ (.slice C (s.waits.length+1) B)):=by
 have m1:Mod o p (fun j=>j=bf\/τ j=qbl f k):=M2.mono (fun _ _ h=>h.elim)
 have m3:Mod o q (fun j=>j=bf\/τ j=qbl f k):=(m1.alloc _).seq M3 (fun j F r=>.inr ((O.own j r).1))
 have J:Mod o (q.setCell ⟨bf,k*2+1,none⟩ (.slice C (s.waits.length+1) B)) (fun j=>j=bf\/τ j=qbl f k):=m3.setCell (fun _=>.inl rfl) _
 have e:Ext o τ d:=Ext.trans (w:=o) (a:=p.alloc (.cells #[.slice G l.length cu] 58)) (Ext.put (w:=o) R p.heap.size qa2 M2.size) E3 (by have:=M2.size;simp;omega)
 have U:=O.mod M2 (show Ext o τ c from R) (fun _ _ _ h=>h)
 have X:=I.mod M2 (show Ext o τ c from R) (fun h=>h)
 have n4:Mod p (q.setCell ⟨bf,k*2+1,none⟩ (.slice C (s.waits.length+1) B)) (fun j=>j=bf\/c j=qbl f k) :=
  (((Mod.refl p _).alloc _).seq M3 (fun j F r=>.inr ((U.own j r).1))).setCell (fun _=>.inl rfl) _
 have e2:Ext p c d:=Ext.trans (w:=p) (a:=p.alloc (.cells #[.slice G l.length cu] 58)) ((Ext.refl p c).put p.heap.size qa2 (Z0 _)) E3 sM
 have hw:qcv (q.setCell ⟨bf,k*2+1,none⟩ (.slice C (s.waits.length+1) B)) d (qbl f k) (.slice C (s.waits.length+1) B) (s.add l).waits:=by
  have L:(s.add l).waits.length=s.waits.length+1:=by simp[Sec.add]
  have hys:ys.length=s.waits.length:=by have:=O.1;omega
  have b4:=B3.mod (Mod.one q bf (k*2+1) (.slice C (s.waits.length+1) B)) (Ext.refl q d) (fun j _ z F=>by rw[F,O3.tag] at z;simp[qco,qbl] at z)
  generalize q.setCell ⟨bf,k*2+1,none⟩ (.slice C (s.waits.length+1) B)=W at b4 J n4 ⊢
  rw[<-L] at b4 ⊢
  refine b4.waits (fun j x r=>?_)
  by_cases F:j<s.waits.length
  ·have Y:s.waits[j]?=some x:=by
    simp only[Sec.add] at r
    rwa [Y5 F] at r
   obtain⟨a,u,hu,Z⟩:=K4 j x Y
   refine⟨a,u,by rw[Y5 oM];exact hu,Z.mod J e (fun i _ z E=>?_)⟩
   rcases E with rfl|E
   ·rw[I.tag] at z;simp[qco,qa2] at z
   ·rw[z] at E;simp[qbl,qa2] at E
  ·simp only[Sec.add] at r
   rw[Y6 oM] at r
   have a0:j-s.waits.length=0:=by
    have:=(Z4 r).1
    simp at this;omega
   rw[a0] at r
   have a1:x=l:=by simpa using r.symm
   subst a1
   refine⟨hl,_,by rw[Y6 oM,show j-ys.length=0 by omega];rfl,B2.mod n4 e2 (fun i _ z E=>?_)⟩
   rcases E with rfl|E
   ·rw[X.tag] at z;simp[qco,qa2] at z
   ·rw[z] at E;simp[qbl,qa2] at E
 have y:=File.add rfl h1 h2 hk J e (fun j _ h=>h) I.tag (O3.set (k*2+1) (.slice C (s.waits.length+1) B)) K3 (s':=s.add l) rfl hw
 rw[<-hv] at y
 have hd:=K2.put f hf J e (fun j _ h=>h.elim (fun h=>by rw[h];exact .inl I.tag) (fun h=>.inr ⟨k,h⟩)) _ y
 refine⟨rfl,d,hd.at,fun j F=>e j (Nat.lt_of_lt_of_le F KK.size),(KK.mono (fun j _ h=>?_)).seq J (fun j F h=>?_)⟩
 ·rcases h with h|h
  ·exact .inl h
  ·exact .inr (.inl h)
 ·rcases h with rfl|h
  ·exact .inr (.inr (.inl I.tag))
  ·exact .inr (.inr (.inr ⟨k,h⟩))
theorem Qug {D:Dev}(h:qax w τ b D) (f:Nat) (hf:f<2) (k:Nat) (s:Sec) (Y:(D.file f)[k]?=some s) {p:Option Addr}{c:Nat}{l:List Int}{g:Tag}(hl:l.length=128) (hb:Bytes w τ g (.slice p 128 c) l) (G:g≠qd0/\g≠qcj) (hbig:s.waits.length<1000000) (hg:D.go.1=true) :
 Calls Tryz.prog 51 #[.pointer (some ⟨b,0,none⟩),.int .u8 f,.int .i64 k,.slice p 128 c] w (Qyw w τ b (D.go.2.put f ((D.file f).set k (s.add l))) f k l):=by
 obtain⟨v0,v1,Z⟩:=h.as
 obtain⟨q,cap,hv,h1,h2,hp⟩:=Z.file f
 have a0:=(Z4 Y).1
 obtain⟨bf,xs,rfl,ho,hs⟩:=hp oM
 have hc:=at_as Z f oM hv h2 k a0
 have o:=Qre Z
 rw[hg] at o
 obtain⟨HC,HG⟩:=qaj hc o
 clear hc o hg
 go_enter Tryz.func51,Tryz.ntmps51
 go_wp2_with fail
 refine zC HC ?_
 go_wp2_with fail
 refine HG.mono ?_
 rintro e w1 ⟨rfl,hd,I,hz⟩
 have r:=ho.mod I (Ext.refl _ _) (by rw[ho.tag];simp[qco,qd0,qcj])
 have x:∀j t,(D.file f)[j]?=some t->qfd w1 τ f j xs t:=fun j t hj =>
  (hs j t hj).mod I (Ext.refl _ _) (fun i hi J=>by rw[J];simp[qbl,qd0,qcj]) (fun i hi J=>by rw[J];simp[qa2,qd0,qcj])
 have L:=hb.mod I (Ext.refl _ _) (fun i hi J=>by rw[J];simp[G.1,G.2])
 obtain⟨_,uw,hu,hw⟩:=x k s Y
 obtain⟨ys,d,M⟩:=hw.buf
 have O:=Qeb L.drew qa2 oM
 have c1:=r.at _ hu
 obtain⟨CL,LL⟩:=qaj O hl
 obtain⟨pw,cw,rfl⟩:=hw.len
 obtain⟨HU,BU,KK,K2,K3,K4,K5⟩:=qdr hu d I hd x M r
 clear h hp hl hb I hd hz hw hu O d M x r L hs ho
 obtain⟨i0,hi,a8,a9,aa⟩:=info_parts Tryz.infoU8s
 have lb:bf<w1.heap.size:=qb0 c1
 have nb:(Value.slice pw s.waits.length cw).ownBlock≠some bf:=fun hx=>by
  have:=(BU.out.own bf hx).1
  rw[K5.out.tag] at this;simp[qco,qbl] at this
 have NB:=Z2 nb
 clear nb
 go_wp2_with fail
 go_region_law (first
  | (go_simp;go_at_call 72;refine CL.out.mono ?_;rintro e a ⟨u,y,rfl,z,R,B⟩
     obtain⟨pu,cu,rfl,-,-,-⟩:=id z.is
     have c2:=(B.cell bf (k*2+1) lb (fun h=>h)).trans c1
     have c2':(a.alloc (.cells #[.slice pu l.length cu] 58)).cell? ⟨bf,k*2+1,none⟩=some (.slice pw s.waits.length cw):=(((Mod.refl a no).alloc _).cell bf (k*2+1) (qb0 c2) (fun h=>h)).trans c2
     obtain⟨B2,E2⟩:=qaj z R
     have M2:=Z2 ((Mod.refl w1 no).drew.trans B)
     clear z R B)
  | (refine Qkl _ (y.put a.heap.size qa2) (qbl f k) rfl _ _ 31 rfl 58 i0 (.slice none 0 0) 1 24 Tryz.underlying31 hi a8 a9 aa rfl dC (.slice pw s.waits.length cw) s.waits.length ys (by rfl) ((BU.out.mod M2.out E2.out (fun _ _ _ h=>h)).mod ((Mod.refl a no).alloc _) ((Ext.refl a y).put _ qa2 (Z0 _)) (fun _ _ _ h=>h)) (some ⟨a.heap.size,0,none⟩) 1 1 [.slice pu l.length cu] (by rfl) rfl (by intro hx;cases hx) ?_ (by simp[Value.oneCell']) (by unfold maxLen;omega) oM ?_
     ·intro ad had;cases had;exact World.news_of_block (cs:=#[.slice pu l.length cu]) (t := 58) (fr:=(0,0)) (heap_alloc_new a _)
     intro v3 w3 τ3 C E F U
     clear U
     obtain⟨p3,n3,rfl⟩:=C.len
     have X:=((K5.out.mod M2.out E2.out (fun h=>h)).mod ((Mod.refl a no).alloc _) ((Ext.refl a y).put _ qa2 (Z0 _)) (fun h=>h)).mod F E NB.out
     have f3:=X.fz (k*2+1)
     have c3:=X.at _ HU
     obtain⟨O3,B3,E3,M3⟩:=qb9 X C E F
     clear C E F X))
 all_goals go_wp2_with fail
 all_goals go_ret
 all_goals exact Qsq hf Y h1 h2 hv LL.out BU.out KK.out K2.out K3.out K4.out K5.out B2.out E2.out M2.out O3.out B3.out E3.out M3.out
def Sec.sync (s:Sec):Sec:=⟨s.newest,[]⟩
theorem Qut {D:Dev}(h:qax w τ b D) (f:Nat) (hf:f<2) (c:D.go.1=false) :
 Calls Tryz.prog 53 #[.pointer (some ⟨b,0,none⟩),.int .u8 f] w fun e w'=>e = .returned (.tuple #[])/\qax w' τ b D.go.2/\Mod w w' (fun k=>τ k=qd0\/τ k=qcj)/\w'.heap.size=w.heap.size:=by
 obtain⟨v0,v1,d⟩:=h.as
 have i:=Qrh d f oM
 have a:=Qsi h
 rw[c] at a
 obtain⟨o,p⟩:=qaj i a
 have a2:decide ((2:Int)<=f)=false:=by simp;omega
 clear i a d h c
 go_enter Tryz.func53,Tryz.ntmps53
 go_wp2_with fail
 refine zC o ?_
 go_wp2_with fail
 refine p.mono ?_
 rintro e w' ⟨rfl,hd,j,l⟩
 obtain⟨q,r,s⟩:=qan hd j l
 clear hd j l
 go_wp2_with fail
 go_returns
 exact⟨rfl,q.out,r.out,s.out⟩
structure qhi (w1 w:World) (τ:qa1) (f bf:Nat) (l:List Sec) (k:Nat):Prop where
 is:∃xs,Own w τ bf (qco f) 144 xs/\∀j t,l[j]?=some t->qfd w τ f j xs (if j<k then t.sync else t)
 mod:Mod w1 w (fun j=>j=bf)
 size:w.heap.size=w1.heap.size
theorem qhi.step {F:World} {l:List Sec}(h:qhi F w τ f bf l k) {s:Sec}(G:l[k]?=some s) {v:Value}(J:Bytes w τ qa2 v s.newest) (hl:s.newest.length=128) :
 qhi F ((w.setCell ⟨bf,k*2,none⟩ v).setCell ⟨bf,k*2+1,none⟩ (.slice none 0 0)) τ f bf l (k+1):=by
 obtain⟨L,o,I⟩:=h.is
 have M:Mod w (w.setCell ⟨bf,k*2,none⟩ v) (fun j=>j=bf):=Mod.one w bf (k*2) v
 have m:Mod w ((w.setCell ⟨bf,k*2,none⟩ v).setCell ⟨bf,k*2+1,none⟩ (.slice none 0 0)) (fun j=>j=bf):=M.setCell (p:=⟨bf,k*2+1,none⟩) (fun _=>rfl) (.slice none 0 0)
 have hd:∀i,i<w.heap.size->τ i=qa2->¬i=bf:=fun i _ c e=>by rw[e,o.tag] at c;simp[qco,qa2] at c
 obtain⟨⟨a0,v0,r,_⟩,⟨u0,x,_⟩⟩:=I k s G
 have l0:=(Z4 r).1
 have l1:=(Z4 x).1
 refine⟨⟨(L.set (k*2) v).set (k*2+1) (.slice none 0 0),(o.set _ _).set _ _,fun j t y=>?_⟩,?_,?_⟩
 ·by_cases z:j=k
  ·subst z
   rw[G] at y
   cases y
   rw[if_pos oM]
   refine⟨⟨hl,v,?_,J.mod m (Ext.refl _ _) hd⟩,⟨.slice none 0 0,?_,.inl ⟨rfl,rfl⟩⟩⟩
   ·rw[List.getElem?_set_ne oM,List.getElem?_set_self l0]
   ·rw[List.getElem?_set_self (by simpa using l1)]
  ·have hi:=(I j t y).mod m (Ext.refl _ _) (fun i _ c e=>by rw[e,o.tag] at c;simp[qco,qbl] at c) hd
   have B:(if j<k+1 then t.sync else t)=(if j<k then t.sync else t):=by
    by_cases d:j<k
    ·rw[if_pos d,if_pos oM]
    ·rw[if_neg d,if_neg oM]
   rw[B]
   obtain⟨⟨a,O,C,D⟩,⟨q,R,E⟩⟩:=hi
   refine⟨⟨a,O,?_,D⟩,⟨q,?_,E⟩⟩
   ·rw[List.getElem?_set_ne oM,List.getElem?_set_ne oM];exact C
   ·rw[List.getElem?_set_ne oM,List.getElem?_set_ne oM];exact R
 ·exact h.mod.trans m
 ·have:=h.size
  simpa [World.setCell] using this
theorem Qw2 {D:Dev}(h:qax w τ b D) (f:Nat) (hf:f<2) (hg:D.go.1=true) :
 Calls Tryz.prog 53 #[.pointer (some ⟨b,0,none⟩),.int .u8 f] w fun e w'=>e = .returned (.tuple #[])/\qax w' τ b (D.go.2.put f ((D.file f).map Sec.sync))/\Mod w w' (fun j=>τ j=qd0\/τ j=qcj\/τ j=qco f)/\w'.heap.size=w.heap.size:=by
 obtain⟨v0,v1,R⟩:=h.as
 obtain⟨q,cap,hv,h1,h2,hp⟩:=R.file f
 have X:=Qrh R f oM
 rw[hv] at X
 have p:=Qre R
 rw[hg] at p
 obtain⟨HC,HG,HV,HP⟩:=qb9 X p hv hp
 have a2:decide ((2:Int)<=f)=false:=by simp;omega
 generalize hl:D.file f=l at *
 clear X p hg R h hp hv hl
 go_enter Tryz.func53,Tryz.ntmps53
 go_wp2_with fail
 refine zC HC ?_
 go_wp2_with fail
 refine HG.mono ?_
 rintro e y ⟨rfl,hd,C,E⟩
 obtain⟨D1,U,Z1⟩:=qan hd C E
 clear hd C E
 go_wp2_with fail
 have HS:Hid (0<l.length->∃bf z,q=some ⟨bf,0,none⟩/\Own y τ bf (qco f) 144 z/\∀j t,l[j]?=some t->qfd y τ f j z t):=Z2 (fun h0=>by
  obtain⟨bf,z,hq,a,o⟩:=HP h0
  exact⟨bf,z,hq,a.mod U.out (Ext.refl _ _) (by rw[a.tag];simp[qco,qd0,qcj]),fun j t B =>
   (o j t B).mod U.out (Ext.refl _ _) (fun i hi Y=>by rw[Y];simp[qbl,qd0,qcj]) (fun i hi Y=>by rw[Y];simp[qa2,qd0,qcj])⟩)
 by_cases E:l.length=0
 ·have h0:=Z2 E
  rw[E]
  go_loopw [19] (fun v wr=>v = .int .i64 0/\wr=y) (fun v _=>0)
  case atStart=>exact⟨rfl,rfl⟩
  case round =>
   obtain⟨rfl,rfl⟩:=hrel
   go_wp2_with fail
   go_returns
   have he:l=[]:=List.eq_nil_of_length_eq_zero h0.out
   refine⟨rfl,?_,U.out.mono (fun j _ h=>h.elim .inl (fun h=>.inr (.inl h))),Z1.out⟩
   have:=D1.out.put f hf (Mod.refl wr no) (Ext.refl wr τ) (fun _ _ h=>h.elim) [] (by
    rw[HV.out,he]
    exact⟨q,cap,rfl,sM,sM,fun hx=>by simp at hx⟩)
   rw[he]
   exact this.at
 ·obtain⟨bf,z,rfl,a,o⟩:=HS oM
  have F:qhi y y τ f bf l 0:=⟨⟨z,a,fun j t B=>by rw[if_neg oM];exact o j t B⟩,Mod.refl _ _,rfl⟩
  have H0:=Z2 F
  clear F a o HS HP HG HC
  generalize hn:l.length=n at *
  have G:=Z2 hn
  clear hn
  go_loopw [19] (fun v wr=>∃k:Nat,k<=n/\v = .int .i64 k/\qhi y wr τ f bf l k) (fun v _=>n-(intOf v).toNat)
  case atStart=>exact⟨0,Z9 _,rfl,H0⟩
  case round =>
   clear H0
   obtain⟨k,hk,rfl,c⟩:=hrel
   by_cases Z:k<n
   ·obtain⟨s,r⟩:∃s,l[k]?=some s:=⟨_,Z3 (by rw[G.out];exact Z)⟩
    obtain⟨I,a,o⟩:=c.is
    have x:=o k s r
    rw[if_neg oM] at x
    obtain⟨v,J,hb,hl⟩:=Qin a x
    obtain⟨⟨_,v0,L,_⟩,⟨u0,M,_⟩⟩:=x
    have c0:=a.at _ L
    have c1:=a.at _ M
    have f0:=a.fz (k*2)
    have f1:=a.fz (k*2+1)
    have d:=c.step r hb hl
    obtain⟨pv,cv,rfl,-,-,-⟩:=id hb.is
    obtain⟨NX,NW⟩:=qaj d J
    clear d J hb hl L M a o c r
    go_wp2_with fail
    refine zC NW.out ?_
    go_wp2_with fail
    go_round
    case rel=>exact⟨k+1,oM,sM,NX.out⟩
    case measure=>simp[intOf];omega
   ·have a1:k=n:=oM
    subst a1
    have SY:=Z2 c
    clear c
    go_wp2_with fail
    go_returns
    obtain⟨I,a,o⟩:=SY.out.is
    have C:=SY.out.mod
    refine⟨rfl,?_,((U.out.mono (fun j _ h=>h.elim .inl (fun h=>.inr (.inl h)))).seq C (fun j _ h=>by rw[h];exact .inr (.inr a.tag))),SY.out.size.trans Z1.out⟩
    refine(D1.out.put f hf C (Ext.refl _ τ) (fun j _ h=>by rw[h];exact .inl a.tag) (l.map Sec.sync) ?_).at
    rw[HV.out]
    refine⟨_,cap,by rw[Y0,G.out],by rw[Y0,G.out];exact h1,by rw[Y0,G.out];exact h2,fun _=>⟨bf,I,rfl,a,fun j t B=>?_⟩⟩
    rw[List.getElem?_map] at B
    obtain⟨t',O,rfl⟩:=Option.map_eq_some_iff.1 B
    have a4:=(Z4 O).1
    have:=o j t' O
    rwa [if_pos (by rw[<-G.out];exact a4)] at this
theorem Tryz.infoSector:(Tryz.prog.info? 144).map (fun i=>(i.zero,i.size,i.bytes))=some (some (.agg #[.slice none 0 0,.slice none 0 0]),2,48):=kR
theorem Qkn (k:Nat) (hk:k<=4096) (W:World):(Instr.makeSlice 133 (.int .i64 k) (.int .i64 k)).run Tryz.prog W =
 .ok (.slice (some ⟨W.heap.size,0,none⟩) k k) (W.alloc (.cells (madeCells #[.slice none 0 0,.slice none 0 0] (k*2)) 144)):=by
 obtain⟨i,hi,a,c,d⟩:=info_parts Tryz.infoSector
 have:=run_make (P:=Tryz.prog) W 133 144 i (.agg #[.slice none 0 0,.slice none 0 0]) Tryz.underlying133 hi a .i64 .i64 k k oM (Int.le_refl _) (by rw[d];omega) oM
 simp only[Int.toNat_natCast,c] at this
 exact this
theorem Qcz (W:World):(Instr.makeSlice 58 (.int .i64 128) (.int .i64 128)).run Tryz.prog W =
 .ok (.slice (some ⟨W.heap.size,0,none⟩) 128 128) (W.alloc (.cells (madeCells #[.int .u8 0] 128) 5)):=by
 obtain⟨i,hi,a,c,d⟩:=info_parts Tryz.infoU8
 have:=run_make (P:=Tryz.prog) W 58 5 i (.int .u8 0) Tryz.underlying58 hi a .i64 .i64 (128:Nat) (128:Nat) oM (Int.le_refl _) (by rw[d];omega) oM
 simp only[Int.toNat_natCast,c,Nat.mul_one] at this
 exact this
theorem qda (z:Array Value) (n j:Nat) (h:j<n):(madeCells z n)[j]?=some (z[j%z.size]!):=by
 unfold madeCells
 rw[Array.getElem?_map,Array.getElem?_range,if_pos h];rfl
theorem Qvi (z:Array Value) (n:Nat):(madeCells z n).size=n:=by simp[madeCells]
def qgp:Sec:=⟨List.replicate 128 0,[]⟩
theorem Bytes.noughts (w:World) (τ:qa1) (g:Tag) (n:Nat) (hn:n<=maxLen):Bytes (w.alloc (.cells (madeCells #[.int .u8 0] n) 5)) (τ.put w.heap.size g) g (.slice (some ⟨w.heap.size,0,none⟩) n n) (List.replicate n 0):=by
 have a:=Own.new w τ g 5 (madeCells #[.int .u8 0] n).toList
 refine⟨fun x c=>by rw[(List.mem_replicate.1 c).2];omega,some ⟨w.heap.size,0,none⟩,n,by rw[Z7],sM,hn,fun _=>⟨w.heap.size,0,rfl,a.tag,fun i hi=>?_⟩⟩
 rw[Z7] at hi
 have:=a.at i (v:=.int .u8 0) (by rw[Array.getElem?_toList,qda _ _ _ hi];simp[Nat.mod_one])
 rw[Nat.zero_add]
 rw[show (List.replicate n (0:Int)).getD i 0=0 by simp[List.getD,hi]]
 exact this
structure Fil (w0:World) (τ0:qa1) (wr:World) (τ:qa1) (bd f n k row:Nat) (v0 v1:Value) (l0:List Sec):Prop where
 ext:Ext w0 τ0 τ
 mod:Mod w0 wr no
 dev:Own wr τ bd qd0 138 [v0,v1,.pointer none,.bool false]
 low:w0.heap.size<=bd
 val:qew v0 v1 f = .slice (some ⟨row,0,none⟩) n n
 rows:∃xs,Own wr τ row (qco f) 144 xs/\(∀j,j<k->qfd wr τ f j xs qgp)/\(∀j,k<=j->j<n->xs[j*2]?=some (.slice none 0 0)/\xs[j*2+1]?=some (.slice none 0 0))
 new:w0.heap.size<=row
 other:f=1->File wr τ 0 v0 l0
theorem Fil.step {l0:List Sec}(h:Fil w0 τ0 wr τ bd f n k row v0 v1 l0) (F:k<n) :
 Fil w0 τ0 ((wr.alloc (.cells (madeCells #[.int .u8 0] 128) 5)).setCell ⟨row,k*2,none⟩ (.slice (some ⟨wr.heap.size,0,none⟩) 128 128)) (τ.put wr.heap.size qa2) bd f n (k+1) row v0 v1 l0:=by
 obtain⟨G,d,I,y⟩:=h.rows
 have J:=Bytes.noughts wr τ qa2 128 (by unfold maxLen;omega)
 have z:Mod wr (wr.alloc (.cells (madeCells #[.int .u8 0] 128) 5)) no:=(Mod.refl _ _).alloc _
 have l:Ext wr τ (τ.put wr.heap.size qa2):=(Ext.refl _ _).put _ _ (Z0 _)
 have B:=d.mod z l (fun h=>h)
 have C:Mod (wr.alloc (.cells (madeCells #[.int .u8 0] 128) 5)) ((wr.alloc (.cells (madeCells #[.int .u8 0] 128) 5)).setCell ⟨row,k*2,none⟩ (.slice (some ⟨wr.heap.size,0,none⟩) 128 128)) (fun j=>j=row):=Mod.one _ _ _ _
 have m:Mod wr ((wr.alloc (.cells (madeCells #[.int .u8 0] 128) 5)).setCell ⟨row,k*2,none⟩ (.slice (some ⟨wr.heap.size,0,none⟩) 128 128)) (fun j=>j=row):=(z.mono (fun _ _ h=>h.elim)).seq C (fun _ _ h=>h)
 have hd:∀i,i<wr.heap.size->τ i=qa2->¬i=row:=fun i _ c e=>by rw[e,d.tag] at c;simp[qco,qa2] at c
 have L:∀j i,i<wr.heap.size->τ i=qbl f j->¬i=row:=fun j i _ c e=>by rw[e,d.tag] at c;simp[qco,qbl] at c
 have ⟨x0,x1⟩:=y k (Z0 _) F
 have o:=(Z4 x0).1
 have l1':=(Z4 x1).1
 refine⟨h.ext.trans l h.mod.size,h.mod.seq m (fun j D hS=>?_),h.dev.mod m l (fun e=>?_),h.low,h.val,⟨G.set (k*2) (.slice (some ⟨wr.heap.size,0,none⟩) 128 128),B.set _ _,fun j D=>?_,fun j D hn=>?_⟩,h.new,fun E=>?_⟩
 ·have:=h.new
  omega
 ·have:=h.dev.tag
  rw[e,d.tag] at this;simp[qco,qd0] at this
 ·by_cases p:j=k
  ·subst p
   refine⟨⟨by simp[qgp],_,by rw[List.getElem?_set_self o],J.mod C (Ext.refl _ _) (fun i _ c e=>by rw[e,B.tag] at c;simp[qco,qa2] at c)⟩,⟨.slice none 0 0,by rw[List.getElem?_set_ne oM];exact x1,.inl ⟨rfl,rfl⟩⟩⟩
  ·have hi:=(I j oM).mod m l (L j) hd
   obtain⟨⟨a,M,r,s⟩,⟨q,O,x⟩⟩:=hi
   exact⟨⟨a,M,by rw[List.getElem?_set_ne oM];exact r,s⟩,⟨q,by rw[List.getElem?_set_ne oM];exact O,x⟩⟩
 ·rw[List.getElem?_set_ne oM,List.getElem?_set_ne oM]
  exact y j oM hn
 ·exact(h.other E).mod m l (fun i _ c e=>by rw[e,d.tag,E] at c;simp[qco] at c) (fun j i _ c e=>by rw[e,d.tag] at c;simp[qco,qbl] at c) hd
theorem Fil.drew {l0:List Sec}(h:Fil w0 τ0 wr τ bd f n k row v0 v1 l0):Fil w0 τ0 wr.drew τ bd f n k row v0 v1 l0:=by
 obtain⟨a,c,d,e⟩:=h.rows
 have m:Mod wr wr.drew no:=(Mod.refl wr no).drew
 exact⟨h.ext,h.mod.drew,h.dev.drew,h.low,h.val,⟨a,c.drew,fun j i=>(d j i).mod m (Ext.refl _ _) (fun _ _ _ h=>h) (fun _ _ _ h=>h),e⟩,h.new,fun l=>(h.other l).mod m (Ext.refl _ _) (fun _ _ _ h=>h) (fun _ _ _ _ h=>h) (fun _ _ _ h=>h)⟩
theorem Fil.file {l0:List Sec}(h:Fil w0 τ0 wr τ bd f n n row v0 v1 l0) (hn:n<=4096):File wr τ f (qew v0 v1 f) (List.replicate n qgp):=by
 obtain⟨d,e,i,hx⟩:=h.rows
 rw[h.val]
 refine⟨_,n,by rw[Z7],sM,by simpa using hn,fun _=>⟨row,d,rfl,e,fun j t a=>?_⟩⟩
 rw[List.getElem?_replicate] at a
 split at a
 ·rename_i c
  cases a
  exact i j c
 ·cases a
theorem Qvj (n:Nat):∀j,0<=j->j<n->(madeCells #[.slice none 0 0,.slice none 0 0] (n*2)).toList[j*2]?=some (Value.slice none 0 0)/\(madeCells #[.slice none 0 0,.slice none 0 0] (n*2)).toList[j*2+1]?=some (Value.slice none 0 0):=by
 intro j _ hj
 rw[Array.getElem?_toList,Array.getElem?_toList,qda _ _ _ oM,qda _ _ _ oM]
 have h0:j*2%2=0:=oM
 have h1:(j*2+1)%2=1:=oM
 constructor
 ·show some (#[Value.slice none 0 0,.slice none 0 0][j*2%2]!)=_
  rw[h0];rfl
 ·show some (#[Value.slice none 0 0,.slice none 0 0][(j*2+1)%2]!)=_
  rw[h1];rfl
theorem Fil.start {l0:List Sec}(e:Ext w0 τ0 τ) (m:Mod w0 wr no) (dev:Own wr τ bd qd0 138 [v0,v1,.pointer none,.bool false]) (low:w0.heap.size<=bd) (f:Nat) (hf:f<2) (x:f=1->File wr τ 0 v0 l0)
 (d p:Value) (a:[d,p,.pointer none,.bool false]=[v0,v1,.pointer none,.bool false].set f (.slice (some ⟨wr.heap.size,0,none⟩) n n)) :
 Fil w0 τ0 ((wr.alloc (.cells (madeCells #[.slice none 0 0,.slice none 0 0] (n*2)) 144)).setCell ⟨bd,f,none⟩ (.slice (some ⟨wr.heap.size,0,none⟩) n n)) (τ.put wr.heap.size (qco f)) bd f n 0 wr.heap.size d p l0:=by
 have hbl:=dev.lt
 have q:Mod wr (wr.alloc (.cells (madeCells #[.slice none 0 0,.slice none 0 0] (n*2)) 144)) no:=(Mod.refl _ _).alloc _
 have l:Ext wr τ (τ.put wr.heap.size (qco f)):=(Ext.refl _ _).put _ _ (Z0 _)
 have y:=dev.mod q l (fun h=>h)
 have z:=Own.new wr τ (qco f) 144 (madeCells #[.slice none 0 0,.slice none 0 0] (n*2)).toList
 have r:Mod (wr.alloc (.cells (madeCells #[.slice none 0 0,.slice none 0 0] (n*2)) 144)) ((wr.alloc (.cells (madeCells #[.slice none 0 0,.slice none 0 0] (n*2)) 144)).setCell ⟨bd,f,none⟩ (.slice (some ⟨wr.heap.size,0,none⟩) n n)) (fun j=>j=bd):=Mod.one _ _ _ _
 have s:Mod wr ((wr.alloc (.cells (madeCells #[.slice none 0 0,.slice none 0 0] (n*2)) 144)).setCell ⟨bd,f,none⟩ (.slice (some ⟨wr.heap.size,0,none⟩) n n)) (fun j=>j=bd):=(q.mono (fun _ _ h=>h.elim)).seq r (fun _ _ h=>h)
 have c:∀g,g≠qd0->∀i,i<wr.heap.size->τ i=g->¬i=bd:=fun g c i _ B e=>c (by rw[<-B,e,dev.tag])
 refine⟨e.trans l m.size,m.seq s (fun j C h=>oM),?_,low,?_,⟨_,z.mod r (Ext.refl _ _) (fun e=>oM),fun j C=>oM,Qvj n⟩,m.size,fun h1=>?_⟩
 ·rw[a];exact y.set f _
 ·rcases Nat.lt_or_ge f 1 with h|h
  ·obtain rfl:f=0:=oM
   simp at a;simp[qew,a.1]
  ·obtain rfl:f=1:=oM
   simp at a;simp[qew,a.2]
 ·have D:=(x h1).mod s l (c _ (by simp[qco,qd0])) (fun i=>c _ (by simp[qbl,qd0])) (c _ (by simp[qa2,qd0]))
  have o:d=v0:=by rw[h1] at a;simp at a;exact a.1
  rw[o];exact D
def At0 (w0:World) (τ0:qa1) (wr:World) (bd:Nat):Prop:=∃τ,Ext w0 τ0 τ/\Mod w0 wr no/\Own wr τ bd qd0 138 [.slice none 0 0,.slice none 0 0,.pointer none,.bool false]
def At1 (w0:World) (τ0:qa1) (wr:World) (bd a:Nat):Prop:=∃τ v0,Ext w0 τ0 τ/\Mod w0 wr no/\Own wr τ bd qd0 138 [v0,.slice none 0 0,.pointer none,.bool false]/\File wr τ 0 v0 (List.replicate a qgp)
def At2 (w0:World) (τ0:qa1) (wr:World) (bd a b:Nat):Prop:=∃τ,Ext w0 τ0 τ/\Mod w0 wr no/\qax wr τ bd ⟨List.replicate a qgp,List.replicate b qgp,none,false⟩
theorem Fil.at1 {l0:List Sec}(h:Fil w0 τ0 wr τ bd 0 n n row v0 (.slice none 0 0) l0) (hn:n<=4096):At1 w0 τ0 wr bd n :=
 ⟨τ,v0,h.ext,h.mod,h.dev,h.file hn⟩
theorem Fil.at2 {a:Nat}(h:Fil w0 τ0 wr τ bd 1 n n row v0 v1 (List.replicate a qgp)) (hn:n<=4096):At2 w0 τ0 wr bd a n :=
 ⟨τ,h.ext,h.mod,v0,v1,.pointer none,h.dev,h.other rfl,h.file hn,.inl ⟨rfl,rfl⟩⟩
theorem Qli (W:World) (x y:Value):(Instr.index 177 (.agg #[x,y]) (.int .i64 0)).run Tryz.prog W = .ok x W/\(Instr.index 177 (.agg #[x,y]) (.int .i64 1)).run Tryz.prog W = .ok y W:=by
 have h:=Tryz.underlying177
 constructor <;> simp[Instr.index,Sem.run_bind,run_underlying h,go_sem]
def NewD (w:World) (τ:qa1) (a b:Nat) (e:Ending) (w':World):Prop:=∃bd,e = .returned (.pointer (some ⟨bd,0,none⟩))/\w.heap.size<=bd/\At2 w τ w' bd a b
set_option maxRecDepth 20000 in
theorem Qmx (w:World) (τ:qa1) (a b:Nat) (z:a<=4096) (B:b<=4096) :
 Calls Tryz.prog 28 #[.int .i64 a,.int .i64 b] w (NewD w τ a b):=by
 have ra:=Qkn a z
 have rb:=Qkn b B
 have U:=Z2 Qcz
 have i0:=fun W=>(Qli W (.int .i64 a) (.int .i64 b)).1
 have i1:=fun W=>(Qli W (.int .i64 a) (.int .i64 b)).2
 have ga:decide ((4096:Int)<a)=false:=by simp;omega
 have gb:decide ((4096:Int)<b)=false:=by simp;omega
 go_enter Tryz.func28,Tryz.ntmps28
 go_wp2_with fail
 have X:=Own.new w τ qd0 138 [.slice none 0 0,.slice none 0 0,.pointer none,.bool false]
 have Y:At0 w τ (w.alloc (.cells #[.slice none 0 0,.slice none 0 0,.pointer none,.bool false] 138)) w.heap.size:=⟨_,(Ext.refl w τ).put _ _ (Z0 _),(Mod.refl _ _).alloc _,X⟩
 have C:=Z2 Y
 clear X Y
 generalize w.alloc (.cells #[.slice none 0 0,.slice none 0 0,.pointer none,.bool false] 138)=W0 at C ⊢
 generalize r:w.heap.size=bd at C ⊢
 have D:=Z2 (Nat.le_of_eq r)
 clear r
 obtain⟨Z,HB⟩:=qaj z B
 clear z B
 go_loopw [14] (fun v wr=>(v = .int .i64 0/\At0 w τ wr bd)\/(v = .int .i64 1/\At1 w τ wr bd a)\/(v = .int .i64 2/\At2 w τ wr bd a b)) (fun v _=>2-(intOf v).toNat)
 case atStart=>exact .inl ⟨rfl,C.out⟩
 case round =>
  rcases hrel with ⟨rfl,h0⟩|⟨rfl,h1⟩|⟨rfl,h2⟩
  ·obtain⟨τ1,e,m,dev⟩:=h0
   have c0:=dev.at 0 rfl
   have f0:=dev.fz 0
   have lb:=dev.lt
   obtain⟨E,M,s⟩:=qan e m dev
   clear e m dev
   go_wp2_with fail
   go_region
   have c:=(Fil.start (n:=a) (l0:=[]) E.out M.out s.out D 0 oM (fun h=>oM) _ _ rfl).drew
   rw[World.setCell_alloc_past _ _ _ _ lb] at c
   generalize τ1.put wr.heap.size (qco 0)=p at c
   generalize ((wr.setCell ⟨bd,0,none⟩ (.slice (some ⟨wr.heap.size,0,none⟩) a a)).alloc (.cells (madeCells #[.slice none 0 0,.slice none 0 0] (a*2)) 144)).drew=w2 at c ⊢
   generalize wr.heap.size=row at c ⊢
   have c2:=c.dev.at 0 rfl
   have x:=Z2 c
   clear c E M s c0 f0 lb
   go_wp2_with fail
   go_loopw [38] (fun v F=>∃(k:Nat) (i:qa1),k<=a/\v = .int .i64 k/\Fil w τ F i bd 0 a k row (.slice (some ⟨row,0,none⟩) a a) (.slice none 0 0) ([])) (fun v _=>a-(intOf v).toNat)
   case atStart=>exact⟨0,p,Z9 _,rfl,x.out⟩
   case round =>
    clear x c2
    obtain⟨k,i,hk,rfl,d⟩:=hrel
    by_cases j:k<a
    ·have d0:=d.dev.at 0 rfl
     obtain⟨xs,l,G,y⟩:=d.rows
     have x0:=l.at _ (y k (Z0 _) j).1
     have z0:=l.fz (k*2)
     have I:=l.lt
     have ld:=d.dev.lt
     have nx:=(d.step j)
     rw[World.setCell_alloc_past _ _ _ _ I] at nx
     have J:=Z2 nx.drew
     have L:=U.out
     have O:k+1<=9223372036854775807:=by have:=Z.out;omega
     clear l G y d nx
     go_wp2_with fail
     go_region
     go_wp2_with fail
     go_round
     case rel=>exact⟨k+1,_,oM,sM,J.out⟩
     case measure=>simp[intOf];omega
    ·have q:k=a:=oM
     subst q
     have R:=Z2 d
     clear d
     go_wp2_with fail
     go_round
     case rel=>exact .inr (.inl ⟨sM,R.out.at1 Z⟩)
     case measure=>simp[intOf]
  ·obtain⟨τ1,v0,e,m,dev,o⟩:=h1
   have c0:=dev.at 1 rfl
   have f0:=dev.fz 1
   have lb:=dev.lt
   obtain⟨E,M,s,F0⟩:=qb9 e m dev o
   clear e m dev o
   go_wp2_with fail
   go_region
   have c:=(Fil.start (n:=b) (l0:=List.replicate a qgp) E.out M.out s.out D 1 oM (fun _=>F0.out) _ _ rfl).drew
   rw[World.setCell_alloc_past _ _ _ _ lb] at c
   generalize τ1.put wr.heap.size (qco 1)=p at c
   generalize ((wr.setCell ⟨bd,1,none⟩ (.slice (some ⟨wr.heap.size,0,none⟩) b b)).alloc (.cells (madeCells #[.slice none 0 0,.slice none 0 0] (b*2)) 144)).drew=w2 at c ⊢
   generalize wr.heap.size=row at c ⊢
   have c2:=c.dev.at 1 rfl
   have x:=Z2 c
   clear c E M s c0 f0 lb
   go_wp2_with fail
   go_loopw [38] (fun v F=>∃(k:Nat) (i:qa1),k<=b/\v = .int .i64 k/\Fil w τ F i bd 1 b k row v0 (.slice (some ⟨row,0,none⟩) b b) (List.replicate a qgp)) (fun v _=>b-(intOf v).toNat)
   case atStart=>exact⟨0,p,Z9 _,rfl,x.out⟩
   case round =>
    clear x c2
    obtain⟨k,i,hk,rfl,d⟩:=hrel
    by_cases j:k<b
    ·have d0:=d.dev.at 1 rfl
     obtain⟨xs,l,G,y⟩:=d.rows
     have x0:=l.at _ (y k (Z0 _) j).1
     have z0:=l.fz (k*2)
     have I:=l.lt
     have ld:=d.dev.lt
     have nx:=(d.step j)
     rw[World.setCell_alloc_past _ _ _ _ I] at nx
     have J:=Z2 nx.drew
     have L:=U.out
     have O:k+1<=9223372036854775807:=by have:=HB.out;omega
     clear l G y d nx
     go_wp2_with fail
     go_region
     go_wp2_with fail
     go_round
     case rel=>exact⟨k+1,_,oM,sM,J.out⟩
     case measure=>simp[intOf];omega
    ·have q:k=b:=oM
     subst q
     have R:=Z2 d
     clear d
     go_wp2_with fail
     go_round
     case rel=>exact .inr (.inr ⟨sM,R.out.at2 HB⟩)
     case measure=>simp[intOf]
  ·have H2:=Z2 h2
   clear h2
   go_wp2_with fail
   go_returns
   exact⟨_,rfl,D,H2⟩
