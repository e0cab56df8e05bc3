/-
 What a clock is,in plain Lean: which frames are taken,used,how often pinned,where the hand is;and what its calls make of it. No program in sight.
-/
import Derived.Test.YtociicnopccppaaGreatProg
import Derived.WalkKit
import Derived.ProofKit
import Derived.BigQuiet
import Derived.Deep.QuietTactic
import Derived.RegionTactic
import Derived.ChangeAlike
import Derived.Outline
import Derived.Lib.Hide
import Derived.WalkMore
import Derived.Deep.LoopGhost
set_option linter.all false
namespace Go.Proofs.YtociicnopccppaaGreat.Ck.Clk
structure St where
 n:Nat
 t:Nat->Bool
 u:Nat->Bool
 p:Nat->Nat
 h:Nat
def qil (n:Nat):St:=⟨n,fun _=>false,fun _=>false,fun _=>0,0⟩
def upd {α:Type}(f:Nat->α) (k:Nat) (v:α):Nat->α:=fun j=>if j=k then v else f j
def inn (s:St) (i:Int):Bool:=decide (0<=i) && decide (i<(s.n:Int))
def isT (s:St) (i:Int):Bool:=inn s i && s.t i.toNat
def takeB (s:St) (i:Int):Bool:=inn s i && !s.t i.toNat
def qe0 (s:St) (i:Int):St:=if takeB s i then {s with t:=upd s.t i.toNat true,u:=upd s.u i.toNat true,p:=upd s.p i.toNat 0} else s
def qe6 (s:St) (i:Int):Bool:=isT s i && decide (s.p i.toNat=0)
def qc9 (s:St) (i:Int):St:=if qe6 s i then {s with t:=upd s.t i.toNat false,u:=upd s.u i.toNat false} else s
def qc7 (s:St) (i:Int):St:=if isT s i then {s with u:=upd s.u i.toNat true} else s
def qgt (s:St) (i:Int):St:=if isT s i then {s with p:=upd s.p i.toNat (s.p i.toNat+1)} else s
def qdi (s:St) (i:Int):Bool:=isT s i && decide (s.p i.toNat≠0)
def qdc (s:St) (i:Int):St:=if qdi s i then {s with p:=upd s.p i.toNat (s.p i.toNat-1)} else s
def qfk (s:St) (i:Int):Nat:=if inn s i then s.p i.toNat else 0
def first (f:Nat->Bool):Nat->Nat
 | 0=>0
 | n+1=>if first f n<n then first f n else if f n then n else n+1
theorem Qh6 (f:Nat->Bool) (n:Nat):first f n<=n:=by
 induction n with
 | zero=>exact Nat.le_refl _
 | succ n ih=>simp only[first];split <;> (try split) <;> omega
theorem Qh5 (f:Nat->Bool) (n:Nat) (h:first f n<n):f (first f n)=true:=by
 induction n with
 | zero=>omega
 | succ n ih =>
   simp only[first] at h ⊢
   split
   ·rename_i h1;exact ih h1
   ·rename_i h1;rw[if_neg h1] at h;split
    ·assumption
    ·rename_i h2;rw[if_neg h2] at h;omega
theorem Qj0 (f:Nat->Bool) (n:Nat):∀k,k<first f n->f k=false:=by
 induction n with
 | zero=>intro k a;simp[first] at a
 | succ n ih =>
   intro k a
   simp only[first] at a
   split at a
   ·exact ih k a
   ·rename_i h1
    have hle:=Qh6 f n
    split at a
    ·exact ih k (by omega)
    ·rename_i h2
     by_cases e:k=n
     ·subst e;simpa using h2
     ·exact ih k (by omega)
theorem Qod (f:Nat->Bool) (n k:Nat) (hk:k<n) (b:f k=true) (a:∀j,j<k->f j=false):first f n=k:=by
 have h1:¬k<first f n:=fun h=>by have:=Qj0 f n k h;rw[b] at this;cases this
 by_cases h2:first f n<k
 ·have:=Qh5 f n (by omega);rw[a _ h2] at this;cases this
 ·omega
theorem Qts (f:Nat->Bool) (n:Nat) (a:∀j,j<n->f j=false):first f n=n:=by
 by_cases h2:first f n<n
 ·have:=Qh5 f n h2;rw[a _ h2] at this;cases this
 ·have:=Qh6 f n;omega
def turn (n:Nat) (p:Nat->Nat):Nat->(Nat->Bool)->Nat->(Nat->Bool)×Nat×Nat
 | 0,u,h=>(u,h,0)
 | f+1,u,h=>if p h=0 then (if u h then turn n p f (upd u h false) ((h+1)%n) else (u,(h+1)%n,h)) else turn n p f u ((h+1)%n)
def cnt (f:Nat->Bool):Nat->Nat
 | 0=>0
 | n+1=>cnt f n+if f n then 1 else 0
theorem Ja1 (f:Nat->Bool) (n:Nat):cnt f n<=n:=by
 induction n with
 | zero=>exact Nat.le_refl _
 | succ n ih=>simp only[cnt];split <;> omega
theorem Qpw (f g:Nat->Bool) (n:Nat) (h:∀k,k<n->f k=g k):cnt f n=cnt g n:=by
 induction n with
 | zero=>rfl
 | succ n ih=>simp only[cnt];rw[ih (fun k hk=>h k (by omega)),h n (by omega)]
theorem Qx8 (f g:Nat->Bool) (n k:Nat) (hk:k<n) (a:f k=true) (b:g k=false) (h:∀j,j≠k->f j=g j):cnt g n+1=cnt f n:=by
 induction n with
 | zero=>omega
 | succ n ih =>
   simp only[cnt]
   by_cases e:k=n
   ·subst e
    rw[Qpw g f k (fun j hj=>(h j (by omega)).symm),a,b];simp
   ·have:=ih (by omega)
    rw[h n (fun q=>e q.symm)];omega
def qhz (n:Nat) (p:Nat->Nat) (h:Nat):Nat:=first (fun d=>decide (p ((h+d)%n)=0)) n
def mes (n:Nat) (p:Nat->Nat) (u:Nat->Bool) (h:Nat):Nat:=cnt (fun k=>u k && decide (p k=0)) n*n+qhz n p h
def qge (s:St):Bool:=decide (first (fun k=>decide (s.p k=0)) s.n<s.n)
theorem Qo2 (s:St):qge s=true↔∃k,k<s.n/\s.p k=0:=by
 unfold qge
 constructor
 ·intro h
  have h:=of_decide_eq_true h
  have:=Qh5 _ _ h
  exact⟨_,h,by simpa using this⟩
 ·rintro⟨k,hk,a⟩
  refine decide_eq_true ?_
  have:=Qh6 (fun k=>decide (s.p k=0)) s.n
  by_cases e:first (fun k=>decide (s.p k=0)) s.n<s.n
  ·exact e
  ·have:=Qj0 (fun k=>decide (s.p k=0)) s.n k (by omega)
   simp[a] at this
theorem Qv4 (n:Nat) (p:Nat->Nat) (h:Nat) (hn:0<n) (k:Nat) (a:k<n) (b:p k=0):qhz n p h<n:=by
 have hle:=Qh6 (fun d=>decide (p ((h+d)%n)=0)) n
 by_cases e:qhz n p h<n
 ·exact e
 ·exfalso
  have hd:(n-h%n+k)%n<n:=Nat.mod_lt _ hn
  have:=Qj0 (fun d=>decide (p ((h+d)%n)=0)) n ((n-h%n+k)%n) (by unfold qhz at e;omega)
  have hh:(h+(n-h%n+k)%n)%n=k:=by
   rw[Nat.add_mod,Nat.mod_mod,<-Nat.add_mod]
   have h1:h%n<n:=Nat.mod_lt _ hn
   have h2:h=n*(h/n)+h%n:=(Nat.div_add_mod h n).symm
   have c:h+(n-h%n+k)=k+n*(h/n+1):=by rw[Nat.mul_add];omega
   rw[c,Nat.add_mul_mod_self_left,Nat.mod_eq_of_lt a]
  simp[hh,b] at this
theorem Qv2 (n:Nat) (p:Nat->Nat) (h:Nat) (hh:h<n) (a:p h=0):qhz n p h=0 :=
 Qod _ _ _ (by omega) (by simp[Nat.mod_eq_of_lt hh,a]) (fun j hj=>by omega)
theorem Qv3 (n:Nat) (p:Nat->Nat) (h:Nat) (hh:h<n) (g:p h≠0) (k:Nat) (i:k<n) (b:p k=0):qhz n p ((h+1)%n)+1=qhz n p h:=by
 have hd:=Qv4 n p h (by omega) k i b
 have a:=Qh5 (fun d=>decide (p ((h+d)%n)=0)) n hd
 have c:=Qj0 (fun d=>decide (p ((h+d)%n)=0)) n
 have hpos:qhz n p h≠0:=by
  intro e
  unfold qhz at e
  rw[e] at a
  simp[Nat.mod_eq_of_lt hh] at a
  exact g a
 have key:qhz n p ((h+1)%n)=qhz n p h-1:=by
  refine Qod _ _ _ (by omega) ?_ ?_
  ·have:((h+1)%n+(qhz n p h-1))%n=(h+qhz n p h)%n:=by
    rw[Nat.add_mod,Nat.mod_mod,<-Nat.add_mod];congr 1;omega
   simp only[this];exact a
  ·intro j l
   have:((h+1)%n+j)%n=(h+(j+1))%n:=by
    rw[Nat.add_mod,Nat.mod_mod,<-Nat.add_mod];congr 1;omega
   simp only[this]
   exact c (j+1) (by unfold qhz at l;omega)
 omega
theorem Qe9 (n:Nat) (p:Nat->Nat) (u:Nat->Bool) (h:Nat) (hh:h<n) (b:p h≠0) (k:Nat) (c:k<n) (a:p k=0) :
 mes n p u ((h+1)%n)<mes n p u h:=by
 have:=Qv3 n p h hh b k c a
 unfold mes;omega
theorem Qh2 (n:Nat) (p:Nat->Nat) (u:Nat->Bool) (h:Nat) (hh:h<n) (a:p h=0) (b:u h=true) :
 mes n p (upd u h false) ((h+1)%n)<mes n p u h:=by
 have h1:=Qv4 n p ((h+1)%n) (by omega) h hh a
 have h2:=Qv2 n p h hh a
 have c:=Qx8 (fun k=>u k && decide (p k=0)) (fun k=>upd u h false k && decide (p k=0)) n h hh (by simp[b,a]) (by simp[upd]) (fun j d=>by simp[upd,d])
 unfold mes
 rw[<-c,Nat.add_mul];omega
theorem Qow (n:Nat) (p:Nat->Nat) (k:Nat) (d:k<n) (b:p k=0):∀(f g:Nat) (u:Nat->Bool) (h:Nat),h<n->mes n p u h<f->mes n p u h<g->turn n p f u h=turn n p g u h:=by
 intro f
 induction f with
 | zero=>intro g u h _ h1;omega
 | succ f ih =>
   intro g u h hh h1 h2
   cases g with
   | zero=>omega
   | succ g =>
     have c:(h+1)%n<n:=Nat.mod_lt _ (by omega)
     simp only[turn]
     by_cases a:p h=0
     ·simp only[a,if_true]
      cases e:u h with
      | false=>simp
      | true =>
        have:=Qh2 n p u h hh a e
        simp only[if_true]
        exact ih _ _ _ c (by omega) (by omega)
     ·have:=Qe9 n p u h hh a k d b
      simp only[a,if_false]
      exact ih _ _ _ c (by omega) (by omega)
theorem Qpj (n:Nat) (p:Nat->Nat) (u:Nat->Bool) (h:Nat) (hn:n<=64):mes n p u h<5000:=by
 unfold mes
 have h1:=Ja1 (fun k=>u k && decide (p k=0)) n
 have h2:=Qh6 (fun d=>decide (p ((h+d)%n)=0)) n
 have h3:cnt (fun k=>u k && decide (p k=0)) n*n<=64*64:=Nat.mul_le_mul (by omega) hn
 unfold qhz;omega
theorem Qkh (n:Nat) (p:Nat->Nat) (f:Nat) (u:Nat->Bool) (h:Nat):turn n p (f+1) u h =
 if p h=0 then (if u h then turn n p f (upd u h false) ((h+1)%n) else (u,(h+1)%n,h)) else turn n p f u ((h+1)%n):=rfl
def qgx (F n:Nat) (p:Nat->Nat) (u:Nat->Bool) (h:Nat):(Nat->Bool)×Nat×Nat:=turn n p (F+1) u h
theorem Qpp (F n:Nat) (p:Nat->Nat) (u:Nat->Bool) (h:Nat) (hF:mes n p u h<F) (hh:h<n) (b:p h≠0) (k:Nat) (c:k<n) (a:p k=0) :
 qgx F n p u h=qgx F n p u ((h+1)%n):=by
 have d:(h+1)%n<n:=Nat.mod_lt _ (by omega)
 have h2:=Qe9 n p u h hh b k c a
 unfold qgx
 rw[Qkh,if_neg b]
 exact Qow n p k c a _ _ _ _ d (by omega) (by omega)
theorem Qtp (F n:Nat) (p:Nat->Nat) (u:Nat->Bool) (h:Nat) (hF:mes n p u h<F) (hh:h<n) (a:p h=0) (b:u h=true) :
 qgx F n p u h=qgx F n p (upd u h false) ((h+1)%n):=by
 have c:(h+1)%n<n:=Nat.mod_lt _ (by omega)
 have h2:=Qh2 n p u h hh a b
 unfold qgx
 rw[Qkh,if_pos a,b,if_pos rfl]
 exact Qow n p h hh a _ _ _ _ c (by omega) (by omega)
theorem Qtq (F n:Nat) (p:Nat->Nat) (u:Nat->Bool) (h:Nat) (a:p h=0) (b:u h=false):qgx F n p u h=(u,(h+1)%n,h):=by
 unfold qgx
 rw[Qkh,if_pos a,b];rfl
def goes (n:Nat) (p:Nat->Nat) (u:Nat->Bool) (h:Nat):(Nat->Bool)×Nat×Nat:=qgx 5000 n p u h
theorem Qlk (n:Nat) (p:Nat->Nat) (u:Nat->Bool) (h:Nat) (hn:n<=64) (hh:h<n) (b:p h≠0) (k:Nat) (c:k<n) (a:p k=0) :
 goes n p u h=goes n p u ((h+1)%n):=Qpp _ n p u h (Qpj n p u h hn) hh b k c a
theorem Qpo (n:Nat) (p:Nat->Nat) (u:Nat->Bool) (h:Nat) (hn:n<=64) (hh:h<n) (a:p h=0) (b:u h=true) :
 goes n p u h=goes n p (upd u h false) ((h+1)%n):=Qtp _ n p u h (Qpj n p u h hn) hh a b
theorem Qll (n:Nat) (p:Nat->Nat) (u:Nat->Bool) (h:Nat) (a:p h=0) (b:u h=false):goes n p u h=(u,(h+1)%n,h):=Qtq _ n p u h a b
def qfs (s:St):Nat:=first (fun k => !s.t k) s.n
def qbt (s:St):St :=
 if qfs s<s.n then s else if qge s then {s with u:=(goes s.n s.p s.u s.h).1,h:=(goes s.n s.p s.u s.h).2.1} else s
def qfl (s:St):Nat :=
 if qfs s<s.n then qfs s else if qge s then (goes s.n s.p s.u s.h).2.2 else 0
def qg1 (s:St):Bool:=decide (qfs s<s.n) || qge s
end Go.Proofs.YtociicnopccppaaGreat.Ck.Clk
namespace Go.Proofs.YtociicnopccppaaGreat.Ck
open Go.RowKit Clk
structure Mod (w w':World) (bs:List Nat):Prop where
 os:w'.os=w.os
 tape:w'.tape=w.tape
 output:w'.output=w.output
 size:w.heap.size<=w'.heap.size
 block:∀k,k<w.heap.size->k ∉ bs->w'.heap[k]?=w.heap[k]?
theorem Mod.refl (w:World) (a:List Nat):Mod w w a:=⟨rfl,rfl,rfl,Nat.le_refl _,fun _ _ _=>rfl⟩
theorem Mod.trans {a b c:World}{d:List Nat}(h:Mod a b d) (k:Mod b c d):Mod a c d :=
 ⟨k.os.trans h.os,k.tape.trans h.tape,k.output.trans h.output,Nat.le_trans h.size k.size,fun i hi hn=>(k.block i (Nat.lt_of_lt_of_le hi h.size) hn).trans (h.block i hi hn)⟩
theorem Mod.mono {a b:World}{c cs:List Nat}(h:Mod a b c) (d:∀k,k∈c->k∈cs):Mod a b cs :=
 ⟨h.os,h.tape,h.output,h.size,fun i hi hn=>h.block i hi (fun m=>hn (d i m))⟩
theorem Mod.drew {a w:World}{b:List Nat}(h:Mod a w b):Mod a w.drew b:=⟨h.os,h.tape,h.output,h.size,h.block⟩
theorem Mod.alloc {a w:World}{b:List Nat}(h:Mod a w b) (o:Obj):Mod a (w.alloc o) b :=
 h.trans ⟨rfl,rfl,rfl,by simp,fun k c _=>Below.heap_alloc _ _ _ c⟩
theorem Mod.setCell {a w:World}{b:List Nat}(h:Mod a w b) {p:Addr}(c:p.block∈b) (v:Value):Mod a (w.setCell p v) b :=
 h.trans ⟨rfl,rfl,rfl,by simp[World.setCell],fun k hk hn=>Below.heap_setCell _ _ _ _ (fun e=>hn (e▸c))⟩
theorem Mod.cell {w a:World}{c:List Nat}(h:Mod w a c) (b o:Nat) (d:b<w.heap.size) (hn:b ∉ c):a.cell? ⟨b,o,none⟩=w.cell? ⟨b,o,none⟩:=by
 simp only[World.cell?,h.block b d hn]
theorem Mod.frozen {w a:World}{c:List Nat}(h:Mod w a c) (b o:Nat) (d:b<w.heap.size) (hn:b ∉ c):a.frozen? ⟨b,o,none⟩=w.frozen? ⟨b,o,none⟩:=by
 simp only[World.frozen?,h.block b d hn]
theorem qb0 {w:World}{b o:Nat}{v:Value}(h:w.cell? ⟨b,o,none⟩=some v):b<w.heap.size:=by
 unfold World.cell? at h
 by_cases a:b<w.heap.size
 ·exact a
 ·simp[Array.getElem?_eq_none (Nat.le_of_not_lt a)] at h
theorem Mod.cell_of {w a:World}{c:List Nat}(h:Mod w a c) {b o:Nat}{v:Value}(d:w.cell? ⟨b,o,none⟩=some v) (hn:b ∉ c):a.cell? ⟨b,o,none⟩=some v:=by
 rw[h.cell b o (qb0 d) hn];exact d
structure PC (w:World) (bc bf:Nat) (s:St):Prop where
 n1:1<=s.n
 n64:s.n<=64
 hh:s.h<s.n
 ne:bc≠bf
 c0:w.cell? ⟨bc,0,none⟩=some (.slice (some ⟨bf,0,none⟩) s.n s.n)
 c1:w.cell? ⟨bc,1,none⟩=some (.int .i64 (s.h:Int))
 fc:∀o,w.frozen? ⟨bc,o,none⟩=false
 ct:∀k,k<s.n->w.cell? ⟨bf,k*3,none⟩=some (.bool (s.t k))
 cu:∀k,k<s.n->w.cell? ⟨bf,k*3+1,none⟩=some (.bool (s.u k))
 cp:∀k,k<s.n->w.cell? ⟨bf,k*3+2,none⟩=some (.int .i64 (s.p k:Int))
 ff:∀o,w.frozen? ⟨bf,o,none⟩=false
theorem PC.mod {w c:World}{bc bf:Nat}{s:St}(h:PC w bc bf s) {b:List Nat}(m:Mod w c b) (h1:bc ∉ b) (h2:bf ∉ b):PC c bc bf s:=by
 have l1:=qb0 h.c0
 have d:=qb0 (h.ct 0 h.n1)
 refine⟨h.n1,h.n64,h.hh,h.ne,m.cell_of h.c0 h1,m.cell_of h.c1 h1,?_,?_,?_,?_,?_⟩
 ·intro o;rw[m.frozen _ _ l1 h1];exact h.fc o
 ·intro k a;exact m.cell_of (h.ct k a) h2
 ·intro k a;exact m.cell_of (h.cu k a) h2
 ·intro k a;exact m.cell_of (h.cp k a) h2
 ·intro o;rw[m.frozen _ _ d h2];exact h.ff o
theorem Qa3 (w:World) (b o a c:Nat) (v x:Value) (h:w.cell? ⟨b,o,none⟩=some x) :
 (w.setCell ⟨a,c,none⟩ v).cell? ⟨b,o,none⟩=some (if b=a/\o=c then v else x):=by
 unfold World.cell? World.setCell at *
 simp only[Array.getElem?_modify]
 by_cases e:a=b
 ·subst e
  simp only[if_true]
  cases g:w.heap[a]? with
  | none=>simp[g] at h
  | some ob =>
    simp only[g] at h ⊢
    cases ob <;> simp_all
    rw[Array.getElem?_setIfInBounds]
    by_cases d:c=o
    ·subst d
     have:c<_:=(Array.getElem?_eq_some_iff.1 h).1
     simp[this]
    ·simp only[d,if_false,h]
     have:¬o=c:=fun q=>d q.symm
     simp[this]
 ·have:¬b=a:=fun q=>e q.symm
  simp only[if_neg e,this,false_and,if_false]
  exact h
theorem Qch (w:World) (p q:Addr) (v:Value):(w.setCell p v).frozen? q=w.frozen? q:=by
 unfold World.frozen? World.setCell
 simp only[Array.getElem?_modify]
 by_cases e:p.block=q.block
 ·simp only[e,if_true]
  cases hx:w.heap[q.block]? with
  | none=>rfl
  | some ob=>cases ob <;> simp
 ·simp only[if_neg e]
end Go.Proofs.YtociicnopccppaaGreat.Ck
namespace Go.Proofs.YtociicnopccppaaGreat.Ck
open Go.RowKit Clk
theorem PC.setH {w:World}{bc bf:Nat}{s:St}(h:PC w bc bf s) (c:Nat) (d:c<s.n):PC (w.setCell ⟨bc,1,none⟩ (.int .i64 (c:Int))) bc bf {s with h:=c}:=by
 have a:=h.ne
 refine⟨h.n1,h.n64,d,h.ne,?_,?_,?_,?_,?_,?_,?_⟩
 ·rw[Qa3 _ _ _ _ _ _ _ h.c0];simp
 ·rw[Qa3 _ _ _ _ _ _ _ h.c1];simp
 ·intro o;rw[Qch];exact h.fc o
 ·intro k b;rw[Qa3 _ _ _ _ _ _ _ (h.ct k b)];simp[Ne.symm a]
 ·intro k b;rw[Qa3 _ _ _ _ _ _ _ (h.cu k b)];simp[Ne.symm a]
 ·intro k b;rw[Qa3 _ _ _ _ _ _ _ (h.cp k b)];simp[Ne.symm a]
 ·intro o;rw[Qch];exact h.ff o
theorem PC.setT {w:World}{bc bf:Nat}{s:St}(h:PC w bc bf s) (j:Nat) (v:Bool):PC (w.setCell ⟨bf,j*3,none⟩ (.bool v)) bc bf {s with t:=upd s.t j v}:=by
 have a:=h.ne
 refine⟨h.n1,h.n64,h.hh,h.ne,?_,?_,?_,?_,?_,?_,?_⟩
 ·rw[Qa3 _ _ _ _ _ _ _ h.c0];simp[a]
 ·rw[Qa3 _ _ _ _ _ _ _ h.c1];simp[a]
 ·intro o;rw[Qch];exact h.fc o
 ·intro k b;rw[Qa3 _ _ _ _ _ _ _ (h.ct k b)]
  by_cases e:k=j
  ·subst e;simp[upd]
  ·have:¬(k*3=j*3):=by omega
   simp[upd,e,this]
 ·intro k b;rw[Qa3 _ _ _ _ _ _ _ (h.cu k b)]
  have:¬(k*3+1=j*3):=by omega
  simp[this]
 ·intro k b;rw[Qa3 _ _ _ _ _ _ _ (h.cp k b)]
  have:¬(k*3+2=j*3):=by omega
  simp[this]
 ·intro o;rw[Qch];exact h.ff o
theorem PC.setU {w:World}{bc bf:Nat}{s:St}(h:PC w bc bf s) (j:Nat) (v:Bool):PC (w.setCell ⟨bf,j*3+1,none⟩ (.bool v)) bc bf {s with u:=upd s.u j v}:=by
 have a:=h.ne
 refine⟨h.n1,h.n64,h.hh,h.ne,?_,?_,?_,?_,?_,?_,?_⟩
 ·rw[Qa3 _ _ _ _ _ _ _ h.c0];simp[a]
 ·rw[Qa3 _ _ _ _ _ _ _ h.c1];simp[a]
 ·intro o;rw[Qch];exact h.fc o
 ·intro k b;rw[Qa3 _ _ _ _ _ _ _ (h.ct k b)]
  have:¬(k*3=j*3+1):=by omega
  simp[this]
 ·intro k b;rw[Qa3 _ _ _ _ _ _ _ (h.cu k b)]
  by_cases e:k=j
  ·subst e;simp[upd]
  ·have:¬(k*3=j*3):=by omega
   simp[upd,e,this]
 ·intro k b;rw[Qa3 _ _ _ _ _ _ _ (h.cp k b)]
  have:¬(k*3+2=j*3+1):=by omega
  simp[this]
 ·intro o;rw[Qch];exact h.ff o
theorem PC.setP {w:World}{bc bf:Nat}{s:St}(h:PC w bc bf s) (j:Nat) (v:Nat):PC (w.setCell ⟨bf,j*3+2,none⟩ (.int .i64 (v:Int))) bc bf {s with p:=upd s.p j v}:=by
 have a:=h.ne
 refine⟨h.n1,h.n64,h.hh,h.ne,?_,?_,?_,?_,?_,?_,?_⟩
 ·rw[Qa3 _ _ _ _ _ _ _ h.c0];simp[a]
 ·rw[Qa3 _ _ _ _ _ _ _ h.c1];simp[a]
 ·intro o;rw[Qch];exact h.fc o
 ·intro k b;rw[Qa3 _ _ _ _ _ _ _ (h.ct k b)]
  have:¬(k*3=j*3+2):=by omega
  simp[this]
 ·intro k b;rw[Qa3 _ _ _ _ _ _ _ (h.cu k b)]
  have:¬(k*3=j*3+1):=by omega
  simp[this]
 ·intro k b;rw[Qa3 _ _ _ _ _ _ _ (h.cp k b)]
  by_cases e:k=j
  ·subst e;simp[upd]
  ·have:¬(k*3=j*3):=by omega
   simp[upd,e,this]
 ·intro o;rw[Qch];exact h.ff o
theorem Qwt {α:Type}(f:Nat->α) (k:Nat):upd f k (f k)=f:=by
 funext j;unfold upd;split
 ·rename_i e;rw[e]
 ·rfl
theorem Qio {s:St}{k:Nat}(h:k<s.n):inn s (k:Int)=true:=by simp[inn];omega
theorem Qm1 {s:St}{i:Int}(h:i<0\/(s.n:Int)<=i):inn s i=false:=by
 unfold inn
 rcases h with h|h
 ·have:¬0<=i:=by omega
  simp[this]
 ·have:¬i<(s.n:Int):=by omega
  simp[this]
theorem qe7 (s:St) (i:Int):(∃k:Nat,i=(k:Int)/\k<s.n)\/(i<0\/(s.n:Int)<=i):=by
 by_cases h:0<=i/\i<(s.n:Int)
 ·exact .inl ⟨i.toNat,by omega,by omega⟩
 ·exact .inr (by omega)
theorem qiz (w:World) (bc bf n k:Nat) (h1:k<n) (hn:n<=64)
 (hc0:w.cell? ⟨bc,0,none⟩=some (.slice (some ⟨bf,0,none⟩) n n)) :
 Calls Tryz.prog 170 #[.pointer (some ⟨bc,0,none⟩),.int .i64 (k:Int)] w fun e a=>e = .returned (.pointer (some ⟨bf,k*3,none⟩))/\w=a:=by
 go_enter Tryz.func170,Tryz.ntmps170
 go_wp2
 go_ret
 exact⟨rfl,rfl⟩
theorem Qwk (w:World) (bc bf n:Nat) (i:Int) (h1:i<0\/n<=i) (hn:n<=64)
 (hc0:w.cell? ⟨bc,0,none⟩=some (.slice (some ⟨bf,0,none⟩) n n)) :
 Calls Tryz.prog 170 #[.pointer (some ⟨bc,0,none⟩),.int .i64 i] w fun e a=>e = .returned (.pointer none)/\w=a:=by
 by_cases h0:i<0
 ·go_enter Tryz.func170,Tryz.ntmps170
  go_wp2
  go_ret
  exact⟨rfl,rfl⟩
 ·have a1:decide ((n:Int)<=i)=true:=by simp;omega
  go_enter Tryz.func170,Tryz.ntmps170
  go_wp2
  go_ret
  exact⟨rfl,rfl⟩
theorem Qhq (w:World) (bc bf n:Nat) (i:Int) (h1:i<0\/n<=i) (hn:n<=64)
 (a:w.cell? ⟨bc,0,none⟩=some (.slice (some ⟨bf,0,none⟩) n n)) :
 Calls Tryz.prog 168 #[.pointer (some ⟨bc,0,none⟩),.int .i64 i] w fun e b=>e = .returned (.pointer none)/\w=b:=by
 go_enter Tryz.func168,Tryz.ntmps168
 go_wp2_with (go_at_call 170;refine(Qwk _ bc bf n i h1 hn a).mono ?_;rintro e b ⟨rfl,rfl⟩)
 go_ret
 exact⟨rfl,rfl⟩
theorem Qe3 (w:World) (bc bf n k:Nat) (h1:k<n) (hn:n<=64)
 (a:w.cell? ⟨bc,0,none⟩=some (.slice (some ⟨bf,0,none⟩) n n)) (hT:w.cell? ⟨bf,k*3,none⟩=some (.bool true)) :
 Calls Tryz.prog 168 #[.pointer (some ⟨bc,0,none⟩),.int .i64 (k:Int)] w fun e b=>e = .returned (.pointer (some ⟨bf,k*3,none⟩))/\w=b:=by
 go_enter Tryz.func168,Tryz.ntmps168
 go_wp2_with (go_at_call 170;refine(qiz _ bc bf n k h1 hn a).mono ?_;rintro e b ⟨rfl,rfl⟩)
 go_ret
 exact⟨rfl,rfl⟩
theorem Qjq (w:World) (bc bf n k:Nat) (h1:k<n) (hn:n<=64)
 (a:w.cell? ⟨bc,0,none⟩=some (.slice (some ⟨bf,0,none⟩) n n)) (hT:w.cell? ⟨bf,k*3,none⟩=some (.bool false)) :
 Calls Tryz.prog 168 #[.pointer (some ⟨bc,0,none⟩),.int .i64 (k:Int)] w fun e b=>e = .returned (.pointer none)/\w=b:=by
 go_enter Tryz.func168,Tryz.ntmps168
 go_wp2_with (go_at_call 170;refine(qiz _ bc bf n k h1 hn a).mono ?_;rintro e b ⟨rfl,rfl⟩)
 go_ret
 exact⟨rfl,rfl⟩
def Did (w:World) (r:Value) (bc bf:Nat) (s:St) (bs:List Nat) (e:Ending) (w':World):Prop:=e = .returned r/\PC w' bc bf s/\Mod w w' bs
theorem qgs (w:World) (bc bf:Nat) (s:St) (h:PC w bc bf s) (i:Int) :
 Calls Tryz.prog 167 #[.pointer (some ⟨bc,0,none⟩),.int .i64 i] w (Did w (.bool (takeB s i)) bc bf (qe0 s i) [bf]):=by
 have c:=h.c0
 have hn:=h.n64
 rcases qe7 s i with ⟨k,rfl,d⟩|j
 ·have l:=h.ct k d
  have hi:=Qio d
  cases g:s.t k with
  | true =>
    rw[g] at l
    have a:takeB s (k:Int)=false:=by simp[takeB,g]
    have b:qe0 s (k:Int)=s:=by simp[qe0,a]
    rw[a,b]
    clear a b hi g
    go_enter Tryz.func167,Tryz.ntmps167
    go_wp2_with (go_at_call 170;refine(qiz _ bc bf s.n k d hn c).mono ?_;rintro e o ⟨rfl,rfl⟩)
    go_ret
    exact⟨rfl,h,Mod.refl _ _⟩
  | false =>
    rw[g] at l
    have hU:=h.cu k d
    have hP:=h.cp k d
    have f0:=h.ff (k*3)
    have f1:=h.ff (k*3+1)
    have f2:=h.ff (k*3+2)
    have a:takeB s (k:Int)=true:=by simp[takeB,g,hi]
    have b:qe0 s (k:Int)={s with t:=upd s.t k true,u:=upd s.u k true,p:=upd s.p k 0}:=by simp[qe0,a]
    rw[a,b]
    clear a b hi g
    go_enter Tryz.func167,Tryz.ntmps167
    go_wp2_with (go_at_call 170;refine(qiz _ bc bf s.n k d hn c).mono ?_;rintro e o ⟨rfl,rfl⟩)
    go_ret
    exact⟨rfl,((h.setT k true).setU k true).setP k 0,(((Mod.refl _ _).setCell (by simp) _).setCell (by simp) _).setCell (by simp) _⟩
 ·have hi:=Qm1 j
  have a:takeB s i=false:=by simp[takeB,hi]
  have b:qe0 s i=s:=by simp[qe0,a]
  rw[a,b]
  clear a b hi
  go_enter Tryz.func167,Tryz.ntmps167
  go_wp2_with (go_at_call 170;refine(Qwk _ bc bf s.n i j hn c).mono ?_;rintro e o ⟨rfl,rfl⟩)
  go_ret
  exact⟨rfl,h,Mod.refl _ _⟩
end Go.Proofs.YtociicnopccppaaGreat.Ck
namespace Go.Proofs.YtociicnopccppaaGreat.Ck
open Go.RowKit Clk
theorem qiw (w:World) (bc bf:Nat) (s:St) (h:PC w bc bf s) (i:Int) :
 Calls Tryz.prog 215 #[.pointer (some ⟨bc,0,none⟩),.int .i64 i] w (Did w (.bool (qe6 s i)) bc bf (qc9 s i) [bf]):=by
 have c:=h.c0
 have hn:=h.n64
 rcases qe7 s i with ⟨k,rfl,d⟩|q
 ·have l:=h.ct k d
  have hi:=Qio d
  have r:=h.cp k d
  cases g:s.t k with
  | false =>
    rw[g] at l
    have a:qe6 s (k:Int)=false:=by simp[qe6,isT,g]
    have b:qc9 s (k:Int)=s:=by simp[qc9,a]
    rw[a,b]
    clear a b hi g
    go_enter Tryz.func215,Tryz.ntmps215
    go_wp2_with (go_at_call 168;refine(Qjq _ bc bf s.n k d hn c l).mono ?_;rintro e o ⟨rfl,rfl⟩)
    go_ret
    exact⟨rfl,h,Mod.refl _ _⟩
  | true =>
    rw[g] at l
    by_cases j:s.p k=0
    ·have a:qe6 s (k:Int)=true:=by simp[qe6,isT,g,hi,j]
     have b:qc9 s (k:Int)={s with t:=upd s.t k false,u:=upd s.u k false,p:=upd s.p k 0}:=by
      have:upd s.p k 0=s.p:=by rw[<-j];exact Qwt _ _
      simp[qc9,a,this]
     rw[a,b]
     rw[j] at r
     have hU:=h.cu k d
     have f0:=h.ff (k*3)
     have f1:=h.ff (k*3+1)
     have f2:=h.ff (k*3+2)
     clear a b hi g j
     go_enter Tryz.func215,Tryz.ntmps215
     go_wp2_with (go_at_call 168;refine(Qe3 _ bc bf s.n k d hn c l).mono ?_;rintro e o ⟨rfl,rfl⟩)
     go_ret
     exact⟨rfl,((h.setT k false).setU k false).setP k 0,(((Mod.refl _ _).setCell (by simp) _).setCell (by simp) _).setCell (by simp) _⟩
    ·have a:qe6 s (k:Int)=false:=by simp[qe6,j]
     have b:qc9 s (k:Int)=s:=by simp[qc9,a]
     rw[a,b]
     have hpos:0<s.p k:=by omega
     clear a b hi g j
     go_enter Tryz.func215,Tryz.ntmps215
     go_wp2_with (go_at_call 168;refine(Qe3 _ bc bf s.n k d hn c l).mono ?_;rintro e o ⟨rfl,rfl⟩)
     go_ret
     exact⟨rfl,h,Mod.refl _ _⟩
 ·have hi:=Qm1 q
  have a:qe6 s i=false:=by simp[qe6,isT,hi]
  have b:qc9 s i=s:=by simp[qc9,a]
  rw[a,b]
  clear a b hi
  go_enter Tryz.func215,Tryz.ntmps215
  go_wp2_with (go_at_call 168;refine(Qhq _ bc bf s.n i q hn c).mono ?_;rintro e o ⟨rfl,rfl⟩)
  go_ret
  exact⟨rfl,h,Mod.refl _ _⟩
theorem qip (w:World) (bc bf:Nat) (s:St) (h:PC w bc bf s) (i:Int) :
 Calls Tryz.prog 106 #[.pointer (some ⟨bc,0,none⟩),.int .i64 i] w (Did w (.bool (isT s i)) bc bf (qc7 s i) [bf]):=by
 have c:=h.c0
 have hn:=h.n64
 rcases qe7 s i with ⟨k,rfl,g⟩|l
 ·have j:=h.ct k g
  have hi:=Qio g
  cases d:s.t k with
  | false =>
    rw[d] at j
    have a:isT s (k:Int)=false:=by simp[isT,d]
    have b:qc7 s (k:Int)=s:=by simp[qc7,a]
    rw[a,b]
    clear a b hi d
    go_enter Tryz.func106,Tryz.ntmps106
    go_wp2_with (go_at_call 168;refine(Qjq _ bc bf s.n k g hn c j).mono ?_;rintro e o ⟨rfl,rfl⟩)
    go_ret
    exact⟨rfl,h,Mod.refl _ _⟩
  | true =>
    rw[d] at j
    have a:isT s (k:Int)=true:=by simp[isT,d,hi]
    have b:qc7 s (k:Int)={s with u:=upd s.u k true}:=by simp[qc7,a]
    rw[a,b]
    have hU:=h.cu k g
    have f1:=h.ff (k*3+1)
    clear a b hi d
    go_enter Tryz.func106,Tryz.ntmps106
    go_wp2_with (go_at_call 168;refine(Qe3 _ bc bf s.n k g hn c j).mono ?_;rintro e o ⟨rfl,rfl⟩)
    go_ret
    exact⟨rfl,h.setU k true,(Mod.refl _ _).setCell (by simp) _⟩
 ·have hi:=Qm1 l
  have a:isT s i=false:=by simp[isT,hi]
  have b:qc7 s i=s:=by simp[qc7,a]
  rw[a,b]
  clear a b hi
  go_enter Tryz.func106,Tryz.ntmps106
  go_wp2_with (go_at_call 168;refine(Qhq _ bc bf s.n i l hn c).mono ?_;rintro e o ⟨rfl,rfl⟩)
  go_ret
  exact⟨rfl,h,Mod.refl _ _⟩
theorem qjs (w:World) (bc bf:Nat) (s:St) (h:PC w bc bf s) (i:Int) (o:∀k,s.p k<=1000000) :
 Calls Tryz.prog 107 #[.pointer (some ⟨bc,0,none⟩),.int .i64 i] w (Did w (.bool (isT s i)) bc bf (qgt s i) [bf]):=by
 have c:=h.c0
 have hn:=h.n64
 rcases qe7 s i with ⟨k,rfl,g⟩|q
 ·have l:=h.ct k g
  have hi:=Qio g
  cases d:s.t k with
  | false =>
    rw[d] at l
    have a:isT s (k:Int)=false:=by simp[isT,d]
    have b:qgt s (k:Int)=s:=by simp[qgt,a]
    rw[a,b]
    clear a b hi d
    go_enter Tryz.func107,Tryz.ntmps107
    go_wp2_with (go_at_call 168;refine(Qjq _ bc bf s.n k g hn c l).mono ?_;rintro e r ⟨rfl,rfl⟩)
    go_ret
    exact⟨rfl,h,Mod.refl _ _⟩
  | true =>
    rw[d] at l
    have a:isT s (k:Int)=true:=by simp[isT,d,hi]
    have b:qgt s (k:Int)={s with p:=upd s.p k (s.p k+1)}:=by simp[qgt,a]
    rw[a,b]
    have hP:=h.cp k g
    have f2:=h.ff (k*3+2)
    have hb:=o k
    have j:=h.setP k (s.p k+1)
    clear a b hi d o
    go_enter Tryz.func107,Tryz.ntmps107
    go_wp2_with (go_at_call 168;refine(Qe3 _ bc bf s.n k g hn c l).mono ?_;rintro e r ⟨rfl,rfl⟩)
    go_ret
    refine⟨rfl,?_,(Mod.refl _ _).setCell (by simp) _⟩
    simpa using j
 ·have hi:=Qm1 q
  have a:isT s i=false:=by simp[isT,hi]
  have b:qgt s i=s:=by simp[qgt,a]
  rw[a,b]
  clear a b hi o
  go_enter Tryz.func107,Tryz.ntmps107
  go_wp2_with (go_at_call 168;refine(Qhq _ bc bf s.n i q hn c).mono ?_;rintro e r ⟨rfl,rfl⟩)
  go_ret
  exact⟨rfl,h,Mod.refl _ _⟩
theorem qio (w:World) (bc bf:Nat) (s:St) (h:PC w bc bf s) (i:Int) (o:∀k,s.p k<=1000000) :
 Calls Tryz.prog 112 #[.pointer (some ⟨bc,0,none⟩),.int .i64 i] w (Did w (.bool (qdi s i)) bc bf (qdc s i) [bf]):=by
 have c:=h.c0
 have hn:=h.n64
 rcases qe7 s i with ⟨k,rfl,j⟩|x
 ·have q:=h.ct k j
  have hi:=Qio j
  have z:=h.cp k j
  cases g:s.t k with
  | false =>
    rw[g] at q
    have a:qdi s (k:Int)=false:=by simp[qdi,isT,g]
    have b:qdc s (k:Int)=s:=by simp[qdc,a]
    rw[a,b]
    clear a b hi g o
    go_enter Tryz.func112,Tryz.ntmps112
    go_wp2_with (go_at_call 168;refine(Qjq _ bc bf s.n k j hn c q).mono ?_;rintro e r ⟨rfl,rfl⟩)
    go_ret
    exact⟨rfl,h,Mod.refl _ _⟩
  | true =>
    rw[g] at q
    by_cases l:s.p k=0
    ·have a:qdi s (k:Int)=false:=by simp[qdi,l]
     have b:qdc s (k:Int)=s:=by simp[qdc,a]
     rw[a,b]
     rw[l] at z
     clear a b hi g l o
     go_enter Tryz.func112,Tryz.ntmps112
     go_wp2_with (go_at_call 168;refine(Qe3 _ bc bf s.n k j hn c q).mono ?_;rintro e r ⟨rfl,rfl⟩)
     go_ret
     exact⟨rfl,h,Mod.refl _ _⟩
    ·have a:qdi s (k:Int)=true:=by simp[qdi,isT,g,hi,l]
     have b:qdc s (k:Int)={s with p:=upd s.p k (s.p k-1)}:=by simp[qdc,a]
     rw[a,b]
     have f2:=h.ff (k*3+2)
     have hb:=o k
     have d:=h.setP k (s.p k-1)
     have hz:((s.p k:Int)==0)=false:=by simpa using l
     have y:((s.p k-1:Nat):Int)=(s.p k:Int)-1:=by omega
     rw[y] at d
     have hpos:1<=s.p k:=by omega
     clear a b hi g o l y
     go_enter Tryz.func112,Tryz.ntmps112
     go_wp2_with (go_at_call 168;refine(Qe3 _ bc bf s.n k j hn c q).mono ?_;rintro e r ⟨rfl,rfl⟩)
     go_ret
     exact⟨rfl,d,(Mod.refl _ _).setCell (by simp) _⟩
 ·have hi:=Qm1 x
  have a:qdi s i=false:=by simp[qdi,isT,hi]
  have b:qdc s i=s:=by simp[qdc,a]
  rw[a,b]
  clear a b hi o
  go_enter Tryz.func112,Tryz.ntmps112
  go_wp2_with (go_at_call 168;refine(Qhq _ bc bf s.n i x hn c).mono ?_;rintro e r ⟨rfl,rfl⟩)
  go_ret
  exact⟨rfl,h,Mod.refl _ _⟩
theorem qja (w:World) (bc bf:Nat) (s:St) (h:PC w bc bf s) (i:Int) :
 Calls Tryz.prog 109 #[.pointer (some ⟨bc,0,none⟩),.int .i64 i] w fun e c=>e = .returned (.int .i64 (qfk s i:Int))/\w=c:=by
 have a:=h.c0
 have hn:=h.n64
 rcases qe7 s i with ⟨k,rfl,d⟩|g
 ·have hP:=h.cp k d
  have hi:=Qio d
  have b:qfk s (k:Int)=s.p k:=by simp[qfk,hi]
  rw[b]
  clear b hi
  go_enter Tryz.func109,Tryz.ntmps109
  go_wp2_with (go_at_call 170;refine(qiz _ bc bf s.n k d hn a).mono ?_;rintro e c ⟨rfl,rfl⟩)
  go_ret
  exact⟨rfl,rfl⟩
 ·have hi:=Qm1 g
  have b:qfk s i=0:=by simp[qfk,hi]
  rw[b]
  clear b hi
  go_enter Tryz.func109,Tryz.ntmps109
  go_wp2_with (go_at_call 170;refine(Qwk _ bc bf s.n i g hn a).mono ?_;rintro e c ⟨rfl,rfl⟩)
  go_ret
  exact⟨rfl,rfl⟩
end Go.Proofs.YtociicnopccppaaGreat.Ck
namespace Go.Proofs.YtociicnopccppaaGreat.Ck
open Go.RowKit Clk
theorem fn28 (t u:Bool) (p:Int) (w:World):Calls Tryz.prog 212 #[.agg #[.bool t,.bool u,.int .i64 p]] w fun e a=>e = .returned (.bool (!t))/\Mod w a []:=by
 go_enter Tryz.func212,Tryz.ntmps212
 go_wp2
 go_ret
 exact⟨rfl,(Mod.refl _ _).alloc _⟩
theorem fn30 (t u:Bool) (p:Nat) (w:World):Calls Tryz.prog 214 #[.agg #[.bool t,.bool u,.int .i64 (p:Int)]] w fun e a=>e = .returned (.bool (decide (p=0)))/\Mod w a []:=by
 by_cases h:p=0
 ·subst h
  go_enter Tryz.func214,Tryz.ntmps214
  go_wp2
  go_ret
  exact⟨rfl,(Mod.refl _ _).alloc _⟩
 ·have h1:((p:Int)==0)=false:=by simpa using h
  have h2:decide (p=0)=false:=by simpa using h
  rw[h2]
  clear h h2
  go_enter Tryz.func214,Tryz.ntmps214
  go_wp2
  go_ret
  exact⟨rfl,(Mod.refl _ _).alloc _⟩
def idx (f:Nat->Bool) (n:Nat):Int:=if first f n<n then (first f n:Int) else -1
theorem Qys {f:Nat->Bool}{n k:Nat}(b:k<n) (c:f k=true) (a:∀j,j<k->f j=false):idx f n=(k:Int):=by
 unfold idx;rw[Qod f n k b c a,if_pos b]
theorem Qsg {f:Nat->Bool}{n:Nat}(a:∀j,j<n->f j=false):idx f n = -1:=by
 unfold idx;rw[Qts f n a,if_neg (by omega)]
def DidV (w:World) (r:Value) (e:Ending) (w':World):Prop:=e = .returned r/\Mod w w' []
theorem Qxt (w:World) (bc bf:Nat) (s:St) (h:PC w bc bf s) :
 Calls Tryz.prog 211 #[.slice (some ⟨bf,0,none⟩) s.n s.n,.func (.func 212) #[] #[]] w (DidV w (.int .i64 (idx (fun k => !s.t k) s.n))):=by
 have hn:=h.n64
 go_enter Tryz.func211,Tryz.ntmps211
 go_wp2
 go_loopw [5,8] (fun a v wr=>∃k:Nat,k<=s.n/\v = .int .i64 (k:Int)/\Mod w wr []/\∀j,j<k->(!s.t j)=false) (fun _ v _=>s.n-(intOf v).toNat)
 case atStart=>exact⟨0,Nat.zero_le _,rfl,Mod.refl _ _,fun j C=>by omega⟩
 case round =>
  obtain⟨k,hk,rfl,r,b⟩:=hrel
  have c:=h.mod r (by simp) (by simp)
  have Hno:=Lib.hid b
  have y:=Lib.hid r
  by_cases g:k<s.n
  ·have hT:=c.ct k g
   have hU:=c.cu k g
   have hP:=c.cp k g
   cases q:(!s.t k:Bool) with
   | true =>
     have hi:=Qys g q b
     have z:=Lib.hid hi
     have l:=fn28 (s.t k) (s.u k) (s.p k)
     rw[q] at l
     have B:=Lib.hid l
     clear q l hi b h c r
     go_wp2_with (go_at_call 212;refine(B.out _).mono ?_;rintro e D ⟨rfl,d⟩;have o:=Lib.hid d;clear d)
     go_ret
     exact⟨by rw[z.out];rfl,y.out.trans o.out⟩
   | false =>
     have l:=fn28 (s.t k) (s.u k) (s.p k)
     rw[q] at l
     have i:∀j,j<k+1->(!s.t j)=false:=by
      intro j C
      by_cases e:j=k
      ·subst e;exact q
      ·exact b j (by omega)
     have x:=Lib.hid i
     have B:=Lib.hid l
     clear q l b h c r i
     go_wp2_with (go_at_call 212;refine(B.out _).mono ?_;rintro e D ⟨rfl,d⟩;have o:=Lib.hid d;clear d)
     go_roundw
     case rel=>exact⟨k+1,by omega,by go_num,y.out.trans o.out,x.out⟩
     case measure=>simp[intOf];omega
  ·have hi:=Qsg (n:=s.n) (f:=fun k => !s.t k) (fun j C=>b j (by omega))
   have z:=Lib.hid hi
   clear hi b h c r
   go_wp2
   go_ret
   exact⟨by rw[z.out];rfl,y.out⟩
theorem Qxs (w:World) (bc bf:Nat) (s:St) (h:PC w bc bf s) :
 Calls Tryz.prog 211 #[.slice (some ⟨bf,0,none⟩) s.n s.n,.func (.func 214) #[] #[]] w (DidV w (.int .i64 (idx (fun k=>decide (s.p k=0)) s.n))):=by
 have hn:=h.n64
 go_enter Tryz.func211,Tryz.ntmps211
 go_wp2
 go_loopw [5,8] (fun a v wr=>∃k:Nat,k<=s.n/\v = .int .i64 (k:Int)/\Mod w wr []/\∀j,j<k->(decide (s.p j=0))=false) (fun _ v _=>s.n-(intOf v).toNat)
 case atStart=>exact⟨0,Nat.zero_le _,rfl,Mod.refl _ _,fun j C=>by omega⟩
 case round =>
  obtain⟨k,hk,rfl,r,b⟩:=hrel
  have c:=h.mod r (by simp) (by simp)
  have Hno:=Lib.hid b
  have y:=Lib.hid r
  by_cases g:k<s.n
  ·have hT:=c.ct k g
   have hU:=c.cu k g
   have hP:=c.cp k g
   cases q:(decide (s.p k=0):Bool) with
   | true =>
     have hi:=Qys g q b
     have z:=Lib.hid hi
     have l:=fn30 (s.t k) (s.u k) (s.p k)
     rw[q] at l
     have B:=Lib.hid l
     clear q l hi b h c r
     go_wp2_with (go_at_call 214;refine(B.out _).mono ?_;rintro e D ⟨rfl,d⟩;have o:=Lib.hid d;clear d)
     go_ret
     exact⟨by rw[z.out];rfl,y.out.trans o.out⟩
   | false =>
     have l:=fn30 (s.t k) (s.u k) (s.p k)
     rw[q] at l
     have i:∀j,j<k+1->(decide (s.p j=0))=false:=by
      intro j C
      by_cases e:j=k
      ·subst e;exact q
      ·exact b j (by omega)
     have x:=Lib.hid i
     have B:=Lib.hid l
     clear q l b h c r i
     go_wp2_with (go_at_call 214;refine(B.out _).mono ?_;rintro e D ⟨rfl,d⟩;have o:=Lib.hid d;clear d)
     go_roundw
     case rel=>exact⟨k+1,by omega,by go_num,y.out.trans o.out,x.out⟩
     case measure=>simp[intOf];omega
  ·have hi:=Qsg (n:=s.n) (f:=fun k=>decide (s.p k=0)) (fun j C=>b j (by omega))
   have z:=Lib.hid hi
   clear hi b h c r
   go_wp2
   go_ret
   exact⟨by rw[z.out];rfl,y.out⟩
theorem Qlv (w:World) (bc bf:Nat) (s:St) (h:PC w bc bf s) :
 Calls Tryz.prog 213 #[.slice (some ⟨bf,0,none⟩) s.n s.n,.func (.func 214) #[] #[]] w (DidV w (.bool (qge s))):=by
 have d:decide (0<=idx (fun k=>decide (s.p k=0)) s.n)=qge s:=by
  unfold idx qge
  by_cases q:first (fun k=>decide (s.p k=0)) s.n<s.n
  ·simp[q]
  ·simp[q]
 rw[<-d]
 clear d
 generalize hi:idx (fun k=>decide (s.p k=0)) s.n=r
 have b:=Qxs w bc bf s h
 rw[hi] at b
 have g:=Lib.hid b
 clear b hi h
 go_enter Tryz.func213,Tryz.ntmps213
 go_wp2_with (go_at_call 211;refine g.out.mono ?_;rintro e w1 ⟨rfl,a⟩;have c:=Lib.hid a;clear a)
 go_ret
 exact⟨rfl,c.out⟩
end Go.Proofs.YtociicnopccppaaGreat.Ck
namespace Go.Proofs.YtociicnopccppaaGreat.Ck
open Go.RowKit Clk
def uW (w:World) (bf k:Nat):Bool:=match w.cell? ⟨bf,k*3+1,none⟩ with|some (.bool b)=>b|_=>false
def hW (w:World) (bc:Nat):Nat:=match w.cell? ⟨bc,1,none⟩ with|some (.int _ q)=>q.toNat|_=>0
def mesW (n:Nat) (p:Nat->Nat) (bc bf:Nat) (w:World):Nat:=mes n p (uW w bf) (hW w bc)
theorem Qq2 {w:World}{bc bf:Nat}{s:St}(h:PC w bc bf s):mesW s.n s.p bc bf w=mes s.n s.p s.u s.h:=by
 unfold mesW mes
 have a:hW w bc=s.h:=by unfold hW;rw[h.c1];simp
 have b:cnt (fun k=>uW w bf k && decide (s.p k=0)) s.n=cnt (fun k=>s.u k && decide (s.p k=0)) s.n :=
  Qpw _ _ _ (fun k c=>by simp[uW,h.cu k c])
 rw[a,b]
theorem qjb (w:World) (bc bf:Nat) (s:St) (h:PC w bc bf s) :
 Calls Tryz.prog 164 #[.pointer (some ⟨bc,0,none⟩)] w (Did w (.tuple #[.int .i64 (qfl s:Int),.bool (qg1 s)]) bc bf (qbt s) [bc,bf]):=by
 have U:=h.c0
 have hn:=h.n64
 have hi:=Qxt w bc bf s h
 by_cases a:qfs s<s.n
 ·have L:idx (fun k => !s.t k) s.n=(qfs s:Int):=by unfold qfs at a;simp[idx,qfs,a]
  have o:qbt s=s:=by simp[qbt,a]
  have q:qfl s=qfs s:=by simp[qfl,a]
  have y:qg1 s=true:=by simp[qg1,a]
  rw[L] at hi
  rw[o,q,y]
  generalize qfs s=k at *
  have M:=Lib.hid hi
  have F:=Lib.hid h
  clear hi h L o q y
  go_enter Tryz.func164,Tryz.ntmps164
  go_wp2
  go_step3
  go_wp2_with (go_at_call 211;refine M.out.mono ?_;rintro e O ⟨rfl,j⟩;have d:=Lib.hid j;clear j)
  go_ret2
  exact⟨rfl,F.out.mod d.out (by simp) (by simp),d.out.mono (by simp)⟩
 ·have L:idx (fun k => !s.t k) s.n = -1:=by unfold qfs at a;simp[idx,a]
  rw[L] at hi
  cases g:qge s with
  | false =>
    have o:qbt s=s:=by simp[qbt,a,g]
    have q:qfl s=0:=by simp[qfl,a,g]
    have y:qg1 s=false:=by simp[qg1,a,g]
    rw[o,q,y]
    have I:=fun O h1=>Qlv O bc bf s h1
    rw[g] at I
    have M:=Lib.hid hi
    have F:=Lib.hid h
    have HC:=Lib.hid I
    clear hi h L o q y I g
    go_enter Tryz.func164,Tryz.ntmps164
    go_wp2
    go_step3
    go_wp2_with (first
     | (go_at_call 211;refine M.out.mono ?_;rintro e O ⟨rfl,j⟩;have X:=j.cell_of U (by simp);have d:=Lib.hid j;clear j)
     | (go_at_call 213;refine(HC.out _ (F.out.mod d.out (by simp) (by simp))).mono ?_;rintro e w2 ⟨rfl,z⟩;have r:=Lib.hid z;clear z))
    go_ret2
    exact⟨rfl,F.out.mod (d.out.trans r.out) (by simp) (by simp),(d.out.trans r.out).mono (by simp)⟩
  | true =>
    have o:qbt s={s with u:=(goes s.n s.p s.u s.h).1,h:=(goes s.n s.p s.u s.h).2.1}:=by simp[qbt,a,g]
    have q:qfl s=(goes s.n s.p s.u s.h).2.2:=by simp[qfl,a,g]
    have y:qg1 s=true:=by simp[qg1,g]
    rw[o,q,y]
    obtain⟨k0,Y,G⟩:=(Qo2 s).1 g
    have I:=fun O h1=>Qlv O bc bf s h1
    rw[g] at I
    have M:=Lib.hid hi
    have F:=Lib.hid h
    have HC:=Lib.hid I
    have Z:=Lib.hid G
    clear hi h L o q y I g G
    generalize B:goes s.n s.p s.u s.h=res
    have C:=Lib.hid B
    clear B
    go_enter Tryz.func164,Tryz.ntmps164
    go_wp2
    go_step3
    go_wp2_with (first
     | (go_at_call 211;refine M.out.mono ?_;rintro e O ⟨rfl,j⟩;have X:=j.cell_of U (by simp);have d:=Lib.hid j;clear j)
     | (go_at_call 213;refine(HC.out _ (F.out.mod d.out (by simp) (by simp))).mono ?_;rintro e w2 ⟨rfl,z⟩;have r:=Lib.hid z;clear z))
    go_step3
    go_wp2
    go_loopw [5] (fun _ wr=>∃(u:Nat->Bool) (h:Nat),PC wr bc bf {s with u:=u,h:=h}/\Hid (goes s.n s.p u h=res)/\Mod w wr [bc,bf]) (fun _ wr=>mesW s.n s.p bc bf wr)
    case atStart=>exact⟨s.u,s.h,F.out.mod (d.out.trans r.out) (by simp) (by simp),C,(d.out.trans r.out).mono (by simp)⟩
    case round =>
     clear C d r HC M F X
     obtain⟨u,h,c,hg,hm⟩:=hrel
     have hh:h<s.n:=c.hh
     have a0:=Lib.hid (Qq2 c)
     have d0:wr.cell? ⟨bc,0,none⟩=some (.slice (some ⟨bf,0,none⟩) s.n s.n):=c.c0
     have d1:wr.cell? ⟨bc,1,none⟩=some (.int .i64 (h:Int)):=c.c1
     have d2:=c.fc 1
     have hU:wr.cell? ⟨bf,h*3+1,none⟩=some (.bool (u h)):=c.cu h hh
     have hP:wr.cell? ⟨bf,h*3+2,none⟩=some (.int .i64 (s.p h:Int)):=c.cp h hh
     have f1:=c.ff (h*3+1)
     have hne:=c.ne
     have J:=Lib.hid c
     have Hm:=Lib.hid hm
     have hn0:1<=s.n:=c.n1
     clear c hm
     have D:(h+1)%s.n<s.n:=Nat.mod_lt _ (by omega)
     have E:(((h+1)%s.n:Nat):Int)=((h:Int)+1)%(s.n:Int):=by simp
     have l:=Lib.hid E
     clear E
     by_cases hp:s.p h=0
     ·rw[hp] at hP
      have x:=Lib.hid hp
      clear hp
      cases R:u h with
      | false =>
        rw[R] at hU
        have Hu:=Lib.hid R
        clear R
        go_wp2
        go_region
        all_goals go_wp2
        go_ret2
        have b:=J.out.setH ((h+1)%s.n) D
        rw[l.out] at b
        have a2:=hg.out
        rw[Qll s.n s.p u h x.out Hu.out] at a2
        rw[<-a2]
        exact⟨rfl,b.mod (Mod.refl _ []).drew (by simp) (by simp),(Hm.out.setCell (by simp) _).drew⟩
      | true =>
        rw[R] at hU
        have Hu:=Lib.hid R
        clear R
        go_wp2
        go_region
        all_goals go_wp2
        have b:=(J.out.setH ((h+1)%s.n) D)
        rw[l.out] at b
        have i:=(b.setU h false).mod (Mod.refl _ []).drew (by simp) (by simp)
        refine⟨⟨upd u h false,(h+1)%s.n,i,Lib.hid ?_,((Hm.out.setCell (by simp) _).setCell (by simp) _).drew⟩,?_⟩
        ·rw[<-Qpo s.n s.p u h hn hh x.out Hu.out];exact hg.out
        ·have o:=Qq2 i
         have q:=a0.out
         have y:=Qh2 s.n s.p u h hh x.out Hu.out
         simp only at o q
         rw[o,q]
         exact y
     ·have hpos:0<s.p h:=by omega
      have x:=Lib.hid hp
      clear hp
      go_wp2
      go_region
      all_goals go_wp2
      have b:=(J.out.setH ((h+1)%s.n) D)
      rw[l.out] at b
      have i:=b.mod (Mod.refl _ []).drew (by simp) (by simp)
      refine⟨⟨u,(h+1)%s.n,i,Lib.hid ?_,(Hm.out.setCell (by simp) _).drew⟩,?_⟩
      ·rw[<-Qlk s.n s.p u h hn hh x.out k0 Y Z.out];exact hg.out
      ·have o:=Qq2 i
       have q:=a0.out
       have y:=Qe9 s.n s.p u h hh x.out k0 Y Z.out
       simp only at o q
       rw[o,q]
       exact y
end Go.Proofs.YtociicnopccppaaGreat.Ck
namespace Go.Proofs.YtociicnopccppaaGreat.Ck
open Go.RowKit Clk
theorem Ck.info263 : (Tryz.prog.info? 263).map (fun i=>(i.zero,i.size,i.bytes))=some (some (.agg #[.bool false,.bool false,.int .i64 0]),3,16):=by kernel_rfl
theorem qda (z:Array Value) (n j:Nat) (h:j<n):(madeCells z n)[j]?=some (z[j%z.size]!):=by
 unfold madeCells
 rw[Array.getElem?_map,Array.getElem?_range,if_pos h];rfl
theorem Qs7 (k:Nat) (hk:k<=64) (W:World):(Instr.makeSlice 229 (.int .i64 (k:Int)) (.int .i64 (k:Int))).run Tryz.prog W =
 .ok (.slice (some ⟨W.heap.size,0,none⟩) k k) (W.alloc (.cells (madeCells #[.bool false,.bool false,.int .i64 0] (k*3)) 263)):=by
 obtain⟨i,hi,a,b,c⟩:=info_parts Ck.info263
 have:=run_make (P:=Tryz.prog) W 229 263 i (.agg #[.bool false,.bool false,.int .i64 0]) Tryz.underlying229 hi a .i64 .i64 k k (by omega) (Int.le_refl _) (by rw[c];omega) (by omega)
 simp only[Int.toNat_natCast,b] at this
 exact this
theorem Qfd (w:World) (c:Array Value) (t:TypeId) (o:Nat):(w.alloc (.cells c t)).cell? ⟨w.heap.size,o,none⟩=c[o]?:=by
 unfold World.cell?
 rw[show (w.alloc (.cells c t)).heap=w.heap.push (.cells c t) from rfl]
 simp
theorem Qjb (w:World) (c:Array Value) (t:TypeId) (o:Nat):(w.alloc (.cells c t)).frozen? ⟨w.heap.size,o,none⟩=false:=by
 unfold World.frozen?
 rw[show (w.alloc (.cells c t)).heap=w.heap.push (.cells c t) from rfl]
 simp
def Made (w:World) (r:Value) (bc bf:Nat) (s:St) (e:Ending) (w':World):Prop:=e = .returned r/\PC w' bc bf s/\Mod w w' []
theorem new_ok (w:World) (k:Nat) (h1:1<=k) (b:k<=64) :
 Calls Tryz.prog 81 #[.int .i64 (k:Int)] w (Made w (.pointer (some ⟨w.heap.size+1,0,none⟩)) (w.heap.size+1) w.heap.size (qil k)):=by
 have hmk:=Qs7 k b
 have a0:decide ((k:Int)<1)=false:=by simp;omega
 have a1:decide ((64:Int)<(k:Int))=false:=by simp;omega
 go_enter Tryz.func81,Tryz.ntmps81
 go_wp2
 go_ret
 have c:(w.alloc (.cells (madeCells #[.bool false,.bool false,.int .i64 0] (k*3)) 263)).heap.size=w.heap.size+1:=by simp
 refine⟨rfl,?_,((Mod.refl _ _).alloc _).alloc _⟩
 have m:Mod (w.alloc (.cells (madeCells #[.bool false,.bool false,.int .i64 0] (k*3)) 263)) ((w.alloc (.cells (madeCells #[.bool false,.bool false,.int .i64 0] (k*3)) 263)).alloc (.cells #[.slice (some ⟨w.heap.size,0,none⟩) k k,.int .i64 0] 231)) []:=(Mod.refl _ _).alloc _
 have hl:w.heap.size<(w.alloc (.cells (madeCells #[.bool false,.bool false,.int .i64 0] (k*3)) 263)).heap.size:=by rw[c];omega
 refine⟨h1,b,h1,by omega,?_,?_,?_,?_,?_,?_,?_⟩
 ·have:=Qfd (w.alloc (.cells (madeCells #[.bool false,.bool false,.int .i64 0] (k*3)) 263)) #[.slice (some ⟨w.heap.size,0,none⟩) k k,.int .i64 0] 231 0
  rw[c] at this
  exact this
 ·have:=Qfd (w.alloc (.cells (madeCells #[.bool false,.bool false,.int .i64 0] (k*3)) 263)) #[.slice (some ⟨w.heap.size,0,none⟩) k k,.int .i64 0] 231 1
  rw[c] at this
  exact this
 ·intro o
  have:=Qjb (w.alloc (.cells (madeCells #[.bool false,.bool false,.int .i64 0] (k*3)) 263)) #[.slice (some ⟨w.heap.size,0,none⟩) k k,.int .i64 0] 231 o
  rw[c] at this
  exact this
 ·intro j a
  have a:j<k:=a
  refine m.cell_of ?_ (by simp)
  rw[Qfd,qda _ _ _ (by omega)]
  show some (#[Value.bool false,Value.bool false,Value.int .i64 0][j*3%3]!)=_
  rw[show j*3%3=0 from by omega];rfl
 ·intro j a
  have a:j<k:=a
  refine m.cell_of ?_ (by simp)
  rw[Qfd,qda _ _ _ (by omega)]
  show some (#[Value.bool false,Value.bool false,Value.int .i64 0][(j*3+1)%3]!)=_
  rw[show (j*3+1)%3=1 from by omega];rfl
 ·intro j a
  have a:j<k:=a
  refine m.cell_of ?_ (by simp)
  rw[Qfd,qda _ _ _ (by omega)]
  show some (#[Value.bool false,Value.bool false,Value.int .i64 0][(j*3+2)%3]!)=_
  rw[show (j*3+2)%3=2 from by omega];rfl
 ·intro o
  rw[m.frozen _ _ hl (by simp)]
  exact Qjb _ _ _ _
end Go.Proofs.YtociicnopccppaaGreat.Ck
namespace Go.Proofs.YtociicnopccppaaGreat.Ck
open Go.RowKit Clk
end Go.Proofs.YtociicnopccppaaGreat.Ck
namespace Go.Proofs.YtociicnopccppaaGreat.Ck
open Go.RowKit Clk
end Go.Proofs.YtociicnopccppaaGreat.Ck
namespace Go.Proofs.YtociicnopccppaaGreat.Ck
open Go.RowKit Clk
end Go.Proofs.YtociicnopccppaaGreat.Ck
namespace Go.Proofs.YtociicnopccppaaGreat.Ck
open Go.RowKit Clk
theorem Ck.info4 : (Tryz.prog.info? 4).map (fun i=>(i.zero,i.size,i.bytes))=some (some (.bool false),1,1):=by kernel_rfl
theorem Ck.info3 : (Tryz.prog.info? 3).map (fun i=>(i.zero,i.size,i.bytes))=some (some (.int .i64 0),1,8):=by kernel_rfl
end Go.Proofs.YtociicnopccppaaGreat.Ck
