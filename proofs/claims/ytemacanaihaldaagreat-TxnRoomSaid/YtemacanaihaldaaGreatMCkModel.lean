/-
 What a clock is,in plain Lean: which frames are taken,used,how often pinned,where the hand is;and what its calls make of it. No program in sight.
-/
import Derived.Test.YtemacanaihaldaaGreatProg
import Derived.WalkKit
import Derived.ProofKit
import Derived.BigQuiet
import Derived.Deep.QuietTactic
import Derived.RegionTactic
import Derived.ChangeAlike
import Derived.Outline
import Derived.Lib.Hide
import Derived.WalkMore
import Derived.Deep.LoopGhost
set_option linter.all false
namespace Go.Proofs.YtemacanaihaldaaGreat.Ck.Clk
structure St where
 n:Nat
 t:Nat->Bool
 u:Nat->Bool
 p:Nat->Nat
 h:Nat
def newS (n:Nat):St:=⟨n,fun _=>false,fun _=>false,fun _=>0,0⟩
def upd {α:Type}(f:Nat->α) (k:Nat) (v:α):Nat->α:=fun j=>if j=k then v else f j
def inn (s:St) (i:Int):Bool:=decide (0<=i) && decide (i<(s.n:Int))
def isT (s:St) (i:Int):Bool:=inn s i && s.t i.toNat
def takeB (s:St) (i:Int):Bool:=inn s i && !s.t i.toNat
def takeS (s:St) (i:Int):St:=if takeB s i then {s with t:=upd s.t i.toNat true,u:=upd s.u i.toNat true,p:=upd s.p i.toNat 0} else s
def leaveB (s:St) (i:Int):Bool:=isT s i && decide (s.p i.toNat=0)
def leaveS (s:St) (i:Int):St:=if leaveB s i then {s with t:=upd s.t i.toNat false,u:=upd s.u i.toNat false} else s
def touchS (s:St) (i:Int):St:=if isT s i then {s with u:=upd s.u i.toNat true} else s
def pinS (s:St) (i:Int):St:=if isT s i then {s with p:=upd s.p i.toNat (s.p i.toNat+1)} else s
def unpinB (s:St) (i:Int):Bool:=isT s i && decide (s.p i.toNat≠0)
def unpinS (s:St) (i:Int):St:=if unpinB s i then {s with p:=upd s.p i.toNat (s.p i.toNat-1)} else s
def pinsV (s:St) (i:Int):Nat:=if inn s i then s.p i.toNat else 0
def first (f:Nat->Bool):Nat->Nat
 | 0=>0
 | n+1=>if first f n<n then first f n else if f n then n else n+1
theorem Qh6 (f:Nat->Bool) (n:Nat):first f n<=n:=by
 induction n with
 | zero=>exact Nat.le_refl _
 | succ n ih=>simp only[first];split <;> (try split) <;> omega
theorem Qh5 (f:Nat->Bool) (n:Nat) (h:first f n<n):f (first f n)=true:=by
 induction n with
 | zero=>omega
 | succ n ih =>
   simp only[first] at h ⊢
   split
   ·rename_i h1;exact ih h1
   ·rename_i h1;rw[if_neg h1] at h;split
    ·assumption
    ·rename_i h2;rw[if_neg h2] at h;omega
theorem Qj0 (f:Nat->Bool) (n:Nat):∀k,k<first f n->f k=false:=by
 induction n with
 | zero=>intro k hk;simp[first] at hk
 | succ n ih =>
   intro k hk
   simp only[first] at hk
   split at hk
   ·exact ih k hk
   ·rename_i h1
    have hle:=Qh6 f n
    split at hk
    ·exact ih k (by omega)
    ·rename_i h2
     by_cases e:k=n
     ·subst e;simpa using h2
     ·exact ih k (by omega)
theorem Qod (f:Nat->Bool) (n k:Nat) (hk:k<n) (d:f k=true) (b:∀j,j<k->f j=false):first f n=k:=by
 have h1:¬k<first f n:=fun h=>by have:=Qj0 f n k h;rw[d] at this;cases this
 by_cases h2:first f n<k
 ·have:=Qh5 f n (by omega);rw[b _ h2] at this;cases this
 ·omega
theorem Qts (f:Nat->Bool) (n:Nat) (b:∀j,j<n->f j=false):first f n=n:=by
 by_cases h2:first f n<n
 ·have:=Qh5 f n h2;rw[b _ h2] at this;cases this
 ·have:=Qh6 f n;omega
def turn (n:Nat) (p:Nat->Nat):Nat->(Nat->Bool)->Nat->(Nat->Bool)×Nat×Nat
 | 0,u,h=>(u,h,0)
 | f+1,u,h=>if p h=0 then (if u h then turn n p f (upd u h false) ((h+1)%n) else (u,(h+1)%n,h)) else turn n p f u ((h+1)%n)
def cnt (f:Nat->Bool):Nat->Nat
 | 0=>0
 | n+1=>cnt f n+if f n then 1 else 0
theorem Ja1 (f:Nat->Bool) (n:Nat):cnt f n<=n:=by
 induction n with
 | zero=>exact Nat.le_refl _
 | succ n ih=>simp only[cnt];split <;> omega
theorem Qpw (f g:Nat->Bool) (n:Nat) (h:∀k,k<n->f k=g k):cnt f n=cnt g n:=by
 induction n with
 | zero=>rfl
 | succ n ih=>simp only[cnt];rw[ih (fun k hk=>h k (by omega)),h n (by omega)]
theorem Qx8 (f g:Nat->Bool) (n k:Nat) (hk:k<n) (b:f k=true) (d:g k=false) (h:∀j,j≠k->f j=g j):cnt g n+1=cnt f n:=by
 induction n with
 | zero=>omega
 | succ n ih =>
   simp only[cnt]
   by_cases e:k=n
   ·subst e
    rw[Qpw g f k (fun j hj=>(h j (by omega)).symm),b,d];simp
   ·have:=ih (by omega)
    rw[h n (fun q=>e q.symm)];omega
def dist (n:Nat) (p:Nat->Nat) (h:Nat):Nat:=first (fun d=>decide (p ((h+d)%n)=0)) n
def mes (n:Nat) (p:Nat->Nat) (u:Nat->Bool) (h:Nat):Nat:=cnt (fun k=>u k && decide (p k=0)) n*n+dist n p h
def some0 (s:St):Bool:=decide (first (fun k=>decide (s.p k=0)) s.n<s.n)
theorem Qo2 (s:St):some0 s=true↔∃k,k<s.n/\s.p k=0:=by
 unfold some0
 constructor
 ·intro h
  have h:=of_decide_eq_true h
  have:=Qh5 _ _ h
  exact⟨_,h,by simpa using this⟩
 ·rintro⟨k,hk,b⟩
  refine decide_eq_true ?_
  have:=Qh6 (fun k=>decide (s.p k=0)) s.n
  by_cases e:first (fun k=>decide (s.p k=0)) s.n<s.n
  ·exact e
  ·have:=Qj0 (fun k=>decide (s.p k=0)) s.n k (by omega)
   simp[b] at this
theorem Qv4 (n:Nat) (p:Nat->Nat) (h:Nat) (hn:0<n) (k:Nat) (hk:k<n) (b:p k=0):dist n p h<n:=by
 have hle:=Qh6 (fun d=>decide (p ((h+d)%n)=0)) n
 by_cases e:dist n p h<n
 ·exact e
 ·exfalso
  have hd:(n-h%n+k)%n<n:=Nat.mod_lt _ hn
  have:=Qj0 (fun d=>decide (p ((h+d)%n)=0)) n ((n-h%n+k)%n) (by unfold dist at e;omega)
  have hh:(h+(n-h%n+k)%n)%n=k:=by
   rw[Nat.add_mod,Nat.mod_mod,<-Nat.add_mod]
   have h1:h%n<n:=Nat.mod_lt _ hn
   have h2:h=n*(h/n)+h%n:=(Nat.div_add_mod h n).symm
   have i:h+(n-h%n+k)=k+n*(h/n+1):=by rw[Nat.mul_add];omega
   rw[i,Nat.add_mul_mod_self_left,Nat.mod_eq_of_lt hk]
  simp[hh,b] at this
theorem Qv2 (n:Nat) (p:Nat->Nat) (h:Nat) (hh:h<n) (b:p h=0):dist n p h=0 :=
 Qod _ _ _ (by omega) (by simp[Nat.mod_eq_of_lt hh,b]) (fun j hj=>by omega)
theorem Qv3 (n:Nat) (p:Nat->Nat) (h:Nat) (hh:h<n) (m:p h≠0) (k:Nat) (hk:k<n) (i:p k=0):dist n p ((h+1)%n)+1=dist n p h:=by
 have hd:=Qv4 n p h (by omega) k hk i
 have b:=Qh5 (fun d=>decide (p ((h+d)%n)=0)) n hd
 have l:=Qj0 (fun d=>decide (p ((h+d)%n)=0)) n
 have hpos:dist n p h≠0:=by
  intro e
  unfold dist at e
  rw[e] at b
  simp[Nat.mod_eq_of_lt hh] at b
  exact m b
 have key:dist n p ((h+1)%n)=dist n p h-1:=by
  refine Qod _ _ _ (by omega) ?_ ?_
  ·have:((h+1)%n+(dist n p h-1))%n=(h+dist n p h)%n:=by
    rw[Nat.add_mod,Nat.mod_mod,<-Nat.add_mod];congr 1;omega
   simp only[this];exact b
  ·intro j o
   have:((h+1)%n+j)%n=(h+(j+1))%n:=by
    rw[Nat.add_mod,Nat.mod_mod,<-Nat.add_mod];congr 1;omega
   simp only[this]
   exact l (j+1) (by unfold dist at o;omega)
 omega
theorem Qe9 (n:Nat) (p:Nat->Nat) (u:Nat->Bool) (h:Nat) (hh:h<n) (d:p h≠0) (k:Nat) (hk:k<n) (b:p k=0) :
 mes n p u ((h+1)%n)<mes n p u h:=by
 have:=Qv3 n p h hh d k hk b
 unfold mes;omega
theorem Qh2 (n:Nat) (p:Nat->Nat) (u:Nat->Bool) (h:Nat) (hh:h<n) (b:p h=0) (hu:u h=true) :
 mes n p (upd u h false) ((h+1)%n)<mes n p u h:=by
 have h1:=Qv4 n p ((h+1)%n) (by omega) h hh b
 have h2:=Qv2 n p h hh b
 have d:=Qx8 (fun k=>u k && decide (p k=0)) (fun k=>upd u h false k && decide (p k=0)) n h hh (by simp[hu,b]) (by simp[upd]) (fun j e=>by simp[upd,e])
 unfold mes
 rw[<-d,Nat.add_mul];omega
theorem Qow (n:Nat) (p:Nat->Nat) (k:Nat) (hk:k<n) (d:p k=0):∀(f g:Nat) (u:Nat->Bool) (h:Nat),h<n->mes n p u h<f->mes n p u h<g->turn n p f u h=turn n p g u h:=by
 intro f
 induction f with
 | zero=>intro g u h _ h1;omega
 | succ f ih =>
   intro g u h hh h1 h2
   cases g with
   | zero=>omega
   | succ g =>
     have e:(h+1)%n<n:=Nat.mod_lt _ (by omega)
     simp only[turn]
     by_cases b:p h=0
     ·simp only[b,if_true]
      cases hu:u h with
      | false=>simp
      | true =>
        have:=Qh2 n p u h hh b hu
        simp only[if_true]
        exact ih _ _ _ e (by omega) (by omega)
     ·have:=Qe9 n p u h hh b k hk d
      simp only[b,if_false]
      exact ih _ _ _ e (by omega) (by omega)
theorem Qpj (n:Nat) (p:Nat->Nat) (u:Nat->Bool) (h:Nat) (hn:n<=64):mes n p u h<5000:=by
 unfold mes
 have h1:=Ja1 (fun k=>u k && decide (p k=0)) n
 have h2:=Qh6 (fun d=>decide (p ((h+d)%n)=0)) n
 have h3:cnt (fun k=>u k && decide (p k=0)) n*n<=64*64:=Nat.mul_le_mul (by omega) hn
 unfold dist;omega
theorem Qkh (n:Nat) (p:Nat->Nat) (f:Nat) (u:Nat->Bool) (h:Nat):turn n p (f+1) u h =
 if p h=0 then (if u h then turn n p f (upd u h false) ((h+1)%n) else (u,(h+1)%n,h)) else turn n p f u ((h+1)%n):=rfl
def goesF (F n:Nat) (p:Nat->Nat) (u:Nat->Bool) (h:Nat):(Nat->Bool)×Nat×Nat:=turn n p (F+1) u h
theorem Qpp (F n:Nat) (p:Nat->Nat) (u:Nat->Bool) (h:Nat) (hF:mes n p u h<F) (hh:h<n) (d:p h≠0) (k:Nat) (hk:k<n) (b:p k=0) :
 goesF F n p u h=goesF F n p u ((h+1)%n):=by
 have e:(h+1)%n<n:=Nat.mod_lt _ (by omega)
 have h2:=Qe9 n p u h hh d k hk b
 unfold goesF
 rw[Qkh,if_neg d]
 exact Qow n p k hk b _ _ _ _ e (by omega) (by omega)
theorem Qtp (F n:Nat) (p:Nat->Nat) (u:Nat->Bool) (h:Nat) (hF:mes n p u h<F) (hh:h<n) (b:p h=0) (hu:u h=true) :
 goesF F n p u h=goesF F n p (upd u h false) ((h+1)%n):=by
 have d:(h+1)%n<n:=Nat.mod_lt _ (by omega)
 have h2:=Qh2 n p u h hh b hu
 unfold goesF
 rw[Qkh,if_pos b,hu,if_pos rfl]
 exact Qow n p h hh b _ _ _ _ d (by omega) (by omega)
theorem Qtq (F n:Nat) (p:Nat->Nat) (u:Nat->Bool) (h:Nat) (b:p h=0) (hu:u h=false):goesF F n p u h=(u,(h+1)%n,h):=by
 unfold goesF
 rw[Qkh,if_pos b,hu];rfl
def goes (n:Nat) (p:Nat->Nat) (u:Nat->Bool) (h:Nat):(Nat->Bool)×Nat×Nat:=goesF 5000 n p u h
theorem Qlk (n:Nat) (p:Nat->Nat) (u:Nat->Bool) (h:Nat) (hn:n<=64) (hh:h<n) (d:p h≠0) (k:Nat) (hk:k<n) (b:p k=0) :
 goes n p u h=goes n p u ((h+1)%n):=Qpp _ n p u h (Qpj n p u h hn) hh d k hk b
theorem Qpo (n:Nat) (p:Nat->Nat) (u:Nat->Bool) (h:Nat) (hn:n<=64) (hh:h<n) (b:p h=0) (hu:u h=true) :
 goes n p u h=goes n p (upd u h false) ((h+1)%n):=Qtp _ n p u h (Qpj n p u h hn) hh b hu
theorem Qll (n:Nat) (p:Nat->Nat) (u:Nat->Bool) (h:Nat) (b:p h=0) (hu:u h=false):goes n p u h=(u,(h+1)%n,h):=Qtq _ n p u h b hu
def freeK (s:St):Nat:=first (fun k => !s.t k) s.n
def pickS (s:St):St :=
 if freeK s<s.n then s else if some0 s then {s with u:=(goes s.n s.p s.u s.h).1,h:=(goes s.n s.p s.u s.h).2.1} else s
def pickI (s:St):Nat :=
 if freeK s<s.n then freeK s else if some0 s then (goes s.n s.p s.u s.h).2.2 else 0
def pickB (s:St):Bool:=decide (freeK s<s.n) || some0 s
end Go.Proofs.YtemacanaihaldaaGreat.Ck.Clk
namespace Go.Proofs.YtemacanaihaldaaGreat.Ck
open Go.RowKit Clk
structure Mod (w w':World) (bs:List Nat):Prop where
 os:w'.os=w.os
 tape:w'.tape=w.tape
 output:w'.output=w.output
 size:w.heap.size<=w'.heap.size
 block:∀k,k<w.heap.size->k ∉ bs->w'.heap[k]?=w.heap[k]?
theorem Mod.refl (w:World) (b:List Nat):Mod w w b:=⟨rfl,rfl,rfl,Nat.le_refl _,fun _ _ _=>rfl⟩
theorem Mod.trans {a b c:World}{d:List Nat}(h:Mod a b d) (k:Mod b c d):Mod a c d :=
 ⟨k.os.trans h.os,k.tape.trans h.tape,k.output.trans h.output,Nat.le_trans h.size k.size,fun i hi hn=>(k.block i (Nat.lt_of_lt_of_le hi h.size) hn).trans (h.block i hi hn)⟩
theorem Mod.mono {a b:World}{d cs:List Nat}(h:Mod a b d) (e:∀k,k∈d->k∈cs):Mod a b cs :=
 ⟨h.os,h.tape,h.output,h.size,fun i hi hn=>h.block i hi (fun m=>hn (e i m))⟩
theorem Mod.drew {a w:World}{b:List Nat}(h:Mod a w b):Mod a w.drew b:=⟨h.os,h.tape,h.output,h.size,h.block⟩
theorem Mod.alloc {a w:World}{b:List Nat}(h:Mod a w b) (o:Obj):Mod a (w.alloc o) b :=
 h.trans ⟨rfl,rfl,rfl,by simp,fun k hk _=>Below.heap_alloc _ _ _ hk⟩
theorem Mod.setCell {a w:World}{b:List Nat}(h:Mod a w b) {p:Addr}(d:p.block∈b) (v:Value):Mod a (w.setCell p v) b :=
 h.trans ⟨rfl,rfl,rfl,by simp[World.setCell],fun k hk hn=>Below.heap_setCell _ _ _ _ (fun e=>hn (e▸d))⟩
theorem Mod.cell {w d:World}{e:List Nat}(h:Mod w d e) (b o:Nat) (i:b<w.heap.size) (hn:b ∉ e):d.cell? ⟨b,o,none⟩=w.cell? ⟨b,o,none⟩:=by
 simp only[World.cell?,h.block b i hn]
theorem Mod.frozen {w d:World}{e:List Nat}(h:Mod w d e) (b o:Nat) (i:b<w.heap.size) (hn:b ∉ e):d.frozen? ⟨b,o,none⟩=w.frozen? ⟨b,o,none⟩:=by
 simp only[World.frozen?,h.block b i hn]
theorem cell_lt {w:World}{b o:Nat}{v:Value}(h:w.cell? ⟨b,o,none⟩=some v):b<w.heap.size:=by
 unfold World.cell? at h
 by_cases d:b<w.heap.size
 ·exact d
 ·simp[Array.getElem?_eq_none (Nat.le_of_not_lt d)] at h
theorem Mod.cell_of {w d:World}{e:List Nat}(h:Mod w d e) {b o:Nat}{v:Value}(i:w.cell? ⟨b,o,none⟩=some v) (hn:b ∉ e):d.cell? ⟨b,o,none⟩=some v:=by
 rw[h.cell b o (cell_lt i) hn];exact i
structure PC (w:World) (bc bf:Nat) (s:St):Prop where
 n1:1<=s.n
 n64:s.n<=64
 hh:s.h<s.n
 ne:bc≠bf
 c0:w.cell? ⟨bc,0,none⟩=some (.slice (some ⟨bf,0,none⟩) s.n s.n)
 c1:w.cell? ⟨bc,1,none⟩=some (.int .i64 (s.h:Int))
 fc:∀o,w.frozen? ⟨bc,o,none⟩=false
 ct:∀k,k<s.n->w.cell? ⟨bf,k*3,none⟩=some (.bool (s.t k))
 cu:∀k,k<s.n->w.cell? ⟨bf,k*3+1,none⟩=some (.bool (s.u k))
 cp:∀k,k<s.n->w.cell? ⟨bf,k*3+2,none⟩=some (.int .i64 (s.p k:Int))
 ff:∀o,w.frozen? ⟨bf,o,none⟩=false
theorem PC.mod {w d:World}{bc bf:Nat}{s:St}(h:PC w bc bf s) {b:List Nat}(m:Mod w d b) (h1:bc ∉ b) (h2:bf ∉ b):PC d bc bf s:=by
 have l1:=cell_lt h.c0
 have e:=cell_lt (h.ct 0 h.n1)
 refine⟨h.n1,h.n64,h.hh,h.ne,m.cell_of h.c0 h1,m.cell_of h.c1 h1,?_,?_,?_,?_,?_⟩
 ·intro o;rw[m.frozen _ _ l1 h1];exact h.fc o
 ·intro k hk;exact m.cell_of (h.ct k hk) h2
 ·intro k hk;exact m.cell_of (h.cu k hk) h2
 ·intro k hk;exact m.cell_of (h.cp k hk) h2
 ·intro o;rw[m.frozen _ _ e h2];exact h.ff o
theorem Qa3 (w:World) (b o d i:Nat) (v x:Value) (h:w.cell? ⟨b,o,none⟩=some x) :
 (w.setCell ⟨d,i,none⟩ v).cell? ⟨b,o,none⟩=some (if b=d/\o=i then v else x):=by
 unfold World.cell? World.setCell at *
 simp only[Array.getElem?_modify]
 by_cases e:d=b
 ·subst e
  simp only[if_true]
  cases k:w.heap[d]? with
  | none=>simp[k] at h
  | some ob =>
    simp only[k] at h ⊢
    cases ob <;> simp_all
    rw[Array.getElem?_setIfInBounds]
    by_cases j:i=o
    ·subst j
     have:i<_:=(Array.getElem?_eq_some_iff.1 h).1
     simp[this]
    ·simp only[j,if_false,h]
     have:¬o=i:=fun q=>j q.symm
     simp[this]
 ·have:¬b=d:=fun q=>e q.symm
  simp only[if_neg e,this,false_and,if_false]
  exact h
theorem Qch (w:World) (p q:Addr) (v:Value):(w.setCell p v).frozen? q=w.frozen? q:=by
 unfold World.frozen? World.setCell
 simp only[Array.getElem?_modify]
 by_cases e:p.block=q.block
 ·simp only[e,if_true]
  cases hx:w.heap[q.block]? with
  | none=>rfl
  | some ob=>cases ob <;> simp
 ·simp only[if_neg e]
end Go.Proofs.YtemacanaihaldaaGreat.Ck
namespace Go.Proofs.YtemacanaihaldaaGreat.Ck
open Go.RowKit Clk
theorem PC.setH {w:World}{bc bf:Nat}{s:St}(h:PC w bc bf s) (d:Nat) (e:d<s.n):PC (w.setCell ⟨bc,1,none⟩ (.int .i64 (d:Int))) bc bf {s with h:=d}:=by
 have b:=h.ne
 refine⟨h.n1,h.n64,e,h.ne,?_,?_,?_,?_,?_,?_,?_⟩
 ·rw[Qa3 _ _ _ _ _ _ _ h.c0];simp
 ·rw[Qa3 _ _ _ _ _ _ _ h.c1];simp
 ·intro o;rw[Qch];exact h.fc o
 ·intro k hk;rw[Qa3 _ _ _ _ _ _ _ (h.ct k hk)];simp[Ne.symm b]
 ·intro k hk;rw[Qa3 _ _ _ _ _ _ _ (h.cu k hk)];simp[Ne.symm b]
 ·intro k hk;rw[Qa3 _ _ _ _ _ _ _ (h.cp k hk)];simp[Ne.symm b]
 ·intro o;rw[Qch];exact h.ff o
theorem PC.setT {w:World}{bc bf:Nat}{s:St}(h:PC w bc bf s) (j:Nat) (v:Bool):PC (w.setCell ⟨bf,j*3,none⟩ (.bool v)) bc bf {s with t:=upd s.t j v}:=by
 have b:=h.ne
 refine⟨h.n1,h.n64,h.hh,h.ne,?_,?_,?_,?_,?_,?_,?_⟩
 ·rw[Qa3 _ _ _ _ _ _ _ h.c0];simp[b]
 ·rw[Qa3 _ _ _ _ _ _ _ h.c1];simp[b]
 ·intro o;rw[Qch];exact h.fc o
 ·intro k hk;rw[Qa3 _ _ _ _ _ _ _ (h.ct k hk)]
  by_cases e:k=j
  ·subst e;simp[upd]
  ·have:¬(k*3=j*3):=by omega
   simp[upd,e,this]
 ·intro k hk;rw[Qa3 _ _ _ _ _ _ _ (h.cu k hk)]
  have:¬(k*3+1=j*3):=by omega
  simp[this]
 ·intro k hk;rw[Qa3 _ _ _ _ _ _ _ (h.cp k hk)]
  have:¬(k*3+2=j*3):=by omega
  simp[this]
 ·intro o;rw[Qch];exact h.ff o
theorem PC.setU {w:World}{bc bf:Nat}{s:St}(h:PC w bc bf s) (j:Nat) (v:Bool):PC (w.setCell ⟨bf,j*3+1,none⟩ (.bool v)) bc bf {s with u:=upd s.u j v}:=by
 have b:=h.ne
 refine⟨h.n1,h.n64,h.hh,h.ne,?_,?_,?_,?_,?_,?_,?_⟩
 ·rw[Qa3 _ _ _ _ _ _ _ h.c0];simp[b]
 ·rw[Qa3 _ _ _ _ _ _ _ h.c1];simp[b]
 ·intro o;rw[Qch];exact h.fc o
 ·intro k hk;rw[Qa3 _ _ _ _ _ _ _ (h.ct k hk)]
  have:¬(k*3=j*3+1):=by omega
  simp[this]
 ·intro k hk;rw[Qa3 _ _ _ _ _ _ _ (h.cu k hk)]
  by_cases e:k=j
  ·subst e;simp[upd]
  ·have:¬(k*3=j*3):=by omega
   simp[upd,e,this]
 ·intro k hk;rw[Qa3 _ _ _ _ _ _ _ (h.cp k hk)]
  have:¬(k*3+2=j*3+1):=by omega
  simp[this]
 ·intro o;rw[Qch];exact h.ff o
theorem PC.setP {w:World}{bc bf:Nat}{s:St}(h:PC w bc bf s) (j:Nat) (v:Nat):PC (w.setCell ⟨bf,j*3+2,none⟩ (.int .i64 (v:Int))) bc bf {s with p:=upd s.p j v}:=by
 have b:=h.ne
 refine⟨h.n1,h.n64,h.hh,h.ne,?_,?_,?_,?_,?_,?_,?_⟩
 ·rw[Qa3 _ _ _ _ _ _ _ h.c0];simp[b]
 ·rw[Qa3 _ _ _ _ _ _ _ h.c1];simp[b]
 ·intro o;rw[Qch];exact h.fc o
 ·intro k hk;rw[Qa3 _ _ _ _ _ _ _ (h.ct k hk)]
  have:¬(k*3=j*3+2):=by omega
  simp[this]
 ·intro k hk;rw[Qa3 _ _ _ _ _ _ _ (h.cu k hk)]
  have:¬(k*3=j*3+1):=by omega
  simp[this]
 ·intro k hk;rw[Qa3 _ _ _ _ _ _ _ (h.cp k hk)]
  by_cases e:k=j
  ·subst e;simp[upd]
  ·have:¬(k*3=j*3):=by omega
   simp[upd,e,this]
 ·intro o;rw[Qch];exact h.ff o
theorem Qwt {α:Type}(f:Nat->α) (k:Nat):upd f k (f k)=f:=by
 funext j;unfold upd;split
 ·rename_i e;rw[e]
 ·rfl
theorem Qio {s:St}{k:Nat}(h:k<s.n):inn s (k:Int)=true:=by simp[inn];omega
theorem Qm1 {s:St}{i:Int}(h:i<0\/(s.n:Int)<=i):inn s i=false:=by
 unfold inn
 rcases h with h|h
 ·have:¬0<=i:=by omega
  simp[this]
 ·have:¬i<(s.n:Int):=by omega
  simp[this]
theorem inn_cases (s:St) (i:Int):(∃k:Nat,i=(k:Int)/\k<s.n)\/(i<0\/(s.n:Int)<=i):=by
 by_cases h:0<=i/\i<(s.n:Int)
 ·exact .inl ⟨i.toNat,by omega,by omega⟩
 ·exact .inr (by omega)
theorem at_in (w:World) (bc bf n k:Nat) (h1:k<n) (hn:n<=64)
 (hc0:w.cell? ⟨bc,0,none⟩=some (.slice (some ⟨bf,0,none⟩) n n)) :
 Calls Tryz.prog 137 #[.pointer (some ⟨bc,0,none⟩),.int .i64 (k:Int)] w fun e b=>e = .returned (.pointer (some ⟨bf,k*3,none⟩))/\w=b:=by
 have a1:decide ((n:Int)<=(k:Int))=false:=by simp;omega
 go_enter Tryz.func137,Tryz.ntmps137
 go_wp2
 go_ret
 exact⟨rfl,rfl⟩
theorem Qwk (w:World) (bc bf n:Nat) (i:Int) (h1:i<0\/n<=i) (hn:n<=64)
 (hc0:w.cell? ⟨bc,0,none⟩=some (.slice (some ⟨bf,0,none⟩) n n)) :
 Calls Tryz.prog 137 #[.pointer (some ⟨bc,0,none⟩),.int .i64 i] w fun e b=>e = .returned (.pointer none)/\w=b:=by
 by_cases h0:i<0
 ·go_enter Tryz.func137,Tryz.ntmps137
  go_wp2
  go_ret
  exact⟨rfl,rfl⟩
 ·have a0:decide (i<0)=false:=by simp;omega
  have a1:decide ((n:Int)<=i)=true:=by simp;omega
  go_enter Tryz.func137,Tryz.ntmps137
  go_wp2
  go_ret
  exact⟨rfl,rfl⟩
theorem Qhq (w:World) (bc bf n:Nat) (i:Int) (h1:i<0\/n<=i) (hn:n<=64)
 (b:w.cell? ⟨bc,0,none⟩=some (.slice (some ⟨bf,0,none⟩) n n)) :
 Calls Tryz.prog 136 #[.pointer (some ⟨bc,0,none⟩),.int .i64 i] w fun e d=>e = .returned (.pointer none)/\w=d:=by
 go_enter Tryz.func136,Tryz.ntmps136
 go_wp2_with (go_at_call 137;refine(Qwk _ bc bf n i h1 hn b).mono ?_;rintro e d ⟨rfl,rfl⟩)
 go_ret
 exact⟨rfl,rfl⟩
theorem Qe3 (w:World) (bc bf n k:Nat) (h1:k<n) (hn:n<=64)
 (b:w.cell? ⟨bc,0,none⟩=some (.slice (some ⟨bf,0,none⟩) n n)) (hT:w.cell? ⟨bf,k*3,none⟩=some (.bool true)) :
 Calls Tryz.prog 136 #[.pointer (some ⟨bc,0,none⟩),.int .i64 (k:Int)] w fun e d=>e = .returned (.pointer (some ⟨bf,k*3,none⟩))/\w=d:=by
 go_enter Tryz.func136,Tryz.ntmps136
 go_wp2_with (go_at_call 137;refine(at_in _ bc bf n k h1 hn b).mono ?_;rintro e d ⟨rfl,rfl⟩)
 go_ret
 exact⟨rfl,rfl⟩
theorem Qjq (w:World) (bc bf n k:Nat) (h1:k<n) (hn:n<=64)
 (b:w.cell? ⟨bc,0,none⟩=some (.slice (some ⟨bf,0,none⟩) n n)) (hT:w.cell? ⟨bf,k*3,none⟩=some (.bool false)) :
 Calls Tryz.prog 136 #[.pointer (some ⟨bc,0,none⟩),.int .i64 (k:Int)] w fun e d=>e = .returned (.pointer none)/\w=d:=by
 go_enter Tryz.func136,Tryz.ntmps136
 go_wp2_with (go_at_call 137;refine(at_in _ bc bf n k h1 hn b).mono ?_;rintro e d ⟨rfl,rfl⟩)
 go_ret
 exact⟨rfl,rfl⟩
def Did (w:World) (r:Value) (bc bf:Nat) (s:St) (bs:List Nat) (e:Ending) (w':World):Prop:=e = .returned r/\PC w' bc bf s/\Mod w w' bs
theorem take_any (w:World) (bc bf:Nat) (s:St) (h:PC w bc bf s) (i:Int) :
 Calls Tryz.prog 135 #[.pointer (some ⟨bc,0,none⟩),.int .i64 i] w (Did w (.bool (takeB s i)) bc bf (takeS s i) [bf]):=by
 have j:=h.c0
 have hn:=h.n64
 rcases inn_cases s i with ⟨k,rfl,hk⟩|m
 ·have o:=h.ct k hk
  have hi:=Qio hk
  cases l:s.t k with
  | true =>
    rw[l] at o
    have b:takeB s (k:Int)=false:=by simp[takeB,l]
    have d:takeS s (k:Int)=s:=by simp[takeS,b]
    rw[b,d]
    clear b d hi l
    go_enter Tryz.func135,Tryz.ntmps135
    go_wp2_with (go_at_call 137;refine(at_in _ bc bf s.n k hk hn j).mono ?_;rintro e q ⟨rfl,rfl⟩)
    go_ret
    exact⟨rfl,h,Mod.refl _ _⟩
  | false =>
    rw[l] at o
    have hU:=h.cu k hk
    have hP:=h.cp k hk
    have f0:=h.ff (k*3)
    have f1:=h.ff (k*3+1)
    have f2:=h.ff (k*3+2)
    have b:takeB s (k:Int)=true:=by simp[takeB,l,hi]
    have d:takeS s (k:Int)={s with t:=upd s.t k true,u:=upd s.u k true,p:=upd s.p k 0}:=by simp[takeS,b]
    rw[b,d]
    clear b d hi l
    go_enter Tryz.func135,Tryz.ntmps135
    go_wp2_with (go_at_call 137;refine(at_in _ bc bf s.n k hk hn j).mono ?_;rintro e q ⟨rfl,rfl⟩)
    go_ret
    exact⟨rfl,((h.setT k true).setU k true).setP k 0,(((Mod.refl _ _).setCell (by simp) _).setCell (by simp) _).setCell (by simp) _⟩
 ·have hi:=Qm1 m
  have b:takeB s i=false:=by simp[takeB,hi]
  have d:takeS s i=s:=by simp[takeS,b]
  rw[b,d]
  clear b d hi
  go_enter Tryz.func135,Tryz.ntmps135
  go_wp2_with (go_at_call 137;refine(Qwk _ bc bf s.n i m hn j).mono ?_;rintro e q ⟨rfl,rfl⟩)
  go_ret
  exact⟨rfl,h,Mod.refl _ _⟩
end Go.Proofs.YtemacanaihaldaaGreat.Ck
namespace Go.Proofs.YtemacanaihaldaaGreat.Ck
open Go.RowKit Clk
theorem leave_any (w:World) (bc bf:Nat) (s:St) (h:PC w bc bf s) (i:Int) :
 Calls Tryz.prog 213 #[.pointer (some ⟨bc,0,none⟩),.int .i64 i] w (Did w (.bool (leaveB s i)) bc bf (leaveS s i) [bf]):=by
 have j:=h.c0
 have hn:=h.n64
 rcases inn_cases s i with ⟨k,rfl,hk⟩|r
 ·have o:=h.ct k hk
  have hi:=Qio hk
  have x:=h.cp k hk
  cases l:s.t k with
  | false =>
    rw[l] at o
    have b:leaveB s (k:Int)=false:=by simp[leaveB,isT,l]
    have d:leaveS s (k:Int)=s:=by simp[leaveS,b]
    rw[b,d]
    clear b d hi l
    go_enter Tryz.func213,Tryz.ntmps213
    go_wp2_with (go_at_call 136;refine(Qjq _ bc bf s.n k hk hn j o).mono ?_;rintro e q ⟨rfl,rfl⟩)
    go_ret
    exact⟨rfl,h,Mod.refl _ _⟩
  | true =>
    rw[l] at o
    by_cases m:s.p k=0
    ·have b:leaveB s (k:Int)=true:=by simp[leaveB,isT,l,hi,m]
     have d:leaveS s (k:Int)={s with t:=upd s.t k false,u:=upd s.u k false,p:=upd s.p k 0}:=by
      have:upd s.p k 0=s.p:=by rw[<-m];exact Qwt _ _
      simp[leaveS,b,this]
     rw[b,d]
     rw[m] at x
     have hU:=h.cu k hk
     have f0:=h.ff (k*3)
     have f1:=h.ff (k*3+1)
     have f2:=h.ff (k*3+2)
     clear b d hi l m
     go_enter Tryz.func213,Tryz.ntmps213
     go_wp2_with (go_at_call 136;refine(Qe3 _ bc bf s.n k hk hn j o).mono ?_;rintro e q ⟨rfl,rfl⟩)
     go_ret
     exact⟨rfl,((h.setT k false).setU k false).setP k 0,(((Mod.refl _ _).setCell (by simp) _).setCell (by simp) _).setCell (by simp) _⟩
    ·have b:leaveB s (k:Int)=false:=by simp[leaveB,m]
     have d:leaveS s (k:Int)=s:=by simp[leaveS,b]
     rw[b,d]
     have hpos:0<s.p k:=by omega
     clear b d hi l m
     go_enter Tryz.func213,Tryz.ntmps213
     go_wp2_with (go_at_call 136;refine(Qe3 _ bc bf s.n k hk hn j o).mono ?_;rintro e q ⟨rfl,rfl⟩)
     go_ret
     exact⟨rfl,h,Mod.refl _ _⟩
 ·have hi:=Qm1 r
  have b:leaveB s i=false:=by simp[leaveB,isT,hi]
  have d:leaveS s i=s:=by simp[leaveS,b]
  rw[b,d]
  clear b d hi
  go_enter Tryz.func213,Tryz.ntmps213
  go_wp2_with (go_at_call 136;refine(Qhq _ bc bf s.n i r hn j).mono ?_;rintro e q ⟨rfl,rfl⟩)
  go_ret
  exact⟨rfl,h,Mod.refl _ _⟩
theorem touch_any (w:World) (bc bf:Nat) (s:St) (h:PC w bc bf s) (i:Int) :
 Calls Tryz.prog 67 #[.pointer (some ⟨bc,0,none⟩),.int .i64 i] w (Did w (.bool (isT s i)) bc bf (touchS s i) [bf]):=by
 have j:=h.c0
 have hn:=h.n64
 rcases inn_cases s i with ⟨k,rfl,hk⟩|o
 ·have m:=h.ct k hk
  have hi:=Qio hk
  cases l:s.t k with
  | false =>
    rw[l] at m
    have b:isT s (k:Int)=false:=by simp[isT,l]
    have d:touchS s (k:Int)=s:=by simp[touchS,b]
    rw[b,d]
    clear b d hi l
    go_enter Tryz.func67,Tryz.ntmps67
    go_wp2_with (go_at_call 136;refine(Qjq _ bc bf s.n k hk hn j m).mono ?_;rintro e p ⟨rfl,rfl⟩)
    go_ret
    exact⟨rfl,h,Mod.refl _ _⟩
  | true =>
    rw[l] at m
    have b:isT s (k:Int)=true:=by simp[isT,l,hi]
    have d:touchS s (k:Int)={s with u:=upd s.u k true}:=by simp[touchS,b]
    rw[b,d]
    have hU:=h.cu k hk
    have f1:=h.ff (k*3+1)
    clear b d hi l
    go_enter Tryz.func67,Tryz.ntmps67
    go_wp2_with (go_at_call 136;refine(Qe3 _ bc bf s.n k hk hn j m).mono ?_;rintro e p ⟨rfl,rfl⟩)
    go_ret
    exact⟨rfl,h.setU k true,(Mod.refl _ _).setCell (by simp) _⟩
 ·have hi:=Qm1 o
  have b:isT s i=false:=by simp[isT,hi]
  have d:touchS s i=s:=by simp[touchS,b]
  rw[b,d]
  clear b d hi
  go_enter Tryz.func67,Tryz.ntmps67
  go_wp2_with (go_at_call 136;refine(Qhq _ bc bf s.n i o hn j).mono ?_;rintro e p ⟨rfl,rfl⟩)
  go_ret
  exact⟨rfl,h,Mod.refl _ _⟩
theorem pin_any (w:World) (bc bf:Nat) (s:St) (h:PC w bc bf s) (i:Int) (q:∀k,s.p k<=1000000) :
 Calls Tryz.prog 68 #[.pointer (some ⟨bc,0,none⟩),.int .i64 i] w (Did w (.bool (isT s i)) bc bf (pinS s i) [bf]):=by
 have j:=h.c0
 have hn:=h.n64
 rcases inn_cases s i with ⟨k,rfl,hk⟩|r
 ·have o:=h.ct k hk
  have hi:=Qio hk
  cases l:s.t k with
  | false =>
    rw[l] at o
    have b:isT s (k:Int)=false:=by simp[isT,l]
    have d:pinS s (k:Int)=s:=by simp[pinS,b]
    rw[b,d]
    clear b d hi l
    go_enter Tryz.func68,Tryz.ntmps68
    go_wp2_with (go_at_call 136;refine(Qjq _ bc bf s.n k hk hn j o).mono ?_;rintro e x ⟨rfl,rfl⟩)
    go_ret
    exact⟨rfl,h,Mod.refl _ _⟩
  | true =>
    rw[l] at o
    have b:isT s (k:Int)=true:=by simp[isT,l,hi]
    have d:pinS s (k:Int)={s with p:=upd s.p k (s.p k+1)}:=by simp[pinS,b]
    rw[b,d]
    have hP:=h.cp k hk
    have f2:=h.ff (k*3+2)
    have hb:=q k
    have m:=h.setP k (s.p k+1)
    clear b d hi l q
    go_enter Tryz.func68,Tryz.ntmps68
    go_wp2_with (go_at_call 136;refine(Qe3 _ bc bf s.n k hk hn j o).mono ?_;rintro e x ⟨rfl,rfl⟩)
    go_ret
    refine⟨rfl,?_,(Mod.refl _ _).setCell (by simp) _⟩
    simpa using m
 ·have hi:=Qm1 r
  have b:isT s i=false:=by simp[isT,hi]
  have d:pinS s i=s:=by simp[pinS,b]
  rw[b,d]
  clear b d hi q
  go_enter Tryz.func68,Tryz.ntmps68
  go_wp2_with (go_at_call 136;refine(Qhq _ bc bf s.n i r hn j).mono ?_;rintro e x ⟨rfl,rfl⟩)
  go_ret
  exact⟨rfl,h,Mod.refl _ _⟩
theorem unpin_any (w:World) (bc bf:Nat) (s:St) (h:PC w bc bf s) (i:Int) (q:∀k,s.p k<=1000000) :
 Calls Tryz.prog 72 #[.pointer (some ⟨bc,0,none⟩),.int .i64 i] w (Did w (.bool (unpinB s i)) bc bf (unpinS s i) [bf]):=by
 have j:=h.c0
 have hn:=h.n64
 rcases inn_cases s i with ⟨k,rfl,hk⟩|y
 ·have r:=h.ct k hk
  have hi:=Qio hk
  have B:=h.cp k hk
  cases m:s.t k with
  | false =>
    rw[m] at r
    have b:unpinB s (k:Int)=false:=by simp[unpinB,isT,m]
    have d:unpinS s (k:Int)=s:=by simp[unpinS,b]
    rw[b,d]
    clear b d hi m q
    go_enter Tryz.func72,Tryz.ntmps72
    go_wp2_with (go_at_call 136;refine(Qjq _ bc bf s.n k hk hn j r).mono ?_;rintro e x ⟨rfl,rfl⟩)
    go_ret
    exact⟨rfl,h,Mod.refl _ _⟩
  | true =>
    rw[m] at r
    by_cases o:s.p k=0
    ·have b:unpinB s (k:Int)=false:=by simp[unpinB,o]
     have d:unpinS s (k:Int)=s:=by simp[unpinS,b]
     rw[b,d]
     rw[o] at B
     clear b d hi m o q
     go_enter Tryz.func72,Tryz.ntmps72
     go_wp2_with (go_at_call 136;refine(Qe3 _ bc bf s.n k hk hn j r).mono ?_;rintro e x ⟨rfl,rfl⟩)
     go_ret
     exact⟨rfl,h,Mod.refl _ _⟩
    ·have b:unpinB s (k:Int)=true:=by simp[unpinB,isT,m,hi,o]
     have d:unpinS s (k:Int)={s with p:=upd s.p k (s.p k-1)}:=by simp[unpinS,b]
     rw[b,d]
     have f2:=h.ff (k*3+2)
     have hb:=q k
     have l:=h.setP k (s.p k-1)
     have hz:((s.p k:Int)==0)=false:=by simpa using o
     have z:((s.p k-1:Nat):Int)=(s.p k:Int)-1:=by omega
     rw[z] at l
     have hpos:1<=s.p k:=by omega
     clear b d hi m q o z
     go_enter Tryz.func72,Tryz.ntmps72
     go_wp2_with (go_at_call 136;refine(Qe3 _ bc bf s.n k hk hn j r).mono ?_;rintro e x ⟨rfl,rfl⟩)
     go_ret
     exact⟨rfl,l,(Mod.refl _ _).setCell (by simp) _⟩
 ·have hi:=Qm1 y
  have b:unpinB s i=false:=by simp[unpinB,isT,hi]
  have d:unpinS s i=s:=by simp[unpinS,b]
  rw[b,d]
  clear b d hi q
  go_enter Tryz.func72,Tryz.ntmps72
  go_wp2_with (go_at_call 136;refine(Qhq _ bc bf s.n i y hn j).mono ?_;rintro e x ⟨rfl,rfl⟩)
  go_ret
  exact⟨rfl,h,Mod.refl _ _⟩
theorem pins_any (w:World) (bc bf:Nat) (s:St) (h:PC w bc bf s) (i:Int) :
 Calls Tryz.prog 69 #[.pointer (some ⟨bc,0,none⟩),.int .i64 i] w fun e j=>e = .returned (.int .i64 (pinsV s i:Int))/\w=j:=by
 have b:=h.c0
 have hn:=h.n64
 rcases inn_cases s i with ⟨k,rfl,hk⟩|l
 ·have hP:=h.cp k hk
  have hi:=Qio hk
  have d:pinsV s (k:Int)=s.p k:=by simp[pinsV,hi]
  rw[d]
  clear d hi
  go_enter Tryz.func69,Tryz.ntmps69
  go_wp2_with (go_at_call 137;refine(at_in _ bc bf s.n k hk hn b).mono ?_;rintro e j ⟨rfl,rfl⟩)
  go_ret
  exact⟨rfl,rfl⟩
 ·have hi:=Qm1 l
  have d:pinsV s i=0:=by simp[pinsV,hi]
  rw[d]
  clear d hi
  go_enter Tryz.func69,Tryz.ntmps69
  go_wp2_with (go_at_call 137;refine(Qwk _ bc bf s.n i l hn b).mono ?_;rintro e j ⟨rfl,rfl⟩)
  go_ret
  exact⟨rfl,rfl⟩
end Go.Proofs.YtemacanaihaldaaGreat.Ck
namespace Go.Proofs.YtemacanaihaldaaGreat.Ck
open Go.RowKit Clk
theorem fn28 (t u:Bool) (p:Int) (w:World):Calls Tryz.prog 210 #[.agg #[.bool t,.bool u,.int .i64 p]] w fun e b=>e = .returned (.bool (!t))/\Mod w b []:=by
 go_enter Tryz.func210,Tryz.ntmps210
 go_wp2
 go_ret
 exact⟨rfl,(Mod.refl _ _).alloc _⟩
theorem fn30 (t u:Bool) (p:Nat) (w:World):Calls Tryz.prog 212 #[.agg #[.bool t,.bool u,.int .i64 (p:Int)]] w fun e b=>e = .returned (.bool (decide (p=0)))/\Mod w b []:=by
 by_cases h:p=0
 ·subst h
  go_enter Tryz.func212,Tryz.ntmps212
  go_wp2
  go_ret
  exact⟨rfl,(Mod.refl _ _).alloc _⟩
 ·have h1:((p:Int)==0)=false:=by simpa using h
  have h2:decide (p=0)=false:=by simpa using h
  rw[h2]
  clear h h2
  go_enter Tryz.func212,Tryz.ntmps212
  go_wp2
  go_ret
  exact⟨rfl,(Mod.refl _ _).alloc _⟩
def idx (f:Nat->Bool) (n:Nat):Int:=if first f n<n then (first f n:Int) else -1
theorem Qys {f:Nat->Bool}{n k:Nat}(hk:k<n) (d:f k=true) (b:∀j,j<k->f j=false):idx f n=(k:Int):=by
 unfold idx;rw[Qod f n k hk d b,if_pos hk]
theorem Qsg {f:Nat->Bool}{n:Nat}(b:∀j,j<n->f j=false):idx f n = -1:=by
 unfold idx;rw[Qts f n b,if_neg (by omega)]
def DidV (w:World) (r:Value) (e:Ending) (w':World):Prop:=e = .returned r/\Mod w w' []
theorem Qxt (w:World) (bc bf:Nat) (s:St) (h:PC w bc bf s) :
 Calls Tryz.prog 209 #[.slice (some ⟨bf,0,none⟩) s.n s.n,.func (.func 210) #[] #[]] w (DidV w (.int .i64 (idx (fun k => !s.t k) s.n))):=by
 have hn:=h.n64
 go_enter Tryz.func209,Tryz.ntmps209
 go_wp2
 go_loopw [5,8] (fun a v wr=>∃k:Nat,k<=s.n/\v = .int .i64 (k:Int)/\Mod w wr []/\∀j,j<k->(!s.t j)=false) (fun _ v _=>s.n-(intOf v).toNat)
 case atStart=>exact⟨0,Nat.zero_le _,rfl,Mod.refl _ _,fun j D=>by omega⟩
 case round =>
  obtain⟨k,hk,rfl,x,b⟩:=hrel
  have d:=h.mod x (by simp) (by simp)
  have Hno:=Lib.hid b
  have z:=Lib.hid x
  by_cases l:k<s.n
  ·have hT:=d.ct k l
   have hU:=d.cu k l
   have hP:=d.cp k l
   cases r:(!s.t k:Bool) with
   | true =>
     have hi:=Qys l r b
     have B:=Lib.hid hi
     have o:=fn28 (s.t k) (s.u k) (s.p k)
     rw[r] at o
     have C:=Lib.hid o
     clear r o hi b h d x
     go_wp2_with (go_at_call 210;refine(C.out _).mono ?_;rintro e E ⟨rfl,i⟩;have q:=Lib.hid i;clear i)
     go_ret
     exact⟨by rw[B.out];rfl,z.out.trans q.out⟩
   | false =>
     have o:=fn28 (s.t k) (s.u k) (s.p k)
     rw[r] at o
     have m:∀j,j<k+1->(!s.t j)=false:=by
      intro j D
      by_cases e:j=k
      ·subst e;exact r
      ·exact b j (by omega)
     have y:=Lib.hid m
     have C:=Lib.hid o
     clear r o b h d x m
     go_wp2_with (go_at_call 210;refine(C.out _).mono ?_;rintro e E ⟨rfl,i⟩;have q:=Lib.hid i;clear i)
     go_roundw
     case rel=>exact⟨k+1,by omega,by go_num,z.out.trans q.out,y.out⟩
     case measure=>simp[intOf];omega
  ·have hi:=Qsg (n:=s.n) (f:=fun k => !s.t k) (fun j D=>b j (by omega))
   have B:=Lib.hid hi
   clear hi b h d x
   go_wp2
   go_ret
   exact⟨by rw[B.out];rfl,z.out⟩
theorem Qxs (w:World) (bc bf:Nat) (s:St) (h:PC w bc bf s) :
 Calls Tryz.prog 209 #[.slice (some ⟨bf,0,none⟩) s.n s.n,.func (.func 212) #[] #[]] w (DidV w (.int .i64 (idx (fun k=>decide (s.p k=0)) s.n))):=by
 have hn:=h.n64
 go_enter Tryz.func209,Tryz.ntmps209
 go_wp2
 go_loopw [5,8] (fun a v wr=>∃k:Nat,k<=s.n/\v = .int .i64 (k:Int)/\Mod w wr []/\∀j,j<k->(decide (s.p j=0))=false) (fun _ v _=>s.n-(intOf v).toNat)
 case atStart=>exact⟨0,Nat.zero_le _,rfl,Mod.refl _ _,fun j D=>by omega⟩
 case round =>
  obtain⟨k,hk,rfl,x,b⟩:=hrel
  have d:=h.mod x (by simp) (by simp)
  have Hno:=Lib.hid b
  have z:=Lib.hid x
  by_cases l:k<s.n
  ·have hT:=d.ct k l
   have hU:=d.cu k l
   have hP:=d.cp k l
   cases r:(decide (s.p k=0):Bool) with
   | true =>
     have hi:=Qys l r b
     have B:=Lib.hid hi
     have o:=fn30 (s.t k) (s.u k) (s.p k)
     rw[r] at o
     have C:=Lib.hid o
     clear r o hi b h d x
     go_wp2_with (go_at_call 212;refine(C.out _).mono ?_;rintro e E ⟨rfl,i⟩;have q:=Lib.hid i;clear i)
     go_ret
     exact⟨by rw[B.out];rfl,z.out.trans q.out⟩
   | false =>
     have o:=fn30 (s.t k) (s.u k) (s.p k)
     rw[r] at o
     have m:∀j,j<k+1->(decide (s.p j=0))=false:=by
      intro j D
      by_cases e:j=k
      ·subst e;exact r
      ·exact b j (by omega)
     have y:=Lib.hid m
     have C:=Lib.hid o
     clear r o b h d x m
     go_wp2_with (go_at_call 212;refine(C.out _).mono ?_;rintro e E ⟨rfl,i⟩;have q:=Lib.hid i;clear i)
     go_roundw
     case rel=>exact⟨k+1,by omega,by go_num,z.out.trans q.out,y.out⟩
     case measure=>simp[intOf];omega
  ·have hi:=Qsg (n:=s.n) (f:=fun k=>decide (s.p k=0)) (fun j D=>b j (by omega))
   have B:=Lib.hid hi
   clear hi b h d x
   go_wp2
   go_ret
   exact⟨by rw[B.out];rfl,z.out⟩
theorem Qlv (w:World) (bc bf:Nat) (s:St) (h:PC w bc bf s) :
 Calls Tryz.prog 211 #[.slice (some ⟨bf,0,none⟩) s.n s.n,.func (.func 212) #[] #[]] w (DidV w (.bool (some0 s))):=by
 have j:decide (0<=idx (fun k=>decide (s.p k=0)) s.n)=some0 s:=by
  unfold idx some0
  by_cases q:first (fun k=>decide (s.p k=0)) s.n<s.n
  ·simp[q]
  ·simp[q]
 rw[<-j]
 clear j
 generalize hi:idx (fun k=>decide (s.p k=0)) s.n=r
 have d:=Qxs w bc bf s h
 rw[hi] at d
 have l:=Lib.hid d
 clear d hi h
 go_enter Tryz.func211,Tryz.ntmps211
 go_wp2_with (go_at_call 209;refine l.out.mono ?_;rintro e w1 ⟨rfl,b⟩;have i:=Lib.hid b;clear b)
 go_ret
 exact⟨rfl,i.out⟩
end Go.Proofs.YtemacanaihaldaaGreat.Ck
namespace Go.Proofs.YtemacanaihaldaaGreat.Ck
open Go.RowKit Clk
def uW (w:World) (bf k:Nat):Bool:=match w.cell? ⟨bf,k*3+1,none⟩ with|some (.bool b)=>b|_=>false
def hW (w:World) (bc:Nat):Nat:=match w.cell? ⟨bc,1,none⟩ with|some (.int _ q)=>q.toNat|_=>0
def mesW (n:Nat) (p:Nat->Nat) (bc bf:Nat) (w:World):Nat:=mes n p (uW w bf) (hW w bc)
theorem Qq2 {w:World}{bc bf:Nat}{s:St}(h:PC w bc bf s):mesW s.n s.p bc bf w=mes s.n s.p s.u s.h:=by
 unfold mesW mes
 have b:hW w bc=s.h:=by unfold hW;rw[h.c1];simp
 have d:cnt (fun k=>uW w bf k && decide (s.p k=0)) s.n=cnt (fun k=>s.u k && decide (s.p k=0)) s.n :=
  Qpw _ _ _ (fun k hk=>by simp[uW,h.cu k hk])
 rw[b,d]
theorem pick_any (w:World) (bc bf:Nat) (s:St) (h:PC w bc bf s) :
 Calls Tryz.prog 132 #[.pointer (some ⟨bc,0,none⟩)] w (Did w (.tuple #[.int .i64 (pickI s:Int),.bool (pickB s)]) bc bf (pickS s) [bc,bf]):=by
 have U:=h.c0
 have hn:=h.n64
 have hi:=Qxt w bc bf s h
 by_cases b:freeK s<s.n
 ·have N:idx (fun k => !s.t k) s.n=(freeK s:Int):=by unfold freeK at b;simp[idx,freeK,b]
  have r:pickS s=s:=by simp[pickS,b]
  have x:pickI s=freeK s:=by simp[pickI,b]
  have B:pickB s=true:=by simp[pickB,b]
  rw[N] at hi
  rw[r,x,B]
  generalize freeK s=k at *
  have O:=Lib.hid hi
  have I:=Lib.hid h
  clear hi h N r x B
  go_enter Tryz.func132,Tryz.ntmps132
  go_wp2
  go_step3
  go_wp2_with (go_at_call 209;refine O.out.mono ?_;rintro e R ⟨rfl,o⟩;have j:=Lib.hid o;clear o)
  go_ret2
  exact⟨rfl,I.out.mod j.out (by simp) (by simp),j.out.mono (by simp)⟩
 ·have N:idx (fun k => !s.t k) s.n = -1:=by unfold freeK at b;simp[idx,b]
  rw[N] at hi
  cases l:some0 s with
  | false =>
    have r:pickS s=s:=by simp[pickS,b,l]
    have x:pickI s=0:=by simp[pickI,b,l]
    have B:pickB s=false:=by simp[pickB,b,l]
    rw[r,x,B]
    have L:=fun R h1=>Qlv R bc bf s h1
    rw[l] at L
    have O:=Lib.hid hi
    have I:=Lib.hid h
    have HC:=Lib.hid L
    clear hi h N r x B L l
    go_enter Tryz.func132,Tryz.ntmps132
    go_wp2
    go_step3
    go_wp2_with (first
     | (go_at_call 209;refine O.out.mono ?_;rintro e R ⟨rfl,o⟩;have X:=o.cell_of U (by simp);have j:=Lib.hid o;clear o)
     | (go_at_call 211;refine(HC.out _ (I.out.mod j.out (by simp) (by simp))).mono ?_;rintro e w2 ⟨rfl,C⟩;have y:=Lib.hid C;clear C))
    go_ret2
    exact⟨rfl,I.out.mod (j.out.trans y.out) (by simp) (by simp),(j.out.trans y.out).mono (by simp)⟩
  | true =>
    have r:pickS s={s with u:=(goes s.n s.p s.u s.h).1,h:=(goes s.n s.p s.u s.h).2.1}:=by simp[pickS,b,l]
    have x:pickI s=(goes s.n s.p s.u s.h).2.2:=by simp[pickI,b,l]
    have B:pickB s=true:=by simp[pickB,l]
    rw[r,x,B]
    obtain⟨k0,Y,J⟩:=(Qo2 s).1 l
    have L:=fun R h1=>Qlv R bc bf s h1
    rw[l] at L
    have O:=Lib.hid hi
    have I:=Lib.hid h
    have HC:=Lib.hid L
    have Z:=Lib.hid J
    clear hi h N r x B L l J
    generalize D:goes s.n s.p s.u s.h=res
    have E:=Lib.hid D
    clear D
    go_enter Tryz.func132,Tryz.ntmps132
    go_wp2
    go_step3
    go_wp2_with (first
     | (go_at_call 209;refine O.out.mono ?_;rintro e R ⟨rfl,o⟩;have X:=o.cell_of U (by simp);have j:=Lib.hid o;clear o)
     | (go_at_call 211;refine(HC.out _ (I.out.mod j.out (by simp) (by simp))).mono ?_;rintro e w2 ⟨rfl,C⟩;have y:=Lib.hid C;clear C))
    go_step3
    go_wp2
    go_loopw [5] (fun _ wr=>∃(u:Nat->Bool) (h:Nat),PC wr bc bf {s with u:=u,h:=h}/\Hid (goes s.n s.p u h=res)/\Mod w wr [bc,bf]) (fun _ wr=>mesW s.n s.p bc bf wr)
    case atStart=>exact⟨s.u,s.h,I.out.mod (j.out.trans y.out) (by simp) (by simp),E,(j.out.trans y.out).mono (by simp)⟩
    case round =>
     clear E j y HC O I X
     obtain⟨u,h,i,hg,hm⟩:=hrel
     have hh:h<s.n:=i.hh
     have a1:=Lib.hid (Qq2 i)
     have d0:wr.cell? ⟨bc,0,none⟩=some (.slice (some ⟨bf,0,none⟩) s.n s.n):=i.c0
     have d1:wr.cell? ⟨bc,1,none⟩=some (.int .i64 (h:Int)):=i.c1
     have d2:=i.fc 1
     have hU:wr.cell? ⟨bf,h*3+1,none⟩=some (.bool (u h)):=i.cu h hh
     have hP:wr.cell? ⟨bf,h*3+2,none⟩=some (.int .i64 (s.p h:Int)):=i.cp h hh
     have f1:=i.ff (h*3+1)
     have hne:=i.ne
     have M:=Lib.hid i
     have Hm:=Lib.hid hm
     have hn0:1<=s.n:=i.n1
     clear i hm
     have F:(h+1)%s.n<s.n:=Nat.mod_lt _ (by omega)
     have G:(((h+1)%s.n:Nat):Int)=((h:Int)+1)%(s.n:Int):=by simp
     have q:=Lib.hid G
     clear G
     by_cases hp:s.p h=0
     ·rw[hp] at hP
      have z:=Lib.hid hp
      clear hp
      cases hu:u h with
      | false =>
        rw[hu] at hU
        have Hu:=Lib.hid hu
        clear hu
        go_wp2
        go_region
        all_goals go_wp2
        go_ret2
        have d:=M.out.setH ((h+1)%s.n) F
        rw[q.out] at d
        have a7:=hg.out
        rw[Qll s.n s.p u h z.out Hu.out] at a7
        rw[<-a7]
        exact⟨rfl,d.mod (Mod.refl _ []).drew (by simp) (by simp),(Hm.out.setCell (by simp) _).drew⟩
      | true =>
        rw[hu] at hU
        have Hu:=Lib.hid hu
        clear hu
        go_wp2
        go_region
        all_goals go_wp2
        have d:=(M.out.setH ((h+1)%s.n) F)
        rw[q.out] at d
        have m:=(d.setU h false).mod (Mod.refl _ []).drew (by simp) (by simp)
        refine⟨⟨upd u h false,(h+1)%s.n,m,Lib.hid ?_,((Hm.out.setCell (by simp) _).setCell (by simp) _).drew⟩,?_⟩
        ·rw[<-Qpo s.n s.p u h hn hh z.out Hu.out];exact hg.out
        ·have r:=Qq2 m
         have x:=a1.out
         have B:=Qh2 s.n s.p u h hh z.out Hu.out
         simp only at r x
         rw[r,x]
         exact B
     ·have hpos:0<s.p h:=by omega
      have z:=Lib.hid hp
      clear hp
      go_wp2
      go_region
      all_goals go_wp2
      have d:=(M.out.setH ((h+1)%s.n) F)
      rw[q.out] at d
      have m:=d.mod (Mod.refl _ []).drew (by simp) (by simp)
      refine⟨⟨u,(h+1)%s.n,m,Lib.hid ?_,(Hm.out.setCell (by simp) _).drew⟩,?_⟩
      ·rw[<-Qlk s.n s.p u h hn hh z.out k0 Y Z.out];exact hg.out
      ·have r:=Qq2 m
       have x:=a1.out
       have B:=Qe9 s.n s.p u h hh z.out k0 Y Z.out
       simp only at r x
       rw[r,x]
       exact B
end Go.Proofs.YtemacanaihaldaaGreat.Ck
namespace Go.Proofs.YtemacanaihaldaaGreat.Ck
open Go.RowKit Clk
theorem Ck.info247 : (Tryz.prog.info? 247).map (fun i=>(i.zero,i.size,i.bytes))=some (some (.agg #[.bool false,.bool false,.int .i64 0]),3,16):=by kernel_rfl
theorem made_get (z:Array Value) (n j:Nat) (h:j<n):(madeCells z n)[j]?=some (z[j%z.size]!):=by
 unfold madeCells
 rw[Array.getElem?_map,Array.getElem?_range,if_pos h];rfl
theorem Qs7 (k:Nat) (hk:k<=64) (W:World):(Instr.makeSlice 235 (.int .i64 (k:Int)) (.int .i64 (k:Int))).run Tryz.prog W =
 .ok (.slice (some ⟨W.heap.size,0,none⟩) k k) (W.alloc (.cells (madeCells #[.bool false,.bool false,.int .i64 0] (k*3)) 247)):=by
 obtain⟨i,hi,b,d,e⟩:=info_parts Ck.info247
 have:=run_make (P:=Tryz.prog) W 235 247 i (.agg #[.bool false,.bool false,.int .i64 0]) Tryz.underlying235 hi b .i64 .i64 k k (by omega) (Int.le_refl _) (by rw[e];omega) (by omega)
 simp only[Int.toNat_natCast,d] at this
 exact this
theorem Qfd (w:World) (c:Array Value) (t:TypeId) (o:Nat):(w.alloc (.cells c t)).cell? ⟨w.heap.size,o,none⟩=c[o]?:=by
 unfold World.cell?
 rw[show (w.alloc (.cells c t)).heap=w.heap.push (.cells c t) from rfl]
 simp
theorem Qjb (w:World) (c:Array Value) (t:TypeId) (o:Nat):(w.alloc (.cells c t)).frozen? ⟨w.heap.size,o,none⟩=false:=by
 unfold World.frozen?
 rw[show (w.alloc (.cells c t)).heap=w.heap.push (.cells c t) from rfl]
 simp
def Made (w:World) (r:Value) (bc bf:Nat) (s:St) (e:Ending) (w':World):Prop:=e = .returned r/\PC w' bc bf s/\Mod w w' []
theorem new_ok (w:World) (k:Nat) (h1:1<=k) (d:k<=64) :
 Calls Tryz.prog 62 #[.int .i64 (k:Int)] w (Made w (.pointer (some ⟨w.heap.size+1,0,none⟩)) (w.heap.size+1) w.heap.size (newS k)):=by
 have hmk:=Qs7 k d
 have a0:decide ((k:Int)<1)=false:=by simp;omega
 have a1:decide ((64:Int)<(k:Int))=false:=by simp;omega
 go_enter Tryz.func62,Tryz.ntmps62
 go_wp2
 go_ret
 have e:(w.alloc (.cells (madeCells #[.bool false,.bool false,.int .i64 0] (k*3)) 247)).heap.size=w.heap.size+1:=by simp
 refine⟨rfl,?_,((Mod.refl _ _).alloc _).alloc _⟩
 have m:Mod (w.alloc (.cells (madeCells #[.bool false,.bool false,.int .i64 0] (k*3)) 247)) ((w.alloc (.cells (madeCells #[.bool false,.bool false,.int .i64 0] (k*3)) 247)).alloc (.cells #[.slice (some ⟨w.heap.size,0,none⟩) k k,.int .i64 0] 237)) []:=(Mod.refl _ _).alloc _
 have hl:w.heap.size<(w.alloc (.cells (madeCells #[.bool false,.bool false,.int .i64 0] (k*3)) 247)).heap.size:=by rw[e];omega
 refine⟨h1,d,h1,by omega,?_,?_,?_,?_,?_,?_,?_⟩
 ·have:=Qfd (w.alloc (.cells (madeCells #[.bool false,.bool false,.int .i64 0] (k*3)) 247)) #[.slice (some ⟨w.heap.size,0,none⟩) k k,.int .i64 0] 237 0
  rw[e] at this
  exact this
 ·have:=Qfd (w.alloc (.cells (madeCells #[.bool false,.bool false,.int .i64 0] (k*3)) 247)) #[.slice (some ⟨w.heap.size,0,none⟩) k k,.int .i64 0] 237 1
  rw[e] at this
  exact this
 ·intro o
  have:=Qjb (w.alloc (.cells (madeCells #[.bool false,.bool false,.int .i64 0] (k*3)) 247)) #[.slice (some ⟨w.heap.size,0,none⟩) k k,.int .i64 0] 237 o
  rw[e] at this
  exact this
 ·intro j b
  have b:j<k:=b
  refine m.cell_of ?_ (by simp)
  rw[Qfd,made_get _ _ _ (by omega)]
  show some (#[Value.bool false,Value.bool false,Value.int .i64 0][j*3%3]!)=_
  rw[show j*3%3=0 from by omega];rfl
 ·intro j b
  have b:j<k:=b
  refine m.cell_of ?_ (by simp)
  rw[Qfd,made_get _ _ _ (by omega)]
  show some (#[Value.bool false,Value.bool false,Value.int .i64 0][(j*3+1)%3]!)=_
  rw[show (j*3+1)%3=1 from by omega];rfl
 ·intro j b
  have b:j<k:=b
  refine m.cell_of ?_ (by simp)
  rw[Qfd,made_get _ _ _ (by omega)]
  show some (#[Value.bool false,Value.bool false,Value.int .i64 0][(j*3+2)%3]!)=_
  rw[show (j*3+2)%3=2 from by omega];rfl
 ·intro o
  rw[m.frozen _ _ hl (by simp)]
  exact Qjb _ _ _ _
end Go.Proofs.YtemacanaihaldaaGreat.Ck
