/-
 The reference's pool without a page at hand: At,find,Dirty.
-/
import Derived.Test.YtociicnopccppaaGreatMR12
import Derived.Test.YtociicnopccppaaGreatMPoolD
set_option linter.all false
namespace Go.Proofs.YtociicnopccppaaGreat
variable {g:Tag}
open Go.RowKit
theorem qai.fst(h:qai g):10<=g.1/\g.1<=12:=by rcases h with rfl|rfl|rfl <;> simp[qb1,qa5,qa6]
theorem qah.fst(h:qah g):2<=g.1/\g.1<=5:=by rcases h with h|h|h|h <;> omega
theorem qb3.fst(h:qb3 g):g.1=20\/(30<=g.1/\g.1<=33):=by rcases h with rfl|rfl|rfl|rfl|⟨i,rfl⟩ <;> simp[qcd,tFr,qbi,qdk,tPg]
theorem qbc.fst(h:qbc g):2<=g.1/\g.1<=12:=by
 rcases h with h|h
 ·have:=h.fst;omega
 ·have:=h.fst;omega
def qb5 (g:Tag):Prop:=g.1≠90
theorem Qiv {w b:World} {a:qa1}(h:Step w (fun _=>qay) b a qb5):Mod w b no :=
 ⟨h.mod.os,h.mod.tape,h.mod.output,h.mod.size,fun k c _=>h.mod.block k c (fun d=>d rfl)⟩
theorem Qru (D:Dev) (k:Nat) (l:List Int):(D.write 0 k l).f1=D.f1:=by
 unfold Dev.write
 have a:D.go.2.f1=D.f1:=Dev.qd6 D 1
 split
 ·split
  ·exact a
  ·rfl
 ·exact a
theorem Quu (D:Dev):(D.sync 0).f1=D.f1:=by
 unfold Dev.sync
 have a:D.go.2.f1=D.f1:=Dev.qd6 D 1
 split <;> exact a
theorem Qpk (D:Dev) (a:Nat) (want:List (List Int)) (i:Nat):(Qa7 D a want i).1.f1=D.f1:=by
 induction i with
 | zero=>rfl
 | succ i ih =>
   show (if _ then Qa7 D a want i else _).1.f1=_
   split
   ·exact ih
   ·rw[Qru,ih]
theorem Qot (D:Dev):(Qbl D).f1=D.f1:=by
 unfold Qbl Qf9
 rw[Quu,Qru]
 unfold Dev.make
 split
 ·rw[Quu,Qpk]
 ·rw[Qpk]
theorem Qsp {D:Dev} {m:Nat}(h:D.f1=List.replicate m qgp) (i:Nat) (hi:4*i+4<=m):qap D i 4=blank:=by
 apply List.ext_getElem?
 intro j
 unfold qap blank
 rw[List.getElem?_map,List.getElem?_replicate]
 by_cases a:j<4
 ·rw[List.getElem?_range a,if_pos a]
  show some (D.last 1 (4*i+j))=some Qff
  unfold Dev.last
  have:D.file 1=D.f1:=rfl
  rw[this,h,List.getElem?_replicate,if_pos oM]
  rfl
 ·rw[List.getElem?_eq_none (by simp;omega),if_neg a];rfl
theorem Qzq (a b:Nat):(⟨List.replicate a qgp,List.replicate b qgp,none,false⟩:Dev).lim 0:=by
 intro f k s c
 unfold Dev.file at c
 split at c
 ·rw[List.getElem?_replicate] at c
  split at c
  ·cases c;exact Z0 _
  ·cases c
 ·split at c
  ·rw[List.getElem?_replicate] at c
   split at c
   ·cases c;exact Z0 _
   ·cases c
  ·simp at c
