/-
 A device that is to be halted,plain: what it holds is what some of the calls,from the first on,have done.
-/
import Derived.Test.YtemacanaihaldaaGreatMTornA
import Derived.Test.YtemacanaihaldaaGreatMWalG
set_option linter.all false
namespace Go.Proofs.YtemacanaihaldaaGreat
variable {E:Dev}
open Go.RowKit
inductive DOp where
 | write (f k:Nat) (l:List Int)
 | sync (f:Nat)
def Dev.op (D:Dev):DOp→Dev
 | .write f k l=>D.write f k l
 | .sync f=>D.sync f
def Dev.run (D:Dev) (l:List DOp):Dev:=l.foldl Dev.op D
def Dev.free (D:Dev):Dev:={D with left:=none}
def Dev.stop (D:Dev):Dev:={D with left:=some 0,halted:=true}
def DOp.file:DOp→Nat
 | .write f _ _=>f
 | .sync f=>f
theorem Dev.put_flags (D:Dev) (f:Nat) (l:List Sec):(D.put f l).left=D.left∧(D.put f l).halted=D.halted:=by
 unfold Dev.put
 split
 ·exact⟨rfl,rfl⟩
 ·split <;> exact⟨rfl,rfl⟩
theorem Dev.put_free (D:Dev) (f:Nat) (l:List Sec):(D.put f l).free=D.free.put f l:=by
 unfold Dev.put Dev.free
 split
 ·rfl
 ·split <;> rfl
theorem Dev.file_free (D:Dev) (f:Nat):D.free.file f=D.file f:=rfl
theorem Dev.stop_op (D:Dev) (o:DOp):D.stop.op o=D.stop:=by cases o <;> rfl
theorem Dev.stop_run (D:Dev) (l:List DOp):D.stop.run l=D.stop:=by
 induction l with
 | nil=>rfl
 | cons o l ih =>
   show (D.stop.op o).run l=_
   rw[Dev.stop_op];exact ih
theorem Dev.op_go {D:Dev}(hg:D.go.1=true) (o:DOp):(D.op o).halted=D.halted∧(D.op o).free=D.free.op o:=by
 have hf:D.free.go=(true,D.free):=rfl
 have h2:D.go.2.free=D.free∧D.go.2.halted=D.halted:=by
  obtain⟨f0,f1,left,halted⟩:=D
  cases left with
  | none=>exact⟨rfl,rfl⟩
  | some n =>
    cases n with
    | zero=>cases hg
    | succ n=>exact⟨rfl,rfl⟩
 cases o with
 | write f k l =>
   show (D.write f k l).halted=_∧(D.write f k l).free=D.free.write f k l
   unfold Dev.write
   rw[if_pos hg,hf,if_pos rfl,Dev.file_free]
   cases (D.file f)[k]? with
   | none=>exact⟨rfl,rfl⟩
   | some s=>exact⟨(Dev.put_flags _ _ _).2.trans h2.2,(Dev.put_free _ _ _).trans (by rw[h2.1])⟩
 | sync f =>
   show (D.sync f).halted=_∧(D.sync f).free=D.free.sync f
   unfold Dev.sync
   rw[if_pos hg,hf,if_pos rfl,Dev.file_free]
   exact⟨(Dev.put_flags _ _ _).2.trans h2.2,(Dev.put_free _ _ _).trans (by rw[h2.1])⟩
theorem Dev.op_halts {D:Dev}(hh:D.halted=false) (o:DOp):((D.op o).halted=false∧(D.op o).free=D.free.op o)∨D.op o=D.free.stop:=by
 cases hg:D.go.1 with
 | true =>
   obtain⟨a,b⟩:=Dev.op_go hg o
   exact .inl ⟨a.trans hh,b⟩
 | false =>
   right
   obtain⟨f0,f1,left,halted⟩:=D
   cases left with
   | none=>cases hg
   | some n =>
     cases n with
     | zero=>cases o <;> rfl
     | succ n=>cases hg
theorem Dev.run_halts {D:Dev}(hh:D.halted=false) (l:List DOp):((D.run l).halted=false∧(D.run l).free=D.free.run l)∨∃m,m<l.length∧D.run l=(D.free.run (l.take m)).stop:=by
 induction l generalizing D with
 | nil=>exact .inl ⟨hh,rfl⟩
 | cons o l ih =>
   rcases Dev.op_halts hh o with ⟨h1,h2⟩|h1
   ·have e:D.free.run (o::l)=(D.op o).free.run l:=by rw[h2];rfl
    rcases ih h1 with ⟨a,b⟩|⟨m,hm,e2⟩
    ·exact .inl ⟨a,by rw[e];exact b⟩
    ·refine .inr ⟨m+1,by rw[List.length_cons];omega,?_⟩
     show (D.op o).run l=_
     rw[e2,List.take_succ_cons,h2]
     rfl
   ·refine .inr ⟨0,by rw[List.length_cons];omega,?_⟩
    show (D.op o).run l=_
    rw[h1,Dev.stop_run]
    rfl
theorem Dev.run_append (D:Dev) (a b:List DOp):D.run (a++b)=(D.run a).run b:=by unfold Dev.run;rw[List.foldl_append]
theorem Dev.op_other(h:E.left=none) (o:DOp) (g:Nat) (hf:o.file<2) (hg:o.file≠g):(E.op o).file g=E.file g:=by
 cases o with
 | write f k l =>
   show (E.write f k l).file g=_
   unfold Dev.write
   rw[Dev.go_free h,if_pos rfl]
   cases (E.file f)[k]? with
   | none=>rfl
   | some s=>exact(Dev.put_file _ _ hf _ _).trans (if_neg (fun e=>hg e.symm))
 | sync f =>
   show (E.sync f).file g=_
   unfold Dev.sync
   rw[Dev.go_free h,if_pos rfl]
   exact(Dev.put_file _ _ hf _ _).trans (if_neg (fun e=>hg e.symm))
theorem Dev.op_left(h:E.left=none) (o:DOp):(E.op o).left=none:=by
 cases o with
 | write f k l=>exact Dev.write_free h f k l
 | sync f=>exact Dev.sync_free h f
theorem Dev.run_left(h:E.left=none) (l:List DOp):(E.run l).left=none:=by
 induction l generalizing E with
 | nil=>exact h
 | cons o l ih=>exact ih (Dev.op_left h o)
theorem Dev.run_other(h:E.left=none) (g:Nat) (l:List DOp) (hl:∀o∈l,o.file<2∧o.file≠g):(E.run l).file g=E.file g:=by
 induction l generalizing E with
 | nil=>rfl
 | cons o l ih =>
   obtain⟨a,b⟩:=hl o (by simp)
   show ((E.op o).run l).file g=_
   rw[ih (Dev.op_left h o) (fun p hp=>hl p (List.mem_cons_of_mem _ hp)),Dev.op_other h o g a b]
def wrOps (f a:Nat) (ls:List (List Int)) (i:Nat):List DOp:=(List.range i).map fun j=>.write f (a+j) (ls.getD j [])
def Jcv (f a:Nat) (ls:List (List Int)):List DOp:=wrOps f a ls ls.length++[.sync f]
theorem Dev.writes_run (D:Dev) (f a:Nat) (ls:List (List Int)) (i:Nat):D.writes f a ls i=D.run (wrOps f a ls i):=by
 induction i with
 | zero=>rfl
 | succ i ih =>
   unfold wrOps
   rw[List.range_succ,List.map_append,Dev.run_append]
   show (D.writes f a ls i).write f (a+i) (ls.getD i [])=_
   rw[ih];rfl
theorem Dev.lay_run (D:Dev) (f a:Nat) (ls:List (List Int)):D.lay f a ls=D.run (Jcv f a ls):=by
 unfold Dev.lay Jcv
 rw[Dev.run_append,Dev.writes_run];rfl
theorem Jdw (f a:Nat) (ls:List (List Int)) (i:Nat):(wrOps f a ls i).length=i:=by unfold wrOps;simp
theorem Jc2 (f a:Nat) (ls:List (List Int)):(Jcv f a ls).length=ls.length+1:=by unfold Jcv;rw[List.length_append,Jdw];rfl
theorem Jdj (f a:Nat) (ls:List (List Int)) {m:Nat}(hm:m<ls.length+1):(Jcv f a ls).take m=wrOps f a ls m:=by
 unfold Jcv
 rw[List.take_append_of_le_length (by rw[Jdw];omega)]
 unfold wrOps
 rw[←List.map_take,List.take_range,Nat.min_eq_left (by omega)]
theorem Jeg (f a:Nat) (ls:List (List Int)) (m:Nat):∀o∈(Jcv f a ls).take m,o.file=f:=fun o ho=>by
 have:=List.mem_of_mem_take ho
 unfold Jcv wrOps at this
 rcases List.mem_append.1 this with h|h
 ·obtain⟨j,_,rfl⟩:=List.mem_map.1 h;rfl
 ·rw[List.mem_singleton.1 h];rfl
theorem Dev.writes_get(h:E.left=none) {f:Nat}(hf:f<2) (a:Nat) (ls:List (List Int)) (i j:Nat):((E.writes f a ls i).file f)[j]?=if a≤j∧j<a+i then ((E.file f)[j]?).map (fun s=>s.add (ls.getD (j-a) [])) else (E.file f)[j]?:=by
 induction i with
 | zero=>rw[if_neg (by omega)];rfl
 | succ i ih =>
   show (((E.writes f a ls i).write f (a+i) (ls.getD i [])).file f)[j]?=_
   rw[Dev.write_get (Dev.writes_free h _ _ _ _) hf,ih]
   by_cases e:j=a+i
   ·rw[if_pos ⟨rfl,e⟩,if_neg (by omega),if_pos (by omega),e,Nat.add_sub_cancel_left]
   ·rw[if_neg (fun q=>e q.2)]
    by_cases e2:a≤j∧j<a+i
    ·rw[if_pos e2,if_pos (by omega)]
    ·rw[if_neg e2,if_neg (by omega)]
def flOps (L:LogM) (k:Nat):List DOp:=if Qbj L k=true then Jcv 0 (L.firstS+L.lasts/127) (Qdp L k) else []
def pwOps (L:LogM) (k N n:Nat) (P:List Int) (st:Nat):List DOp:=flOps L k++(Jcv 1 (4*N) (sealAll P st)++Jcv 1 (4*n) (sealAll P st))
theorem Jgm (L:LogM) (D:Dev) (k:Nat):flD L D k=D.run (flOps L k):=by
 unfold flD flOps
 split
 ·exact Dev.lay_run _ _ _ _
 ·rfl
theorem Jdb (L:LogM) (D:Dev) (k N n:Nat) (P:List Int) (st:Nat):wrD (flD L D k) N n P st=D.run (pwOps L k N n P st):=by
 unfold wrD pwOps
 rw[Dev.run_append,Dev.run_append,←Jgm,←Dev.lay_run,←Dev.lay_run]
end Go.Proofs.YtemacanaihaldaaGreat