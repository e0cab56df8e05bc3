/-
 A device that is to be halted,plain: what it holds is what some of the calls,from the first on,have done.
-/
import Derived.Test.YtociicnopccppaaGreatMTornA
import Derived.Test.YtociicnopccppaaGreatMPoolQ
set_option linter.all false
namespace Go.Proofs.YtociicnopccppaaGreat
open Go.RowKit
inductive DOp where
 | write (f k:Nat) (l:List Int)
 | sync (f:Nat)
def Dev.op (D:Dev):DOp->Dev
 | .write f k l=>D.write f k l
 | .sync f=>D.sync f
def Dev.run (D:Dev) (l:List DOp):Dev:=l.foldl Dev.op D
def DOp.file:DOp->Nat
 | .write f _ _=>f
 | .sync f=>f
theorem Dev.qgl (D:Dev) (a b:List DOp):D.run (a++b)=(D.run a).run b:=by unfold Dev.run;rw[List.foldl_append]
