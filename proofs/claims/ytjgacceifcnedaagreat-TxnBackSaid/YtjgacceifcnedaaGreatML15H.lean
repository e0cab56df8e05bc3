/-
 TxnNests: the law walked.
-/
import Derived.Test.YtjgacceifcnedaaGreatML15D
import Derived.Test.YtjgacceifcnedaaGreatML15B
set_option linter.all false
namespace Go.Proofs.YtjgacceifcnedaaGreat
open Go.RowKit Go.Maps ArgsQ
theorem Qw3 {w w0 w1:World}{τ1:Tags}(hk:Mod w w0 no) (hs:Step w0 boxed w1 τ1 AnyTag):Step w boxed w1 τ1 AnyTag :=
 ⟨(hk.mono (fun _ _ h=>h.elim)).seq hs.mod (fun _ _ h=>h),fun k hk'=>hs.ext k (Nat.lt_of_lt_of_le hk' hk.size)⟩
theorem ArgsQ.OpTAt.stay {w w':World}{τ':Tags}(m:Step w boxed w' τ' AnyTag) {b o:Nat}{x:OpT}(h:OpTAt w b o x):OpTAt w' b o x :=
 ⟨h.kd,h.pg,h.k,Qcq m h.c0 Qhl,Qcq m h.c1 Qhl,Qcq m h.c2 Qhl,Qcq m h.c3 Qhl,Qcq m h.c4 Qhl,Qcq m h.c5 Qhl,Qcq m h.c6 Qhl⟩
def LawD (w:World) (e:Ending) (w':World):Prop:=e = .returned (.bool true)∧Below w.heap.size w w'
end Go.Proofs.YtjgacceifcnedaaGreat