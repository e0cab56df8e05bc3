/-
 PoolStamps,walked.
-/
import Derived.Test.YtemacanaihaldaaGreatML12L
import Derived.Test.YtemacanaihaldaaGreatML12C
import Derived.Test.YtemacanaihaldaaGreatMR8
set_option linter.all false
namespace Go.Proofs.YtemacanaihaldaaGreat
open Go.RowKit
theorem Jeo {w w':World}{τ':Tags}(m:Step w boxed w' τ' AnyTag):Below w.heap.size w w':=Mod.below ⟨m.mod.os,m.mod.tape,m.mod.output,m.mod.size,fun k hk _=>m.mod.block k hk (fun h=>h rfl)⟩
theorem Jem {w w':World}(m:Mod w w' no):Step w boxed w' boxed AnyTag:=(Step.of nil m (Ext.refl _ _)).mono (fun _ h=>h.elim)
end Go.Proofs.YtemacanaihaldaaGreat