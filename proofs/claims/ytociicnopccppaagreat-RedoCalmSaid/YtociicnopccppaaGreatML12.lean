/-
 A log and a pool,and the document's: Alike where no page is at hand.
-/
import Derived.Test.YtociicnopccppaaGreatMR12C
import Derived.LaidEqlPtr
set_option linter.all false
namespace Go.Proofs.YtociicnopccppaaGreat
open Go.RowKit
theorem Tryz.infoLog:(Tryz.prog.info? 123).isSome=true:=kR
