/-
 The reference's pool: how it lies in memory (no page at hand);sectors,mend of a whole home.
-/
import Derived.Test.YtociicnopccppaaGreatMR5D
import Derived.Test.YtociicnopccppaaGreatMPoolC
set_option linter.all false
namespace Go.Proofs.YtociicnopccppaaGreat
open Go.RowKit
