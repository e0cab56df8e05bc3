/-
 The reference's device: Write;Sync;Image.
-/
import Derived.Test.YtociicnopccppaaGreatMCrc
import Derived.Test.YtociicnopccppaaGreatMRegL
set_option linter.all false
namespace Go.Proofs.YtociicnopccppaaGreat
open Go.RowKit
