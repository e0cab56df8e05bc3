/-
 A log and a pool,and the document's: Make on empty devices.
-/
import Derived.Test.YtociicnopccppaaGreatML12
import Derived.Test.YtociicnopccppaaGreatMNewD
set_option linter.all false
namespace Go.Proofs.YtociicnopccppaaGreat
open Go.RowKit
