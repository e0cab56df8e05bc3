/-
 Torn pages,plain: a sealed page's sectors,each partly as it was,are whole just if all are old,or all new.
-/
import Derived.Test.YtociicnopccppaaGreatMSealD
import Derived.Test.YtociicnopccppaaGreatMDevE
set_option linter.all false
namespace Go.Proofs.YtociicnopccppaaGreat
open Go.RowKit
