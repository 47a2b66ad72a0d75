
/-
  How the statements' arguments are opened.
-/
import Derived.Test.YtiigabojncnipaaChecked
import Derived.Test.YtiigabojncnipaaBase
import Derived.WalkKit
import Derived.ProofKit
import Derived.OpenShut
import Derived.KernelRfl
namespace Go.Proofs.Ytiigabojncnipaa
open Go.ChangeShapes Go.WideShapes Go.ChangeAt Go.RowKit

end Go.Proofs.Ytiigabojncnipaa
