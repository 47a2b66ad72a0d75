
/-
  How the statements' arguments are opened.
-/
import Derived.Test.YteccphcophjhpaaChecked
import Derived.Test.YteccphcophjhpaaBase
import Derived.WalkKit
import Derived.ProofKit
import Derived.OpenShut
import Derived.KernelRfl
namespace Go.Proofs.Yteccphcophjhpaa
open Go.ChangeShapes Go.WideShapes Go.ChangeAt Go.RowKit

end Go.Proofs.Yteccphcophjhpaa
