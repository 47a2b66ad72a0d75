
/-
  How the statements' arguments are opened.
-/
import Derived.Test.YtanpiidhcijfaaaChecked
import Derived.Test.YtanpiidhcijfaaaBase
import Derived.WalkKit
import Derived.ProofKit
import Derived.OpenShut
import Derived.KernelRfl
namespace Go.Proofs.Ytanpiidhcijfaaa
open Go.ChangeShapes Go.WideShapes Go.ChangeAt Go.RowKit

end Go.Proofs.Ytanpiidhcijfaaa
