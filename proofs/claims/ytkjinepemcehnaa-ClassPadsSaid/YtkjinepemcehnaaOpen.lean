/-
  How the statements' arguments are opened.
-/
import Derived.Test.YtkjinepemcehnaaChecked
import Derived.Test.YtkjinepemcehnaaBase
import Derived.WalkKit
import Derived.ProofKit
import Derived.OpenShut
import Derived.KernelRfl
namespace Go.Proofs.Ytkjinepemcehnaa
open Go.ChangeShapes Go.WideShapes Go.ChangeAt Go.RowKit

end Go.Proofs.Ytkjinepemcehnaa
