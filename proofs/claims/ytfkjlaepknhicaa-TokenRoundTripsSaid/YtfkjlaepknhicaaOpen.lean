
/-
  How the statements' arguments are opened.
-/
import Derived.Test.YtfkjlaepknhicaaChecked
import Derived.Test.YtfkjlaepknhicaaBase
import Derived.WalkKit
import Derived.ProofKit
import Derived.OpenShut
import Derived.KernelRfl
namespace Go.Proofs.Ytfkjlaepknhicaa
open Go.ChangeShapes Go.WideShapes Go.ChangeAt Go.RowKit

end Go.Proofs.Ytfkjlaepknhicaa
