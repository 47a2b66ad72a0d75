
/-
  How the statements' arguments are opened.
-/
import Derived.Test.YtpboaadjbkaidaaDoorChecked
import Derived.Test.YtpboaadjbkaidaaDoorBase
import Derived.WalkKit
import Derived.ProofKit
import Derived.OpenShut
import Derived.KernelRfl
namespace Go.Proofs.YtpboaadjbkaidaaDoor
set_option maxRecDepth 100000
open Go.ChangeShapes Go.WideShapes Go.ChangeAt Go.RowKit

end Go.Proofs.YtpboaadjbkaidaaDoor
