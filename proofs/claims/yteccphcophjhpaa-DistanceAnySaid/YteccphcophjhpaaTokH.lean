
/-
  Contracts of package token (chapter 11): Tokens.
-/
import Derived.Test.YteccphcophjhpaaTokG
namespace Go.Proofs.Yteccphcophjhpaa
open Go.RowKit

end Go.Proofs.Yteccphcophjhpaa
