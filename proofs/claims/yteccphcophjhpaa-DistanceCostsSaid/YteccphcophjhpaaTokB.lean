
/-
  Contracts of package token and of its reference (chapter 11): the length of a number.
-/
import Derived.Test.YteccphcophjhpaaTokA
namespace Go.Proofs.Yteccphcophjhpaa
open Go.RowKit

end Go.Proofs.Yteccphcophjhpaa
