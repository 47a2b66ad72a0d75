
/-
  Contracts of package token and of its reference (chapter 11): the length of a number.
-/
import Derived.Test.YtiigabojncnipaaTokA
namespace Go.Proofs.Ytiigabojncnipaa
open Go.RowKit

end Go.Proofs.Ytiigabojncnipaa
