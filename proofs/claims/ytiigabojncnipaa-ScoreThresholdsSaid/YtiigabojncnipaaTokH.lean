
/-
  Contracts of package token (chapter 11): Tokens.
-/
import Derived.Test.YtiigabojncnipaaTokG
namespace Go.Proofs.Ytiigabojncnipaa
open Go.RowKit

end Go.Proofs.Ytiigabojncnipaa
