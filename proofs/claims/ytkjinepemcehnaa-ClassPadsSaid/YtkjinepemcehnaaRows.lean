/-
  No cell of these rows narrows 'for every input' (looked for: loops, veiled, ifaces, maps, wideKeys, modest, calm, conditions, laid).
  DERIVED. THE GIVEN ROWS OF THIS SEAT. 8 by the template 'for every input the law returns true; each argument reads behind the call as it read before'; 0 by the template 'total and deterministic' (their statements: YtkjinepemcehnaaTotals.lean).
  GIVEN WITH THE SEED: the statements are not yours to turn. If you find one false, say at which input.
  Laid BY PROGRAM, IN A SANDBOX (cutbox-rows.mjs): the forced cells as the released guide's own fill.sh prints them over the translation 3c314f7b7978bde3… (all of the seat's roots in one cut). By AI agents, Wed Nov 11 2026. No macro, syntax, notation, axiom, sorry.
-/
import Derived.Test.YtkjinepemcehnaaChecked
import GoSem.Claim
import GoSem.ClaimJoined
import GoSem.ClaimMapViews
import Derived.JoinedTies
import Derived.KernelRfl
namespace Go.Proofs.Ytkjinepemcehnaa
/- THE CELL 'sum', in the pinned program and in every row, IS THE sha256 OF THE DUMP (.gsa) THAT YtkjinepemcehnaaProg.lean LOADS. Nothing in Lean hashes anything: it is a label: what it is worth is what the hold of that sum in a sandbox is worth. -/
noncomputable def Try.pinned : Pinned := { name := "ytkjinepemcehnaa", sum := "3c314f7b7978bde3aae3c003d3f50925c4073ec54675f99e5da37436906069de", checked := Try.checked }
namespace Rows
def none {H : Type} : Left H := { results := [], args := [] }

/-- 'bitextlaw1.ClassBytes': WHATEVER THE INPUT: true; the input reads as it did. -/
def classBytesSpec : ChangeSpec := { name := "classBytes", fn := fun _ => fun
  | [d] => { results := [.lit (.bool true)], args := [d] }
  | _ => none }
def classBytesRow : OpenClaim := { program := "ytkjinepemcehnaa", sum := "3c314f7b7978bde3aae3c003d3f50925c4073ec54675f99e5da37436906069de", func := "bitext/bitextlaw1.ClassBytes", spec := "classBytes", apart := false }
def ClassBytesSaid : Prop := classBytesRow.holds Try.pinned (OpenSpec.ofChange classBytesSpec)

/-- ITS FALSE NEIGHBOUR: 'it returns false'. Refute it at one input. -/
def classBytesWrong : ChangeSpec := { name := "classBytes", fn := fun _ => fun
  | [d] => { results := [.lit (.bool false)], args := [d] }
  | _ => none }
def ClassBytesWrongFalsely : Prop := classBytesRow.holds Try.pinned (OpenSpec.ofChange classBytesWrong)

/-- 'bitextlaw1.ClassLowers': WHATEVER THE INPUT: true; the input reads as it did. -/
def classLowersSpec : ChangeSpec := { name := "classLowers", fn := fun _ => fun
  | [d1, d2] => { results := [.lit (.bool true)], args := [d1, d2] }
  | _ => none }
def classLowersRow : OpenClaim := { program := "ytkjinepemcehnaa", sum := "3c314f7b7978bde3aae3c003d3f50925c4073ec54675f99e5da37436906069de", func := "bitext/bitextlaw1.ClassLowers", spec := "classLowers", apart := false }
def ClassLowersSaid : Prop := classLowersRow.holds Try.pinned (OpenSpec.ofChange classLowersSpec)

/-- ITS FALSE NEIGHBOUR: 'it returns false'. Refute it at one input. -/
def classLowersWrong : ChangeSpec := { name := "classLowers", fn := fun _ => fun
  | [d1, d2] => { results := [.lit (.bool false)], args := [d1, d2] }
  | _ => none }
def ClassLowersWrongFalsely : Prop := classLowersRow.holds Try.pinned (OpenSpec.ofChange classLowersWrong)

/-- 'bitextlaw1.ClassNames': WHATEVER THE INPUT: true; the input reads as it did. -/
def classNamesSpec : ChangeSpec := { name := "classNames", fn := fun _ => fun
  | [d] => { results := [.lit (.bool true)], args := [d] }
  | _ => none }
def classNamesRow : OpenClaim := { program := "ytkjinepemcehnaa", sum := "3c314f7b7978bde3aae3c003d3f50925c4073ec54675f99e5da37436906069de", func := "bitext/bitextlaw1.ClassNames", spec := "classNames", apart := false }
def ClassNamesSaid : Prop := classNamesRow.holds Try.pinned (OpenSpec.ofChange classNamesSpec)

/-- ITS FALSE NEIGHBOUR: 'it returns false'. Refute it at one input. -/
def classNamesWrong : ChangeSpec := { name := "classNames", fn := fun _ => fun
  | [d] => { results := [.lit (.bool false)], args := [d] }
  | _ => none }
def ClassNamesWrongFalsely : Prop := classNamesRow.holds Try.pinned (OpenSpec.ofChange classNamesWrong)

/-- 'bitextlaw1.ClassBounds': WHATEVER THE INPUT: true; the input reads as it did. -/
def classBoundsSpec : ChangeSpec := { name := "classBounds", fn := fun _ => fun
  | [d1, d2] => { results := [.lit (.bool true)], args := [d1, d2] }
  | _ => none }
def classBoundsRow : OpenClaim := { program := "ytkjinepemcehnaa", sum := "3c314f7b7978bde3aae3c003d3f50925c4073ec54675f99e5da37436906069de", func := "bitext/bitextlaw1.ClassBounds", spec := "classBounds", apart := false }
def ClassBoundsSaid : Prop := classBoundsRow.holds Try.pinned (OpenSpec.ofChange classBoundsSpec)

/-- ITS FALSE NEIGHBOUR: 'it returns false'. Refute it at one input. -/
def classBoundsWrong : ChangeSpec := { name := "classBounds", fn := fun _ => fun
  | [d1, d2] => { results := [.lit (.bool false)], args := [d1, d2] }
  | _ => none }
def ClassBoundsWrongFalsely : Prop := classBoundsRow.holds Try.pinned (OpenSpec.ofChange classBoundsWrong)

/-- 'bitextlaw1.ClassRuns': WHATEVER THE INPUT: true; the input reads as it did. -/
def classRunsSpec : ChangeSpec := { name := "classRuns", fn := fun _ => fun
  | [d] => { results := [.lit (.bool true)], args := [d] }
  | _ => none }
def classRunsRow : OpenClaim := { program := "ytkjinepemcehnaa", sum := "3c314f7b7978bde3aae3c003d3f50925c4073ec54675f99e5da37436906069de", func := "bitext/bitextlaw1.ClassRuns", spec := "classRuns", apart := false }
def ClassRunsSaid : Prop := classRunsRow.holds Try.pinned (OpenSpec.ofChange classRunsSpec)

/-- ITS FALSE NEIGHBOUR: 'it returns false'. Refute it at one input. -/
def classRunsWrong : ChangeSpec := { name := "classRuns", fn := fun _ => fun
  | [d] => { results := [.lit (.bool false)], args := [d] }
  | _ => none }
def ClassRunsWrongFalsely : Prop := classRunsRow.holds Try.pinned (OpenSpec.ofChange classRunsWrong)

/-- 'bitextlaw1.ClassTiles': WHATEVER THE INPUT: true; the input reads as it did. -/
def classTilesSpec : ChangeSpec := { name := "classTiles", fn := fun _ => fun
  | [d] => { results := [.lit (.bool true)], args := [d] }
  | _ => none }
def classTilesRow : OpenClaim := { program := "ytkjinepemcehnaa", sum := "3c314f7b7978bde3aae3c003d3f50925c4073ec54675f99e5da37436906069de", func := "bitext/bitextlaw1.ClassTiles", spec := "classTiles", apart := false }
def ClassTilesSaid : Prop := classTilesRow.holds Try.pinned (OpenSpec.ofChange classTilesSpec)

/-- ITS FALSE NEIGHBOUR: 'it returns false'. Refute it at one input. -/
def classTilesWrong : ChangeSpec := { name := "classTiles", fn := fun _ => fun
  | [d] => { results := [.lit (.bool false)], args := [d] }
  | _ => none }
def ClassTilesWrongFalsely : Prop := classTilesRow.holds Try.pinned (OpenSpec.ofChange classTilesWrong)

/-- 'bitextlaw1.ClassTrims': WHATEVER THE INPUT: true; the input reads as it did. -/
def classTrimsSpec : ChangeSpec := { name := "classTrims", fn := fun _ => fun
  | [d] => { results := [.lit (.bool true)], args := [d] }
  | _ => none }
def classTrimsRow : OpenClaim := { program := "ytkjinepemcehnaa", sum := "3c314f7b7978bde3aae3c003d3f50925c4073ec54675f99e5da37436906069de", func := "bitext/bitextlaw1.ClassTrims", spec := "classTrims", apart := false }
def ClassTrimsSaid : Prop := classTrimsRow.holds Try.pinned (OpenSpec.ofChange classTrimsSpec)

/-- ITS FALSE NEIGHBOUR: 'it returns false'. Refute it at one input. -/
def classTrimsWrong : ChangeSpec := { name := "classTrims", fn := fun _ => fun
  | [d] => { results := [.lit (.bool false)], args := [d] }
  | _ => none }
def ClassTrimsWrongFalsely : Prop := classTrimsRow.holds Try.pinned (OpenSpec.ofChange classTrimsWrong)

/-- 'bitextlaw1.ClassPads': WHATEVER THE INPUT: true; the input reads as it did. -/
def classPadsSpec : ChangeSpec := { name := "classPads", fn := fun _ => fun
  | [d1, d2, d3] => { results := [.lit (.bool true)], args := [d1, d2, d3] }
  | _ => none }
def classPadsRow : OpenClaim := { program := "ytkjinepemcehnaa", sum := "3c314f7b7978bde3aae3c003d3f50925c4073ec54675f99e5da37436906069de", func := "bitext/bitextlaw1.ClassPads", spec := "classPads", apart := false }
def ClassPadsSaid : Prop := classPadsRow.holds Try.pinned (OpenSpec.ofChange classPadsSpec)

/-- ITS FALSE NEIGHBOUR: 'it returns false'. Refute it at one input. -/
def classPadsWrong : ChangeSpec := { name := "classPads", fn := fun _ => fun
  | [d1, d2, d3] => { results := [.lit (.bool false)], args := [d1, d2, d3] }
  | _ => none }
def ClassPadsWrongFalsely : Prop := classPadsRow.holds Try.pinned (OpenSpec.ofChange classPadsWrong)

/- THE SECOND FORM. 'bulk': how many values and letters a reading holds, each counted each time it is reached (what is shared counts as often as it is met; a slice's spare places count too). A statement '..UptoSaid' is the law's where the arguments, and the package variables that the reading takes, are together of bulk at most 1048576: NARROWER than '..Said'. Prove '..Said' where nothing that the law and all that it calls make is longer than what came in: it says more and counts as full. Else prove '..UptoSaid'. A law counts once. -/
mutual
def uptoBulk {H : Type} : DataW H → Nat
  | .lit (.string bytes) => bytes.length + 1
  | .lit _ => 1
  | .nil => 1
  | .ptr d => uptoBulk d + 1
  | .slice elems spare => uptoBulkAll elems + uptoBulkAll spare + 1
  | .agg parts => uptoBulkAll parts + 1
  | .iface _ d => uptoBulk d + 1
  | .map entries => uptoBulkEntries entries + 1
  | .held _ => 1
def uptoBulkAll {H : Type} : List (DataW H) → Nat
  | [] => 0
  | d :: r => uptoBulk d + uptoBulkAll r
def uptoBulkEntries {H : Type} : List (Lit × DataW H) → Nat
  | [] => 0
  | x :: r => uptoBulkEntry x + uptoBulkEntries r
def uptoBulkEntry {H : Type} : Lit × DataW H → Nat
  | (.string bytes, d) => bytes.length + uptoBulk d + 1
  | (_, d) => uptoBulk d + 1
 end
def uptoSmall : (H : Type) → List (DataW H) → Bool := fun _ ds => decide (uptoBulkAll ds ≤ 1048576)
def OpenSpec.upto (s : _root_.Go.ChangeSpec) : _root_.Go.OpenSpec := { _root_.Go.OpenSpec.ofChange s with cond := some uptoSmall }

/-- 'bitextlaw1.ClassBytes', WHERE WHAT IT READS IS OF BULK AT MOST 1048576: true; the input reads as it did. -/
def classBytesUptoRow : OpenClaim := { program := "ytkjinepemcehnaa", sum := "3c314f7b7978bde3aae3c003d3f50925c4073ec54675f99e5da37436906069de", func := "bitext/bitextlaw1.ClassBytes", spec := "classBytes", apart := false, narrowed := true }
def ClassBytesUptoSaid : Prop := classBytesUptoRow.holds Try.pinned (OpenSpec.upto classBytesSpec)

/-- 'bitextlaw1.ClassLowers', WHERE WHAT IT READS IS OF BULK AT MOST 1048576: true; the input reads as it did. -/
def classLowersUptoRow : OpenClaim := { program := "ytkjinepemcehnaa", sum := "3c314f7b7978bde3aae3c003d3f50925c4073ec54675f99e5da37436906069de", func := "bitext/bitextlaw1.ClassLowers", spec := "classLowers", apart := false, narrowed := true }
def ClassLowersUptoSaid : Prop := classLowersUptoRow.holds Try.pinned (OpenSpec.upto classLowersSpec)

/-- 'bitextlaw1.ClassNames', WHERE WHAT IT READS IS OF BULK AT MOST 1048576: true; the input reads as it did. -/
def classNamesUptoRow : OpenClaim := { program := "ytkjinepemcehnaa", sum := "3c314f7b7978bde3aae3c003d3f50925c4073ec54675f99e5da37436906069de", func := "bitext/bitextlaw1.ClassNames", spec := "classNames", apart := false, narrowed := true }
def ClassNamesUptoSaid : Prop := classNamesUptoRow.holds Try.pinned (OpenSpec.upto classNamesSpec)

/-- 'bitextlaw1.ClassBounds', WHERE WHAT IT READS IS OF BULK AT MOST 1048576: true; the input reads as it did. -/
def classBoundsUptoRow : OpenClaim := { program := "ytkjinepemcehnaa", sum := "3c314f7b7978bde3aae3c003d3f50925c4073ec54675f99e5da37436906069de", func := "bitext/bitextlaw1.ClassBounds", spec := "classBounds", apart := false, narrowed := true }
def ClassBoundsUptoSaid : Prop := classBoundsUptoRow.holds Try.pinned (OpenSpec.upto classBoundsSpec)

/-- 'bitextlaw1.ClassRuns', WHERE WHAT IT READS IS OF BULK AT MOST 1048576: true; the input reads as it did. -/
def classRunsUptoRow : OpenClaim := { program := "ytkjinepemcehnaa", sum := "3c314f7b7978bde3aae3c003d3f50925c4073ec54675f99e5da37436906069de", func := "bitext/bitextlaw1.ClassRuns", spec := "classRuns", apart := false, narrowed := true }
def ClassRunsUptoSaid : Prop := classRunsUptoRow.holds Try.pinned (OpenSpec.upto classRunsSpec)

/-- 'bitextlaw1.ClassTiles', WHERE WHAT IT READS IS OF BULK AT MOST 1048576: true; the input reads as it did. -/
def classTilesUptoRow : OpenClaim := { program := "ytkjinepemcehnaa", sum := "3c314f7b7978bde3aae3c003d3f50925c4073ec54675f99e5da37436906069de", func := "bitext/bitextlaw1.ClassTiles", spec := "classTiles", apart := false, narrowed := true }
def ClassTilesUptoSaid : Prop := classTilesUptoRow.holds Try.pinned (OpenSpec.upto classTilesSpec)

/-- 'bitextlaw1.ClassTrims', WHERE WHAT IT READS IS OF BULK AT MOST 1048576: true; the input reads as it did. -/
def classTrimsUptoRow : OpenClaim := { program := "ytkjinepemcehnaa", sum := "3c314f7b7978bde3aae3c003d3f50925c4073ec54675f99e5da37436906069de", func := "bitext/bitextlaw1.ClassTrims", spec := "classTrims", apart := false, narrowed := true }
def ClassTrimsUptoSaid : Prop := classTrimsUptoRow.holds Try.pinned (OpenSpec.upto classTrimsSpec)

/-- 'bitextlaw1.ClassPads', WHERE WHAT IT READS IS OF BULK AT MOST 1048576: true; the input reads as it did. -/
def classPadsUptoRow : OpenClaim := { program := "ytkjinepemcehnaa", sum := "3c314f7b7978bde3aae3c003d3f50925c4073ec54675f99e5da37436906069de", func := "bitext/bitextlaw1.ClassPads", spec := "classPads", apart := false, narrowed := true }
def ClassPadsUptoSaid : Prop := classPadsUptoRow.holds Try.pinned (OpenSpec.upto classPadsSpec)

end Rows
end Go.Proofs.Ytkjinepemcehnaa
