
/-
  Rule files: tables, rules, what a line says; breaks. Plain.
-/
import Derived.Test.YtpboaadjbkaidaaDoorMathLang
import Derived.Test.YtpboaadjbkaidaaDoorMathLines
import Derived.Test.YtpboaadjbkaidaaDoorMath1
namespace Go.Proofs.YtpboaadjbkaidaaDoor
set_option maxRecDepth 100000
open Go.RowKit

/-- A rule. -/
structure Ru where
  br : Bool
  bf : List At
  af : List At
/-- A table. -/
structure Tb where
  nm : ByteArray
  pa : ByteArray
  rs : List Ru

def ofL (l : List UInt8) : ByteArray := ⟨l.toArray⟩
theorem ofL_list (l : List UInt8) : (ofL l).data.toList = l := by simp [ofL]
theorem ofL_of (s : ByteArray) : ofL s.data.toList = s := by cases s; simp [ofL]

/-- What a word says of one side of a rule. -/
def sideF (w : List UInt8) : List At × Int := if w = [45] then ([], 0) else ((parseF (ofL w)).1, (parseF (ofL w)).2.2)
def wTable : List UInt8 := [116, 97, 98, 108, 101]
def wBreak : List UInt8 := [98, 114, 101, 97, 107]
def wKeep : List UInt8 := [107, 101, 101, 112]
/-- The tables with a rule more in the last one. -/
def addLast : List Tb → Ru → List Tb
  | [], _ => []
  | [t], r => [⟨t.nm, t.pa, t.rs ++ [r]⟩]
  | t :: u :: ts, r => t :: addLast (u :: ts) r
def tableF (ts : List Tb) (w : List (List UInt8)) : List Tb × Int :=
  if w.length ≠ 2 ∧ w.length ≠ 3 then ([], 2)
  else if nameL (w.getD 1 []) = false ∨ (w.length = 3 ∧ nameL (w.getD 2 []) = false) then ([], 4)
  else if ts.any (fun t => t.nm.data.toList == w.getD 1 []) = true then ([], 5)
  else if 16 ≤ ts.length then ([], 3)
  else (ts ++ [⟨ofL (w.getD 1 []), if w.length = 3 then ofL (w.getD 2 []) else ofL [], []⟩], 0)
def ruleF (ts : List Tb) (w : List (List UInt8)) : List Tb × Int :=
  if w.length ≠ 3 then ([], 2)
  else if ts = [] then ([], 8)
  else if (sideF (w.getD 1 [])).2 ≠ 0 then ([], (sideF (w.getD 1 [])).2)
  else if (sideF (w.getD 2 [])).2 ≠ 0 then ([], (sideF (w.getD 2 [])).2)
  else if 32 ≤ ((ts.getLast?.map (·.rs)).getD []).length then ([], 3)
  else (addLast ts ⟨w.getD 0 [] == wBreak, (sideF (w.getD 1 [])).1, (sideF (w.getD 2 [])).1⟩, 0)
def lineF (ts : List Tb) (w : List (List UInt8)) : List Tb × Int :=
  if w.getD 0 [] = wTable then tableF ts w
  else if w.getD 0 [] = wBreak ∨ w.getD 0 [] = wKeep then ruleF ts w
  else ([], 2)
/-- A line that says nothing. -/
def idle (w : List (List UInt8)) : Bool := match w with
  | [] => true
  | x :: _ => x.head? == some 35
def linesF : List (List UInt8) → Nat → List Tb → List Tb × Nat × Int
  | [], _, ts => (ts, 0, 0)
  | s :: rest, n, ts =>
    if idle (wordsL s) = true then linesF rest (n + 1) ts
    else if (lineF ts (wordsL s)).2 ≠ 0 then ([], n + 1, (lineF ts (wordsL s)).2)
    else linesF rest (n + 1) (lineF ts (wordsL s)).1
def rulesF (s : ByteArray) : List Tb × Nat × Int := if 65536 < s.size then ([], 0, 3) else linesF (linesL s.data.toList) 0 []

/-- Whether there is a break. -/
def decideF : List Ru → ByteArray → Nat → Bool
  | [], _, _ => false
  | r :: rs, s, k => if (suffixF r.bf (s.extract 0 k) && prefixF r.af (s.extract k s.size)) = true then r.br else decideF rs s k
def breaksF (rs : List Ru) (s : ByteArray) : List Int := if 1024 < s.size then [] else ((List.range s.size).filter fun k => decide (0 < k) && decideF rs s k).map fun (k : Nat) => (k : Int)

def knownT : ByteArray := ⟨#[116, 97, 98, 108, 101, 32, 101, 110, 10, 107, 101, 101, 112, 32, 77, 114, 92, 46, 32, 92, 115, 10, 98, 114, 101, 97, 107, 32, 91, 46, 33, 63, 93, 32, 92, 115, 10]⟩
def knownS : ByteArray := ⟨#[77, 114, 46, 32, 88, 32, 99, 97, 109, 101, 46, 32, 72, 101, 32, 108, 101, 102, 116, 46]⟩
theorem known_len : (rulesF knownT).1.length = 1 ∧ (rulesF knownT).2.1 = 0 ∧ (rulesF knownT).2.2 = 0 := by decide +kernel
theorem known_breaks : breaksF (((rulesF knownT).1.map (·.rs)).headD []) knownS = [11] := by decide +kernel

end Go.Proofs.YtpboaadjbkaidaaDoor
