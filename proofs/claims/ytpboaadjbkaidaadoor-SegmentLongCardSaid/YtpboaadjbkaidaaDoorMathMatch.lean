
/-
  Patterns and places. Plain.
-/
import Derived.Test.YtpboaadjbkaidaaDoorMathParse
namespace Go.Proofs.YtpboaadjbkaidaaDoor
set_option maxRecDepth 100000
open Go.RowKit

/-- The places behind an atom that are reached by a byte. -/
def nxF (x : At) (s : ByteArray) (f : Nat → Bool) : Nat → Bool
  | 0 => false
  | i + 1 => (f i || (x.many && nxF x s f i)) && x.p (bt s i)
def advF (x : At) (s : ByteArray) (f : Nat → Bool) (i : Nat) : Bool := nxF x s f i || (decide (x.mn < 1) && f i)
theorem adv_zero (x : At) (s : ByteArray) (f : Nat → Bool) : advF x s f 0 = (decide (x.mn < 1) && f 0) := by
  unfold advF nxF
  rw [Bool.false_or]
theorem adv_own (x : At) (s : ByteArray) (f : Nat → Bool) (k : Nat) : advF x s f (k + 1) = ((decide (x.mn < 1) && f (k + 1)) || (x.p (bt s k) && (f k || (x.many && advF x s f k)))) := by
  unfold advF
  rw [show nxF x s f (k + 1) = ((f k || (x.many && nxF x s f k)) && x.p (bt s k)) from rfl]
  cases f k <;> cases x.many <;> cases nxF x s f k <;> cases decide (x.mn < 1) <;> cases f (k + 1) <;> cases x.p (bt s k) <;> rfl
def reachF (s : ByteArray) : List At → (Nat → Bool) → Nat → Bool
  | [], f => f
  | x :: p, f => reachF s p (advF x s f)
def startF : Nat → Bool := fun i => i == 0
def allF : Nat → Bool := fun _ => true
def matchF (p : List At) (s : ByteArray) : Bool := reachF s p startF s.size
/-- The greatest place below n, or -1. -/
def longF (f : Nat → Bool) : Nat → Int
  | 0 => -1
  | n + 1 => if f n = true then (n : Int) else longF f n
def longestF (p : List At) (s : ByteArray) : Int := longF (reachF s p startF) (s.size + 1)
def prefixF (p : List At) (s : ByteArray) : Bool := decide (0 ≤ longestF p s)
def suffixF (p : List At) (s : ByteArray) : Bool := reachF s p allF s.size
def validF (p : List At) : Int := if 32 < p.length then 3 else if p.all (fun x => x.mn == 0 || x.mn == 1) = true then 0 else 1

theorem nx_congr (x : At) (s : ByteArray) {f g : Nat → Bool} : ∀ {n : Nat}, (∀ i, i < n → f i = g i) → nxF x s f n = nxF x s g n
  | 0, _ => rfl
  | n + 1, h => by
    unfold nxF
    rw [h n (by omega), nx_congr x s fun i hi => h i (by omega)]
theorem adv_congr (x : At) (s : ByteArray) {f g : Nat → Bool} {n : Nat} (h : ∀ i, i ≤ n → f i = g i) : advF x s f n = advF x s g n := by
  unfold advF
  rw [nx_congr x s fun i hi => h i (by omega), h n (by omega)]
theorem reach_congr (s : ByteArray) : ∀ (p : List At) {f g : Nat → Bool} {n : Nat}, (∀ i, i ≤ n → f i = g i) → reachF s p f n = reachF s p g n
  | [], _, _, n, h => h n (Nat.le_refl n)
  | x :: p, _, _, _, h => reach_congr s p fun i hi => adv_congr x s fun j hj => h j (by omega)
theorem reach_snoc (s : ByteArray) : ∀ (p : List At) (x : At) (f : Nat → Bool), reachF s (p ++ [x]) f = advF x s (reachF s p f)
  | [], _, _ => rfl
  | _ :: p, x, f => reach_snoc s p x _
theorem long_bd (f : Nat → Bool) : ∀ n, -1 ≤ longF f n ∧ longF f n < n
  | 0 => by unfold longF; constructor <;> omega
  | n + 1 => by
    have := long_bd f n
    unfold longF
    split <;> constructor <;> omega

end Go.Proofs.YtpboaadjbkaidaaDoor
