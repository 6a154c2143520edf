/-
  Plain numbers, no program: configs, how many keys a level has, columns. Conditions: none beyond those stated at each theorem.
-/
import Derived.Test.YtbghchgmoiniiaaHsP
import Derived.Test.YtbghchgmoiniiaaSdA
namespace Go.Proofs.Ytbghchgmoiniiaa
set_option linter.unusedVariables false

/-- may the config be (bits, rows, width, mode)? -/
def rightB (b r d m : Int) : Bool := decide (1 ≤ b ∧ b ≤ 59 ∧ 1 ≤ r ∧ r ≤ 8 ∧ 1 ≤ d ∧ d ≤ 128 ∧ 1 ≤ m ∧ m ≤ 3)
theorem right_of {b r d m : Int} (h : rightB b r d m = true) : 1 ≤ b ∧ b ≤ 59 ∧ 1 ≤ r ∧ r ≤ 8 ∧ 1 ≤ d ∧ d ≤ 128 ∧ 1 ≤ m ∧ m ≤ 3 := of_decide_eq_true h
theorem not_right {b r d m : Int} (h : rightB b r d m = false) : ¬ (1 ≤ b ∧ b ≤ 59 ∧ 1 ≤ r ∧ r ≤ 8 ∧ 1 ≤ d ∧ d ≤ 128 ∧ 1 ≤ m ∧ m ≤ 3) := of_decide_eq_false h
theorem right_mk {b r d m : Int} (h : 1 ≤ b ∧ b ≤ 59 ∧ 1 ≤ r ∧ r ≤ 8 ∧ 1 ≤ d ∧ d ≤ 128 ∧ 1 ≤ m ∧ m ≤ 3) : rightB b r d m = true := decide_eq_true h

/-- how many keys a level has -/
def keysI (b r d m l : Int) : Int := if rightB b r d m = true ∧ 0 ≤ l ∧ l ≤ b then 2 ^ (b - l).toNat else 0
theorem keysI_yes {b r d m l : Int} (h : rightB b r d m = true) (h0 : 0 ≤ l) (h1 : l ≤ b) : keysI b r d m l = 2 ^ (b - l).toNat := if_pos ⟨h, h0, h1⟩
theorem keysI_no {b r d m l : Int} (h : ¬ (rightB b r d m = true ∧ 0 ≤ l ∧ l ≤ b)) : keysI b r d m l = 0 := if_neg h
theorem pow_le (n : Nat) (h : n ≤ 59) : (1 : Int) ≤ 2 ^ n ∧ (2 : Int) ^ n ≤ 576460752303423488 := by
  have h1 : 2 ^ n ≤ 2 ^ 59 := Nat.pow_le_pow_right (by omega) h
  have h2 : 0 < 2 ^ n := Nat.two_pow_pos n
  have e : ((2 ^ n : Nat) : Int) = (2 : Int) ^ n := Int.natCast_pow ..
  omega
theorem keysI_bd (b r d m l : Int) : 0 ≤ keysI b r d m l ∧ keysI b r d m l ≤ 576460752303423488 := by
  unfold keysI
  by_cases c : rightB b r d m = true ∧ 0 ≤ l ∧ l ≤ b
  · rw [if_pos c]
    have := right_of c.1
    have := pow_le (b - l).toNat (by omega)
    omega
  · rw [if_neg c]; omega

/-- has the level a number for each key? -/
def exactB (b r d m l : Int) : Bool := decide (0 < keysI b r d m l ∧ keysI b r d m l ≤ d)
/-- is there the key at level 0, and the level? -/
def aboveB (b r d m l k : Int) : Bool := decide (keysI b r d m l ≠ 0 ∧ k < keysI b r d m 0)
def aboveI (b r d m l k : Int) : Int := if aboveB b r d m l k = true then k / 2 ^ l.toNat else 0
/-- a key's column of a row -/
def colI (d s l k i : Int) : Int := lineI (pairA s l i) (pairB s l i) k % d
def colsL (b r d m s l k : Int) : List Int := if k < keysI b r d m l then (List.range r.toNat).map fun (i : Nat) => colI d s l k (i : Int) else []
end Go.Proofs.Ytbghchgmoiniiaa
