/-
  Plain numbers, no program: two grids that rose apart, put together. Conditions: none beyond those stated at each theorem.
-/
import Derived.Test.YtcinlcbmjboaaaaConO
namespace Go.Proofs.Ytcinlcbmjboaaaa
open Go.RowKit
set_option linter.unusedVariables false
set_option linter.unusedSimpArgs false

theorem cellD_zip {xs ys : List Int} (h : xs.length = ys.length) (i : Nat) : cellD (List.zipWith (fun a b => a + b) xs ys) i = cellD xs i + cellD ys i := by
  unfold cellD
  rw [List.getElem?_zipWith]
  by_cases hi : i < xs.length
  · rw [List.getElem?_eq_getElem hi, List.getElem?_eq_getElem (by omega : i < ys.length)]; rfl
  · rw [List.getElem?_eq_none (by omega), List.getElem?_eq_none (by omega : ys.length ≤ i)]; rfl
theorem sumTo_add' (n : Nat) (f g h : Nat → Int) (e : ∀ i, i < n → f i = g i + h i) : sumTo n f = sumTo n g + sumTo n h := by
  induction n with
  | zero => rfl
  | succ n ih => rw [sumTo, sumTo, sumTo, ih (fun i hi => e i (by omega)), e n (by omega)]; omega
theorem own_parts {R W m : Nat} {cs : Nat → List Int} {dz : Nat → Int} {a1 a2 : Nat → Bool} {K : List Int} (h : ∀ i, i < m → a2 i = !a1 i) : ownAll R W cs dz K m = ownS R W cs dz a1 K m + ownS R W cs dz a2 K m := by
  refine sumTo_add' _ _ _ _ (fun i hi => ?_)
  rw [h i hi]
  cases a1 i <;> simp
theorem act_parts {at_ : Int} {i : Nat} (h0 : 0 ≤ at_) (h1 : at_ ≤ 60) (hi : i < 60) : actB at_ 60 i = !actB 0 at_ i := by
  unfold actB
  rw [Bool.eq_iff_iff]
  simp
  omega
theorem joins_least {R W m : Nat} {cs : Nat → List Int} {dz : Nat → Int} {a1 a2 : Nat → Bool} {g1 h1 g2 h2 K : List Int} {a b : Int} (i1 : BothInv R W cs dz a1 g1 h1 m) (i2 : BothInv R W cs dz a2 g2 h2 m) (hp : ∀ i, i < m → a2 i = !a1 i) (hm : meetB R W K = true)
    (ha : IsKth (readZ W (List.zipWith (fun a b => a + b) g1 g2) K) 0 a) (hb : IsKth (readZ W (List.zipWith (fun a b => a + b) h1 h2) K) 0 b) : a ≤ b ∧ ownAll R W cs dz K m ≤ a := by
  obtain ⟨h0, hlen, hcol⟩ := meetB_of hm
  obtain ⟨⟨r1, hr1, e1⟩, k1⟩ := least_cells hm ha
  obtain ⟨⟨r2, hr2, e2⟩, k2⟩ := least_cells hm hb
  have lg : g1.length = g2.length := by rw [i1.lg, i2.lg]
  have lh : h1.length = h2.length := by rw [i1.lh, i2.lh]
  rw [cellD_zip lg] at e1
  rw [cellD_zip lh] at e2
  have k4 := k1 r2 hr2
  rw [cellD_zip lg] at k4
  have q1 := i1.le r2 _ hr2 (hcol r2 hr2).2
  have q2 := i2.le r2 _ hr2 (hcol r2 hr2).2
  have q3 := i1.own K r1 hr1 (hcol r1 hr1).2
  have q4 := i2.own K r1 hr1 (hcol r1 hr1).2
  rw [own_parts hp]
  omega
theorem joins_fit {R W m : Nat} {cs : Nat → List Int} {dz : Nat → Int} {a1 a2 : Nat → Bool} {g1 h1 g2 h2 : List Int} (i1 : BothInv R W cs dz a1 g1 h1 m) (i2 : BothInv R W cs dz a2 g2 h2 m) (hm : m ≤ 1000) :
    Fit (List.zipWith (fun a b => a + b) g1 g2) ∧ Fit (List.zipWith (fun a b => a + b) h1 h2) := by
  have key : ∀ (xs ys : List Int), xs.length = R * W → ys.length = R * W → (∀ r c, r < R → c < W → 0 ≤ cellD xs (r * W + c) ∧ cellD xs (r * W + c) ≤ 1099511627775000) → (∀ r c, r < R → c < W → 0 ≤ cellD ys (r * W + c) ∧ cellD ys (r * W + c) ≤ 1099511627775000) → Fit (List.zipWith (fun a b => a + b) xs ys) := by
    intro xs ys lx ly hx hy u hu
    obtain ⟨i, hi⟩ := List.getElem?_of_mem hu
    have hil := (List.getElem?_eq_some_iff.1 hi).1
    rw [List.length_zipWith, lx, ly, Nat.min_self] at hil
    have hW : 0 < W := by
      rcases Nat.eq_zero_or_pos W with h0 | h0
      · rw [h0] at hil; omega
      · exact h0
    have e : i = i / W * W + i % W := by rw [Nat.mul_comm]; exact (Nat.div_add_mod i W).symm
    have hr : i / W < R := Nat.div_lt_of_lt_mul (by rw [Nat.mul_comm]; exact hil)
    have q1 := hx (i / W) (i % W) hr (Nat.mod_lt i hW)
    have q2 := hy (i / W) (i % W) hr (Nat.mod_lt i hW)
    rw [← e] at q1 q2
    have e2 : u = cellD xs i + cellD ys i := by rw [← cellD_zip (by rw [lx, ly]), cellD, hi]; rfl
    omega
  refine ⟨key g1 g2 i1.lg i2.lg (fun r c hr hc => ?_) (fun r c hr hc => ?_), key h1 h2 i1.lh i2.lh (fun r c hr hc => ?_) (fun r c hr hc => ?_)⟩
  · have := i1.le r c hr hc; omega
  · have := i2.le r c hr hc; omega
  · have := i1.le r c hr hc; omega
  · have := i2.le r c hr hc; omega
end Go.Proofs.Ytcinlcbmjboaaaa
