/-
  Plain numbers, no program: sums, differences, products, powers and inverses modulo P = 2^61 - 1, over the integers, and what the loops of the program and of the reference reckon. Conditions: none beyond those stated at each theorem.
-/
import Derived.Test.YtbghchgmoiniiaaFldA
import Derived.Laws.BitsAllLaws
import Derived.WalkKit
namespace Go.Proofs.Ytbghchgmoiniiaa
open Go.RowKit

def P : Int := 2305843009213693951
theorem P_eq : P = 2305843009213693951 := rfl
theorem P_pos : 0 < P := by decide
theorem P_nat : P = (PN : Int) := rfl

def ffold (a : Int) : Int := a % P
def fadd (a b : Int) : Int := (a + b) % P
def fsub (a b : Int) : Int := (a - b) % P
def fmul (a b : Int) : Int := (a * b) % P
def fpow' (a : Int) (n : Nat) : Int := a ^ n % P
def fpw (a n : Int) : Int := fpow' a n.toNat
def finv (a : Int) : Int := fpow' a (EN - 1)

theorem mod_bd (a : Int) : 0 ≤ a % P ∧ a % P ≤ 2305843009213693950 := by unfold P; omega
theorem ffold_bd (a : Int) : 0 ≤ ffold a ∧ ffold a ≤ 2305843009213693950 := mod_bd _
theorem fadd_bd (a b : Int) : 0 ≤ fadd a b ∧ fadd a b ≤ 2305843009213693950 := mod_bd _
theorem fsub_bd (a b : Int) : 0 ≤ fsub a b ∧ fsub a b ≤ 2305843009213693950 := mod_bd _
theorem fmul_bd (a b : Int) : 0 ≤ fmul a b ∧ fmul a b ≤ 2305843009213693950 := mod_bd _
theorem fpow'_bd (a : Int) (n : Nat) : 0 ≤ fpow' a n ∧ fpow' a n ≤ 2305843009213693950 := mod_bd _
theorem fpw_bd (a n : Int) : 0 ≤ fpw a n ∧ fpw a n ≤ 2305843009213693950 := mod_bd _
theorem finv_bd (a : Int) : 0 ≤ finv a ∧ finv a ≤ 2305843009213693950 := mod_bd _

/-! ### Congruences -/
theorem mod_idem (a : Int) : a % P % P = a % P := Int.emod_emod_of_dvd a (Int.dvd_refl P)
theorem add_l (a b : Int) : (a % P + b) % P = (a + b) % P := Int.emod_add_emod ..
theorem add_r (a b : Int) : (a + b % P) % P = (a + b) % P := Int.add_emod_emod ..
theorem sub_l (a b : Int) : (a % P - b) % P = (a - b) % P := Int.emod_sub_emod ..
theorem sub_r (a b : Int) : (a - b % P) % P = (a - b) % P := Int.sub_emod_emod ..
theorem mul_l (a b : Int) : (a % P * b) % P = (a * b) % P := by rw [Int.mul_emod, mod_idem, ← Int.mul_emod]
theorem mul_r (a b : Int) : (a * (b % P)) % P = (a * b) % P := by rw [Int.mul_comm, mul_l, Int.mul_comm]
theorem pow_l (a : Int) (n : Nat) : (a % P) ^ n % P = a ^ n % P := by
  induction n with
  | zero => rw [Int.pow_zero, Int.pow_zero]
  | succ n ih => rw [Int.pow_succ, Int.pow_succ, mul_r, ← mul_l, ih, mul_l]
theorem mod_add_P (a : Int) : (a + P) % P = a % P := Int.add_emod_right ..

/-! ### The program's own steps -/
theorem and_P (a : Int) (h0 : 0 ≤ a) (h1 : a ≤ 18446744073709551615) : bits BinOp.and IntKind.u64 a 2305843009213693951 = a % 2305843009213693952 := by
  have h := u64_and a 2305843009213693951 h0 (by omega) (by omega) (by omega)
  rw [h]
  have : (2305843009213693951 : Int).toNat = 2 ^ 61 - 1 := by decide +kernel
  rw [this, Nat.and_two_pow_sub_one_eq_mod]
  have e : ((a.toNat % 2 ^ 61 : Nat) : Int) = (a.toNat : Int) % 2305843009213693952 := by
    rw [Int.natCast_emod]; rfl
  rw [e, Int.toNat_of_nonneg h0]
theorem and_1 (a : Int) (h0 : 0 ≤ a) (h1 : a ≤ 18446744073709551615) : bits BinOp.and IntKind.u64 a 1 = a % 2 := by
  have h := u64_and a 1 h0 (by omega) (by omega) (by omega)
  rw [h, show (1 : Int).toNat = 1 from rfl, Nat.and_one_is_mod]
  omega

/-- the folded number: what stands above 2^61 is added at the bottom -/
theorem fold_step (a : Int) (h0 : 0 ≤ a) (h1 : a ≤ 18446744073709551615) :
    (2305843009213693951 ≤ a % 2305843009213693952 + a / 2305843009213693952 → a % 2305843009213693952 + a / 2305843009213693952 - 2305843009213693951 = ffold a) ∧
    (a % 2305843009213693952 + a / 2305843009213693952 < 2305843009213693951 → a % 2305843009213693952 + a / 2305843009213693952 = ffold a) := by
  unfold ffold P; omega

theorem fadd_of (a b : Int) : ffold (ffold a + ffold b) = fadd a b := by
  unfold ffold fadd; rw [add_l, add_r]
theorem fsub_of (a b : Int) : ffold (ffold a + 2305843009213693951 - ffold b) = fsub a b := by
  unfold ffold fsub
  rw [← P_eq, sub_r, show a % P + P - b = (a % P - b) + P by omega, mod_add_P, sub_l]

/-- hi<<3 | lo>>61 -/
theorem or_shift (h l : Nat) (hh : h < 288230376151711744) (hl : l < 18446744073709551616) :
    bits BinOp.or IntKind.u64 ((h : Int) * 8) ((l : Int) / 2305843009213693952) = (h : Int) * 8 + (l : Int) / 2305843009213693952 := by
  have e1 : ((h : Int) * 8) = ((h * 8 : Nat) : Int) := by omega
  have e2 : ((l : Int) / 2305843009213693952) = ((l / 2305843009213693952 : Nat) : Int) := by omega
  rw [e1, e2, u64_or_nat _ _ (by omega) (by omega)]
  have hb : l / 2305843009213693952 < 2 ^ 3 := by omega
  have := Nat.two_pow_add_eq_or_of_lt hb h
  have e3 : h * 8 ||| l / 2305843009213693952 = h * 8 + l / 2305843009213693952 := by
    rw [show h * 8 = 2 ^ 3 * h by omega, this]
  rw [e3]
  omega

/-- a product's halves, put together -/
theorem fmul_of (x y : Nat) (a b : Int) (hx : (x : Int) = ffold a) (hy : (y : Int) = ffold b) :
    fadd (((x * y / 18446744073709551616 : Nat) : Int) * 8 + ((x * y % 18446744073709551616 : Nat) : Int) / 2305843009213693952) (((x * y % 18446744073709551616 : Nat) : Int) % 2305843009213693952) = fmul a b := by
  have e : fmul a b = ((x * y : Nat) : Int) % P := by
    unfold fmul; rw [Int.natCast_mul, hx, hy]; unfold ffold; rw [mul_l, mul_r]
  rw [e]
  generalize x * y = z
  unfold fadd P
  omega

theorem hi_bd (x y : Nat) (a b : Int) (hx : (x : Int) = ffold a) (hy : (y : Int) = ffold b) : x * y / 18446744073709551616 < 288230376151711744 := by
  have h1 := ffold_bd a; have h2 := ffold_bd b
  have : x * y ≤ 2305843009213693950 * 2305843009213693950 := Nat.mul_le_mul (by omega) (by omega)
  omega

/-! ### Powers -/
theorem fpow'_zero (a : Int) : fpow' a 0 = 1 := by unfold fpow' P; simp
theorem fpow'_fold (a : Int) (n : Nat) : fpow' (ffold a) n = fpow' a n := pow_l a n
theorem fpow'_one (a : Int) : fpow' a 1 = ffold a := by unfold fpow' ffold; rw [Int.pow_succ, Int.pow_zero, Int.one_mul]
theorem fpow'_add (a : Int) (m n : Nat) : fpow' a (m + n) = fmul (fpow' a m) (fpow' a n) := by
  unfold fpow' fmul; rw [mul_l, mul_r, Int.pow_add]
theorem fpow'_mul (a : Int) (m n : Nat) : fpow' a (m * n) = fpow' (fpow' a m) n := by
  unfold fpow'; rw [pow_l, Int.pow_mul]
theorem fpow'_succ (a : Int) (n : Nat) : fpow' a (n + 1) = fmul (fpow' a n) a := by
  rw [fpow'_add, fpow'_one]; unfold fmul ffold; rw [mul_r]
theorem fpow'_sq (a : Int) (n : Nat) : fpow' (fmul a a) n = fpow' a (2 * n) := by
  rw [fpow'_mul]
  congr 1
  rw [show 2 = 1 + 1 from rfl, fpow'_add, fpow'_one]; unfold fmul ffold; rw [mul_l, mul_r]

theorem fmul_comm (a b : Int) : fmul a b = fmul b a := by unfold fmul; rw [Int.mul_comm]
theorem fmul_assoc (a b c : Int) : fmul (fmul a b) c = fmul a (fmul b c) := by
  unfold fmul; rw [mul_l, mul_r, Int.mul_assoc]
theorem fmul_fold_l (a b : Int) : fmul (ffold a) b = fmul a b := mul_l a b
theorem fmul_fold_r (a b : Int) : fmul a (ffold b) = fmul a b := mul_r a b
theorem fadd_fold_l (a b : Int) : fadd (ffold a) b = fadd a b := add_l a b
theorem fadd_fold_r (a b : Int) : fadd a (ffold b) = fadd a b := add_r a b
theorem fsub_fold_l (a b : Int) : fsub (ffold a) b = fsub a b := sub_l a b
theorem fsub_fold_r (a b : Int) : fsub a (ffold b) = fsub a b := sub_r a b
theorem ffold_fold (a : Int) : ffold (ffold a) = ffold a := mod_idem a
theorem ffold_mul (a b : Int) : ffold (fmul a b) = fmul a b := mod_idem _
theorem ffold_add (a b : Int) : ffold (fadd a b) = fadd a b := mod_idem _
theorem ffold_sub (a b : Int) : ffold (fsub a b) = fsub a b := mod_idem _
theorem ffold_pow (a : Int) (n : Nat) : ffold (fpow' a n) = fpow' a n := mod_idem _
theorem ffold_of (a : Int) (h0 : 0 ≤ a) (h1 : a < 2305843009213693951) : ffold a = a := by unfold ffold P; omega
theorem fmul_one (a : Int) : fmul a 1 = ffold a := by unfold fmul ffold; rw [Int.mul_one]
theorem one_fmul (a : Int) : fmul 1 a = ffold a := by unfold fmul ffold; rw [Int.one_mul]
theorem fmul_zero (a : Int) : fmul a 0 = 0 := by unfold fmul P; rw [Int.mul_zero]; rfl
theorem fadd_comm (a b : Int) : fadd a b = fadd b a := by unfold fadd; rw [Int.add_comm]
theorem fadd_assoc (a b c : Int) : fadd (fadd a b) c = fadd a (fadd b c) := by unfold fadd; rw [add_l, add_r, Int.add_assoc]
theorem fmul_add (a b c : Int) : fmul a (fadd b c) = fadd (fmul a b) (fmul a c) := by
  unfold fmul fadd; rw [mul_r, add_l, add_r, Int.mul_add]
theorem fmul_sub (a b c : Int) : fmul a (fsub b c) = fsub (fmul a b) (fmul a c) := by
  unfold fmul fsub; rw [mul_r, sub_l, sub_r, Int.mul_sub]
theorem fsub_add (a b : Int) : fsub (fadd a b) b = ffold a := by unfold fsub fadd ffold; rw [sub_l, Int.add_sub_cancel]
theorem fadd_sub (a b : Int) : fadd (fsub a b) b = ffold a := by unfold fsub fadd ffold; rw [add_l, Int.sub_add_cancel]

/-! ### Fermat -/
theorem pow_nat (a : Int) (h : 0 ≤ a) (n : Nat) : fpow' a n = ((a.toNat ^ n % PN : Nat) : Int) := by
  unfold fpow'
  obtain ⟨k, rfl⟩ := Int.eq_ofNat_of_zero_le h
  rw [P_nat, Int.toNat_natCast, Int.natCast_emod, Int.natCast_pow]
theorem fermat (a : Int) (h : ffold a ≠ 0) : fpow' a EN = 1 := by
  rw [← fpow'_fold, pow_nat _ (ffold_bd a).1]
  have hb := ffold_bd a
  have : (ffold a).toNat % PN ≠ 0 := by
    rw [Nat.mod_eq_of_lt (by unfold PN; omega)]; omega
  rw [fermatN _ this]; rfl
theorem EN_split : EN = (EN - 1) + 1 := rfl
theorem inv_mul (a : Int) (h : ffold a ≠ 0) : fmul a (finv a) = 1 := by
  have := fermat a h
  rw [EN_split, fpow'_succ] at this
  rw [fmul_comm]; exact this
theorem finv_zero (a : Int) (h : ffold a = 0) : finv a = 0 := by
  unfold finv
  rw [← fpow'_fold, h]
  have : EN - 1 = (EN - 2) + 1 := rfl
  rw [this, fpow'_succ, fmul_zero]
theorem finv_fold (a : Int) : finv (ffold a) = finv a := fpow'_fold a _

/-- of a product that is not 0 no factor is -/
theorem fmul_zero' {a b : Int} (h : fmul a b = 0) : ffold a = 0 ∨ ffold b = 0 := by
  by_cases ha : ffold a = 0
  · exact Or.inl ha
  · refine Or.inr ?_
    have : fmul (finv a) (fmul a b) = 0 := by rw [h, fmul_zero]
    rw [← fmul_assoc, fmul_comm (finv a), inv_mul a ha, one_fmul] at this
    exact this
theorem inv_unique (a b : Int) (h : fmul a b = 1) : finv a = ffold b := by
  have ha : ffold a ≠ 0 := by
    intro e
    rw [← fmul_fold_l, e, fmul_comm, fmul_zero] at h
    omega
  have : fmul (finv a) (fmul a b) = finv a := by
    rw [h, fmul_one]; exact mod_idem _
  rw [← fmul_assoc, fmul_comm (finv a), inv_mul a ha, one_fmul] at this
  exact this.symm
theorem finv_ne {a : Int} (h : ffold a ≠ 0) : ffold (finv a) ≠ 0 := by
  intro e
  have h1 := inv_mul a h
  rw [← fmul_fold_r, e, fmul_zero] at h1
  omega
theorem finv_finv {a : Int} (h : ffold a ≠ 0) : finv (finv a) = ffold a := by
  refine inv_unique _ _ ?_
  rw [fmul_comm]; exact inv_mul a h
end Go.Proofs.Ytbghchgmoiniiaa
