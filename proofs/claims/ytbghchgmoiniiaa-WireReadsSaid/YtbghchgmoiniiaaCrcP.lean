/-
  Plain: a sum of bytes, bit by bit and by a table of 256. Conditions: none beyond those stated at each theorem.
-/
import Derived.Test.YtbghchgmoiniiaaMem
namespace Go.Proofs.Ytbghchgmoiniiaa
open Go.RowKit
set_option linter.unusedVariables false
set_option linter.unusedSimpArgs false

def PO : BitVec 32 := 3988292384#32
def step1 (r : BitVec 32) : BitVec 32 := r >>> 1 ^^^ (if r.getLsbD 0 then PO else 0#32)
def stepN : Nat → BitVec 32 → BitVec 32
  | 0, r => r
  | n + 1, r => step1 (stepN n r)
theorem step1_xor (a b : BitVec 32) : step1 (a ^^^ b) = step1 a ^^^ step1 b := by
  unfold step1
  rw [BitVec.ushiftRight_xor_distrib, BitVec.getLsbD_xor]
  cases a.getLsbD 0 <;> cases b.getLsbD 0 <;> simp <;> apply BitVec.eq_of_getLsbD_eq <;> intro i hi <;> simp only [BitVec.getLsbD_xor] <;> cases (a >>> 1).getLsbD i <;> cases (b >>> 1).getLsbD i <;> cases PO.getLsbD i <;> rfl
theorem stepN_xor (n : Nat) (a b : BitVec 32) : stepN n (a ^^^ b) = stepN n a ^^^ stepN n b := by
  induction n with
  | zero => rfl
  | succ n ih => simp only [stepN, ih, step1_xor]
/-- where the low n bits are naught, n steps are a shift -/
theorem stepN_shift (n : Nat) (a : BitVec 32) (h : ∀ i, i < n → a.getLsbD i = false) : stepN n a = a >>> n := by
  induction n with
  | zero => simp [stepN]
  | succ n ih =>
    rw [stepN, ih (fun i hi => h i (by omega)), step1, ← BitVec.shiftRight_add]
    rw [show (a >>> n).getLsbD 0 = false by rw [BitVec.getLsbD_ushiftRight]; exact h _ (by omega)]
    simp
/-- one byte more -/
def crcB (r x : BitVec 32) : BitVec 32 := stepN 8 (r ^^^ x)
theorem lo_hi (v : BitVec 32) : v = (v &&& 255#32) ^^^ (v &&& 4294967040#32) := by
  have h : ∀ i, i < 32 → (255#32).getLsbD i = !(4294967040#32).getLsbD i := by decide +kernel
  apply BitVec.eq_of_getLsbD_eq
  intro i hi
  rw [BitVec.getLsbD_xor, BitVec.getLsbD_and, BitVec.getLsbD_and, h i hi]
  cases v.getLsbD i <;> cases (4294967040#32).getLsbD i <;> rfl
theorem crcB_table (r x : BitVec 32) (hx : x.toNat < 256) : crcB r x = r >>> 8 ^^^ stepN 8 ((r ^^^ x) &&& 255#32) := by
  have hlow : ∀ i, i < 8 → (4294967040#32).getLsbD i = false := by decide +kernel
  have hhi : ∀ i, i < 32 → 8 ≤ i → (4294967040#32).getLsbD i = true := by decide +kernel
  unfold crcB
  conv => lhs; rw [lo_hi (r ^^^ x), stepN_xor, stepN_shift 8 ((r ^^^ x) &&& 4294967040#32) (fun i hi => by rw [BitVec.getLsbD_and, hlow i hi, Bool.and_false])]
  rw [BitVec.xor_comm]
  congr 1
  apply BitVec.eq_of_getLsbD_eq
  intro i hi
  rw [BitVec.getLsbD_ushiftRight, BitVec.getLsbD_ushiftRight, BitVec.getLsbD_and, BitVec.getLsbD_xor]
  have hx0 : x.getLsbD (8 + i) = false := by
    rw [BitVec.getLsbD, Nat.testBit_lt_two_pow]
    exact Nat.lt_of_lt_of_le hx (by rw [show (256 : Nat) = 2 ^ 8 from rfl]; exact Nat.pow_le_pow_right (by decide) (by omega))
  rw [hx0]
  by_cases h2 : 8 + i < 32
  · rw [hhi _ h2 (by omega)]; simp
  · rw [show r.getLsbD (8 + i) = false from BitVec.getLsbD_of_ge _ _ (by omega)]; simp

/-- integers of 32 bits, as the program has them -/
def bw (a : Int) : BitVec 32 := BitVec.ofInt 32 a
def nw (x : BitVec 32) : Int := (x.toNat : Int)
theorem nw_bd (x : BitVec 32) : 0 ≤ nw x ∧ nw x ≤ 4294967295 := by
  have := x.isLt; unfold nw; omega
theorem nw_bw (a : Int) (h0 : 0 ≤ a) (h1 : a ≤ 4294967295) : nw (bw a) = a := by
  unfold nw bw
  rw [BitVec.toNat_ofInt]
  omega
theorem bw_nw (x : BitVec 32) : bw (nw x) = x := by
  unfold bw nw
  rw [BitVec.ofInt_natCast, BitVec.ofNat_toNat, BitVec.setWidth_eq]
theorem wrap_bw (a : Int) : IntKind.u32.wrap a = nw (bw a) := by
  unfold nw bw
  rw [BitVec.toNat_ofInt]
  simp [IntKind.wrap, IntKind.bits, IntKind.signed]
  omega
theorem nw_inj {x y : BitVec 32} (h : nw x = nw y) : x = y := by rw [← bw_nw x, ← bw_nw y, h]
/-- what bytes make of what was there -/
def crcL (r : BitVec 32) : List Int → BitVec 32
  | [] => r
  | x :: l => crcL (crcB r (bw x)) l
theorem crcL_append (l m : List Int) : ∀ r, crcL r (l ++ m) = crcL (crcL r l) m := by
  induction l with
  | nil => intro r; rfl
  | cons x l ih => intro r; exact ih _
/-- the sum of bytes, behind another sum -/
def sumI (s : Int) (l : List Int) : Int := nw (~~~ (crcL (~~~ (bw s)) l))
theorem sumI_bd (s : Int) (l : List Int) : 0 ≤ sumI s l ∧ sumI s l ≤ 4294967295 := nw_bd _
end Go.Proofs.Ytbghchgmoiniiaa
