/-
  Plain numbers, no program: shaking and un-shaking numbers of 64 bits (xor with a shift, products that go round), and what the loops of the reference reckon bit by bit. Conditions: none beyond those stated at each theorem.
-/
import Derived.Laws.BitsAllLaws
import Derived.WalkKit
namespace Go.Proofs.Ytbghchgmoiniiaa
open Go.RowKit
set_option linter.unusedVariables false

abbrev W64 := BitVec 64
/-- a number of 64 bits, out of an integer -/
def bv (a : Int) : BitVec 64 := BitVec.ofInt 64 a
def nv (x : BitVec 64) : Int := (x.toNat : Int)

theorem nv_bd (x : BitVec 64) : 0 ≤ nv x ∧ nv x ≤ 18446744073709551615 := by
  have := x.isLt; unfold nv; omega
theorem nv_bv (a : Int) (h0 : 0 ≤ a) (h1 : a ≤ 18446744073709551615) : nv (bv a) = a := by
  unfold nv bv
  rw [BitVec.toNat_ofInt]
  have : a % ((2 ^ 64 : Nat) : Int) = a := Int.emod_eq_of_lt h0 (by omega)
  rw [this, Int.toNat_of_nonneg h0]
theorem wrap_bv (a : Int) : IntKind.u64.wrap a = nv (bv a) := by
  unfold nv bv
  rw [IntKind.wrap_u64, BitVec.toNat_ofInt]
  have : 0 ≤ a % ((2 ^ 64 : Nat) : Int) := Int.emod_nonneg _ (by decide)
  rw [Int.toNat_of_nonneg this]
  rfl
theorem bv_nv (x : BitVec 64) : bv (nv x) = x := by
  unfold nv bv; rw [BitVec.ofInt_natCast]; simp
theorem bv_add (a b : Int) : bv (a + b) = bv a + bv b := BitVec.ofInt_add ..
theorem bv_mul (a b : Int) : bv (a * b) = bv a * bv b := BitVec.ofInt_mul ..
theorem bv_sub (a b : Int) : bv (a - b) = bv a - bv b := by
  have h : bv (a - b) + bv b = bv a := by rw [← bv_add, Int.sub_add_cancel]
  rw [← h, BitVec.add_sub_cancel]
theorem bv_wrap (a : Int) : bv (IntKind.u64.wrap a) = bv a := by rw [wrap_bv, bv_nv]
theorem nv_inj {x y : BitVec 64} (h : nv x = nv y) : x = y := by rw [← bv_nv x, ← bv_nv y, h]
theorem nv_beq (x y : BitVec 64) : (nv x == nv y) = (x == y) := by
  rw [Bool.eq_iff_iff]; simp; exact ⟨nv_inj, fun h => by rw [h]⟩

theorem xor_nv (x y : BitVec 64) : bits BinOp.xor IntKind.u64 (nv x) (nv y) = nv (x ^^^ y) := by
  unfold nv
  rw [u64_xor_nat _ _ (by have := x.isLt; omega) (by have := y.isLt; omega), BitVec.toNat_xor]
theorem shr_nv (x : BitVec 64) (k : Nat) : nv x / ((2 ^ k : Nat) : Int) = nv (x >>> k) := by
  unfold nv
  rw [BitVec.toNat_ushiftRight, Nat.shiftRight_eq_div_pow]
  exact (Int.natCast_ediv ..).symm

/-! ### Mixing -/
def sx (k : Nat) (z : BitVec 64) : BitVec 64 := z ^^^ z >>> k
def ux (k : Nat) (z : BitVec 64) : BitVec 64 := z ^^^ (z ^^^ z >>> k) >>> k
def C1 : BitVec 64 := 13787848793156543929#64
def C2 : BitVec 64 := 10723151780598845931#64
/-- one Newton step for what makes 1 of n -/
def tstep (n x : BitVec 64) : BitVec 64 := x * (2#64 - n * x)
def turnB (n : BitVec 64) : BitVec 64 := tstep n (tstep n (tstep n (tstep n (tstep n (tstep n n)))))
def mixB (z : BitVec 64) : BitVec 64 := sx 31 (sx 27 (sx 30 z * C1) * C2)
def unmixB (z : BitVec 64) : BitVec 64 := ux 30 (ux 27 (ux 31 z * turnB C2) * turnB C1)

theorem turn1 : turnB 1#64 = 1#64 := by decide +kernel
theorem turnC1 : C1 * turnB C1 = 1#64 := by decide +kernel
theorem turnC2 : C2 * turnB C2 = 1#64 := by decide +kernel

theorem shr_zero (z : BitVec 64) (k : Nat) (h : 64 ≤ k) : z >>> k = 0#64 := by
  apply BitVec.eq_of_getLsbD_eq
  intro i hi
  simp [BitVec.getLsbD_ushiftRight]
  exact BitVec.getLsbD_of_ge _ _ (by omega)
theorem xor_shr (x y : BitVec 64) (k : Nat) : (x ^^^ y) >>> k = x >>> k ^^^ y >>> k := BitVec.ushiftRight_xor_distrib ..
theorem shr_shr (x : BitVec 64) (k l : Nat) : x >>> k >>> l = x >>> (k + l) := (BitVec.shiftRight_add ..).symm

theorem ux_sx (k : Nat) (hk : 22 ≤ k) (z : BitVec 64) : ux k (sx k z) = z := by
  unfold ux sx
  simp only [xor_shr, shr_shr]
  rw [shr_zero z (k + k + k) (by omega)]
  generalize z >>> k = a
  generalize z >>> (k + k) = b
  apply BitVec.eq_of_getLsbD_eq
  intro i hi
  simp only [BitVec.getLsbD_xor, BitVec.getLsbD_zero]
  cases z.getLsbD i <;> cases a.getLsbD i <;> cases b.getLsbD i <;> rfl
theorem sx_ux (k : Nat) (hk : 22 ≤ k) (z : BitVec 64) : sx k (ux k z) = z := by
  unfold ux sx
  simp only [xor_shr, shr_shr]
  rw [shr_zero z (k + k + k) (by omega)]
  generalize z >>> k = a
  generalize z >>> (k + k) = b
  apply BitVec.eq_of_getLsbD_eq
  intro i hi
  simp only [BitVec.getLsbD_xor, BitVec.getLsbD_zero]
  cases z.getLsbD i <;> cases a.getLsbD i <;> cases b.getLsbD i <;> rfl

theorem unmix_mix (z : BitVec 64) : unmixB (mixB z) = z := by
  unfold unmixB mixB
  rw [ux_sx 31 (by omega), BitVec.mul_assoc, turnC2, BitVec.mul_one, ux_sx 27 (by omega), BitVec.mul_assoc, turnC1, BitVec.mul_one, ux_sx 30 (by omega)]
theorem mix_unmix (z : BitVec 64) : mixB (unmixB z) = z := by
  unfold unmixB mixB
  rw [sx_ux 30 (by omega), BitVec.mul_assoc, BitVec.mul_comm (turnB C1), turnC1, BitVec.mul_one, sx_ux 27 (by omega), BitVec.mul_assoc, BitVec.mul_comm (turnB C2), turnC2, BitVec.mul_one, sx_ux 31 (by omega)]
theorem mix_inj {x y : BitVec 64} (h : mixB x = mixB y) : x = y := by rw [← unmix_mix x, ← unmix_mix y, h]

/-! ### Draws -/
def G : BitVec 64 := 11400714819323198485#64
theorem turnG : G * turnB G = 1#64 := by decide +kernel
def drawB (s i : BitVec 64) : BitVec 64 := mixB (s + (i + 1#64) * G)

theorem draw_i {c a b : BitVec 64} (h : drawB c a = drawB c b) : a = b := by
  have h1 := mix_inj h
  have h2 : (a + 1#64) * G = (b + 1#64) * G := by
    have := congrArg (fun t => t - c) h1
    simpa [BitVec.add_comm c, BitVec.add_sub_cancel] using this
  have h3 : a + 1#64 = b + 1#64 := by
    have := congrArg (fun t => t * turnB G) h2
    simpa [BitVec.mul_assoc, turnG, BitVec.mul_one] using this
  have := congrArg (fun t => t - 1#64) h3
  simpa [BitVec.add_sub_cancel] using this
theorem draw_s {a b c : BitVec 64} (h : drawB a c = drawB b c) : a = b := by
  have h1 := mix_inj h
  have := congrArg (fun t => t - (c + 1#64) * G) h1
  simpa [BitVec.add_sub_cancel] using this
theorem draw_shift (s i n : BitVec 64) : drawB (s + n * G) i = drawB s (i + n) := by
  unfold drawB
  congr 1
  rw [BitVec.add_assoc, ← BitVec.add_mul, BitVec.add_comm n, BitVec.add_assoc, BitVec.add_comm 1#64, ← BitVec.add_assoc]

/-! ### As integers, as the walk shows them -/
def mixI (a : Int) : Int := nv (mixB (bv a))
def unmixI (a : Int) : Int := nv (unmixB (bv a))
def drawI (s i : Int) : Int := nv (drawB (bv s) (bv i))
theorem mixI_bd (a : Int) : 0 ≤ mixI a ∧ mixI a ≤ 18446744073709551615 := nv_bd _
theorem unmixI_bd (a : Int) : 0 ≤ unmixI a ∧ unmixI a ≤ 18446744073709551615 := nv_bd _
theorem drawI_bd (a b : Int) : 0 ≤ drawI a b ∧ drawI a b ≤ 18446744073709551615 := nv_bd _

/-- the two numbers of a row at a level -/
def pairN (l r : Int) : Int := 16 * l + 2 * r
def pairA (s l r : Int) : Int := 1 + drawI s (pairN l r) % 2305843009213693950
def pairB (s l r : Int) : Int := drawI s (pairN l r + 1) % 2305843009213693951
theorem pairA_bd (s l r : Int) : 1 ≤ pairA s l r ∧ pairA s l r ≤ 2305843009213693950 := by unfold pairA; omega
theorem pairB_bd (s l r : Int) : 0 ≤ pairB s l r ∧ pairB s l r ≤ 2305843009213693950 := by unfold pairB; omega

theorem shake30 (x : BitVec 64) : bits BinOp.xor IntKind.u64 (nv x) (nv x / 1073741824) = nv (sx 30 x) := by
  rw [show (1073741824 : Int) = ((2 ^ 30 : Nat) : Int) from rfl, shr_nv, xor_nv]; rfl
theorem shake27 (x : BitVec 64) : bits BinOp.xor IntKind.u64 (nv x) (nv x / 134217728) = nv (sx 27 x) := by
  rw [show (134217728 : Int) = ((2 ^ 27 : Nat) : Int) from rfl, shr_nv, xor_nv]; rfl
theorem shake31 (x : BitVec 64) : bits BinOp.xor IntKind.u64 (nv x) (nv x / 2147483648) = nv (sx 31 x) := by
  rw [show (2147483648 : Int) = ((2 ^ 31 : Nat) : Int) from rfl, shr_nv, xor_nv]; rfl
theorem wrap_mulC (x : BitVec 64) (c : Int) (C : BitVec 64) (h : bv c = C) : IntKind.u64.wrap (nv x * c) = nv (x * C) := by
  rw [wrap_bv, bv_mul, bv_nv, h]

theorem mix_walk (a : Int) (h0 : 0 ≤ a) (h1 : a ≤ 18446744073709551615) :
    IntKind.u64.wrap (bits BinOp.xor IntKind.u64 (IntKind.u64.wrap (bits BinOp.xor IntKind.u64 (IntKind.u64.wrap (bits BinOp.xor IntKind.u64 a (a / 1073741824) * 13787848793156543929)) (IntKind.u64.wrap (bits BinOp.xor IntKind.u64 a (a / 1073741824) * 13787848793156543929) / 134217728) * 10723151780598845931)) (IntKind.u64.wrap (bits BinOp.xor IntKind.u64 (IntKind.u64.wrap (bits BinOp.xor IntKind.u64 a (a / 1073741824) * 13787848793156543929)) (IntKind.u64.wrap (bits BinOp.xor IntKind.u64 a (a / 1073741824) * 13787848793156543929) / 134217728) * 10723151780598845931) / 2147483648)) = mixI a := by
  obtain ⟨x, rfl⟩ : ∃ x : BitVec 64, a = nv x := ⟨bv a, (nv_bv a h0 h1).symm⟩
  rw [shake30, wrap_mulC _ _ C1 (by decide), shake27, wrap_mulC _ _ C2 (by decide), shake31, wrap_bv, bv_nv]
  unfold mixI mixB
  rw [bv_nv]

/-! ### Bit by bit -/
theorem bitI (x : BitVec 64) (i : Nat) : bits BinOp.and IntKind.u64 (nv x / 2 ^ i) 1 = (((x.toNat.testBit i).toNat : Nat) : Int) := by
  have e : nv x / 2 ^ i = ((x.toNat / 2 ^ i : Nat) : Int) := by
    unfold nv
    rw [Int.natCast_ediv, Int.natCast_pow]; rfl
  have hlt : x.toNat / 2 ^ i < 18446744073709551616 := Nat.lt_of_le_of_lt (Nat.div_le_self _ _) x.isLt
  have h := u64_and_nat (x.toNat / 2 ^ i) 1 hlt (by omega)
  rw [e]
  rw [Nat.toNat_testBit, ← Nat.and_one_is_mod]
  exact h
theorem xorB (a b : Bool) : bits BinOp.xor IntKind.u64 ((a.toNat : Nat) : Int) ((b.toNat : Nat) : Int) = (((a ^^ b).toNat : Nat) : Int) := by
  rw [u64_xor_nat _ _ (by cases a <;> decide) (by cases b <;> decide)]
  cases a <;> cases b <;> rfl
theorem shlB (b : Bool) (i : Nat) (hi : i < 64) : IntKind.u64.wrap (((b.toNat : Nat) : Int) * 2 ^ i) = ((2 ^ i * b.toNat : Nat) : Int) := by
  rw [IntKind.wrap_u64]
  have hp : 2 ^ i < 2 ^ 64 := Nat.pow_lt_pow_right (by omega) hi
  have e : (((b.toNat : Nat) : Int) * 2 ^ i) = ((2 ^ i * b.toNat : Nat) : Int) := by
    rw [Int.natCast_mul, Int.natCast_pow, Int.mul_comm]; rfl
  rw [e]
  have : 2 ^ i * b.toNat < 2 ^ 64 := by cases b <;> simp <;> omega
  omega
theorem orB (S : Nat) (b : Bool) (i : Nat) (hi : i < 64) (hS : S < 2 ^ i) :
    bits BinOp.or IntKind.u64 (S : Int) ((2 ^ i * b.toNat : Nat) : Int) = ((S + 2 ^ i * b.toNat : Nat) : Int) := by
  have hp : 2 ^ i < 2 ^ 64 := Nat.pow_lt_pow_right (by omega) hi
  have : 2 ^ i * b.toNat < 2 ^ 64 := by cases b <;> simp <;> omega
  rw [u64_or_nat _ _ (by omega) (by omega)]
  congr 1
  rw [Nat.or_comm, ← Nat.two_pow_add_eq_or_of_lt hS, Nat.add_comm]
theorem mod_succ (s i : Nat) : s % 2 ^ (i + 1) = s % 2 ^ i + 2 ^ i * (s.testBit i).toNat := by
  rw [Nat.mod_pow_succ, Nat.toNat_testBit]

theorem sx_bit (x : BitVec 64) (k i : Nat) : (sx k x).toNat.testBit i = (x.toNat.testBit i ^^ x.toNat.testBit (i + k)) := by
  unfold sx
  rw [BitVec.toNat_xor, Nat.testBit_xor, BitVec.toNat_ushiftRight, Nat.testBit_shiftRight, Nat.add_comm k]
theorem high_bit (x : BitVec 64) (i : Nat) (h : 64 ≤ i) : x.toNat.testBit i = false :=
  Nat.testBit_lt_two_pow (Nat.lt_of_lt_of_le x.isLt (Nat.pow_le_pow_right (by omega) h))

theorem shaken_step1 (x : BitVec 64) (k i : Nat) (hi : i < 64) :
    bits BinOp.or IntKind.u64 (((sx k x).toNat % 2 ^ i : Nat) : Int) (IntKind.u64.wrap (bits BinOp.xor IntKind.u64 (bits BinOp.and IntKind.u64 (nv x / 2 ^ i) 1) (bits BinOp.and IntKind.u64 (nv x / 2 ^ (i + k)) 1) * 2 ^ i)) = (((sx k x).toNat % 2 ^ (i + 1) : Nat) : Int) := by
  rw [bitI, bitI, xorB, shlB _ _ hi, orB _ _ _ hi (Nat.mod_lt _ (Nat.two_pow_pos i)), mod_succ, sx_bit]
theorem shaken_step2 (x : BitVec 64) (k i : Nat) (hi : i < 64) (hk : 64 ≤ i + k) :
    bits BinOp.or IntKind.u64 (((sx k x).toNat % 2 ^ i : Nat) : Int) (IntKind.u64.wrap (bits BinOp.and IntKind.u64 (nv x / 2 ^ i) 1 * 2 ^ i)) = (((sx k x).toNat % 2 ^ (i + 1) : Nat) : Int) := by
  rw [bitI, shlB _ _ hi, orB _ _ _ hi (Nat.mod_lt _ (Nat.two_pow_pos i)), mod_succ, sx_bit, high_bit _ _ hk, Bool.xor_false]

/-! ### From the highest bit down: the bits of u from i on -/
def hiBits (u : BitVec 64) (i : Nat) : Nat := 2 ^ i * (u.toNat / 2 ^ i)
theorem hi_lt (u : BitVec 64) (i : Nat) : hiBits u i < 18446744073709551616 := by
  have := Nat.mul_div_le u.toNat (2 ^ i)
  have := u.isLt
  unfold hiBits; omega
theorem hi_bit (u : BitVec 64) (i j : Nat) (h : i ≤ j) : (hiBits u i).testBit j = u.toNat.testBit j := by
  unfold hiBits
  rw [Nat.testBit_two_pow_mul, Nat.testBit_div_two_pow, show j - i + i = j by omega]
  simp [h]
theorem hi_succ (u : BitVec 64) (i : Nat) : hiBits u i = hiBits u (i + 1) + 2 ^ i * (u.toNat.testBit i).toNat := by
  unfold hiBits
  rw [Nat.pow_succ, ← Nat.div_div_eq_div_mul, Nat.toNat_testBit, Nat.mul_assoc, ← Nat.mul_add]
  congr 1
  omega
/-- the bit of what is laid so far, as the walk asks for it -/
theorem bitH (u : BitVec 64) (i j : Nat) (h : i ≤ j) : bits BinOp.and IntKind.u64 (((hiBits u i : Nat) : Int) / 2 ^ j) 1 = (((u.toNat.testBit j).toNat : Nat) : Int) := by
  have e : ((hiBits u i : Nat) : Int) = nv (BitVec.ofNat 64 (hiBits u i)) := by
    unfold nv; rw [BitVec.toNat_ofNat, Nat.mod_eq_of_lt (hi_lt u i)]
  rw [e, bitI, BitVec.toNat_ofNat, Nat.mod_eq_of_lt (hi_lt u i), hi_bit u i j h]
theorem orH (u : BitVec 64) (b : Bool) (i : Nat) (hi : i < 64) :
    bits BinOp.or IntKind.u64 ((hiBits u (i + 1) : Nat) : Int) ((2 ^ i * b.toNat : Nat) : Int) = ((hiBits u (i + 1) + 2 ^ i * b.toNat : Nat) : Int) := by
  have hp : 2 ^ i < 2 ^ 64 := Nat.pow_lt_pow_right (by omega) hi
  have : 2 ^ i * b.toNat < 2 ^ 64 := by cases b <;> simp <;> omega
  rw [u64_or_nat _ _ (hi_lt u _) (by omega)]
  congr 1
  unfold hiBits
  have hp0 := Nat.two_pow_pos i
  have hb : 2 ^ i * b.toNat < 2 ^ (i + 1) := by
    rw [Nat.pow_succ]
    cases b
    · show 2 ^ i * 0 < 2 ^ i * 2; omega
    · show 2 ^ i * 1 < 2 ^ i * 2; omega
  rw [← Nat.two_pow_add_eq_or_of_lt hb]
theorem ux_bit (x : BitVec 64) (k i : Nat) (hk : 22 ≤ k) : (ux k x).toNat.testBit i = (x.toNat.testBit i ^^ (ux k x).toNat.testBit (i + k)) := by
  have h := sx_bit (ux k x) k i
  rw [sx_ux k hk] at h
  rw [h]
  cases (ux k x).toNat.testBit i <;> cases (ux k x).toNat.testBit (i + k) <;> rfl

theorem unshaken_step1 (x : BitVec 64) (k i : Nat) (hi : i < 64) (hk : 22 ≤ k) :
    bits BinOp.or IntKind.u64 ((hiBits (ux k x) (i + 1) : Nat) : Int) (IntKind.u64.wrap (bits BinOp.xor IntKind.u64 (bits BinOp.and IntKind.u64 (nv x / 2 ^ i) 1) (bits BinOp.and IntKind.u64 (((hiBits (ux k x) (i + 1) : Nat) : Int) / 2 ^ (i + k)) 1) * 2 ^ i)) = ((hiBits (ux k x) i : Nat) : Int) := by
  rw [bitI, bitH _ _ _ (by omega), xorB, shlB _ _ hi, orH _ _ _ hi, hi_succ _ i, ux_bit x k i hk]
theorem unshaken_step2 (x : BitVec 64) (k i : Nat) (hi : i < 64) (hk : 22 ≤ k) (h : 64 ≤ i + k) :
    bits BinOp.or IntKind.u64 ((hiBits (ux k x) (i + 1) : Nat) : Int) (IntKind.u64.wrap (bits BinOp.and IntKind.u64 (nv x / 2 ^ i) 1 * 2 ^ i)) = ((hiBits (ux k x) i : Nat) : Int) := by
  rw [bitI, shlB _ _ hi, orH _ _ _ hi, hi_succ _ i, ux_bit x k i hk, high_bit _ _ h, Bool.xor_false]

/-! ### A quotient, from the lowest bit up -/
/-- after i steps: what is laid is below 2^i; what is left of the number has no bit below i; together they are the number -/
def DivRel (z n : BitVec 64) (i : Nat) (o : Nat) (r : BitVec 64) : Prop := o < 2 ^ i ∧ r.toNat % 2 ^ i = 0 ∧ BitVec.ofNat 64 o * n + r = z
theorem div_start (z n : BitVec 64) : DivRel z n 0 0 z := ⟨by simp, by simp [Nat.mod_one], by simp⟩
theorem div_zero (z n : BitVec 64) (i o : Nat) (r : BitVec 64) (h : DivRel z n i o r) (hb : r.toNat.testBit i = false) : DivRel z n (i + 1) o r := by
  obtain ⟨a, b, c⟩ := h
  refine ⟨by rw [Nat.pow_succ]; omega, ?_, c⟩
  rw [mod_succ, b, hb]; rfl
theorem div_one (z n : BitVec 64) (i o : Nat) (r : BitVec 64) (hi : i < 64) (hn : n.toNat % 2 = 1) (h : DivRel z n i o r) (hb : r.toNat.testBit i = true) :
    DivRel z n (i + 1) (o + 2 ^ i) (r - n * BitVec.ofNat 64 (2 ^ i)) := by
  obtain ⟨a, b, c⟩ := h
  have hp : 2 ^ i < 2 ^ 64 := Nat.pow_lt_pow_right (by omega) hi
  refine ⟨by rw [Nat.pow_succ]; omega, ?_, ?_⟩
  · -- both r and n * 2^i are 2^i modulo 2^(i+1)
    have m1 : r.toNat % 2 ^ (i + 1) = 2 ^ i := by rw [mod_succ, b, hb]; simp
    have m2 : (n.toNat * 2 ^ i) % 2 ^ (i + 1) = 2 ^ i := by
      rw [Nat.pow_succ, Nat.mul_comm n.toNat, Nat.mul_mod_mul_left, hn, Nat.mul_one]
    have hd : 2 ^ (i + 1) ∣ 2 ^ 64 := Nat.pow_dvd_pow 2 (by omega)
    have e1 : (n * BitVec.ofNat 64 (2 ^ i)).toNat % 2 ^ (i + 1) = 2 ^ i := by
      rw [BitVec.toNat_mul, BitVec.toNat_ofNat, Nat.mod_eq_of_lt hp, Nat.mod_mod_of_dvd _ hd, m2]
    generalize n * BitVec.ofNat 64 (2 ^ i) = s at *
    rw [BitVec.toNat_sub, Nat.mod_mod_of_dvd _ hd]
    obtain ⟨q, hq⟩ := hd
    have hs := s.isLt
    have ha := Nat.div_add_mod s.toNat (2 ^ (i + 1))
    have hr := Nat.div_add_mod r.toNat (2 ^ (i + 1))
    rw [e1] at ha
    rw [m1] at hr
    have hqs : s.toNat / 2 ^ (i + 1) < q := by
      rw [Nat.div_lt_iff_lt_mul (Nat.two_pow_pos _), Nat.mul_comm, ← hq]; exact hs
    generalize s.toNat / 2 ^ (i + 1) = u at *
    generalize r.toNat / 2 ^ (i + 1) = v at *
    have hm : 2 ^ 64 - s.toNat + r.toNat = 2 ^ (i + 1) * (q - u + v) := by
      rw [Nat.mul_add, Nat.mul_sub, ← hq]
      omega
    rw [hm, Nat.mul_mod_right]
  · rw [← c, show BitVec.ofNat 64 (o + 2 ^ i) = BitVec.ofNat 64 o + BitVec.ofNat 64 (2 ^ i) from BitVec.ofNat_add ..]
    rw [BitVec.add_mul, BitVec.mul_comm n, BitVec.add_assoc]
    congr 1
    rw [BitVec.add_comm, BitVec.sub_add_cancel]
theorem div_end (z n m : BitVec 64) (o : Nat) (r : BitVec 64) (hm : n * m = 1#64) (h : DivRel z n 64 o r) : (o : Int) = nv (z * m) := by
  obtain ⟨a, b, c⟩ := h
  have hr : r = 0#64 := by
    apply BitVec.eq_of_toNat_eq
    rw [Nat.mod_eq_of_lt r.isLt] at b
    rw [b]; rfl
  rw [hr, BitVec.add_zero] at c
  rw [← c, BitVec.mul_assoc, hm, BitVec.mul_one]
  unfold nv
  rw [BitVec.toNat_ofNat, Nat.mod_eq_of_lt a]
theorem bit_eq (x : BitVec 64) (i : Nat) : (nv x / 2 ^ i % 2 == 1) = x.toNat.testBit i := by
  have e : nv x / 2 ^ i = ((x.toNat / 2 ^ i : Nat) : Int) := by
    unfold nv
    rw [Int.natCast_ediv, Int.natCast_pow]; rfl
  have h := Nat.toNat_testBit x.toNat i
  rw [e]
  generalize x.toNat / 2 ^ i = n at *
  cases hb : x.toNat.testBit i
  · rw [hb] at h
    have h' : 0 = n % 2 := h
    rw [beq_eq_false_iff_ne]; omega
  · rw [hb] at h
    have h' : 1 = n % 2 := h
    rw [beq_iff_eq]; omega
end Go.Proofs.Ytbghchgmoiniiaa
