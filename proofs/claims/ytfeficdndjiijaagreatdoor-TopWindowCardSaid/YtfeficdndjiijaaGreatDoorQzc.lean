import Derived.Test.YtfeficdndjiijaaGreatDoorQzb
import Derived.Laws.BitsAllLaws
import Derived.WalkKit
import Derived.Test.YtfeficdndjiijaaGreatDoorQza
import Derived.Test.YtfeficdndjiijaaGreatDoorProg
import Derived.Outline
import Derived.LoopN
import Derived.WalkSmall
import Derived.Deep.QuietTactic
import Derived.BigQuiet
import Derived.Deep.DeepCutAuto
import Derived.Deep.RegionHeld3
import Derived.StillTailTactics
import Derived.OpenShut
import Derived.Laws.StructEq
/-
  Contracts of the functions that TopWindow reaches, and the plain laws that it leans on. Conditions: none beyond those stated at each theorem.
-/
namespace Go.Proofs.YtfeficdndjiijaaGreatDoor
open Go.RowKit

def P : Int := 2305843009213693951
def ffold (a : Int) : Int := a % P
def fadd (a b : Int) : Int := (a + b) % P
def fmul (a b : Int) : Int := (a * b) % P
theorem mod_bd (a : Int) : 0 ≤ a % P ∧ a % P ≤ 2305843009213693950 := by unfold P; omega
theorem ffold_bd (a : Int) : 0 ≤ ffold a ∧ ffold a ≤ 2305843009213693950 := mod_bd _
theorem fadd_bd (a b : Int) : 0 ≤ fadd a b ∧ fadd a b ≤ 2305843009213693950 := mod_bd _
theorem fmul_bd (a b : Int) : 0 ≤ fmul a b ∧ fmul a b ≤ 2305843009213693950 := mod_bd _
theorem mod_idem (a : Int) : a % P % P = a % P := Int.emod_emod_of_dvd a (Int.dvd_refl P)
theorem add_l (a b : Int) : (a % P + b) % P = (a + b) % P := Int.emod_add_emod ..
theorem add_r (a b : Int) : (a + b % P) % P = (a + b) % P := Int.add_emod_emod ..
theorem mul_l (a b : Int) : (a % P * b) % P = (a * b) % P := by rw [Int.mul_emod, mod_idem, ← Int.mul_emod]
theorem mul_r (a b : Int) : (a * (b % P)) % P = (a * b) % P := by rw [Int.mul_comm, mul_l, Int.mul_comm]
theorem and_P (a : Int) (h0 : 0 ≤ a) (h1 : a ≤ 18446744073709551615) : bits BinOp.and IntKind.u64 a 2305843009213693951 = a % 2305843009213693952 := by
  have h := u64_and a 2305843009213693951 h0 (by omega) (by omega) (by omega)
  rw [h]
  have : (2305843009213693951 : Int).toNat = 2 ^ 61 - 1 := by decide +kernel
  rw [this, Nat.and_two_pow_sub_one_eq_mod]
  have e : ((a.toNat % 2 ^ 61 : Nat) : Int) = (a.toNat : Int) % 2305843009213693952 := by
    rw [Int.natCast_emod]; rfl
  rw [e, Int.toNat_of_nonneg h0]
theorem fold_step (a : Int) (h0 : 0 ≤ a) (h1 : a ≤ 18446744073709551615) :
    (2305843009213693951 ≤ a % 2305843009213693952 + a / 2305843009213693952 → a % 2305843009213693952 + a / 2305843009213693952 - 2305843009213693951 = ffold a) ∧
    (a % 2305843009213693952 + a / 2305843009213693952 < 2305843009213693951 → a % 2305843009213693952 + a / 2305843009213693952 = ffold a) := by
  unfold ffold P; omega

theorem fadd_of (a b : Int) : ffold (ffold a + ffold b) = fadd a b := by
  unfold ffold fadd; rw [add_l, add_r]
theorem or_shift (h l : Nat) (hh : h < 288230376151711744) (hl : l < 18446744073709551616) :
    bits BinOp.or IntKind.u64 ((h : Int) * 8) ((l : Int) / 2305843009213693952) = (h : Int) * 8 + (l : Int) / 2305843009213693952 := by
  have e1 : ((h : Int) * 8) = ((h * 8 : Nat) : Int) := by omega
  have e2 : ((l : Int) / 2305843009213693952) = ((l / 2305843009213693952 : Nat) : Int) := by omega
  rw [e1, e2, u64_or_nat _ _ (by omega) (by omega)]
  have hb : l / 2305843009213693952 < 2 ^ 3 := by omega
  have := Nat.two_pow_add_eq_or_of_lt hb h
  have e3 : h * 8 ||| l / 2305843009213693952 = h * 8 + l / 2305843009213693952 := by
    rw [show h * 8 = 2 ^ 3 * h by omega, this]
  rw [e3]
  omega

theorem fmul_of (x y : Nat) (a b : Int) (hx : (x : Int) = ffold a) (hy : (y : Int) = ffold b) :
    fadd (((x * y / 18446744073709551616 : Nat) : Int) * 8 + ((x * y % 18446744073709551616 : Nat) : Int) / 2305843009213693952) (((x * y % 18446744073709551616 : Nat) : Int) % 2305843009213693952) = fmul a b := by
  have e : fmul a b = ((x * y : Nat) : Int) % P := by
    unfold fmul; rw [Int.natCast_mul, hx, hy]; unfold ffold; rw [mul_l, mul_r]
  rw [e]
  generalize x * y = z
  unfold fadd P
  omega

theorem hi_bd (x y : Nat) (a b : Int) (hx : (x : Int) = ffold a) (hy : (y : Int) = ffold b) : x * y / 18446744073709551616 < 288230376151711744 := by
  have h1 := ffold_bd a; have h2 := ffold_bd b
  have : x * y ≤ 2305843009213693950 * 2305843009213693950 := Nat.mul_le_mul (by omega) (by omega)
  omega

end Go.Proofs.YtfeficdndjiijaaGreatDoor


namespace Go.Proofs.YtfeficdndjiijaaGreatDoor
set_option linter.unusedVariables false

def lineI (a b x : Int) : Int := fadd (fmul a x) b
theorem lineI_bd (a b x : Int) : 0 ≤ lineI a b x ∧ lineI a b x ≤ 2305843009213693950 := fadd_bd _ _
end Go.Proofs.YtfeficdndjiijaaGreatDoor


namespace Go.Proofs.YtfeficdndjiijaaGreatDoor
open Go.RowKit
set_option linter.unusedVariables false

def bv (a : Int) : BitVec 64 := BitVec.ofInt 64 a
def nv (x : BitVec 64) : Int := (x.toNat : Int)

theorem nv_bd (x : BitVec 64) : 0 ≤ nv x ∧ nv x ≤ 18446744073709551615 := by
  have := x.isLt; unfold nv; omega
theorem nv_bv (a : Int) (h0 : 0 ≤ a) (h1 : a ≤ 18446744073709551615) : nv (bv a) = a := by
  unfold nv bv
  rw [BitVec.toNat_ofInt]
  have : a % ((2 ^ 64 : Nat) : Int) = a := Int.emod_eq_of_lt h0 (by omega)
  rw [this, Int.toNat_of_nonneg h0]
theorem wrap_bv (a : Int) : IntKind.u64.wrap a = nv (bv a) := by
  unfold nv bv
  rw [IntKind.wrap_u64, BitVec.toNat_ofInt]
  have : 0 ≤ a % ((2 ^ 64 : Nat) : Int) := Int.emod_nonneg _ (by decide)
  rw [Int.toNat_of_nonneg this]
  rfl
theorem bv_nv (x : BitVec 64) : bv (nv x) = x := by
  unfold nv bv; rw [BitVec.ofInt_natCast]; simp
theorem bv_add (a b : Int) : bv (a + b) = bv a + bv b := BitVec.ofInt_add ..
theorem bv_mul (a b : Int) : bv (a * b) = bv a * bv b := BitVec.ofInt_mul ..
theorem bv_wrap (a : Int) : bv (IntKind.u64.wrap a) = bv a := by rw [wrap_bv, bv_nv]
theorem xor_nv (x y : BitVec 64) : bits BinOp.xor IntKind.u64 (nv x) (nv y) = nv (x ^^^ y) := by
  unfold nv
  rw [u64_xor_nat _ _ (by have := x.isLt; omega) (by have := y.isLt; omega), BitVec.toNat_xor]
theorem shr_nv (x : BitVec 64) (k : Nat) : nv x / ((2 ^ k : Nat) : Int) = nv (x >>> k) := by
  unfold nv
  rw [BitVec.toNat_ushiftRight, Nat.shiftRight_eq_div_pow]
  exact (Int.natCast_ediv ..).symm

def sx (k : Nat) (z : BitVec 64) : BitVec 64 := z ^^^ z >>> k
def C1 : BitVec 64 := 13787848793156543929#64
def C2 : BitVec 64 := 10723151780598845931#64
def mixB (z : BitVec 64) : BitVec 64 := sx 31 (sx 27 (sx 30 z * C1) * C2)
def G : BitVec 64 := 11400714819323198485#64
def drawB (s i : BitVec 64) : BitVec 64 := mixB (s + (i + 1#64) * G)

def mixI (a : Int) : Int := nv (mixB (bv a))
def drawI (s i : Int) : Int := nv (drawB (bv s) (bv i))
theorem drawI_bd (a b : Int) : 0 ≤ drawI a b ∧ drawI a b ≤ 18446744073709551615 := nv_bd _

def pairN (l r : Int) : Int := 16 * l + 2 * r
def pairA (s l r : Int) : Int := 1 + drawI s (pairN l r) % 2305843009213693950
def pairB (s l r : Int) : Int := drawI s (pairN l r + 1) % 2305843009213693951
theorem pairA_bd (s l r : Int) : 1 ≤ pairA s l r ∧ pairA s l r ≤ 2305843009213693950 := by unfold pairA; omega
theorem pairB_bd (s l r : Int) : 0 ≤ pairB s l r ∧ pairB s l r ≤ 2305843009213693950 := by unfold pairB; omega

theorem shake30 (x : BitVec 64) : bits BinOp.xor IntKind.u64 (nv x) (nv x / 1073741824) = nv (sx 30 x) := by
  rw [show (1073741824 : Int) = ((2 ^ 30 : Nat) : Int) from rfl, shr_nv, xor_nv]; rfl
theorem shake27 (x : BitVec 64) : bits BinOp.xor IntKind.u64 (nv x) (nv x / 134217728) = nv (sx 27 x) := by
  rw [show (134217728 : Int) = ((2 ^ 27 : Nat) : Int) from rfl, shr_nv, xor_nv]; rfl
theorem shake31 (x : BitVec 64) : bits BinOp.xor IntKind.u64 (nv x) (nv x / 2147483648) = nv (sx 31 x) := by
  rw [show (2147483648 : Int) = ((2 ^ 31 : Nat) : Int) from rfl, shr_nv, xor_nv]; rfl
theorem wrap_mulC (x : BitVec 64) (c : Int) (C : BitVec 64) (h : bv c = C) : IntKind.u64.wrap (nv x * c) = nv (x * C) := by
  rw [wrap_bv, bv_mul, bv_nv, h]

theorem mix_walk (a : Int) (h0 : 0 ≤ a) (h1 : a ≤ 18446744073709551615) :
    IntKind.u64.wrap (bits BinOp.xor IntKind.u64 (IntKind.u64.wrap (bits BinOp.xor IntKind.u64 (IntKind.u64.wrap (bits BinOp.xor IntKind.u64 a (a / 1073741824) * 13787848793156543929)) (IntKind.u64.wrap (bits BinOp.xor IntKind.u64 a (a / 1073741824) * 13787848793156543929) / 134217728) * 10723151780598845931)) (IntKind.u64.wrap (bits BinOp.xor IntKind.u64 (IntKind.u64.wrap (bits BinOp.xor IntKind.u64 a (a / 1073741824) * 13787848793156543929)) (IntKind.u64.wrap (bits BinOp.xor IntKind.u64 a (a / 1073741824) * 13787848793156543929) / 134217728) * 10723151780598845931) / 2147483648)) = mixI a := by
  obtain ⟨x, rfl⟩ : ∃ x : BitVec 64, a = nv x := ⟨bv a, (nv_bv a h0 h1).symm⟩
  rw [shake30, wrap_mulC _ _ C1 (by decide), shake27, wrap_mulC _ _ C2 (by decide), shake31, wrap_bv, bv_nv]
  unfold mixI mixB
  rw [bv_nv]

end Go.Proofs.YtfeficdndjiijaaGreatDoor


namespace Go.Proofs.YtfeficdndjiijaaGreatDoor
set_option linter.unusedVariables false

def rightB (b r d m : Int) : Bool := decide (1 ≤ b ∧ b ≤ 59 ∧ 1 ≤ r ∧ r ≤ 8 ∧ 1 ≤ d ∧ d ≤ 128 ∧ 1 ≤ m ∧ m ≤ 3)
theorem right_of {b r d m : Int} (h : rightB b r d m = true) : 1 ≤ b ∧ b ≤ 59 ∧ 1 ≤ r ∧ r ≤ 8 ∧ 1 ≤ d ∧ d ≤ 128 ∧ 1 ≤ m ∧ m ≤ 3 := of_decide_eq_true h
theorem right_mk {b r d m : Int} (h : 1 ≤ b ∧ b ≤ 59 ∧ 1 ≤ r ∧ r ≤ 8 ∧ 1 ≤ d ∧ d ≤ 128 ∧ 1 ≤ m ∧ m ≤ 3) : rightB b r d m = true := decide_eq_true h

def keysI (b r d m l : Int) : Int := if rightB b r d m = true ∧ 0 ≤ l ∧ l ≤ b then 2 ^ (b - l).toNat else 0
theorem keysI_yes {b r d m l : Int} (h : rightB b r d m = true) (h0 : 0 ≤ l) (h1 : l ≤ b) : keysI b r d m l = 2 ^ (b - l).toNat := if_pos ⟨h, h0, h1⟩
theorem keysI_no {b r d m l : Int} (h : ¬ (rightB b r d m = true ∧ 0 ≤ l ∧ l ≤ b)) : keysI b r d m l = 0 := if_neg h
theorem pow_le (n : Nat) (h : n ≤ 59) : (1 : Int) ≤ 2 ^ n ∧ (2 : Int) ^ n ≤ 576460752303423488 := by
  have h1 : 2 ^ n ≤ 2 ^ 59 := Nat.pow_le_pow_right (by omega) h
  have h2 : 0 < 2 ^ n := Nat.two_pow_pos n
  have e : ((2 ^ n : Nat) : Int) = (2 : Int) ^ n := Int.natCast_pow ..
  omega
theorem keysI_bd (b r d m l : Int) : 0 ≤ keysI b r d m l ∧ keysI b r d m l ≤ 576460752303423488 := by
  unfold keysI
  by_cases c : rightB b r d m = true ∧ 0 ≤ l ∧ l ≤ b
  · rw [if_pos c]
    have := right_of c.1
    have := pow_le (b - l).toNat (by omega)
    omega
  · rw [if_neg c]; omega

def exactB (b r d m l : Int) : Bool := decide (0 < keysI b r d m l ∧ keysI b r d m l ≤ d)
def colI (d s l k i : Int) : Int := lineI (pairA s l i) (pairB s l i) k % d
end Go.Proofs.YtfeficdndjiijaaGreatDoor


namespace Go.Proofs.YtfeficdndjiijaaGreatDoor
open Go.RowKit
set_option linter.unusedVariables false
set_option linter.unusedSimpArgs false

def withinB (n0 m0 n1 m1 n2 m2 n3 m3 : Int) : Bool := decide (1 ≤ n0 ∧ n0 ≤ m0 ∧ 1 ≤ n1 ∧ n1 ≤ m1 ∧ 1 ≤ n2 ∧ n2 ≤ m2 ∧ 1 ≤ n3 ∧ n3 ≤ m3)

theorem ret_bool {a b : Bool} (h : a = b) : Ending.returned (.bool a) = .returned (.bool b) := by rw [h]

theorem within_any (B : Nat) (n0 m0 n1 m1 n2 m2 n3 m3 : Int) (w : World)
  (hB : Blk w B 231 #[.int .i64 n0, .int .i64 m0, .int .i64 n1, .int .i64 m1, .int .i64 n2, .int .i64 m2, .int .i64 n3, .int .i64 m3]) :
  Calls Tryz.prog 113 #[.slice (some ⟨B, 0, none⟩) 4 4] w fun e w' => e = .returned (.bool (withinB n0 m0 n1 m1 n2 m2 n3 m3)) ∧ Below w.heap.size w w' := by
 have HB := Lib.hid hB
 clear hB
 go_enter Tryz.func113, Tryz.ntmps113
 go_wp2
 go_loopw [7] (fun i wr => ∃ k : Nat, k ≤ 4 ∧ i = .int .i64 (k : Int) ∧ Blk wr B 231 #[.int .i64 n0, .int .i64 m0, .int .i64 n1, .int .i64 m1, .int .i64 n2, .int .i64 m2, .int .i64 n3, .int .i64 m3] ∧ Below w.heap.size w wr ∧
   (0 < k → 1 ≤ n0 ∧ n0 ≤ m0) ∧ (1 < k → 1 ≤ n1 ∧ n1 ≤ m1) ∧ (2 < k → 1 ≤ n2 ∧ n2 ≤ m2) ∧ (3 < k → 1 ≤ n3 ∧ n3 ≤ m3)) (fun i _ => 4 - (intOf i).toNat)
 case atStart => exact ⟨0, by omega, rfl, HB.out, Below.refl _ _, by omega, by omega, by omega, by omega⟩
 case round =>
  obtain ⟨k, hk, rfl, hU, hb, q0, q1, q2, q3⟩ := hrel
  rcases (show k = 0 ∨ k = 1 ∨ k = 2 ∨ k = 3 ∨ k = 4 by omega) with rfl | rfl | rfl | rfl | rfl
  ·have c0 := hU.cell 0
   have c1 := hU.cell 1
   simp at c0 c1
   have HU := Lib.hid hU
   have hlt := hU.lt
   have hsz := hb.size
   clear hU
   by_cases h0 : n0 < 1
   ·have H : Hid (false = withinB n0 m0 n1 m1 n2 m2 n3 m3) := Lib.hid (by unfold withinB; symm; simp; omega)
    go_wp2
    go_ret
    exact ⟨ret_bool H.out, hb.alloc hsz _⟩
   ·by_cases h1 : m0 < n0
    ·have H : Hid (false = withinB n0 m0 n1 m1 n2 m2 n3 m3) := Lib.hid (by unfold withinB; symm; simp; omega)
     go_wp2
     go_ret
     exact ⟨ret_bool H.out, hb.alloc hsz _⟩
    ·go_wp2
     exact ⟨⟨1, by omega, rfl, HU.out.alloc _, hb.alloc hsz _, by omega, by omega, by omega, by omega⟩, by simp [intOf]⟩
  ·have c0 := hU.cell 2
   have c1 := hU.cell 3
   simp at c0 c1
   have HU := Lib.hid hU
   have hlt := hU.lt
   have hsz := hb.size
   clear hU
   by_cases h0 : n1 < 1
   ·have H : Hid (false = withinB n0 m0 n1 m1 n2 m2 n3 m3) := Lib.hid (by unfold withinB; symm; simp; omega)
    go_wp2
    go_ret
    exact ⟨ret_bool H.out, hb.alloc hsz _⟩
   ·by_cases h1 : m1 < n1
    ·have H : Hid (false = withinB n0 m0 n1 m1 n2 m2 n3 m3) := Lib.hid (by unfold withinB; symm; simp; omega)
     go_wp2
     go_ret
     exact ⟨ret_bool H.out, hb.alloc hsz _⟩
    ·go_wp2
     exact ⟨⟨2, by omega, rfl, HU.out.alloc _, hb.alloc hsz _, by omega, by omega, by omega, by omega⟩, by simp [intOf]⟩
  ·have c0 := hU.cell 4
   have c1 := hU.cell 5
   simp at c0 c1
   have HU := Lib.hid hU
   have hlt := hU.lt
   have hsz := hb.size
   clear hU
   by_cases h0 : n2 < 1
   ·have H : Hid (false = withinB n0 m0 n1 m1 n2 m2 n3 m3) := Lib.hid (by unfold withinB; symm; simp; omega)
    go_wp2
    go_ret
    exact ⟨ret_bool H.out, hb.alloc hsz _⟩
   ·by_cases h1 : m2 < n2
    ·have H : Hid (false = withinB n0 m0 n1 m1 n2 m2 n3 m3) := Lib.hid (by unfold withinB; symm; simp; omega)
     go_wp2
     go_ret
     exact ⟨ret_bool H.out, hb.alloc hsz _⟩
    ·go_wp2
     exact ⟨⟨3, by omega, rfl, HU.out.alloc _, hb.alloc hsz _, by omega, by omega, by omega, by omega⟩, by simp [intOf]⟩
  ·have c0 := hU.cell 6
   have c1 := hU.cell 7
   simp at c0 c1
   have HU := Lib.hid hU
   have hlt := hU.lt
   have hsz := hb.size
   clear hU
   by_cases h0 : n3 < 1
   ·have H : Hid (false = withinB n0 m0 n1 m1 n2 m2 n3 m3) := Lib.hid (by unfold withinB; symm; simp; omega)
    go_wp2
    go_ret
    exact ⟨ret_bool H.out, hb.alloc hsz _⟩
   ·by_cases h1 : m3 < n3
    ·have H : Hid (false = withinB n0 m0 n1 m1 n2 m2 n3 m3) := Lib.hid (by unfold withinB; symm; simp; omega)
     go_wp2
     go_ret
     exact ⟨ret_bool H.out, hb.alloc hsz _⟩
    ·go_wp2
     exact ⟨⟨4, by omega, rfl, HU.out.alloc _, hb.alloc hsz _, by omega, by omega, by omega, by omega⟩, by simp [intOf]⟩
  ·have H : Hid (true = withinB n0 m0 n1 m1 n2 m2 n3 m3) := Lib.hid (by unfold withinB; symm; exact decide_eq_true (by omega))
   go_wp2
   go_ret
   exact ⟨ret_bool H.out, hb⟩

theorem right_any (b r d m s : Int) (w : World) :
    Calls Tryz.prog 66 #[.agg #[.int .i64 b, .int .i64 r, .int .i64 d, .int .i64 m, .int .u64 s]] w fun e w' => e = .returned (.bool (rightB b r d m)) ∧ Below w.heap.size w w' := by
  have H : Hid (withinB b 59 r 8 d 128 m 3 = rightB b r d m) := Lib.hid (by rfl)
  go_enter Tryz.func66, Tryz.ntmps66
  go_wp2_with fail
  refine (within_any (w.heap.size + 1) b 59 r 8 d 128 m 3 _ (by first | exact Blk.new _ _ _ | (have := Blk.new (w.alloc (.cells #[.int .i64 b, .int .i64 r, .int .i64 d, .int .i64 m, .int .u64 s] 24)) 231 #[.int .i64 b, .int .i64 59, .int .i64 r, .int .i64 8, .int .i64 d, .int .i64 128, .int .i64 m, .int .i64 3]; simpa using this))).mono ?_
  rintro e w' ⟨rfl, hb⟩
  go_wp2
  go_ret
  exact ⟨ret_bool H.out, (((Below.refl _ _).alloc (Nat.le_refl _) _).alloc (by simp) _).trans (hb.mono (by simp; omega))⟩

theorem ret_u64q {a b : Int} (h : a = b) : Ending.returned (.int .u64 a) = .returned (.int .u64 b) := by rw [h]

theorem keys_any (b r d m s l : Int) (w : World) :
  Calls Tryz.prog 72 #[.agg #[.int .i64 b, .int .i64 r, .int .i64 d, .int .i64 m, .int .u64 s], .int .i64 l] w fun e w' => e = .returned (.int .u64 (keysI b r d m l)) ∧ Below w.heap.size w w' := by
 cases hr : rightB b r d m
 ·have H : Hid (0 = keysI b r d m l) := Lib.hid (keysI_no (fun h => by rw [hr] at h; exact absurd h.1 (by decide))).symm
  go_enter Tryz.func72, Tryz.ntmps72
  go_wp2_with fail
  refine (right_any b r d m s _).mono ?_; rintro e w' ⟨rfl, hb⟩
  obtain ⟨hk, hbb⟩ := box_kept hb
  have c0 := hk.cell 0
  simp at c0
  rw [hr]
  go_wp2
  go_ret
  exact ⟨ret_u64q H.out, hbb⟩
 ·have HR := right_of hr
  by_cases h0 : l < 0
  ·have H : Hid (0 = keysI b r d m l) := Lib.hid (keysI_no (fun h => by omega)).symm
   go_enter Tryz.func72, Tryz.ntmps72
   go_wp2_with fail
   refine (right_any b r d m s _).mono ?_; rintro e w' ⟨rfl, hb⟩
   obtain ⟨hk, hbb⟩ := box_kept hb
   have c0 := hk.cell 0
   simp at c0
   rw [hr]
   go_wp2
   go_ret
   exact ⟨ret_u64q H.out, hbb⟩
  ·by_cases h1 : b < l
   ·have H : Hid (0 = keysI b r d m l) := Lib.hid (keysI_no (fun h => by omega)).symm
    go_enter Tryz.func72, Tryz.ntmps72
    go_wp2_with fail
    refine (right_any b r d m s _).mono ?_; rintro e w' ⟨rfl, hb⟩
    obtain ⟨hk, hbb⟩ := box_kept hb
    have c0 := hk.cell 0
    simp at c0
    rw [hr]
    go_wp2
    go_ret
    exact ⟨ret_u64q H.out, hbb⟩
   ·have H : Hid (2 ^ (b - l).toNat = keysI b r d m l) := Lib.hid (keysI_yes hr (by omega) (by omega)).symm
    have hp := pow_le (b - l).toNat (by omega)
    have g0 : 0 ≤ l := by omega
    have g1 : l ≤ b := by omega
    have g2 : 0 ≤ b - l := by omega
    have g3 : b - l ≤ 59 := by omega
    go_enter Tryz.func72, Tryz.ntmps72
    go_wp2_with fail
    refine (right_any b r d m s _).mono ?_; rintro e w' ⟨rfl, hb⟩
    obtain ⟨hk, hbb⟩ := box_kept hb
    have c0 := hk.cell 0
    simp at c0
    rw [hr]
    go_wp2
    go_ways
    go_ret
    go_show
    exact ⟨ret_u64q H.out, hbb⟩
end Go.Proofs.YtfeficdndjiijaaGreatDoor


namespace Go.Proofs.YtfeficdndjiijaaGreatDoor
open Go.RowKit
set_option linter.unusedVariables false
set_option linter.unusedSimpArgs false

end Go.Proofs.YtfeficdndjiijaaGreatDoor


namespace Go.Proofs.YtfeficdndjiijaaGreatDoor
open Go.RowKit
set_option linter.unusedVariables false
set_option linter.unusedSimpArgs false

theorem keys_right {b r d m l : Int} (h : 0 < keysI b r d m l) : 1 ≤ d ∧ d ≤ 128 ∧ 1 ≤ b ∧ b ≤ 59 ∧ 0 ≤ l ∧ l ≤ b ∧ 1 ≤ r ∧ r ≤ 8 ∧ rightB b r d m = true := by
  unfold keysI at h
  by_cases c : rightB b r d m = true ∧ 0 ≤ l ∧ l ≤ b
  · have := right_of c.1
    exact ⟨by omega, by omega, by omega, by omega, by omega, by omega, by omega, by omega, c.1⟩
  · rw [if_neg c] at h; omega

theorem exact_any (b r d m s l : Int) (w : World) :
  Calls Tryz.prog 71 #[.agg #[.int .i64 b, .int .i64 r, .int .i64 d, .int .i64 m, .int .u64 s], .int .i64 l] w fun e w' => e = .returned (.bool (exactB b r d m l)) ∧ Below w.heap.size w w' := by
 obtain ⟨k0, k1⟩ := keysI_bd b r d m l
 by_cases hp : 0 < keysI b r d m l
 ·obtain ⟨d0, d1, _⟩ := keys_right hp
  by_cases hd : keysI b r d m l ≤ d
  ·have H : Hid (true = exactB b r d m l) := Lib.hid (decide_eq_true ⟨hp, hd⟩).symm
   go_enter Tryz.func71, Tryz.ntmps71
   go_wp2_with fail
   refine (keys_any b r d m s l _).mono ?_; rintro e w' ⟨rfl, hb⟩
   obtain ⟨hk, hbb⟩ := box_kept hb
   have c2 := hk.cell 2
   simp at c2
   go_wp2
   go_ret
   exact ⟨ret_bool H.out, hbb⟩
  ·have H : Hid (false = exactB b r d m l) := Lib.hid (decide_eq_false (fun h => hd h.2)).symm
   go_enter Tryz.func71, Tryz.ntmps71
   go_wp2_with fail
   refine (keys_any b r d m s l _).mono ?_; rintro e w' ⟨rfl, hb⟩
   obtain ⟨hk, hbb⟩ := box_kept hb
   have c2 := hk.cell 2
   simp at c2
   have dd : decide (keysI b r d m l ≤ d) = false := decide_eq_false (by omega)
   go_wp2
   go_ret
   exact ⟨ret_bool H.out, hbb⟩
 ·have H : Hid (false = exactB b r d m l) := Lib.hid (decide_eq_false (fun h => hp h.1)).symm
  go_enter Tryz.func71, Tryz.ntmps71
  go_wp2_with fail
  refine (keys_any b r d m s l _).mono ?_; rintro e w' ⟨rfl, hb⟩
  obtain ⟨hk, hbb⟩ := box_kept hb
  go_wp2
  go_ret
  exact ⟨ret_bool H.out, hbb⟩


theorem box_cells {w' : World} {g : Nat} {t : TypeId} {b r d m s : Int} (hk : Blk w' g t #[.int .i64 b, .int .i64 r, .int .i64 d, .int .i64 m, .int .u64 s]) :
    w'.cell? ⟨g, 0, none⟩ = some (.int .i64 b) ∧ w'.cell? ⟨g, 1, none⟩ = some (.int .i64 r) ∧ w'.cell? ⟨g, 2, none⟩ = some (.int .i64 d) ∧ w'.cell? ⟨g, 3, none⟩ = some (.int .i64 m) ∧ w'.cell? ⟨g, 4, none⟩ = some (.int .u64 s) :=
  ⟨hk.cell 0, hk.cell 1, hk.cell 2, hk.cell 3, hk.cell 4⟩


end Go.Proofs.YtfeficdndjiijaaGreatDoor


namespace Go.Proofs.YtfeficdndjiijaaGreatDoor
open Go.RowKit
set_option linter.unusedVariables false
set_option linter.unusedSimpArgs false

theorem gminus_yes (w : World) (G C H D R W : Nat) (zs hs : List Int) (hg : GridIs w G C R W zs) (hh : GridIs w H D R W hs) (hfit : Fit (List.zipWith (fun a b => a - b) zs hs)) : Calls Tryz.prog 227 #[.pointer (some ⟨G, 0, none⟩), .pointer (some ⟨H, 0, none⟩)] w (AllYes w G C R W (List.zipWith (fun a b => a - b) zs hs)) := by
  have HC := all_yes_minus (fun a b => a - b) opok_minus w G C H D R W zs hs hg hh hfit
  go_enter Tryz.func227, Tryz.ntmps227
  go_wp2_with (go_at_call 239; refine HC.mono ?_; clear HC; intro e w1 H1; obtain ⟨rfl, h2⟩ := H1; have H2 := Lib.hid h2; clear h2)
  go_ret
  exact ⟨rfl, H2.out⟩

end Go.Proofs.YtfeficdndjiijaaGreatDoor


namespace Go.Proofs.YtfeficdndjiijaaGreatDoor
open Go.RowKit
set_option linter.unusedVariables false
set_option linter.unusedSimpArgs false

def ArrIs (w : World) (A G C : Nat) (b r d m s l : Int) (K : Nat) (zs : List Int) : Prop :=
  Blk w A 284 #[.int .i64 b, .int .i64 r, .int .i64 d, .int .i64 m, .int .u64 s, .int .i64 l, .pointer (some ⟨G, 0, none⟩)] ∧ GridIs w G C 1 K zs
def ExNewPost (w : World) (b r d m s l : Int) (e : Ending) (w' : World) : Prop :=
  ∃ A G C, e = .returned (.tuple #[.pointer (some ⟨A, 0, none⟩), .int .i64 0]) ∧ w.heap.size ≤ A ∧ w.heap.size ≤ G ∧ w.heap.size ≤ C ∧ ArrIs w' A G C b r d m s l (keysI b r d m l).toNat (List.replicate (1 * (keysI b r d m l).toNat) 0) ∧ Below w.heap.size w w'

set_option maxRecDepth 100000 in
set_option maxHeartbeats 4000000 in
theorem exnew_yes (b r d m s l : Int) (h : exactB b r d m l = true) (w : World) :
  Calls Tryz.prog 114 #[.agg #[.int .i64 b, .int .i64 r, .int .i64 d, .int .i64 m, .int .u64 s], .int .i64 l] w (ExNewPost w b r d m s l) := by
 have PE := fun w => exact_any b r d m s l w
 have hk := of_decide_eq_true h
 have hkr := keys_right hk.1
 have PK := Lib.hid (fun w => keys_any b r d m s l w)
 rw [h] at PE
 have HPE := Lib.hid PE
 clear PE h
 obtain ⟨K, hK⟩ : ∃ K : Nat, keysI b r d m l = (K : Int) := ⟨(keysI b r d m l).toNat, by omega⟩
 unfold ExNewPost
 rw [hK] at PK ⊢
 have hK1 : K ≤ 128 := by omega
 have PN := Lib.hid (fun w => new_any 1 (K : Int) w)
 have e1 : clampN 1 8 = 1 := rfl
 have e2 : clampN (K : Int) 128 = K := by unfold clampN; omega
 rw [e1, e2] at PN
 simp only [Int.toNat_natCast]
 clear hk hkr hK e1 e2
 obtain ⟨g1, hb1, hsz1⟩ := news1 w (.cells #[.int .i64 b, .int .i64 r, .int .i64 d, .int .i64 m, .int .u64 s] 24)
 have hx1 : Blk _ w.heap.size 24 #[.int .i64 b, .int .i64 r, .int .i64 d, .int .i64 m, .int .u64 s] := g1
 have HB1 := Lib.hid hb1
 have HX1 := Lib.hid hx1
 clear g1 hb1 hsz1
 go_enter Tryz.func114, Tryz.ntmps114
 go_wp2_with (refine wpList_load_row rfl 24 _ rfl w.heap.size rfl 24 _ (0, 0) _ hx1 Tryz.underlying24 rfl (by kernel_rfl) ?_)
 refine (HPE.out _).mono ?_
 rintro e w2 ⟨rfl, hb⟩
 have HB2 := Lib.hid (btr HB1.out hb)
 have HX2 := Lib.hid (HX1.out.kept hb)
 have ek : IntKind.i64.wrap (K : Int) = (K : Int) := by simp [IntKind.wrap, IntKind.bits, IntKind.signed]; split <;> omega
 clear hb hx1
 go_wp2_with fail
 refine wp_region_held_drew (S := fun w' => Blk w' w.heap.size 24 #[.int .i64 b, .int .i64 r, .int .i64 d, .int .i64 m, .int .u64 s] ∧ w.heap.size ≤ w'.heap.size) (by kernel_rfl) (by exact ⟨HX2.out.drewN 1, HB2.out.size⟩) (fun hHeld => ?_)
 refine tkH (i := 0) (v := ?_) rfl (by kernel_rfl) (fun _ _ _ h => h) (Or.inl ⟨by rfl, ?_⟩) (by assumption) ?_
 rotate_left
 ·intro w hSw
  refine (exec_load_row 24 _ rfl _ rfl 24 _ (0, 0) _ hSw.1 Tryz.underlying24 rfl (by kernel_rfl)).trans ?_
  go_simp
  try with_reducible rfl
 simp only [Act.put, z1, z2, z3, z4, z5, z6]
 refine tkH (i := 1) (v := ?_) rfl (by kernel_rfl) (fun _ _ _ h => h) (Or.inl ⟨by rfl, ?_⟩) (by assumption) ?_
 rotate_left
 ·intro w hSw
  try dsimp only at hSw
  go_simp
  try with_reducible rfl
 simp only [Act.put, z1, z2, z3, z4, z5, z6]
 refine tkH (i := 2) (v := ?_) rfl (by kernel_rfl) (fun _ _ _ h => h) (Or.inl ⟨by rfl, ?_⟩) (by assumption) ?_
 rotate_left
 ·intro w hSw
  refine (exec_load_row 24 _ rfl _ rfl 24 _ (0, 0) _ hSw.1 Tryz.underlying24 rfl (by kernel_rfl)).trans ?_
  go_simp
  try with_reducible rfl
 simp only [Act.put, z1, z2, z3, z4, z5, z6]
 refine tkH (i := 3) (v := ?_) rfl (by kernel_rfl) (fun _ _ _ h => h) (Or.inl ⟨by rfl, ?_⟩) (by assumption) ?_
 rotate_left
 ·intro w hSw
  try dsimp only at hSw
  go_simp
  try with_reducible rfl
 simp only [Act.put, z1, z2, z3, z4, z5, z6]
 refine wpAnyH_ready (rs := [4]) (by kernel_rfl) (by simp) ?_
 refine AllReadyH.cons rfl (fun Kc hKc => ?_) AllReadyH.nil
 go_simp
 go_wp2_with (first | (go_at_call 72; refine (PK.out _).mono ?_; rintro e w3 ⟨rfl, hb'⟩; have HB3 := Lib.hid (btr (below_drewN HB2.out 1) hb')) | (go_at_call 159; refine (PN.out _).mono ?_; rintro e w4 ⟨G, C, rfl, hG, hC, hg, hb'⟩; have HG4 := Lib.hid hg; have HB4 := Lib.hid (btr HB3.out hb'); have hGC : Hid (w.heap.size ≤ G ∧ w.heap.size ≤ C) := ⟨Nat.le_trans hHeld.2 hG, Nat.le_trans hHeld.2 hC⟩; clear hg))
 refine hKc.out _ _ ?_ (fun hHeld => ?_)
 ·first | assumption | exact ⟨hHeld.1.kept hb', Nat.le_trans hHeld.2 hb'.size⟩ | exact ⟨hHeld.1.alloc _, by have := hHeld.2; simp; omega⟩
 clear hKc Kc
 refine tkH (i := 5) (v := ?_) rfl (by kernel_rfl) (fun _ _ _ h => h) (Or.inl ⟨by rfl, ?_⟩) (by assumption) ?_
 rotate_left
 ·intro w hSw
  try dsimp only at hSw
  go_simp
  try with_reducible rfl
 simp only [Act.put, z1, z2, z3, z4, z5, z6]
 refine wpAnyH_ready (rs := [6]) (by kernel_rfl) (by simp) ?_
 refine AllReadyH.cons rfl (fun Kc hKc => ?_) AllReadyH.nil
 go_simp
 go_wp2_with (first | (go_at_call 72; refine (PK.out _).mono ?_; rintro e w3 ⟨rfl, hb'⟩; have HB3 := Lib.hid (btr (below_drewN HB2.out 1) hb')) | (go_at_call 159; refine (PN.out _).mono ?_; rintro e w4 ⟨G, C, rfl, hG, hC, hg, hb'⟩; have HG4 := Lib.hid hg; have HB4 := Lib.hid (btr HB3.out hb'); have hGC : Hid (w.heap.size ≤ G ∧ w.heap.size ≤ C) := ⟨Nat.le_trans hHeld.2 hG, Nat.le_trans hHeld.2 hC⟩; clear hg))
 refine hKc.out _ _ ?_ (fun hHeld => ?_)
 ·first | assumption | exact ⟨hHeld.1.kept hb', Nat.le_trans hHeld.2 hb'.size⟩ | exact ⟨hHeld.1.alloc _, by have := hHeld.2; simp; omega⟩
 clear hKc Kc
 refine tkH (i := 7) (v := ?_) rfl (by kernel_rfl) (fun _ _ _ h => h) (Or.inl ⟨by rfl, ?_⟩) (by assumption) ?_
 rotate_left
 ·intro w hSw
  try dsimp only at hSw
  go_simp
  try with_reducible rfl
 simp only [Act.put, z1, z2, z3, z4, z5, z6]
 refine wpAnyH_ready (rs := [8]) (by kernel_rfl) (by simp) ?_
 refine AllReadyH.cons rfl (fun Kc hKc => ?_) AllReadyH.nil
 go_simp
 refine hKc.out _ _ ?_ (fun hHeld => ?_)
 ·first | assumption | exact ⟨hHeld.1.kept hb', Nat.le_trans hHeld.2 hb'.size⟩ | exact ⟨hHeld.1.alloc _, by have := hHeld.2; simp; omega⟩
 clear hKc Kc
 refine tkH (i := 9) (v := ?_) rfl (by kernel_rfl) (fun _ _ _ h => h) (Or.inl ⟨by rfl, ?_⟩) (by assumption) ?_
 rotate_left
 ·intro w hSw
  try dsimp only at hSw
  go_simp
  try with_reducible rfl
 simp only [Act.put, z1, z2, z3, z4, z5, z6]
 refine tkH (i := 10) (v := ?_) rfl (by kernel_rfl) (fun _ _ _ h => h) (Or.inl ⟨by rfl, ?_⟩) (by assumption) ?_
 rotate_left
 ·intro w hSw
  try dsimp only at hSw
  go_simp
  try with_reducible rfl
 simp only [Act.put, z1, z2, z3, z4, z5, z6]
 refine wpAnyH_done (by kernel_rfl) ?_ _
 have HNEW := Lib.hid (Blk.new w4 284 #[.int .i64 b, .int .i64 r, .int .i64 d, .int .i64 m, .int .u64 s, .int .i64 l, .pointer (some ⟨G, 0, none⟩)])
 have HAL : Hid (Below w4.heap.size w4 (w4.alloc (.cells #[.int .i64 b, .int .i64 r, .int .i64 d, .int .i64 m, .int .u64 s, .int .i64 l, .pointer (some ⟨G, 0, none⟩)] 284))) := Lib.hid ((Below.refl _ _).alloc (Nat.le_refl _) _)
 have HG5 := Lib.hid (HG4.out.kept HAL.out)
 have HB5 := Lib.hid (btr HB4.out HAL.out)
 clear hHeld
 go_wp2_with fail
 go_ret2
 exact ⟨w4.heap.size, G, C, rfl, HB4.out.size, hGC.out.1, hGC.out.2, ⟨HNEW.out, HG5.out⟩, HB5.out⟩
theorem exlevel (w : World) (A G C : Nat) (b r d m s l : Int) (K : Nat) (zs : List Int) (h : ArrIs w A G C b r d m s l K zs) :
    Calls Tryz.prog 187 #[.pointer (some ⟨A, 0, none⟩)] w fun e w' => e = .returned (.int .i64 l) ∧ w = w' := by
  have c5 := h.1.cell 5
  simp at c5
  clear h
  go_enter Tryz.func187, Tryz.ntmps187
  go_wp2
  go_ret
  exact ⟨rfl, rfl⟩
theorem excells (w : World) (A G C : Nat) (b r d m s l : Int) (K : Nat) (zs : List Int) (h : ArrIs w A G C b r d m s l K zs) :
    Calls Tryz.prog 189 #[.pointer (some ⟨A, 0, none⟩)] w (CellsPost w zs) := by
  have c6 := h.1.cell 6
  simp at c6
  have P := Lib.hid (cells_any w G C 1 K zs h.2)
  clear h
  go_enter Tryz.func189, Tryz.ntmps189
  go_wp2_with fail
  with_reducible refine P.out.mono ?_
  rintro e w2 ⟨v, rfl, hrest⟩
  have HR := Lib.hid hrest
  clear hrest
  go_wp2
  go_ret
  exact ⟨v, rfl, HR.out⟩
theorem expoint_yes (w : World) (A G C : Nat) (b r d m s l : Int) (K k : Nat) (zs : List Int) (h : ArrIs w A G C b r d m s l K zs) (hk : k < K) :
  Calls Tryz.prog 278 #[.pointer (some ⟨A, 0, none⟩), .int .u64 (k : Int)] w fun e w' => e = .returned (.tuple #[.int .i64 (cellD zs k), .int .i64 0]) ∧ w = w' := by
 have c6 := h.1.cell 6
 simp at c6
 have hw := h.2.width
 have P := Lib.hid (width_any w G C 1 K zs h.2)
 have P2 : Calls Tryz.prog 281 #[.pointer (some ⟨G, 0, none⟩), .int .i64 0, .int .i64 (k : Int)] w fun e w' => e = .returned (.int .i64 (cellD zs k)) ∧ w = w' := by
  have := at_in w G C 1 K 0 k zs h.2 (by decide) hk
  simpa using this
 have P2 := Lib.hid P2
 have e1 : decide ((K : Int) ≤ (k : Int)) = false := decide_eq_false (by omega)
 have e1' : decide (K ≤ k) = false := decide_eq_false (by omega)
 have e2 : IntKind.u64.wrap (K : Int) = (K : Int) := by rw [wrapU_mod]; omega
 have e3 : IntKind.i64.wrap (k : Int) = (k : Int) := by simp [IntKind.wrap, IntKind.bits, IntKind.signed]; split <;> omega
 clear h
 go_enter Tryz.func278, Tryz.ntmps278
 go_wp2_with fail
 with_reducible refine P.out.mono ?_
 rintro e w2 ⟨rfl, hw2⟩
 subst hw2
 go_wp2_with fail
 with_reducible refine P2.out.mono ?_
 rintro e w2 ⟨rfl, hw2⟩
 subst hw2
 go_wp2
 go_ret2
 exact ⟨rfl, rfl⟩
end Go.Proofs.YtfeficdndjiijaaGreatDoor


namespace Go.Proofs.YtfeficdndjiijaaGreatDoor
open Go.RowKit
set_option linter.unusedVariables false
set_option linter.unusedSimpArgs false

theorem ArrIs.kept {w w' : World} {A G C : Nat} {b r d m s l : Int} {K : Nat} {zs : List Int} (h : ArrIs w A G C b r d m s l K zs) (hb : Below w.heap.size w w') : ArrIs w' A G C b r d m s l K zs := ⟨h.1.kept hb, h.2.kept hb⟩
theorem ArrIs.grown {w w' : World} {A G C : Nat} {b r d m s l : Int} {K : Nat} {zs : List Int} {row : Option Nat} (h : ArrIs w A G C b r d m s l K zs) (hb : w.grownBy w' row) (h0 : some A ≠ row) (h1 : some G ≠ row) (h2 : some C ≠ row) : ArrIs w' A G C b r d m s l K zs := ⟨h.1.grown hb h0, h.2.grown hb h1 h2⟩
theorem ArrIs.drewN {w : World} {A G C : Nat} {b r d m s l : Int} {K : Nat} {zs : List Int} (h : ArrIs w A G C b r d m s l K zs) (n : Nat) : ArrIs (w.drewN n) A G C b r d m s l K zs := h.kept (below_drewN (Below.refl _ _) n)
theorem ArrIs.neAC {w : World} {A G C : Nat} {b r d m s l : Int} {K : Nat} {zs : List Int} (h : ArrIs w A G C b r d m s l K zs) : A ≠ C := by
  obtain ⟨cur, hc, _⟩ := h.2.cells
  exact h.1.ne_ hc (by decide)
theorem ArrIs.put {w w' : World} {A G C : Nat} {b r d m s l : Int} {K : Nat} {zs zs' : List Int} (h : ArrIs w A G C b r d m s l K zs) (hb : w.grownBy w' (some C)) (hg : GridIs w' G C 1 K zs') : ArrIs w' A G C b r d m s l K zs' := ⟨h.1.grown hb (by simpa using h.neAC), hg⟩

instance (x : Int) : Decidable (In64 x) := by unfold In64; infer_instance
def chkI (K : Nat) (m : Int) (zs : List Int) (k : Nat) (d : Int) : Int := if K ≤ k then 2 else if m = 2 ∧ d < 0 then 3 else if In64 (cellD zs k + d) then 0 else 4
def updZ (K : Nat) (m : Int) (zs : List Int) (k : Nat) (d : Int) : List Int := if chkI K m zs k d = 0 then zs.set k (cellD zs k + d) else zs
theorem fitC {zs : List Int} (h : Fit zs) (i : Nat) : In64 (cellD zs i) := by
  unfold cellD
  cases hz : zs[i]? with
  | none => exact ⟨by simp, by simp⟩
  | some x => exact h.get hz
theorem ret_i64q {a b : Int} (h : a = b) : Ending.returned (.int .i64 a) = .returned (.int .i64 b) := by rw [h]

set_option maxHeartbeats 2000000 in
theorem excheck (w : World) (A G C : Nat) (b r d m s l : Int) (K k : Nat) (zs : List Int) (x : Int) (h : ArrIs w A G C b r d m s l K zs) (hx : In64 x) (hk64 : k < 18446744073709551616) :
  Calls Tryz.prog 276 #[.pointer (some ⟨A, 0, none⟩), .int .u64 (k : Int), .int .i64 x] w fun e w' => e = .returned (.int .i64 (chkI K m zs k x)) ∧ Below w.heap.size w w' := by
 have c3 := h.1.cell 3
 have c6 := h.1.cell 6
 simp at c3 c6
 have hw := h.2.width
 have P := Lib.hid (width_any w G C 1 K zs h.2)
 have e2 : IntKind.u64.wrap (K : Int) = (K : Int) := by rw [wrapU_mod]; omega
 by_cases hlt : k < K
 ·have P2 : Calls Tryz.prog 281 #[.pointer (some ⟨G, 0, none⟩), .int .i64 0, .int .i64 (k : Int)] w fun e w' => e = .returned (.int .i64 (cellD zs k)) ∧ w = w' := by
   have := at_in w G C 1 K 0 k zs h.2 (by decide) hlt
   simpa using this
  have P2 := Lib.hid P2
  have hz := fitC h.2.fit k
  have e1 : decide ((K : Int) ≤ (k : Int)) = false := decide_eq_false (by omega)
  have e1' : decide (K ≤ k) = false := decide_eq_false (by omega)
  have e3 : IntKind.i64.wrap (k : Int) = (k : Int) := by simp [IntKind.wrap, IntKind.bits, IntKind.signed]; split <;> omega
  obtain ⟨q, hq⟩ : ∃ q, q = chkI K m zs k x := ⟨_, rfl⟩
  rw [← hq]
  unfold chkI at hq
  rw [if_neg (by omega)] at hq
  clear h hlt hk64
  by_cases hm : m = 2 ∧ x < 0
  ·obtain ⟨rfl, hx0⟩ := hm
   have e4 : decide (x < 0) = true := decide_eq_true hx0
   have HQ : Hid (q = 3) := by show _ = _; rw [hq, if_pos ⟨rfl, hx0⟩]
   clear hq hx0
   go_enter Tryz.func276, Tryz.ntmps276
   go_wp2_with fail
   with_reducible refine P.out.mono ?_
   rintro e w2 ⟨rfl, hw2⟩
   subst hw2
   go_wp2
   go_ret
   exact ⟨ret_i64q HQ.out.symm, Below.refl _ _⟩
  ·rw [if_neg hm] at hq
   have hdec : (m ≠ 2 ∧ (m == 2) = false ∧ decide (m = 2) = false) ∨ ((m == 2) = true ∧ decide (m = 2) = true ∧ m = 2 ∧ decide (x < 0) = false) := by
    by_cases h2 : m = 2
    ·right; exact ⟨by simp [h2], by simp [h2], h2, decide_eq_false (fun hh => hm ⟨h2, hh⟩)⟩
    ·left; exact ⟨h2, by simp [h2], by simp [h2]⟩
   clear hm
   have P3 := fun w => opok_plus (cellD zs k) x w hz hx
   by_cases h64 : In64 (cellD zs k + x)
   ·have P3 := fun w => (P3 w).1 h64
    have P3 := Lib.hid P3
    have HQ : Hid (q = 0) := by show _ = _; rw [hq, if_pos h64]
    clear hq h64 hz
    generalize cellD zs k = z at *
    rcases hdec with ⟨hm2, d1, d2⟩ | ⟨d1, d2, hm2, d3⟩
    all_goals
     first | subst hm2 | skip
     go_enter Tryz.func276, Tryz.ntmps276
     go_wp2_with fail
     with_reducible refine P.out.mono ?_
     rintro e w2 ⟨rfl, hw2⟩
     subst hw2
     go_wp2_with fail
     with_reducible refine P2.out.mono ?_
     rintro e w2 ⟨rfl, hw2⟩
     subst hw2
     go_wp2_with fail
     with_reducible refine (P3.out _).mono ?_
     rintro e w3 ⟨rfl, hb⟩
     have HB := Lib.hid hb
     clear hb
     go_wp2
     go_ret
     exact ⟨ret_i64q HQ.out.symm, HB.out⟩
   ·have P3 := fun w => (P3 w).2 h64
    have P3 := Lib.hid P3
    have HQ : Hid (q = 4) := by show _ = _; rw [hq, if_neg h64]
    clear hq h64 hz
    generalize cellD zs k = z at *
    rcases hdec with ⟨hm2, d1, d2⟩ | ⟨d1, d2, hm2, d3⟩
    all_goals
     first | subst hm2 | skip
     go_enter Tryz.func276, Tryz.ntmps276
     go_wp2_with fail
     with_reducible refine P.out.mono ?_
     rintro e w2 ⟨rfl, hw2⟩
     subst hw2
     go_wp2_with fail
     with_reducible refine P2.out.mono ?_
     rintro e w2 ⟨rfl, hw2⟩
     subst hw2
     go_wp2_with fail
     with_reducible refine (P3.out _).mono ?_
     rintro e w3 ⟨rfl, hb⟩
     have HB := Lib.hid hb
     clear hb
     go_wp2
     go_ret
     exact ⟨ret_i64q HQ.out.symm, HB.out⟩
 ·have HQ : Hid (chkI K m zs k x = 2) := by show _ = _; unfold chkI; rw [if_pos (by omega)]
  have e1 : decide ((K : Int) ≤ (k : Int)) = true := decide_eq_true (by omega)
  have e1' : decide (K ≤ k) = true := decide_eq_true (by omega)
  clear h hlt
  go_enter Tryz.func276, Tryz.ntmps276
  go_wp2_with fail
  with_reducible refine P.out.mono ?_
  rintro e w2 ⟨rfl, hw2⟩
  subst hw2
  go_wp2
  go_ret
  exact ⟨ret_i64q HQ.out.symm, Below.refl _ _⟩

theorem exconfig (w : World) (A G C : Nat) (b r d m s l : Int) (K : Nat) (zs : List Int) (h : ArrIs w A G C b r d m s l K zs) :
  Calls Tryz.prog 186 #[.pointer (some ⟨A, 0, none⟩)] w fun e w' => e = .returned (.agg #[.int .i64 b, .int .i64 r, .int .i64 d, .int .i64 m, .int .u64 s]) ∧ Below w.heap.size w w' := by
 obtain ⟨g1, hb1, hsz1⟩ := news1 w (.cells #[.int .i64 0, .int .i64 0, .int .i64 0, .int .i64 0, .int .u64 0] 24)
 have hx1 : Blk _ w.heap.size 24 #[.int .i64 0, .int .i64 0, .int .i64 0, .int .i64 0, .int .u64 0] := g1
 have hA := h.1.kept hb1
 have c0 := hA.cell 0
 have c1 := hA.cell 1
 have c2 := hA.cell 2
 have c3 := hA.cell 3
 have c4 := hA.cell 4
 simp at c0 c1 c2 c3 c4
 have HX1 := Lib.hid hx1
 have HB1 := Lib.hid hb1
 have n0 := hx1.cell 0
 have n1 := hx1.cell 1
 have n2 := hx1.cell 2
 have n3 := hx1.cell 3
 have n4 := hx1.cell 4
 simp at n0 n1 n2 n3 n4
 have f0 := hx1.frozen 0
 have f1 := hx1.frozen 1
 have f2 := hx1.frozen 2
 have f3 := hx1.frozen 3
 have f4 := hx1.frozen 4
 clear hA hx1 hb1 g1 hsz1 h
 go_enter Tryz.func186, Tryz.ntmps186
 go_wp2_with fail
 refine bodyPost_ret (v := .agg #[.int .i64 b, .int .i64 r, .int .i64 d, .int .i64 m, .int .u64 s]) (results_cell_row rfl _ _ w.heap.size 24 _ (0, 0) _ rfl (heap_alloc_new w _) Tryz.underlying24 rfl (by kernel_rfl)) rfl ⟨rfl, ?_⟩
 exact (Below.refl _ _).alloc (Nat.le_refl _) _

def UpdPost (w : World) (A G C : Nat) (b r d m s l : Int) (K : Nat) (zs : List Int) (k : Nat) (x : Int) (e : Ending) (w' : World) : Prop :=
  e = .returned (.int .i64 (chkI K m zs k x)) ∧ ArrIs w' A G C b r d m s l K (updZ K m zs k x) ∧ w.grownBy w' (some C)
theorem below_gr {w w' : World} {row : Option Nat} (h : Below w.heap.size w w') : w.grownBy w' row := ⟨h.os, h.tape, h.output, h.size, fun k hk _ => h.block k hk⟩
theorem gr_trans {w w1 w2 : World} {row : Option Nat} (h : w.grownBy w1 row) (k : w1.grownBy w2 row) : w.grownBy w2 row :=
  ⟨k.os.trans h.os, k.tape.trans h.tape, k.output.trans h.output, Nat.le_trans h.size k.size, fun j hj hne => (k.block j (Nat.lt_of_lt_of_le hj h.size) hne).trans (h.block j hj hne)⟩
theorem chkI_ok {K : Nat} {m : Int} {zs : List Int} {k : Nat} {x : Int} (h : chkI K m zs k x = 0) : k < K ∧ In64 (cellD zs k + x) := by
  unfold chkI at h
  split at h
  · omega
  split at h
  · omega
  split at h
  · exact ⟨by omega, by assumption⟩
  · omega

set_option maxRecDepth 100000 in
set_option maxHeartbeats 4000000 in
theorem exupdate (w : World) (A G C : Nat) (b r d m s l : Int) (K k : Nat) (zs : List Int) (x : Int) (h : ArrIs w A G C b r d m s l K zs) (hx : In64 x) (hk64 : k < 18446744073709551616) :
  Calls Tryz.prog 279 #[.pointer (some ⟨A, 0, none⟩), .int .u64 (k : Int), .int .i64 x] w (UpdPost w A G C b r d m s l K zs k x) := by
 have PC := excheck w A G C b r d m s l K k zs x h hx hk64
 by_cases hc : chkI K m zs k x = 0
 ·obtain ⟨hlt, h64⟩ := chkI_ok hc
  have hW := h.2.width
  have HU : Hid (UpdPost w A G C b r d m s l K zs k x = fun e w' => e = .returned (.int .i64 0) ∧ ArrIs w' A G C b r d m s l K (zs.set k (cellD zs k + x)) ∧ w.grownBy w' (some C)) := Lib.hid (by
   unfold UpdPost updZ; simp only [hc, if_pos])
  rw [HU.out]
  rw [hc] at PC
  have PC := Lib.hid PC
  have HA := Lib.hid h
  have P2 : Hid (∀ w', GridIs w' G C 1 K zs → Calls Tryz.prog 281 #[.pointer (some ⟨G, 0, none⟩), .int .i64 0, .int .i64 (k : Int)] w' fun e w'' => e = .returned (.int .i64 (cellD zs k)) ∧ w' = w'') := Lib.hid (fun w' h' => by
   have := at_in w' G C 1 K 0 k zs h' (by decide) hlt
   simpa using this)
  have P3 : Hid (∀ w', GridIs w' G C 1 K zs → Calls Tryz.prog 282 #[.pointer (some ⟨G, 0, none⟩), .int .i64 0, .int .i64 (k : Int), .int .i64 (cellD zs k + x)] w' fun e w'' => e = .returned (.bool true) ∧ w'' = w'.setCell ⟨C, k, none⟩ (.int .i64 (cellD zs k + x))) := Lib.hid (fun w' h' => by
   have := put_in w' G C 1 K 0 k (cellD zs k + x) zs h' (by decide) hlt
   simpa using this)
  have hAC : A ≠ C := h.neAC
  have e3 : IntKind.i64.wrap (k : Int) = (k : Int) := by simp [IntKind.wrap, IntKind.bits, IntKind.signed]; split <;> omega
  have H64 := Lib.hid h64
  have e5 : wrap64 (cellD zs k + x) = cellD zs k + x := by unfold wrap64; unfold In64 at h64; omega
  have e6 : IntKind.i64.wrap (cellD zs k + x) = cellD zs k + x := wrapI_of _ h64.1 h64.2
  clear h hlt h64 hk64 hc hW HU hx
  generalize hz : cellD zs k = z at *
  have HZ := Lib.hid hz
  clear hz
  go_enter Tryz.func279, Tryz.ntmps279
  go_wp2_with fail
  with_reducible refine PC.out.mono ?_
  rintro e w2 ⟨rfl, hb⟩
  have HA2 := Lib.hid (HA.out.kept hb)
  have HG2 : Hid (w.grownBy w2 (some C)) := Lib.hid (below_gr hb)
  clear hb
  go_wp2_with fail
  refine wp_region_held_drew (S := fun w' => Blk w' A 284 #[.int .i64 b, .int .i64 r, .int .i64 d, .int .i64 m, .int .u64 s, .int .i64 l, .pointer (some ⟨G, 0, none⟩)]) (by kernel_rfl) (by exact HA2.out.1.drewN 1) (fun hHeld => ?_)
  refine tkH (i := 0) (v := ?_) rfl (by kernel_rfl) (fun _ _ _ h => h) (Or.inl ⟨by rfl, ?_⟩) (by assumption) ?_
  rotate_left
  ·intro w hSw
   try dsimp only at hSw
   go_simp
   try with_reducible rfl
  simp only [Act.put, z1, z2, z3, z4, z5, z6]
  refine tkH (i := 1) (v := ?_) rfl (by kernel_rfl) (fun _ _ _ h => h) (Or.inl ⟨by rfl, ?_⟩) (by assumption) ?_
  rotate_left
  ·intro w hSw
   try dsimp only at hSw
   go_simp
   try with_reducible rfl
  simp only [Act.put, z1, z2, z3, z4, z5, z6]
  refine tkH (i := 2) (v := ?_) rfl (by kernel_rfl) (fun _ _ _ h => h) (Or.inl ⟨by rfl, ?_⟩) (by assumption) ?_
  rotate_left
  ·intro w hSw
   try dsimp only at hSw
   go_simp
   try with_reducible rfl
  simp only [Act.put, z1, z2, z3, z4, z5, z6]
  refine tkH (i := 3) (v := ?_) rfl (by kernel_rfl) (fun _ _ _ h => h) (Or.inl ⟨by rfl, ?_⟩) (by assumption) ?_
  rotate_left
  ·intro w hSw
   have q6 := hSw.cell 6
   simp at q6
   go_simp
   try with_reducible rfl
  simp only [Act.put, z1, z2, z3, z4, z5, z6]
  refine tkH (i := 4) (v := ?_) rfl (by kernel_rfl) (fun _ _ _ h => h) (Or.inl ⟨by rfl, ?_⟩) (by assumption) ?_
  rotate_left
  ·intro w hSw
   try dsimp only at hSw
   go_simp
   try with_reducible rfl
  simp only [Act.put, z1, z2, z3, z4, z5, z6]
  refine tkH (i := 5) (v := ?_) rfl (by kernel_rfl) (fun _ _ _ h => h) (Or.inl ⟨by rfl, ?_⟩) (by assumption) ?_
  rotate_left
  ·intro w hSw
   try dsimp only at hSw
   go_simp
   try with_reducible rfl
  simp only [Act.put, z1, z2, z3, z4, z5, z6]
  refine tkH (i := 6) (v := ?_) rfl (by kernel_rfl) (fun _ _ _ h => h) (Or.inl ⟨by rfl, ?_⟩) (by assumption) ?_
  rotate_left
  ·intro w hSw
   try dsimp only at hSw
   go_simp
   try with_reducible rfl
  simp only [Act.put, z1, z2, z3, z4, z5, z6]
  refine tkH (i := 7) (v := ?_) rfl (by kernel_rfl) (fun _ _ _ h => h) (Or.inl ⟨by rfl, ?_⟩) (by assumption) ?_
  rotate_left
  ·intro w hSw
   try dsimp only at hSw
   go_simp
   try with_reducible rfl
  simp only [Act.put, z1, z2, z3, z4, z5, z6]
  refine tkH (i := 8) (v := ?_) rfl (by kernel_rfl) (fun _ _ _ h => h) (Or.inl ⟨by rfl, ?_⟩) (by assumption) ?_
  rotate_left
  ·intro w hSw
   try dsimp only at hSw
   go_simp
   try with_reducible rfl
  simp only [Act.put, z1, z2, z3, z4, z5, z6]
  refine tkH (i := 9) (v := ?_) rfl (by kernel_rfl) (fun _ _ _ h => h) (Or.inl ⟨by rfl, ?_⟩) (by assumption) ?_
  rotate_left
  ·intro w hSw
   have q6 := hSw.cell 6
   simp at q6
   go_simp
   try with_reducible rfl
  simp only [Act.put, z1, z2, z3, z4, z5, z6]
  refine tkH (i := 10) (v := ?_) rfl (by kernel_rfl) (fun _ _ _ h => h) (Or.inl ⟨by rfl, ?_⟩) (by assumption) ?_
  rotate_left
  ·intro w hSw
   try dsimp only at hSw
   go_simp
   try with_reducible rfl
  simp only [Act.put, z1, z2, z3, z4, z5, z6]
  refine tkH (i := 11) (v := ?_) rfl (by kernel_rfl) (fun _ _ _ h => h) (Or.inl ⟨by rfl, ?_⟩) (by assumption) ?_
  rotate_left
  ·intro w hSw
   try dsimp only at hSw
   go_simp
   try with_reducible rfl
  simp only [Act.put, z1, z2, z3, z4, z5, z6]
  refine tkH (i := 13) (v := ?_) rfl (by kernel_rfl) (fun _ _ _ h => h) (Or.inl ⟨by rfl, ?_⟩) (by assumption) ?_
  rotate_left
  ·intro w hSw
   try dsimp only at hSw
   go_simp
   try with_reducible rfl
  simp only [Act.put, z1, z2, z3, z4, z5, z6]
  refine wpAnyH_ready (rs := [12]) (by kernel_rfl) (by simp) ?_
  refine AllReadyH.cons rfl (fun Kc hKc => ?_) AllReadyH.nil
  go_simp
  go_wp2_with (first | (go_at_call 281; refine (P2.out _ (HA2.out.2.drewN 1)).mono ?_; rintro e w' ⟨rfl, hw'⟩; subst hw') | (go_at_call 282; refine (P3.out _ (HA2.out.2.drewN 1)).mono ?_; rintro e w5 ⟨rfl, hw5⟩; have HW5 := Lib.hid hw5; clear hw5))
  refine hKc.out _ _ ?_ (fun hHeld => ?_)
  ·first | exact hHeld | (rw [HW5.out]; exact hHeld.far hAC _)
  clear hKc Kc
  refine tkH (i := 14) (v := ?_) rfl (by kernel_rfl) (fun _ _ _ h => h) (Or.inl ⟨by rfl, ?_⟩) (by assumption) ?_
  rotate_left
  ·intro w hSw
   try dsimp only at hSw
   go_simp
   try with_reducible rfl
  simp only [Act.put, z1, z2, z3, z4, z5, z6]
  refine wpAnyH_ready (rs := [15]) (by kernel_rfl) (by simp) ?_
  refine AllReadyH.cons rfl (fun Kc hKc => ?_) AllReadyH.nil
  go_simp
  go_wp2_with (first | (go_at_call 281; refine (P2.out _ (HA2.out.2.drewN 1)).mono ?_; rintro e w' ⟨rfl, hw'⟩; subst hw') | (go_at_call 282; refine (P3.out _ (HA2.out.2.drewN 1)).mono ?_; rintro e w5 ⟨rfl, hw5⟩; have HW5 := Lib.hid hw5; clear hw5))
  refine hKc.out _ _ ?_ (fun hHeld => ?_)
  ·first | exact hHeld | (rw [HW5.out]; exact hHeld.far hAC _)
  clear hKc Kc
  refine wpAnyH_done (by kernel_rfl) ?_ _
  clear hHeld
  go_wp2
  go_ret
  refine ⟨rfl, ?_, ?_⟩
  ·rw [HW5.out]
   exact (HA2.out.drewN 1).put (grown_set _ _ _ _) ((HA2.out.2.drewN 1).set k _ H64.out.1 H64.out.2)
  ·rw [HW5.out]
   exact gr_trans HG2.out (gr_trans (below_gr (below_drewN (Below.refl _ _) 1)) (grown_set _ _ _ _))
 ·have HU : Hid (UpdPost w A G C b r d m s l K zs k x = fun e w' => e = .returned (.int .i64 (chkI K m zs k x)) ∧ ArrIs w' A G C b r d m s l K zs ∧ w.grownBy w' (some C)) := Lib.hid (by
   unfold UpdPost updZ; simp only [if_neg hc])
  rw [HU.out]
  have PC := Lib.hid PC
  have HA := Lib.hid h
  generalize chkI K m zs k x = q at *
  have d1 : (q == 0) = false := by simpa using hc
  have d2 : decide (q = 0) = false := by simpa using hc
  clear h hk64 HU hx
  go_enter Tryz.func279, Tryz.ntmps279
  go_wp2_with fail
  with_reducible refine PC.out.mono ?_
  rintro e w2 ⟨rfl, hb⟩
  have HA2 := Lib.hid (HA.out.kept hb)
  have HG2 : Hid (w.grownBy w2 (some C)) := Lib.hid (below_gr hb)
  clear hb
  go_wp2
  go_ret
  exact ⟨rfl, HA2.out, HG2.out⟩
end Go.Proofs.YtfeficdndjiijaaGreatDoor


namespace Go.Proofs.YtfeficdndjiijaaGreatDoor
open Go.RowKit Go.ChangeShapes Go.WideShapes Go.ChangeAt
set_option linter.unusedVariables false
set_option linter.unusedSimpArgs false
def shCfg : Sh := .agg (.cons (.int .i64) (.cons (.int .i64) (.cons (.int .i64) (.cons (.int .i64) (.cons (.int .u64) .unit)))))
theorem valCfg {w : World} {v : Value} (h : shCfg.Val w v) : ∃ b r d m s : Int, v = .agg #[.int .i64 b, .int .i64 r, .int .i64 d, .int .i64 m, .int .u64 s] ∧
    (Lit.int .i64 b).wf = true ∧ (Lit.int .i64 r).wf = true ∧ (Lit.int .i64 d).wf = true ∧ (Lit.int .i64 m).wf = true ∧ (Lit.int .u64 s).wf = true := by
  obtain ⟨cs, rfl, h1⟩ := h
  obtain ⟨b, q, e, wb, h2⟩ := Sh.reads_int h1
  obtain ⟨r, q, rfl, wr, h3⟩ := Sh.reads_int h2
  obtain ⟨d, q, rfl, wd, h4⟩ := Sh.reads_int h3
  obtain ⟨m, q, rfl, wm, h5⟩ := Sh.reads_int h4
  obtain ⟨s, q, rfl, ws, h6⟩ := Sh.reads_int h5
  obtain rfl := Sh.reads_unit h6
  exact ⟨b, r, d, m, s, by rw [agg_of_list e], wb, wr, wd, wm, ws⟩

def anyI (x n : Int) : Int := 1 + x % 65536 % n
theorem anyI_bd (x n : Int) (h : 1 ≤ n) : 1 ≤ anyI x n ∧ anyI x n ≤ n := by
  unfold anyI
  have h1 := Int.emod_nonneg (x % 65536) (show n ≠ 0 by omega)
  have h2 := Int.emod_lt_of_pos (x % 65536) (show 0 < n by omega)
  omega
theorem and16 (n : Int) : bits BinOp.and IntKind.i64 n 65535 = n % 65536 := by
  have h16 : (BitVec.ofInt 64 65535).toNat = 2 ^ 16 - 1 := by decide
  have key : (BitVec.ofInt 64 n &&& BitVec.ofInt 64 65535).toNat = (n % ((2 ^ 64 : Nat) : Int)).toNat % 2 ^ 16 := by
    rw [BitVec.toNat_and, BitVec.toNat_ofInt, h16, Nat.and_two_pow_sub_one_eq_mod]
  show IntKind.i64.wrap ((BitVec.ofInt 64 n &&& BitVec.ofInt 64 65535).toNat : Nat) = n % 65536
  rw [key, IntKind.wrap_i64]
  omega

set_option maxRecDepth 100000 in
set_option maxHeartbeats 1000000 in
theorem any_any (b r d m s p q : Int) (p0 : 1 ≤ p) (p1 : p ≤ 59) (q0 : 1 ≤ q) (q1 : q ≤ 128) (w : World) :
  Calls Tryz.prog 20 #[.agg #[.int .i64 b, .int .i64 r, .int .i64 d, .int .i64 m, .int .u64 s], .int .i64 p, .int .i64 q] w fun e w' =>
   e = .returned (.agg #[.int .i64 (anyI b p), .int .i64 (anyI r 4), .int .i64 (anyI d q), .int .i64 (anyI m 3), .int .u64 s]) ∧ Below w.heap.size w w' := by
 have e1 := and16 b
 have e2 := and16 r
 have e3 := and16 d
 have e4 := and16 m
 have z1 := Int.emod_nonneg (b % 65536) (show p ≠ 0 by omega)
 have z2 := Int.emod_lt_of_pos (b % 65536) (show 0 < p by omega)
 have z3 := Int.emod_nonneg (d % 65536) (show q ≠ 0 by omega)
 have z4 := Int.emod_lt_of_pos (d % 65536) (show 0 < q by omega)
 have y1 : (p == 0) = false := by simp; omega
 have y2 : (q == 0) = false := by simp; omega
 have t1 : (b % 65536).tmod p = b % 65536 % p := Int.tmod_eq_emod_of_nonneg (by omega)
 have t2 : (r % 65536).tmod 4 = r % 65536 % 4 := Int.tmod_eq_emod_of_nonneg (by omega)
 have t3 : (d % 65536).tmod q = d % 65536 % q := Int.tmod_eq_emod_of_nonneg (by omega)
 have t4 : (m % 65536).tmod 3 = m % 65536 % 3 := Int.tmod_eq_emod_of_nonneg (by omega)
 have u1 : IntKind.i64.wrap (b % 65536 % p) = b % 65536 % p := IntWalk.i64_in _ (by omega)
 have u2 : IntKind.i64.wrap (r % 65536 % 4) = r % 65536 % 4 := IntWalk.i64_in _ (by omega)
 have u3 : IntKind.i64.wrap (d % 65536 % q) = d % 65536 % q := IntWalk.i64_in _ (by omega)
 have u4 : IntKind.i64.wrap (m % 65536 % 3) = m % 65536 % 3 := IntWalk.i64_in _ (by omega)
 have v1 : IntKind.i64.wrap (1 + b % 65536 % p) = 1 + b % 65536 % p := IntWalk.i64_in _ (by omega)
 have v2 : IntKind.i64.wrap (1 + r % 65536 % 4) = 1 + r % 65536 % 4 := IntWalk.i64_in _ (by omega)
 have v3 : IntKind.i64.wrap (1 + d % 65536 % q) = 1 + d % 65536 % q := IntWalk.i64_in _ (by omega)
 have v4 : IntKind.i64.wrap (1 + m % 65536 % 3) = 1 + m % 65536 % 3 := IntWalk.i64_in _ (by omega)
 have p0' : ¬ p = 0 := by omega
 have q0' : ¬ q = 0 := by omega
 go_enter Tryz.func20, Tryz.ntmps20
 go_wp2_with fail
 have hk : Blk ((w.alloc (.cells #[.int .i64 b, .int .i64 r, .int .i64 d, .int .i64 m, .int .u64 s] 24)).alloc (.cells #[.int .i64 0, .int .i64 0, .int .i64 0, .int .i64 0, .int .u64 0] 24)) w.heap.size 24 #[.int .i64 b, .int .i64 r, .int .i64 d, .int .i64 m, .int .u64 s] := (Blk.new _ _ _).alloc _
 have hn : Blk ((w.alloc (.cells #[.int .i64 b, .int .i64 r, .int .i64 d, .int .i64 m, .int .u64 s] 24)).alloc (.cells #[.int .i64 0, .int .i64 0, .int .i64 0, .int .i64 0, .int .u64 0] 24)) (w.heap.size + 1) 24 #[.int .i64 0, .int .i64 0, .int .i64 0, .int .i64 0, .int .u64 0] := by
  have := Blk.new (w.alloc (.cells #[.int .i64 b, .int .i64 r, .int .i64 d, .int .i64 m, .int .u64 s] 24)) 24 #[.int .i64 0, .int .i64 0, .int .i64 0, .int .i64 0, .int .u64 0]
  simpa using this
 have hbel : Below w.heap.size w ((w.alloc (.cells #[.int .i64 b, .int .i64 r, .int .i64 d, .int .i64 m, .int .u64 s] 24)).alloc (.cells #[.int .i64 0, .int .i64 0, .int .i64 0, .int .i64 0, .int .u64 0] 24)) := ((Below.refl _ _).alloc (Nat.le_refl _) _).alloc (by simp) _
 generalize ((w.alloc (.cells #[.int .i64 b, .int .i64 r, .int .i64 d, .int .i64 m, .int .u64 s] 24)).alloc (.cells #[.int .i64 0, .int .i64 0, .int .i64 0, .int .i64 0, .int .u64 0] 24)) = wz at *
 refine wp_region_still_tail 25 (by kernel_rfl) (by kernel_rfl) ?_
 simp only [List.take_succ_cons, List.take_zero, List.drop_succ_cons, List.drop_zero]
 replace hk := hk.drew
 replace hn := hn.drew
 replace hbel := hbel.drew
 change Blk { heap := wz.heap, tape := wz.tape, drawn := wz.drawn + 1, os := wz.os, output := wz.output } _ _ _ at hk
 change Blk { heap := wz.heap, tape := wz.tape, drawn := wz.drawn + 1, os := wz.os, output := wz.output } _ _ _ at hn
 change Below _ _ { heap := wz.heap, tape := wz.tape, drawn := wz.drawn + 1, os := wz.os, output := wz.output } at hbel
 generalize ({ heap := wz.heap, tape := wz.tape, drawn := wz.drawn + 1, os := wz.os, output := wz.output } : World) = wd at *
 obtain ⟨c0, c1, c2, c3, c4⟩ := box_cells hk
 repeat still_step
 refine wpStill_nil ?_
 obtain ⟨n0, n1, n2, n3, n4⟩ := box_cells hn
 have f0 := hn.frozen 0
 have f1 := hn.frozen 1
 have f2 := hn.frozen 2
 have f3 := hn.frozen 3
 have f4 := hn.frozen 4
 generalize hG : w.heap.size + 1 = G at *
 go_wp2
 refine bodyPost_ret (v := .agg #[.int .i64 (anyI b p), .int .i64 (anyI r 4), .int .i64 (anyI d q), .int .i64 (anyI m 3), .int .u64 s]) (by simp [results, Tryz.results20, go_sem, n0, n1, n2, n3, n4]; exact ⟨rfl, by unfold anyI; omega, rfl, rfl⟩) rfl ⟨rfl, ?_⟩
 have hlow : w.heap.size ≤ G := by omega
 exact ((((hbel.setCell hlow _).setCell hlow _).setCell hlow _).setCell hlow _).setCell hlow _

section
variable {P : Program}
end

end Go.Proofs.YtfeficdndjiijaaGreatDoor


namespace Go.Proofs.YtfeficdndjiijaaGreatDoor
open Go.RowKit
set_option linter.unusedVariables false
set_option linter.unusedSimpArgs false

def cfgEq (b r d m s b' r' d' m' s' : Int) : Bool := decide (b = b' ∧ r = r' ∧ d = d' ∧ m = m' ∧ s = s')
theorem eqCfg (b r d m s b' r' d' m' s' : Int) (w : World) : (Op.equalIn 10000 24 (.agg #[.int .i64 b, .int .i64 r, .int .i64 d, .int .i64 m, .int .u64 s]) (.agg #[.int .i64 b', .int .i64 r', .int .i64 d', .int .i64 m', .int .u64 s'])).run Tryz.prog w = .ok (cfgEq b r d m s b' r' d' m' s') w := by
  have u3 := Tryz.underlying3
  have u4 := Tryz.underlying22
  have a3 : ∀ w, (isAgg 3).run Tryz.prog w = .ok false w := fun w => by unfold isAgg; rw [Sem.run_bind, run_underlying Tryz.underlying3 w]; rfl
  have a4 : ∀ w, (isAgg 22).run Tryz.prog w = .ok false w := fun w => by unfold isAgg; rw [Sem.run_bind, run_underlying Tryz.underlying22 w]; rfl
  have hS : Tryz.prog.underlying 24 = some (.struct (Tryz.prog.fieldsOf 24)) := by kernel_rfl
  have hp : Tryz.prog.stoodInHeld 24 = false := by kernel_rfl
  rw [show (10000 : Nat) = 9999 + 1 from rfl, run_equalIn_agg w 9999 24 _ _ hS hp]
  simp only [Program.fieldsOf, Tryz.underlying24]
  go_simp
  unfold cfgEq
  by_cases h1 : b = b' <;> by_cases h2 : r = r' <;> by_cases h3 : d = d' <;> by_cases h4 : m = m' <;> by_cases h5 : s = s' <;> simp [h1, h2, h3, h4, h5]
end Go.Proofs.YtfeficdndjiijaaGreatDoor


namespace Go.Proofs.YtfeficdndjiijaaGreatDoor
open Go.RowKit
set_option linter.unusedVariables false
set_option linter.unusedSimpArgs false

theorem width_kp (w : World) (G C R W : Nat) (zs : List Int) (h : GridIs w G C R W zs) :
    Calls Tryz.prog 280 #[.pointer (some ⟨G, 0, none⟩)] w fun e w' => e = .returned (.int .i64 (W : Int)) ∧ w = w' := (width_any w G C R W zs h).mono fun _ _ h => ⟨h.1, h.2.symm⟩
theorem take_drop_set {cs zs : List Int} {j : Nat} {u : Int} (hc : cs[j]? = some u) (hl : cs.length = zs.length) : (cs.take j ++ zs.drop j).set j u = cs.take (j + 1) ++ zs.drop (j + 1) := by
  have hj : j < cs.length := (List.getElem?_eq_some_iff.1 hc).1
  have hu : u = cs[j] := by
    have := (List.getElem?_eq_some_iff.1 hc).2
    exact this.symm
  apply List.ext_getElem?
  intro i
  rw [List.getElem?_set]
  simp only [List.length_append, List.length_take, List.length_drop]
  by_cases e : j = i
  · subst e
    rw [if_pos rfl, if_pos (by omega), List.getElem?_append_left (by simp; omega), List.getElem?_take, if_pos (by omega), hc]
  · rw [if_neg e]
    by_cases h : i < j
    · rw [List.getElem?_append_left (by simp; omega), List.getElem?_append_left (by simp; omega), List.getElem?_take, List.getElem?_take, if_pos h, if_pos (by omega)]
    · rw [List.getElem?_append_right (by simp; omega), List.getElem?_append_right (by simp; omega), List.getElem?_drop, List.getElem?_drop]
      simp only [List.length_take]
      congr 1
      omega

set_option maxRecDepth 100000 in
set_option maxHeartbeats 4000000 in
theorem exload_yes (w : World) (A G C : Nat) (b r d m s l : Int) (K : Nat) (zs cs : List Int) (v : Value) (h : ArrIs w A G C b r d m s l K zs) (hv : IntsAt w v cs) (hl : cs.length = K) (hfit : Fit cs) (hvc : v.ownBlock ≠ some C) :
  Calls Tryz.prog 277 #[.pointer (some ⟨A, 0, none⟩), v] w fun e w' => e = .returned (.bool true) ∧ ArrIs w' A G C b r d m s l K cs ∧ w.grownBy w' (some C) := by
 have hW := h.2.width
 have P := Lib.hid (width_kp w G C 1 K zs h.2)
 have c6 := h.1.cell 6
 simp at c6
 have hzl : zs.length = K := by have := h.2.len; omega
 have HA := Lib.hid h
 obtain ⟨ao, cap, rfl, hcap, hcells⟩ := hv
 have HC := Lib.hid hcells
 have HF := Lib.hid hfit
 have HVC := Lib.hid hvc
 have HLL := Lib.hid (show cs.length = zs.length by omega)
 have HL := Lib.hid hl
 rw [hl] at hcap ⊢
 clear hcells hfit h hzl hvc hl
 go_enter Tryz.func277, Tryz.ntmps277
 go_wp2_with fail
 with_reducible refine P.out.mono ?_
 rintro e w2 ⟨rfl, hw2⟩
 subst hw2
 go_wp2_with fail
 go_loopw [17] (fun i wr => ∃ j : Nat, j ≤ K ∧ i = .int .i64 (j : Int) ∧ ArrIs wr A G C b r d m s l K (cs.take j ++ zs.drop j) ∧ w.grownBy wr (some C)) (fun i _ => K - (intOf i).toNat)
 case atStart => exact ⟨0, by omega, rfl, by simpa using HA.out, below_gr (Below.refl _ _)⟩
 case round =>
  obtain ⟨j, hj, rfl, ha, hgr⟩ := hrel
  have HA2 := Lib.hid ha
  have HG := Lib.hid hgr
  have q6 := ha.1.cell 6
  simp at q6
  clear c6
  by_cases hlt : j < K
  ·obtain ⟨g, rfl, hg, hc⟩ := HC.out (by have := HL.out; omega)
   have hgC : g ≠ C := fun e => HVC.out (by simp [Value.ownBlock, e])
   have hcj : cs[j]? = some (cellD cs j) := by
    have : j < cs.length := by have := HL.out; omega
    simp [cellD, this]
   have cx := hgr.cell (hc j _ hcj) (by simpa using hgC)
   have P3 : Calls Tryz.prog 282 #[.pointer (some ⟨G, 0, none⟩), .int .i64 0, .int .i64 (j : Int), .int .i64 (cellD cs j)] wr fun e w'' => e = .returned (.bool true) ∧ w'' = wr.setCell ⟨C, j, none⟩ (.int .i64 (cellD cs j)) := by
    have := put_in wr G C 1 K 0 j (cellD cs j) _ ha.2 (by decide) hlt
    simpa using this
   have P3 := Lib.hid P3
   have HS := Lib.hid (take_drop_set (zs := zs) hcj HLL.out)
   have HX := Lib.hid (fitC HF.out j)
   have i0 : (0 : Int) ≤ (j : Int) := by omega
   have i1 : (j : Int) < (K : Int) := by omega
   clear ha hgr hc hcj
   generalize cellD cs j = x at *
   go_wp2_with fail
   with_reducible refine P3.out.mono ?_
   rintro e w3 ⟨rfl, hw3⟩
   have HW3 := Lib.hid hw3
   clear hw3
   go_wp2
   go_roundw
   case rel => exact ⟨j + 1, by omega, by go_num, by rw [← HS.out, HW3.out]; exact HA2.out.put (grown_set _ _ _ _) (HA2.out.2.set j x HX.out.1 HX.out.2), by rw [HW3.out]; exact gr_trans HG.out (grown_set _ _ _ _)⟩
   case measure => simp [intOf]; omega
  ·obtain rfl : j = K := by omega
   have HE : Hid (cs.take j ++ zs.drop j = cs) := Lib.hid (by rw [List.take_of_length_le (by have := HL.out; omega), List.drop_eq_nil_of_le (by have := HL.out; have := HLL.out; omega)]; simp)
   clear ha hgr
   go_wp2
   go_ret
   exact ⟨rfl, by have := HA2.out; rw [HE.out] at this; exact this, HG.out⟩

def ExCopyPost (w : World) (b r d m s l : Int) (K : Nat) (zs : List Int) (e : Ending) (w' : World) : Prop :=
  ∃ A G C, e = .returned (.pointer (some ⟨A, 0, none⟩)) ∧ w.heap.size ≤ A ∧ w.heap.size ≤ G ∧ w.heap.size ≤ C ∧ ArrIs w' A G C b r d m s l K zs ∧ Below w.heap.size w w'
set_option maxRecDepth 100000 in
set_option maxHeartbeats 4000000 in
theorem excopy (w : World) (A G C : Nat) (b r d m s l : Int) (K : Nat) (zs : List Int) (h : ArrIs w A G C b r d m s l K zs) :
  Calls Tryz.prog 209 #[.pointer (some ⟨A, 0, none⟩)] w (ExCopyPost w b r d m s l K zs) := by
 have P := Lib.hid (copy_any (w.drewN 1) G C 1 K zs (h.2.drewN 1))
 have HA := Lib.hid h
 clear h
 go_enter Tryz.func209, Tryz.ntmps209
 go_wp2_with fail
 refine wp_region_held_drew (S := fun w' => Blk w' A 284 #[.int .i64 b, .int .i64 r, .int .i64 d, .int .i64 m, .int .u64 s, .int .i64 l, .pointer (some ⟨G, 0, none⟩)]) (by kernel_rfl) (by exact HA.out.1.drewN 1) (fun hHeld => ?_)
 refine tkH (i := 0) (v := ?_) rfl (by kernel_rfl) (fun _ _ _ h => h) (Or.inl ⟨by rfl, ?_⟩) (by assumption) ?_
 rotate_left
 ·intro w hSw
  try dsimp only at hSw
  go_simp
  try with_reducible rfl
 simp only [Act.put, z1, z2, z3, z4, z5, z6]
 refine tkH (i := 1) (v := ?_) rfl (by kernel_rfl) (fun _ _ _ h => h) (Or.inl ⟨by rfl, ?_⟩) (by assumption) ?_
 rotate_left
 ·intro w hSw
  try dsimp only at hSw
  go_simp
  try with_reducible rfl
 simp only [Act.put, z1, z2, z3, z4, z5, z6]
 refine tkH (i := 2) (v := ?_) rfl (by kernel_rfl) (fun _ _ _ h => h) (Or.inl ⟨by rfl, ?_⟩) (by assumption) ?_
 rotate_left
 ·intro w hSw
  try dsimp only at hSw
  go_simp
  try with_reducible rfl
 simp only [Act.put, z1, z2, z3, z4, z5, z6]
 refine tkH (i := 3) (v := ?_) rfl (by kernel_rfl) (fun _ _ _ h => h) (Or.inl ⟨by rfl, ?_⟩) (by assumption) ?_
 rotate_left
 ·intro w hSw
  have q0 := hSw.cell 0
  have q1 := hSw.cell 1
  have q2 := hSw.cell 2
  have q3 := hSw.cell 3
  have q4 := hSw.cell 4
  have q5 := hSw.cell 5
  have q6 := hSw.cell 6
  simp at q0 q1 q2 q3 q4 q5 q6
  go_simp
  try with_reducible rfl
 simp only [Act.put, z1, z2, z3, z4, z5, z6]
 refine tkH (i := 4) (v := ?_) rfl (by kernel_rfl) (fun _ _ _ h => h) (Or.inl ⟨by rfl, ?_⟩) (by assumption) ?_
 rotate_left
 ·intro w hSw
  try dsimp only at hSw
  go_simp
  try with_reducible rfl
 simp only [Act.put, z1, z2, z3, z4, z5, z6]
 refine tkH (i := 5) (v := ?_) rfl (by kernel_rfl) (fun _ _ _ h => h) (Or.inl ⟨by rfl, ?_⟩) (by assumption) ?_
 rotate_left
 ·intro w hSw
  try dsimp only at hSw
  go_simp
  try with_reducible rfl
 simp only [Act.put, z1, z2, z3, z4, z5, z6]
 refine tkH (i := 6) (v := ?_) rfl (by kernel_rfl) (fun _ _ _ h => h) (Or.inl ⟨by rfl, ?_⟩) (by assumption) ?_
 rotate_left
 ·intro w hSw
  try dsimp only at hSw
  go_simp
  try with_reducible rfl
 simp only [Act.put, z1, z2, z3, z4, z5, z6]
 refine tkH (i := 7) (v := ?_) rfl (by kernel_rfl) (fun _ _ _ h => h) (Or.inl ⟨by rfl, ?_⟩) (by assumption) ?_
 rotate_left
 ·intro w hSw
  have q0 := hSw.cell 0
  have q1 := hSw.cell 1
  have q2 := hSw.cell 2
  have q3 := hSw.cell 3
  have q4 := hSw.cell 4
  have q5 := hSw.cell 5
  have q6 := hSw.cell 6
  simp at q0 q1 q2 q3 q4 q5 q6
  go_simp
  try with_reducible rfl
 simp only [Act.put, z1, z2, z3, z4, z5, z6]
 refine tkH (i := 8) (v := ?_) rfl (by kernel_rfl) (fun _ _ _ h => h) (Or.inl ⟨by rfl, ?_⟩) (by assumption) ?_
 rotate_left
 ·intro w hSw
  try dsimp only at hSw
  go_simp
  try with_reducible rfl
 simp only [Act.put, z1, z2, z3, z4, z5, z6]
 refine tkH (i := 9) (v := ?_) rfl (by kernel_rfl) (fun _ _ _ h => h) (Or.inl ⟨by rfl, ?_⟩) (by assumption) ?_
 rotate_left
 ·intro w hSw
  try dsimp only at hSw
  go_simp
  try with_reducible rfl
 simp only [Act.put, z1, z2, z3, z4, z5, z6]
 refine tkH (i := 10) (v := ?_) rfl (by kernel_rfl) (fun _ _ _ h => h) (Or.inl ⟨by rfl, ?_⟩) (by assumption) ?_
 rotate_left
 ·intro w hSw
  try dsimp only at hSw
  go_simp
  try with_reducible rfl
 simp only [Act.put, z1, z2, z3, z4, z5, z6]
 refine tkH (i := 11) (v := ?_) rfl (by kernel_rfl) (fun _ _ _ h => h) (Or.inl ⟨by rfl, ?_⟩) (by assumption) ?_
 rotate_left
 ·intro w hSw
  have q0 := hSw.cell 0
  have q1 := hSw.cell 1
  have q2 := hSw.cell 2
  have q3 := hSw.cell 3
  have q4 := hSw.cell 4
  have q5 := hSw.cell 5
  have q6 := hSw.cell 6
  simp at q0 q1 q2 q3 q4 q5 q6
  go_simp
  try with_reducible rfl
 simp only [Act.put, z1, z2, z3, z4, z5, z6]
 refine wpAnyH_ready (rs := [12]) (by kernel_rfl) (by simp) ?_
 refine AllReadyH.cons rfl (fun Kc hKc => ?_) AllReadyH.nil
 go_simp
 go_wp2_with ((go_at_call 235; refine P.out.mono ?_; rintro e w4 ⟨G', C', rfl, hG, hC, hg, hb'⟩; have HG4 := Lib.hid hg; have HB4 := Lib.hid hb'; have hGC : Hid (w.heap.size ≤ G' ∧ w.heap.size ≤ C') := ⟨hG, hC⟩; clear hg))
 refine hKc.out _ _ ?_ (fun hHeld => ?_)
 ·first | exact hHeld | exact hHeld.kept hb' | exact hHeld.alloc _
 clear hKc Kc
 refine tkH (i := 13) (v := ?_) rfl (by kernel_rfl) (fun _ _ _ h => h) (Or.inl ⟨by rfl, ?_⟩) (by assumption) ?_
 rotate_left
 ·intro w hSw
  try dsimp only at hSw
  go_simp
  try with_reducible rfl
 simp only [Act.put, z1, z2, z3, z4, z5, z6]
 refine wpAnyH_ready (rs := [14]) (by kernel_rfl) (by simp) ?_
 refine AllReadyH.cons rfl (fun Kc hKc => ?_) AllReadyH.nil
 go_simp
 refine hKc.out _ _ ?_ (fun hHeld => ?_)
 ·first | exact hHeld | exact hHeld.kept hb' | exact hHeld.alloc _
 clear hKc Kc
 refine tkH (i := 15) (v := ?_) rfl (by kernel_rfl) (fun _ _ _ h => h) (Or.inl ⟨by rfl, ?_⟩) (by assumption) ?_
 rotate_left
 ·intro w hSw
  try dsimp only at hSw
  go_simp
  try with_reducible rfl
 simp only [Act.put, z1, z2, z3, z4, z5, z6]
 refine wpAnyH_done (by kernel_rfl) ?_ _
 have HNEW := Lib.hid (Blk.new w4 284 #[.int .i64 b, .int .i64 r, .int .i64 d, .int .i64 m, .int .u64 s, .int .i64 l, .pointer (some ⟨G', 0, none⟩)])
 have HAL : Hid (Below w4.heap.size w4 (w4.alloc (.cells #[.int .i64 b, .int .i64 r, .int .i64 d, .int .i64 m, .int .u64 s, .int .i64 l, .pointer (some ⟨G', 0, none⟩)] 284))) := Lib.hid ((Below.refl _ _).alloc (Nat.le_refl _) _)
 have HG5 := Lib.hid (HG4.out.kept HAL.out)
 have HB5 : Hid (Below w.heap.size w _) := Lib.hid (((below_drewN (Below.refl w.heap.size w) 1).trans HB4.out).trans (HAL.out.mono HB4.out.size))
 clear hHeld
 go_wp2_with fail
 go_ret
 exact ⟨w4.heap.size, G', C', rfl, HB4.out.size, hGC.out.1, hGC.out.2, ⟨HNEW.out, HG5.out⟩, HB5.out⟩

set_option maxRecDepth 100000 in
set_option maxHeartbeats 4000000 in
theorem join_minus_yes (w : World) (A G C B H D : Nat) (b r d m s l : Int) (K : Nat) (zs hs : List Int) (ha : ArrIs w A G C b r d m s l K zs) (hb : ArrIs w B H D b r d m s l K hs) (hfit : Fit (List.zipWith (fun a b => a - b) zs hs)) :
  Calls Tryz.prog 226 #[.pointer (some ⟨A, 0, none⟩), .pointer (some ⟨B, 0, none⟩), .func (Fn.func 227) #[] #[], .bool true] w (fun e w' => e = .returned (.int .i64 0) ∧ ArrIs w' A G C b r d m s l K (List.zipWith (fun a b => a - b) zs hs) ∧ w.grownBy w' (some C)) := by
 have hgd : Tryz.prog.eqGuardType Tryz.prog.depth 24 = false := by kernel_rfl
 have EQ := eqCfg b r d m s b r d m s
 have hq : cfgEq b r d m s b r d m s = true := by simp [cfgEq]
 rw [hq] at EQ
 have P := Lib.hid (fun (w : World) (hg : GridIs w G C 1 K zs) (hh : GridIs w H D 1 K hs) => gminus_yes w G C H D 1 K zs hs hg hh hfit)
 have HA := Lib.hid ha
 have HB := Lib.hid hb
 have HBC : Hid (B ≠ C) := by
  obtain ⟨cur, hc, _⟩ := ha.2.cells
  exact hb.1.ne_ hc (by decide)
 clear ha hb hq hfit
 go_enter Tryz.func226, Tryz.ntmps226
 go_wp2_with fail
 refine wp_region_held_drew (S := fun w' => Blk w' A 284 #[.int .i64 b, .int .i64 r, .int .i64 d, .int .i64 m, .int .u64 s, .int .i64 l, .pointer (some ⟨G, 0, none⟩)] ∧ Blk w' B 284 #[.int .i64 b, .int .i64 r, .int .i64 d, .int .i64 m, .int .u64 s, .int .i64 l, .pointer (some ⟨H, 0, none⟩)] ∧ Below w.heap.size w w') (by kernel_rfl) (by exact ⟨HA.out.1.drewN 1, HB.out.1.drewN 1, below_drewN (Below.refl _ _) 1⟩) (fun hHeld => ?_)
 refine tkH (i := 0) (v := ?_) rfl (by kernel_rfl) (fun _ _ _ h => h) (Or.inl ⟨by rfl, ?_⟩) (by assumption) ?_
 rotate_left
 ·intro w hSw
  try dsimp only at hSw
  go_simp
  try with_reducible rfl
 simp only [Act.put, z1, z2, z3, z4, z5, z6]
 refine tkH (i := 1) (v := ?_) rfl (by kernel_rfl) (fun _ _ _ h => h) (Or.inl ⟨by rfl, ?_⟩) (by assumption) ?_
 rotate_left
 ·intro w hSw
  try dsimp only at hSw
  go_simp
  try with_reducible rfl
 simp only [Act.put, z1, z2, z3, z4, z5, z6]
 refine tkH (i := 2) (v := ?_) rfl (by kernel_rfl) (fun _ _ _ h => h) (Or.inl ⟨by rfl, ?_⟩) (by assumption) ?_
 rotate_left
 ·intro w hSw
  try dsimp only at hSw
  go_simp
  try with_reducible rfl
 simp only [Act.put, z1, z2, z3, z4, z5, z6]
 refine tkH (i := 3) (v := ?_) rfl (by kernel_rfl) (fun _ _ _ h => h) (Or.inl ⟨by rfl, ?_⟩) (by assumption) ?_
 rotate_left
 ·intro w hSw
  try dsimp only at hSw
  go_simp
  try with_reducible rfl
 simp only [Act.put, z1, z2, z3, z4, z5, z6]
 refine tkH (i := 4) (v := ?_) rfl (by kernel_rfl) (fun _ _ _ h => h) (Or.inl ⟨by rfl, ?_⟩) (by assumption) ?_
 rotate_left
 ·intro w hSw
  try dsimp only at hSw
  go_simp
  try with_reducible rfl
 simp only [Act.put, z1, z2, z3, z4, z5, z6]
 refine tkH (i := 5) (v := ?_) rfl (by kernel_rfl) (fun _ _ _ h => h) (Or.inl ⟨by rfl, ?_⟩) (by assumption) ?_
 rotate_left
 ·intro w hSw
  try dsimp only at hSw
  go_simp
  try with_reducible rfl
 simp only [Act.put, z1, z2, z3, z4, z5, z6]
 refine tkH (i := 6) (v := ?_) rfl (by kernel_rfl) (fun _ _ _ h => h) (Or.inl ⟨by rfl, ?_⟩) (by assumption) ?_
 rotate_left
 ·intro w hSw
  have q0 := hSw.1.cell 0
  have q1 := hSw.1.cell 1
  have q2 := hSw.1.cell 2
  have q3 := hSw.1.cell 3
  have q4 := hSw.1.cell 4
  have q5 := hSw.1.cell 5
  have q6 := hSw.1.cell 6
  have p0 := hSw.2.1.cell 0
  have p1 := hSw.2.1.cell 1
  have p2 := hSw.2.1.cell 2
  have p3 := hSw.2.1.cell 3
  have p4 := hSw.2.1.cell 4
  have p5 := hSw.2.1.cell 5
  have p6 := hSw.2.1.cell 6
  simp at q0 q1 q2 q3 q4 q5 q6 p0 p1 p2 p3 p4 p5 p6
  go_simp
  try with_reducible rfl
 simp only [Act.put, z1, z2, z3, z4, z5, z6]
 refine tkH (i := 7) (v := ?_) rfl (by kernel_rfl) (fun _ _ _ h => h) (Or.inl ⟨by rfl, ?_⟩) (by assumption) ?_
 rotate_left
 ·intro w hSw
  try dsimp only at hSw
  go_simp
  try with_reducible rfl
 simp only [Act.put, z1, z2, z3, z4, z5, z6]
 refine tkH (i := 8) (v := ?_) rfl (by kernel_rfl) (fun _ _ _ h => h) (Or.inl ⟨by rfl, ?_⟩) (by assumption) ?_
 rotate_left
 ·intro w hSw
  try dsimp only at hSw
  go_simp
  try with_reducible rfl
 simp only [Act.put, z1, z2, z3, z4, z5, z6]
 refine tkH (i := 9) (v := ?_) rfl (by kernel_rfl) (fun _ _ _ h => h) (Or.inl ⟨by rfl, ?_⟩) (by assumption) ?_
 rotate_left
 ·intro w hSw
  try dsimp only at hSw
  go_simp
  try with_reducible rfl
 simp only [Act.put, z1, z2, z3, z4, z5, z6]
 refine tkH (i := 10) (v := ?_) rfl (by kernel_rfl) (fun _ _ _ h => h) (Or.inl ⟨by rfl, ?_⟩) (by assumption) ?_
 rotate_left
 ·intro w hSw
  have q0 := hSw.1.cell 0
  have q1 := hSw.1.cell 1
  have q2 := hSw.1.cell 2
  have q3 := hSw.1.cell 3
  have q4 := hSw.1.cell 4
  have q5 := hSw.1.cell 5
  have q6 := hSw.1.cell 6
  have p0 := hSw.2.1.cell 0
  have p1 := hSw.2.1.cell 1
  have p2 := hSw.2.1.cell 2
  have p3 := hSw.2.1.cell 3
  have p4 := hSw.2.1.cell 4
  have p5 := hSw.2.1.cell 5
  have p6 := hSw.2.1.cell 6
  simp at q0 q1 q2 q3 q4 q5 q6 p0 p1 p2 p3 p4 p5 p6
  go_simp
  try with_reducible rfl
 simp only [Act.put, z1, z2, z3, z4, z5, z6]
 refine tkH (i := 11) (v := ?_) rfl (by kernel_rfl) (fun _ _ _ h => h) (Or.inl ⟨by rfl, ?_⟩) (by assumption) ?_
 rotate_left
 ·intro w hSw
  try dsimp only at hSw
  go_simp
  try with_reducible rfl
 simp only [Act.put, z1, z2, z3, z4, z5, z6]
 refine tkH (i := 12) (v := ?_) rfl (by kernel_rfl) (fun _ _ _ h => h) (Or.inl ⟨by rfl, ?_⟩) (by assumption) ?_
 rotate_left
 ·intro w hSw
  try dsimp only at hSw
  go_simp
  try with_reducible rfl
 simp only [Act.put, z1, z2, z3, z4, z5, z6]
 refine tkH (i := 13) (v := ?_) rfl (by kernel_rfl) (fun _ _ _ h => h) (Or.inl ⟨by rfl, ?_⟩) (by assumption) ?_
 rotate_left
 ·intro w hSw
  try dsimp only at hSw
  go_simp
  try with_reducible rfl
 simp only [Act.put, z1, z2, z3, z4, z5, z6]
 refine tkH (i := 14) (v := ?_) rfl (by kernel_rfl) (fun _ _ _ h => h) (Or.inl ⟨by rfl, ?_⟩) (by assumption) ?_
 rotate_left
 ·intro w hSw
  try dsimp only at hSw
  go_simp
  try with_reducible rfl
 simp only [Act.put, z1, z2, z3, z4, z5, z6]
 refine tkH (i := 15) (v := ?_) rfl (by kernel_rfl) (fun _ _ _ h => h) (Or.inl ⟨by rfl, ?_⟩) (by assumption) ?_
 rotate_left
 ·intro w hSw
  try dsimp only at hSw
  go_simp
  try with_reducible rfl
 simp only [Act.put, z1, z2, z3, z4, z5, z6]
 refine tkH (i := 16) (v := ?_) rfl (by kernel_rfl) (fun _ _ _ h => h) (Or.inl ⟨by rfl, ?_⟩) (by assumption) ?_
 rotate_left
 ·intro w hSw
  try dsimp only at hSw
  go_simp
  try with_reducible rfl
 simp only [Act.put, z1, z2, z3, z4, z5, z6]
 refine tkH (i := 17) (v := ?_) rfl (by kernel_rfl) (fun _ _ _ h => h) (Or.inl ⟨by rfl, ?_⟩) (by assumption) ?_
 rotate_left
 ·intro w hSw
  have q0 := hSw.1.cell 0
  have q1 := hSw.1.cell 1
  have q2 := hSw.1.cell 2
  have q3 := hSw.1.cell 3
  have q4 := hSw.1.cell 4
  have q5 := hSw.1.cell 5
  have q6 := hSw.1.cell 6
  have p0 := hSw.2.1.cell 0
  have p1 := hSw.2.1.cell 1
  have p2 := hSw.2.1.cell 2
  have p3 := hSw.2.1.cell 3
  have p4 := hSw.2.1.cell 4
  have p5 := hSw.2.1.cell 5
  have p6 := hSw.2.1.cell 6
  simp at q0 q1 q2 q3 q4 q5 q6 p0 p1 p2 p3 p4 p5 p6
  go_simp
  try with_reducible rfl
 simp only [Act.put, z1, z2, z3, z4, z5, z6]
 refine tkH (i := 18) (v := ?_) rfl (by kernel_rfl) (fun _ _ _ h => h) (Or.inl ⟨by rfl, ?_⟩) (by assumption) ?_
 rotate_left
 ·intro w hSw
  try dsimp only at hSw
  go_simp
  try with_reducible rfl
 simp only [Act.put, z1, z2, z3, z4, z5, z6]
 refine tkH (i := 19) (v := ?_) rfl (by kernel_rfl) (fun _ _ _ h => h) (Or.inl ⟨by rfl, ?_⟩) (by assumption) ?_
 rotate_left
 ·intro w hSw
  try dsimp only at hSw
  go_simp
  try with_reducible rfl
 simp only [Act.put, z1, z2, z3, z4, z5, z6]
 refine tkH (i := 20) (v := ?_) rfl (by kernel_rfl) (fun _ _ _ h => h) (Or.inl ⟨by rfl, ?_⟩) (by assumption) ?_
 rotate_left
 ·intro w hSw
  try dsimp only at hSw
  go_simp
  try with_reducible rfl
 simp only [Act.put, z1, z2, z3, z4, z5, z6]
 refine tkH (i := 21) (v := ?_) rfl (by kernel_rfl) (fun _ _ _ h => h) (Or.inl ⟨by rfl, ?_⟩) (by assumption) ?_
 rotate_left
 ·intro w hSw
  have q0 := hSw.1.cell 0
  have q1 := hSw.1.cell 1
  have q2 := hSw.1.cell 2
  have q3 := hSw.1.cell 3
  have q4 := hSw.1.cell 4
  have q5 := hSw.1.cell 5
  have q6 := hSw.1.cell 6
  have p0 := hSw.2.1.cell 0
  have p1 := hSw.2.1.cell 1
  have p2 := hSw.2.1.cell 2
  have p3 := hSw.2.1.cell 3
  have p4 := hSw.2.1.cell 4
  have p5 := hSw.2.1.cell 5
  have p6 := hSw.2.1.cell 6
  simp at q0 q1 q2 q3 q4 q5 q6 p0 p1 p2 p3 p4 p5 p6
  go_simp
  try with_reducible rfl
 simp only [Act.put, z1, z2, z3, z4, z5, z6]
 refine tkH (i := 22) (v := ?_) rfl (by kernel_rfl) (fun _ _ _ h => h) (Or.inl ⟨by rfl, ?_⟩) (by assumption) ?_
 rotate_left
 ·intro w hSw
  try dsimp only at hSw
  go_simp
  try with_reducible rfl
 simp only [Act.put, z1, z2, z3, z4, z5, z6]
 refine tkH (i := 23) (v := ?_) rfl (by kernel_rfl) (fun _ _ _ h => h) (Or.inl ⟨by rfl, ?_⟩) (by assumption) ?_
 rotate_left
 ·intro w hSw
  try dsimp only at hSw
  go_simp
  try with_reducible rfl
 simp only [Act.put, z1, z2, z3, z4, z5, z6]
 refine tkH (i := 24) (v := ?_) rfl (by kernel_rfl) (fun _ _ _ h => h) (Or.inl ⟨by rfl, ?_⟩) (by assumption) ?_
 rotate_left
 ·intro w hSw
  try dsimp only at hSw
  go_simp
  try with_reducible rfl
 simp only [Act.put, z1, z2, z3, z4, z5, z6]
 refine wpAnyH_done (by kernel_rfl) ?_ _
 clear hHeld
 go_wp2_with fail
 refine wp_region_held_drew (S := fun w' => Blk w' A 284 #[.int .i64 b, .int .i64 r, .int .i64 d, .int .i64 m, .int .u64 s, .int .i64 l, .pointer (some ⟨G, 0, none⟩)] ∧ Blk w' B 284 #[.int .i64 b, .int .i64 r, .int .i64 d, .int .i64 m, .int .u64 s, .int .i64 l, .pointer (some ⟨H, 0, none⟩)]) (by kernel_rfl) (by exact ⟨HA.out.1.drewN 2, HB.out.1.drewN 2⟩) (fun hHeld => ?_)
 refine tkH (i := 0) (v := ?_) rfl (by kernel_rfl) (fun _ _ _ h => h) (Or.inl ⟨by rfl, ?_⟩) (by assumption) ?_
 rotate_left
 ·intro w hSw
  try dsimp only at hSw
  go_simp
  try with_reducible rfl
 simp only [Act.put, z1, z2, z3, z4, z5, z6]
 refine tkH (i := 1) (v := ?_) rfl (by kernel_rfl) (fun _ _ _ h => h) (Or.inl ⟨by rfl, ?_⟩) (by assumption) ?_
 rotate_left
 ·intro w hSw
  try dsimp only at hSw
  go_simp
  try with_reducible rfl
 simp only [Act.put, z1, z2, z3, z4, z5, z6]
 refine tkH (i := 2) (v := ?_) rfl (by kernel_rfl) (fun _ _ _ h => h) (Or.inl ⟨by rfl, ?_⟩) (by assumption) ?_
 rotate_left
 ·intro w hSw
  try dsimp only at hSw
  go_simp
  try with_reducible rfl
 simp only [Act.put, z1, z2, z3, z4, z5, z6]
 refine tkH (i := 3) (v := ?_) rfl (by kernel_rfl) (fun _ _ _ h => h) (Or.inl ⟨by rfl, ?_⟩) (by assumption) ?_
 rotate_left
 ·intro w hSw
  try dsimp only at hSw
  go_simp
  try with_reducible rfl
 simp only [Act.put, z1, z2, z3, z4, z5, z6]
 refine tkH (i := 4) (v := ?_) rfl (by kernel_rfl) (fun _ _ _ h => h) (Or.inl ⟨by rfl, ?_⟩) (by assumption) ?_
 rotate_left
 ·intro w hSw
  have q6 := hSw.1.cell 6
  have p6 := hSw.2.cell 6
  simp at q6 p6
  go_simp
  try with_reducible rfl
 simp only [Act.put, z1, z2, z3, z4, z5, z6]
 refine tkH (i := 5) (v := ?_) rfl (by kernel_rfl) (fun _ _ _ h => h) (Or.inl ⟨by rfl, ?_⟩) (by assumption) ?_
 rotate_left
 ·intro w hSw
  try dsimp only at hSw
  go_simp
  try with_reducible rfl
 simp only [Act.put, z1, z2, z3, z4, z5, z6]
 refine tkH (i := 6) (v := ?_) rfl (by kernel_rfl) (fun _ _ _ h => h) (Or.inl ⟨by rfl, ?_⟩) (by assumption) ?_
 rotate_left
 ·intro w hSw
  try dsimp only at hSw
  go_simp
  try with_reducible rfl
 simp only [Act.put, z1, z2, z3, z4, z5, z6]
 refine tkH (i := 7) (v := ?_) rfl (by kernel_rfl) (fun _ _ _ h => h) (Or.inl ⟨by rfl, ?_⟩) (by assumption) ?_
 rotate_left
 ·intro w hSw
  try dsimp only at hSw
  go_simp
  try with_reducible rfl
 simp only [Act.put, z1, z2, z3, z4, z5, z6]
 refine tkH (i := 8) (v := ?_) rfl (by kernel_rfl) (fun _ _ _ h => h) (Or.inl ⟨by rfl, ?_⟩) (by assumption) ?_
 rotate_left
 ·intro w hSw
  have q6 := hSw.1.cell 6
  have p6 := hSw.2.cell 6
  simp at q6 p6
  go_simp
  try with_reducible rfl
 simp only [Act.put, z1, z2, z3, z4, z5, z6]
 refine wpAnyH_ready (rs := [9]) (by kernel_rfl) (by simp) ?_
 refine AllReadyH.cons rfl (fun Kc hKc => ?_) AllReadyH.nil
 go_simp
 go_wp2_with ((go_at_call 227; refine (P.out _ (HA.out.2.drewN 2) (HB.out.2.drewN 2)).mono ?_; rintro e w5 ⟨rfl, hg5, hgr5⟩; have HG5 := Lib.hid hg5; have HGR := Lib.hid hgr5; clear hg5 hgr5))
 refine hKc.out _ _ ?_ (fun hHeld => ?_)
 ·first | exact hHeld | exact ⟨hHeld.1.grown HGR.out (by simpa using HA.out.neAC), hHeld.2.grown HGR.out (by simpa using (show B ≠ C from HBC.out))⟩
 clear hKc Kc
 refine tkH (i := 10) (v := ?_) rfl (by kernel_rfl) (fun _ _ _ h => h) (Or.inl ⟨by rfl, ?_⟩) (by assumption) ?_
 rotate_left
 ·intro w hSw
  try dsimp only at hSw
  go_simp
  try with_reducible rfl
 simp only [Act.put, z1, z2, z3, z4, z5, z6]
 refine wpAnyH_done (by kernel_rfl) ?_ _
 clear hHeld
 go_wp2
 go_ret
 refine ⟨rfl, (HA.out.drewN 2).put HGR.out HG5.out, gr_trans (below_gr (below_drewN (Below.refl _ _) 2)) HGR.out⟩

theorem exsub_yes (w : World) (A G C B H D : Nat) (b r d m s l : Int) (K : Nat) (zs hs : List Int) (hm : m ≠ 2) (ha : ArrIs w A G C b r d m s l K zs) (hb : ArrIs w B H D b r d m s l K hs) (hfit : Fit (List.zipWith (fun a b => a - b) zs hs)) :
    Calls Tryz.prog 193 #[.pointer (some ⟨A, 0, none⟩), .pointer (some ⟨B, 0, none⟩)] w (fun e w' => e = .returned (.int .i64 0) ∧ ArrIs w' A G C b r d m s l K (List.zipWith (fun a b => a - b) zs hs) ∧ w.grownBy w' (some C)) := by
  have c3 := ha.1.cell 3
  simp at c3
  have em : (m != 2) = true := by simpa using hm
  have P := Lib.hid (join_minus_yes w A G C B H D b r d m s l K zs hs ha hb hfit)
  clear ha hb hfit hm
  go_enter Tryz.func193, Tryz.ntmps193
  go_wp2_with fail
  with_reducible refine P.out.mono ?_
  rintro e w2 ⟨rfl, ha, hg⟩
  have HA := Lib.hid ha
  have HG := Lib.hid hg
  clear ha hg
  go_wp2
  go_ret
  exact ⟨rfl, HA.out, HG.out⟩
end Go.Proofs.YtfeficdndjiijaaGreatDoor


namespace Go.Proofs.YtfeficdndjiijaaGreatDoor
open Go.RowKit
set_option linter.unusedVariables false
set_option linter.unusedSimpArgs false

structure SkIs (w : World) (A G C : Nat) (b r d m s l : Int) (zs : List Int) : Prop where
  box : Blk w A 288 #[.pointer (some ⟨G, 0, none⟩), .int .i64 b, .int .i64 r, .int .i64 d, .int .i64 m, .int .u64 s, .int .i64 l]
  grid : GridIs w G C r.toNat d.toNat zs
theorem SkIs.kept {w w' : World} {A G C : Nat} {b r d m s l : Int} {zs : List Int} (h : SkIs w A G C b r d m s l zs) (hb : Below w.heap.size w w') : SkIs w' A G C b r d m s l zs := ⟨h.box.kept hb, h.grid.kept hb⟩
theorem SkIs.grown {w w' : World} {A G C : Nat} {b r d m s l : Int} {zs : List Int} {row : Option Nat} (h : SkIs w A G C b r d m s l zs) (hb : w.grownBy w' row) (h1 : some A ≠ row) (h2 : some G ≠ row) (h3 : some C ≠ row) : SkIs w' A G C b r d m s l zs := ⟨h.box.grown hb h1, h.grid.grown hb h2 h3⟩
theorem SkIs.neA {w : World} {A G C : Nat} {b r d m s l : Int} {zs : List Int} (h : SkIs w A G C b r d m s l zs) : A ≠ C := by
  obtain ⟨cur, hc, -⟩ := h.grid.cells
  exact h.box.ne_ hc (by decide)
def SkNewPost (w : World) (b r d m s l : Int) (e : Ending) (w' : World) : Prop :=
  ∃ A G C, e = .returned (.tuple #[.pointer (some ⟨A, 0, none⟩), .int .i64 0]) ∧ w.heap.size ≤ A ∧ w.heap.size ≤ G ∧ w.heap.size ≤ C ∧ SkIs w' A G C b r d m s l (List.replicate (r.toNat * d.toNat) 0) ∧ Below w.heap.size w w'
theorem clampN_of {n : Int} {top : Nat} (h : n ≤ (top : Int)) : clampN n top = n.toNat := by unfold clampN; omega
set_option maxRecDepth 100000 in
set_option maxHeartbeats 4000000 in
theorem sknew_yes (b r d m s l : Int) (hr : rightB b r d m = true) (h0 : 0 ≤ l) (h1 : l ≤ b) (w : World) :
  Calls Tryz.prog 115 #[.agg #[.int .i64 b, .int .i64 r, .int .i64 d, .int .i64 m, .int .u64 s], .int .i64 l] w (SkNewPost w b r d m s l) := by
 have hR := right_of hr
 have hk : 0 < keysI b r d m l := by
  rw [keysI_yes hr h0 h1]
  have := pow_le (b - l).toNat (by omega)
  omega
 have PK := Lib.hid (fun w => keys_any b r d m s l w)
 have PN := Lib.hid (fun w => new_any r d w)
 rw [clampN_of (by omega), clampN_of (by omega)] at PN
 have e1 : (keysI b r d m l == 0) = false := by simp; omega
 generalize keysI b r d m l = kk at *
 clear hk hr hR h0 h1
 obtain ⟨g1, hb1, hsz1⟩ := news1 w (.cells #[.int .i64 b, .int .i64 r, .int .i64 d, .int .i64 m, .int .u64 s] 24)
 have hx1 : Blk _ w.heap.size 24 #[.int .i64 b, .int .i64 r, .int .i64 d, .int .i64 m, .int .u64 s] := g1
 have HB1 := Lib.hid hb1
 have HX1 := Lib.hid hx1
 clear g1 hb1 hsz1
 go_enter Tryz.func115, Tryz.ntmps115
 go_wp2_with (refine wpList_load_row rfl 24 _ rfl w.heap.size rfl 24 _ (0, 0) _ hx1 Tryz.underlying24 rfl (by kernel_rfl) ?_)
 with_reducible refine (PK.out _).mono ?_
 rintro e w2 ⟨rfl, hb⟩
 have HB2 := Lib.hid (btr HB1.out hb)
 have HX2 := Lib.hid (HX1.out.kept hb)
 clear hb hx1
 go_wp2_with fail
 refine wp_region_held_drew (S := fun w' => Blk w' w.heap.size 24 #[.int .i64 b, .int .i64 r, .int .i64 d, .int .i64 m, .int .u64 s] ∧ w.heap.size ≤ w'.heap.size) (by kernel_rfl) (by exact ⟨HX2.out.drewN 1, HB2.out.size⟩) (fun hHeld => ?_)
 refine tkH (i := 0) (v := ?_) rfl (by kernel_rfl) (fun _ _ _ h => h) (Or.inl ⟨by rfl, ?_⟩) (by assumption) ?_
 rotate_left
 ·intro w hSw
  try dsimp only at hSw
  go_simp
  try with_reducible rfl
 simp only [Act.put, z1, z2, z3, z4, z5, z6]
 refine tkH (i := 1) (v := ?_) rfl (by kernel_rfl) (fun _ _ _ h => h) (Or.inl ⟨by rfl, ?_⟩) (by assumption) ?_
 rotate_left
 ·intro w hSw
  have q0 := hSw.1.cell 0
  have q1 := hSw.1.cell 1
  have q2 := hSw.1.cell 2
  simp at q0 q1 q2
  try refine (exec_load_row 24 _ rfl _ rfl 24 _ (0, 0) _ hSw.1 Tryz.underlying24 rfl (by kernel_rfl)).trans ?_
  go_simp
  try with_reducible rfl
 simp only [Act.put, z1, z2, z3, z4, z5, z6]
 refine tkH (i := 2) (v := ?_) rfl (by kernel_rfl) (fun _ _ _ h => h) (Or.inl ⟨by rfl, ?_⟩) (by assumption) ?_
 rotate_left
 ·intro w hSw
  try dsimp only at hSw
  go_simp
  try with_reducible rfl
 simp only [Act.put, z1, z2, z3, z4, z5, z6]
 refine tkH (i := 3) (v := ?_) rfl (by kernel_rfl) (fun _ _ _ h => h) (Or.inl ⟨by rfl, ?_⟩) (by assumption) ?_
 rotate_left
 ·intro w hSw
  have q0 := hSw.1.cell 0
  have q1 := hSw.1.cell 1
  have q2 := hSw.1.cell 2
  simp at q0 q1 q2
  try refine (exec_load_row 24 _ rfl _ rfl 24 _ (0, 0) _ hSw.1 Tryz.underlying24 rfl (by kernel_rfl)).trans ?_
  go_simp
  try with_reducible rfl
 simp only [Act.put, z1, z2, z3, z4, z5, z6]
 refine tkH (i := 6) (v := ?_) rfl (by kernel_rfl) (fun _ _ _ h => h) (Or.inl ⟨by rfl, ?_⟩) (by assumption) ?_
 rotate_left
 ·intro w hSw
  have q0 := hSw.1.cell 0
  have q1 := hSw.1.cell 1
  have q2 := hSw.1.cell 2
  simp at q0 q1 q2
  try refine (exec_load_row 24 _ rfl _ rfl 24 _ (0, 0) _ hSw.1 Tryz.underlying24 rfl (by kernel_rfl)).trans ?_
  go_simp
  try with_reducible rfl
 simp only [Act.put, z1, z2, z3, z4, z5, z6]
 refine tkH (i := 7) (v := ?_) rfl (by kernel_rfl) (fun _ _ _ h => h) (Or.inl ⟨by rfl, ?_⟩) (by assumption) ?_
 rotate_left
 ·intro w hSw
  try dsimp only at hSw
  go_simp
  try with_reducible rfl
 simp only [Act.put, z1, z2, z3, z4, z5, z6]
 refine wpAnyH_ready (rs := [4]) (by kernel_rfl) (by simp) ?_
 refine AllReadyH.cons rfl (fun Kc hKc => ?_) AllReadyH.nil
 go_simp
 go_wp2_with (go_at_call 159; refine (PN.out _).mono ?_; rintro e w4 ⟨G, C, rfl, hG, hC, hg, hb'⟩; have HG4 := Lib.hid hg; have HB4 := Lib.hid (btr (below_drewN HB2.out 1) hb'); have hGC : Hid (w.heap.size ≤ G ∧ w.heap.size ≤ C) := ⟨Nat.le_trans hHeld.2 hG, Nat.le_trans hHeld.2 hC⟩; clear hg)
 refine hKc.out _ _ ?_ (fun hHeld => ?_)
 ·first | assumption | exact ⟨hHeld.1.kept hb', Nat.le_trans hHeld.2 hb'.size⟩ | exact ⟨hHeld.1.alloc _, by have := hHeld.2; simp; omega⟩
 clear hKc Kc
 refine tkH (i := 5) (v := ?_) rfl (by kernel_rfl) (fun _ _ _ h => h) (Or.inl ⟨by rfl, ?_⟩) (by assumption) ?_
 rotate_left
 ·intro w hSw
  try dsimp only at hSw
  go_simp
  try with_reducible rfl
 simp only [Act.put, z1, z2, z3, z4, z5, z6]
 refine tkH (i := 8) (v := ?_) rfl (by kernel_rfl) (fun _ _ _ h => h) (Or.inl ⟨by rfl, ?_⟩) (by assumption) ?_
 rotate_left
 ·intro w hSw
  try dsimp only at hSw
  go_simp
  try with_reducible rfl
 simp only [Act.put, z1, z2, z3, z4, z5, z6]
 refine wpAnyH_ready (rs := [9]) (by kernel_rfl) (by simp) ?_
 refine AllReadyH.cons rfl (fun Kc hKc => ?_) AllReadyH.nil
 go_simp
 refine hKc.out _ _ ?_ (fun hHeld => ?_)
 ·first | assumption | exact ⟨hHeld.1.kept hb', Nat.le_trans hHeld.2 hb'.size⟩ | exact ⟨hHeld.1.alloc _, by have := hHeld.2; simp; omega⟩
 clear hKc Kc
 refine tkH (i := 10) (v := ?_) rfl (by kernel_rfl) (fun _ _ _ h => h) (Or.inl ⟨by rfl, ?_⟩) (by assumption) ?_
 rotate_left
 ·intro w hSw
  try dsimp only at hSw
  go_simp
  try with_reducible rfl
 simp only [Act.put, z1, z2, z3, z4, z5, z6]
 refine tkH (i := 11) (v := ?_) rfl (by kernel_rfl) (fun _ _ _ h => h) (Or.inl ⟨by rfl, ?_⟩) (by assumption) ?_
 rotate_left
 ·intro w hSw
  try dsimp only at hSw
  go_simp
  try with_reducible rfl
 simp only [Act.put, z1, z2, z3, z4, z5, z6]
 refine wpAnyH_done (by kernel_rfl) ?_ _
 have HNEW := Lib.hid (Blk.new w4 288 #[.pointer (some ⟨G, 0, none⟩), .int .i64 b, .int .i64 r, .int .i64 d, .int .i64 m, .int .u64 s, .int .i64 l])
 have HAL : Hid (Below w4.heap.size w4 (w4.alloc (.cells #[.pointer (some ⟨G, 0, none⟩), .int .i64 b, .int .i64 r, .int .i64 d, .int .i64 m, .int .u64 s, .int .i64 l] 288))) := Lib.hid ((Below.refl _ _).alloc (Nat.le_refl _) _)
 have HG5 := Lib.hid (HG4.out.kept HAL.out)
 have HB5 := Lib.hid (btr HB4.out HAL.out)
 clear hHeld
 go_wp2_with fail
 go_ret2
 exact ⟨w4.heap.size, G, C, rfl, HB4.out.size, hGC.out.1, hGC.out.2, ⟨HNEW.out, HG5.out⟩, HB5.out⟩
theorem skcells (w : World) (A G C : Nat) (b r d m s l : Int) (zs : List Int) (h : SkIs w A G C b r d m s l zs) :
    Calls Tryz.prog 220 #[.pointer (some ⟨A, 0, none⟩)] w (CellsPost w zs) := by
  have c0 := h.box.cell 0
  simp at c0
  have P := Lib.hid (cells_any w G C _ _ zs h.grid)
  clear h
  go_enter Tryz.func220, Tryz.ntmps220
  go_wp2_with fail
  with_reducible refine P.out.mono ?_
  rintro e w2 ⟨v, rfl, hrest⟩
  have HR := Lib.hid hrest
  clear hrest
  go_wp2
  go_ret
  exact ⟨v, rfl, HR.out⟩
set_option maxRecDepth 100000 in
set_option maxHeartbeats 4000000 in
theorem skload_yes (w : World) (A G C : Nat) (b : Int) (R W : Nat) (m s l : Int) (zs cs : List Int) (v : Value) (h : SkIs w A G C b R W m s l zs) (hW : 0 < W) (hv : IntsAt w v cs) (hl : cs.length = R * W) (hfit : Fit cs) (hvc : v.ownBlock ≠ some C) :
  Calls Tryz.prog 285 #[.pointer (some ⟨A, 0, none⟩), v] w fun e w' => e = .returned (.bool true) ∧ SkIs w' A G C b R W m s l cs ∧ w.grownBy w' (some C) := by
 have hR8 := h.grid.rows
 have hW8 := h.grid.width
 rw [Int.toNat_natCast] at hR8 hW8
 have hzl : zs.length = R * W := by have := h.grid.len; simpa using this
 have HA := Lib.hid h
 have HNE := Lib.hid h.neA
 obtain ⟨ao, cap, rfl, hcap, hcells⟩ := hv
 have HC := Lib.hid hcells
 have HF := Lib.hid hfit
 have HVC := Lib.hid hvc
 have HLL := Lib.hid (show cs.length = zs.length by omega)
 have HL := Lib.hid hl
 rw [hl] at hcap ⊢
 obtain ⟨n, hn⟩ : ∃ n, n = R * W := ⟨_, rfl⟩
 have hm : (R : Int) * (W : Int) = (n : Int) := by simp [hn]
 have hp : n ≤ 1024 := by rw [hn]; exact Nat.mul_le_mul hR8 hW8
 have HN := Lib.hid hn
 rw [← hn] at hcap ⊢
 have e1 : ((n : Int) != (n : Int)) = false := by simp
 have c2 := h.box.cell 2
 have c3 := h.box.cell 3
 simp at c2 c3
 clear hcells hfit h hzl hvc hl hn
 go_enter Tryz.func285, Tryz.ntmps285
 go_wp2_with fail
 go_quiet (fail)
 go_wp2_with fail
 go_loopw [23] (fun i wr => ∃ j : Nat, j ≤ n ∧ i = .int .i64 (j : Int) ∧ SkIs wr A G C b R W m s l (cs.take j ++ zs.drop j) ∧ w.grownBy wr (some C)) (fun i _ => n - (intOf i).toNat)
 case atStart => exact ⟨0, by omega, rfl, by simpa using HA.out.kept (below_drewN (Below.refl _ _) nq), below_gr (below_drewN (Below.refl _ _) nq)⟩
 case round =>
  obtain ⟨j, hj, rfl, ha, hgr⟩ := hrel
  have HA2 := Lib.hid ha
  have HG := Lib.hid hgr
  clear c2 c3
  by_cases hlt : j < n
  ·obtain ⟨g, rfl, hg, hc⟩ := HC.out (by have := HL.out; have := HN.out; omega)
   have hgC : g ≠ C := fun e => HVC.out (by simp [Value.ownBlock, e])
   have hcj : cs[j]? = some (cellD cs j) := by
    have : j < cs.length := by have := HL.out; have := HN.out; omega
    simp [cellD, this]
   have cx := hgr.cell (hc j _ hcj) (by simpa using hgC)
   have hrow : j / W < R := Nat.div_lt_of_lt_mul (by have := HN.out; rw [Nat.mul_comm] at this; omega)
   have hcol : j % W < W := Nat.mod_lt _ hW
   have P3 : Hid (∀ wd, SkIs wd A G C b R W m s l (cs.take j ++ zs.drop j) → Calls Tryz.prog 282 #[.pointer (some ⟨G, 0, none⟩), .int .i64 ((j / W : Nat) : Int), .int .i64 ((j % W : Nat) : Int), .int .i64 (cellD cs j)] wd fun e w'' => e = .returned (.bool true) ∧ w'' = wd.setCell ⟨C, j, none⟩ (.int .i64 (cellD cs j))) := Lib.hid (fun wd hd => by
    have hgd := hd.grid
    rw [Int.toNat_natCast, Int.toNat_natCast] at hgd
    have := put_in wd G C R W (j / W) (j % W) (cellD cs j) _ hgd hrow hcol
    rw [show j / W * W + j % W = j by rw [Nat.mul_comm]; exact Nat.div_add_mod j W] at this
    exact this)
   have HS := Lib.hid (take_drop_set (zs := zs) hcj HLL.out)
   have HX := Lib.hid (fitC HF.out j)
   have i0 : (0 : Int) ≤ (j : Int) := by omega
   have i1 : (j : Int) < (n : Int) := by omega
   have f5 : IntKind.i64.wrap ((j : Int) / (W : Int)) = ((j / W : Nat) : Int) := by
    have h1 : (j : Int) / (W : Int) = ((j / W : Nat) : Int) := (Int.natCast_ediv ..).symm
    have h2 : j / W ≤ j := Nat.div_le_self j W
    rw [h1, wrapI_eq64]
    generalize j / W = q at *
    unfold wrap64; omega
   have f6 : IntKind.i64.wrap ((j : Int) % (W : Int)) = ((j % W : Nat) : Int) := by
    have h1 : (j : Int) % (W : Int) = ((j % W : Nat) : Int) := (Int.natCast_emod ..).symm
    have h2 : j % W ≤ j := Nat.mod_le j W
    rw [h1, wrapI_eq64]
    generalize j % W = q at *
    unfold wrap64; omega
   have f6' : (j : Int) % (W : Int) = ((j % W : Nat) : Int) := (Int.natCast_emod ..).symm
   have e8 : ¬ W = 0 := by omega
   clear ha hgr hc hcj hrow hcol
   generalize cellD cs j = x at *
   generalize j / W = jq at *
   generalize j % W = jr at *
   go_wp2_with fail
   refine wp_region_still_tail 20 (by kernel_rfl) (by kernel_rfl) ?_
   simp only [List.take_succ_cons, List.take_zero, List.drop_succ_cons, List.drop_zero]
   have HA3 : Hid (SkIs { heap := wr.heap, tape := wr.tape, drawn := wr.drawn + 1, os := wr.os, output := wr.output } A G C b R W m s l (cs.take j ++ zs.drop j)) := Lib.hid (HA2.out.kept (below_drewN (Below.refl _ _) 1))
   have HG3 : Hid (w.grownBy { heap := wr.heap, tape := wr.tape, drawn := wr.drawn + 1, os := wr.os, output := wr.output } (some C)) := Lib.hid (gr_trans HG.out (below_gr (below_drewN (Below.refl _ _) 1)))
   generalize ({ heap := wr.heap, tape := wr.tape, drawn := wr.drawn + 1, os := wr.os, output := wr.output } : World) = wd at *
   have q0 := HA3.out.box.cell 0
   have q3 := HA3.out.box.cell 3
   simp at q0 q3
   repeat still_step
   refine wpStill_nil ?_
   go_wp2_with fail
   try simp only [f6']
   with_reducible refine (P3.out _ HA3.out).mono ?_
   rintro e w3 ⟨rfl, hw3⟩
   have HW3 := Lib.hid hw3
   clear hw3 q0 q3 f5 f6 f6'
   go_wp2
   go_roundw
   case rel => exact ⟨j + 1, by omega, by go_num, by rw [← HS.out, HW3.out]; exact ⟨HA3.out.box.far (by have := HNE.out; simpa using this) _, HA3.out.grid.set j x HX.out.1 HX.out.2⟩, by rw [HW3.out]; exact gr_trans HG3.out (grown_set _ _ _ _)⟩
   case measure => simp [intOf]; omega
  ·obtain rfl : j = n := by omega
   have HE : Hid (cs.take j ++ zs.drop j = cs) := Lib.hid (by rw [List.take_of_length_le (by have := HL.out; have := HN.out; omega), List.drop_eq_nil_of_le (by have := HL.out; have := HN.out; have := HLL.out; omega)]; simp)
   clear ha hgr
   go_wp2
   go_ret
   exact ⟨rfl, by rw [← HE.out]; exact HA2.out, HG.out⟩
end Go.Proofs.YtfeficdndjiijaaGreatDoor

