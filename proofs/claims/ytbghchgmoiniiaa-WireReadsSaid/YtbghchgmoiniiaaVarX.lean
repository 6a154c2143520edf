/-
  The walks of varint: Len64 of seven bits, Zig, Zag, PutRow. Conditions: none beyond those stated at each theorem.
-/
import Derived.Test.YtbghchgmoiniiaaVarW
import Derived.Lib.BitFns
import Derived.Lib.Strings
import Derived.Lib.Slices
import Derived.Lib.Small
import Derived.Lib.Walk
namespace Go.Proofs.Ytbghchgmoiniiaa
open Go.RowKit
set_option linter.unusedVariables false
set_option linter.unusedSimpArgs false

theorem tab_size : Lib.len8tab.size = 256 := by kernel_rfl
theorem tab_at : ∀ n : Fin 128, (Lib.len8tab[n.val]'(by rw [tab_size]; have := n.isLt; omega)).toNat = Lib.bitLen n.val := by decide +kernel
theorem len_le7 : ∀ n : Fin 128, Lib.bitLen n.val ≤ 7 := by decide +kernel
set_option maxRecDepth 100000 in
set_option maxHeartbeats 4000000 in
theorem len7 (x : Nat) (w : World) (h1 : x < 128) :
    Calls Try.prog 59 #[.int .u64 (x : Int)] w fun e w' => e = .returned (.int .i64 (Lib.bitLen x)) ∧ w = w' := by
  have e1 : decide ((4294967296 : Int) ≤ (x : Int)) = false := decide_eq_false (by omega)
  have e2 : decide ((65536 : Int) ≤ (x : Int)) = false := decide_eq_false (by omega)
  have e3 : decide ((256 : Int) ≤ (x : Int)) = false := decide_eq_false (by omega)
  have hs := tab_size
  have h2 : (x : Int) < 256 := by omega
  have h3 : (0 : Int) ≤ (x : Int) := by omega
  have h4 : x < 256 := by omega
  have HT := Lib.hid (tab_at ⟨x, h1⟩)
  have HL := Lib.hid (len_le7 ⟨x, h1⟩)
  go_enter Try.func59, Try.ntmps59
  go_wp2
  go_ret
  refine ⟨congrArg Ending.returned (congrArg (Value.int IntKind.i64) ?_), rfl⟩
  have h5 := HT.out
  have h6 := HL.out
  first | (simp only [Int.toNat_natCast]; rw [h5]; unfold wrap64; omega) | (rw [h5]; unfold wrap64; omega)
theorem not_u64 (a : Int) (h0 : 0 ≤ a) (h1 : a ≤ 18446744073709551615) : bits BinOp.xor IntKind.u64 a 18446744073709551615 = 18446744073709551615 - a := by
  obtain ⟨n, rfl⟩ := Int.eq_ofNat_of_zero_le h0
  have hx : (BitVec.ofInt 64 (n : Int) ^^^ BitVec.ofInt 64 18446744073709551615).toNat = 18446744073709551615 - n := by
    have e1 : BitVec.ofInt 64 18446744073709551615 = BitVec.allOnes 64 := by decide +kernel
    have e2 : BitVec.ofInt 64 (n : Int) = BitVec.ofNat 64 n := BitVec.ofInt_natCast ..
    rw [e1, e2, BitVec.xor_allOnes, BitVec.toNat_not, BitVec.toNat_ofNat]
    omega
  show IntKind.u64.wrap ((BitVec.ofInt 64 (n : Int) ^^^ BitVec.ofInt 64 18446744073709551615).toNat : Int) = _
  rw [hx, wrapU_mod]
  omega
theorem xor_zero_u64 (a : Int) (h0 : 0 ≤ a) (h1 : a ≤ 18446744073709551615) : bits BinOp.xor IntKind.u64 a 0 = a := by
  obtain ⟨n, rfl⟩ := Int.eq_ofNat_of_zero_le h0
  have := u64_xor_nat n 0 (by omega) (by decide)
  simpa using this
theorem not_i64 (a : Int) (h0 : 0 ≤ a) (h1 : a ≤ 9223372036854775807) : bits BinOp.xor IntKind.i64 a (-1) = -a - 1 := by
  obtain ⟨n, rfl⟩ := Int.eq_ofNat_of_zero_le h0
  have hx : (BitVec.ofInt 64 (n : Int) ^^^ BitVec.ofInt 64 (-1)).toNat = 18446744073709551615 - n := by
    have e1 : BitVec.ofInt 64 (-1) = BitVec.allOnes 64 := by decide +kernel
    have e2 : BitVec.ofInt 64 (n : Int) = BitVec.ofNat 64 n := BitVec.ofInt_natCast ..
    rw [e1, e2, BitVec.xor_allOnes, BitVec.toNat_not, BitVec.toNat_ofNat]
    omega
  show IntKind.i64.wrap ((BitVec.ofInt 64 (n : Int) ^^^ BitVec.ofInt 64 (-1)).toNat : Int) = _
  rw [hx, wrapI_eq64]
  unfold wrap64
  omega
theorem xor_zero_i64 (a : Int) (h0 : 0 ≤ a) (h1 : a ≤ 9223372036854775807) : bits BinOp.xor IntKind.i64 a 0 = a := by
  obtain ⟨n, rfl⟩ := Int.eq_ofNat_of_zero_le h0
  have hx : (BitVec.ofInt 64 (n : Int) ^^^ BitVec.ofInt 64 0).toNat = n := by
    have e1 : BitVec.ofInt 64 0 = 0#64 := by decide +kernel
    have e2 : BitVec.ofInt 64 (n : Int) = BitVec.ofNat 64 n := BitVec.ofInt_natCast ..
    rw [e1, e2, BitVec.xor_zero, BitVec.toNat_ofNat]
    omega
  show IntKind.i64.wrap ((BitVec.ofInt 64 (n : Int) ^^^ BitVec.ofInt 64 0).toNat : Int) = _
  rw [hx, wrapI_eq64]
  unfold wrap64
  omega
theorem and1_u64 (u : Nat) (h : u < 18446744073709551616) : bits BinOp.and IntKind.u64 (u : Int) 1 = ((u % 2 : Nat) : Int) := by
  have := u64_and (u : Int) 1 (by omega) (by omega) (by decide) (by decide)
  rw [this]
  have e : ((u : Int).toNat &&& (1 : Int).toNat) = u % 2 := by
    rw [show (1 : Int).toNat = 2 ^ 1 - 1 from rfl, Nat.and_two_pow_sub_one_eq_mod]
    simp
  rw [e]
def zigI (n : Int) : Nat := if 0 ≤ n then (2 * n).toNat else (-2 * n - 1).toNat
def zagI (u : Nat) : Int := if u % 2 = 0 then (u / 2 : Nat) else -((u / 2 : Nat) : Int) - 1
theorem zag_zig (n : Int) : zagI (zigI n) = n := by unfold zagI zigI; split <;> split <;> omega
theorem zig_zag (u : Nat) : zigI (zagI u) = u := by unfold zagI zigI; split <;> split <;> omega
theorem zig_lt {n : Int} (h : -9223372036854775808 ≤ n ∧ n ≤ 9223372036854775807) : zigI n < 18446744073709551616 := by unfold zigI; split <;> omega
theorem zag_fit {u : Nat} (h : u < 18446744073709551616) : -9223372036854775808 ≤ zagI u ∧ zagI u ≤ 9223372036854775807 := by unfold zagI; split <;> omega
theorem zig_any (n : Int) (w : World) (h : -9223372036854775808 ≤ n ∧ n ≤ 9223372036854775807) : Calls Try.prog 54 #[.int .i64 n] w fun e w' => e = .returned (.int .u64 (zigI n : Int)) ∧ w = w' := by
  have key : bits BinOp.xor IntKind.u64 (IntKind.u64.wrap (IntKind.u64.wrap n * 2)) (IntKind.u64.wrap (n / 9223372036854775808)) = (zigI n : Int) := by
    rw [wrapU_mod n, wrapU_mod, wrapU_mod]
    by_cases h0 : 0 ≤ n
    · rw [show n / 9223372036854775808 % 18446744073709551616 = 0 by omega, xor_zero_u64 _ (by omega) (by omega)]
      unfold zigI
      rw [if_pos h0]
      omega
    · rw [show n / 9223372036854775808 % 18446744073709551616 = 18446744073709551615 by omega, not_u64 _ (by omega) (by omega)]
      unfold zigI
      rw [if_neg h0]
      omega
  have HKEY := Lib.hid key
  clear key
  go_enter Try.func54, Try.ntmps54
  go_wp2
  go_ret
  exact ⟨congrArg (fun z => Ending.returned (.int .u64 z)) HKEY.out, rfl⟩
theorem zag_any (u : Nat) (w : World) (h : u < 18446744073709551616) : Calls Try.prog 43 #[.int .u64 (u : Int)] w fun e w' => e = .returned (.int .i64 (zagI u)) ∧ w = w' := by
  have key : bits BinOp.xor IntKind.i64 ((u : Int) / 2) (wrap64 (-wrap64 (bits BinOp.and IntKind.u64 (u : Int) 1))) = zagI u := by
    rw [and1_u64 u h]
    by_cases h0 : u % 2 = 0
    · rw [h0, show wrap64 (-wrap64 ((0 : Nat) : Int)) = 0 by unfold wrap64; omega, xor_zero_i64 _ (by omega) (by omega)]
      unfold zagI
      rw [if_pos h0]
      omega
    · rw [show u % 2 = 1 by omega, show wrap64 (-wrap64 ((1 : Nat) : Int)) = -1 by unfold wrap64; omega, not_i64 _ (by omega) (by omega)]
      unfold zagI
      rw [if_neg h0]
      omega
  have HKEY := Lib.hid key
  clear key
  go_enter Try.func43, Try.ntmps43
  go_wp2
  go_ret
  exact ⟨congrArg (fun z => Ending.returned (.int .i64 z)) HKEY.out, rfl⟩
theorem rzag_any (u : Nat) (w : World) (h : u < 18446744073709551616) : Calls Try.prog 48 #[.int .u64 (u : Int)] w fun e w' => e = .returned (.int .i64 (zagI u)) ∧ w = w' := by
  by_cases h0 : u % 2 = 0
  · have e0 : ((u : Int) % 2 == 0) = true := by simp; omega
    have HZ : Hid (zagI u = (u : Int) / 2) := Lib.hid (by unfold zagI; rw [if_pos h0]; omega)
    clear h0
    go_enter Try.func48, Try.ntmps48
    go_wp2
    go_ret
    exact ⟨congrArg (fun z => Ending.returned (.int .i64 z)) HZ.out.symm, rfl⟩
  · have e0 : ((u : Int) % 2 == 0) = false := by simp; omega
    have HZ : Hid (zagI u = -((u : Int) / 2) - 1) := Lib.hid (by unfold zagI; rw [if_neg h0]; omega)
    clear h0
    go_enter Try.func48, Try.ntmps48
    go_wp2
    go_ret
    exact ⟨congrArg (fun z => Ending.returned (.int .i64 z)) HZ.out.symm, rfl⟩
end Go.Proofs.Ytbghchgmoiniiaa
