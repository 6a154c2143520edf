/-
  The walks of package field (program) and gaugerref01 (reference): each function returns what FldB's plain functions say, and leaves the world as it was. Conditions: the arguments fit 64 bits.
-/
import Derived.Test.YtfjhecgicemoeaaFldB
import Derived.Shelf.Bits.Mul64
import Derived.Test.YtfjhecgicemoeaaProg
import Derived.WalkKit
import Derived.ProofKit
import Derived.Lib.Hide
namespace Go.Proofs
open Go.Shelf
def Try.lays264_ren : Go.Shelf.Ren := ⟨fun | 264 => 77 | n => n, fun | 53 => 22 | 46 => 43 | n => n, fun | n => n⟩
theorem Try.lays264 : Go.Proofs.Lays.n264 Try.prog Try.lays264_ren := {
  mixed := by kernel_rfl
  f264 := Try.func77.trans (congrArg some (by kernel_rfl))
  t46 := Try.underlying43
  a46 := Try.isAgg43
  z46 := Try.sizeOf43
  v46 := Try.zeroValue43
  t53 := Try.underlying22
  a53 := Try.isAgg22
  z53 := Try.sizeOf22
  v53 := Try.zeroValue22 }
open Go.RowKit Go.Lib in
theorem Try.bits_Mul64 (x y : Nat) (hx : x < 18446744073709551616) (hy : y < 18446744073709551616) (w : World) :
    Calls Try.prog 77 #[.int .u64 x, .int .u64 y] w fun e w' => e = .returned (.tuple #[.int .u64 ((x * y / 18446744073709551616 : Nat) : Int), .int .u64 ((x * y % 18446744073709551616 : Nat) : Int)]) ∧ w' = w := Any.bits_Mul64 Try.lays264 x y hx hy w
end Go.Proofs
namespace Go.Proofs.Ytfjhecgicemoeaa
open Go.RowKit

theorem ret_u64 {a b : Int} (h : a = b) : Ending.returned (.int .u64 a) = .returned (.int .u64 b) := by rw [h]

theorem fold_any (a : Int) (h0 : 0 ≤ a) (h1 : a ≤ 18446744073709551615) (w : World) :
    Calls Try.prog 76 #[.int .u64 a] w fun e w' => e = .returned (.int .u64 (ffold a)) ∧ w = w' := by
  obtain ⟨hs1, hs2⟩ := fold_step a h0 h1
  have e1 := and_P a h0 h1
  by_cases c : 2305843009213693951 ≤ a % 2305843009213693952 + a / 2305843009213693952
  · have H := Lib.hid (hs1 c)
    clear hs1 hs2
    go_enter Try.func76, Try.ntmps76
    go_wp2
    go_ret
    exact ⟨ret_u64 H.out, rfl⟩
  · have H := Lib.hid (hs2 (by omega))
    clear hs1 hs2
    go_enter Try.func76, Try.ntmps76
    go_wp2
    go_ret
    exact ⟨ret_u64 H.out, rfl⟩

theorem add_any (a b : Int) (h0 : 0 ≤ a) (h1 : a ≤ 18446744073709551615) (g0 : 0 ≤ b) (g1 : b ≤ 18446744073709551615) (w : World) :
    Calls Try.prog 65 #[.int .u64 a, .int .u64 b] w fun e w' => e = .returned (.int .u64 (fadd a b)) ∧ w = w' := by
  obtain ⟨b1, b2⟩ := ffold_bd a
  obtain ⟨b3, b4⟩ := ffold_bd b
  go_enter Try.func65, Try.ntmps65
  go_wp2_with (go_at_call 76; refine (fold_any _ (by omega) (by omega) _).mono ?_; rintro e w' ⟨rfl, rfl⟩)
  go_ret
  exact ⟨ret_u64 (fadd_of a b), rfl⟩

theorem radd_any (a b : Int) (h0 : 0 ≤ a) (h1 : a ≤ 18446744073709551615) (g0 : 0 ≤ b) (g1 : b ≤ 18446744073709551615) (w : World) :
    Calls Try.prog 73 #[.int .u64 a, .int .u64 b] w fun e w' => e = .returned (.int .u64 (fadd a b)) ∧ w = w' := by
  have H : Hid ((a % 2305843009213693951 + b % 2305843009213693951) % 2305843009213693951 = fadd a b) := Lib.hid (by rw [← P_eq, add_l, add_r]; rfl)
  go_enter Try.func73, Try.ntmps73
  go_wp2
  go_ret
  exact ⟨ret_u64 H.out, rfl⟩

theorem mul_any (a b : Int) (h0 : 0 ≤ a) (h1 : a ≤ 18446744073709551615) (g0 : 0 ≤ b) (g1 : b ≤ 18446744073709551615) (w : World) :
    Calls Try.prog 66 #[.int .u64 a, .int .u64 b] w fun e w' => e = .returned (.int .u64 (fmul a b)) ∧ w = w' := by
  obtain ⟨b1, b2⟩ := ffold_bd a
  obtain ⟨b3, b4⟩ := ffold_bd b
  obtain ⟨x, hx⟩ := Int.eq_ofNat_of_zero_le b1
  obtain ⟨y, hy⟩ := Int.eq_ofNat_of_zero_le b3
  have hh := hi_bd x y a b hx.symm hy.symm
  have hl : x * y % 18446744073709551616 < 18446744073709551616 := Nat.mod_lt _ (by omega)
  have H := Lib.hid (fmul_of x y a b hx.symm hy.symm)
  have Ho := or_shift (x * y / 18446744073709551616) (x * y % 18446744073709551616) hh hl
  have Ha := and_P ((x * y % 18446744073709551616 : Nat) : Int) (by omega) (by omega)
  have HX := Lib.hid hx
  have HY := Lib.hid hy
  clear hx hy
  go_enter Try.func66, Try.ntmps66
  go_wp2_with fail
  refine (fold_any a h0 h1 _).mono ?_; rintro e w' ⟨rfl, rfl⟩
  go_wp2_with fail
  refine (fold_any b g0 g1 _).mono ?_; rintro e w' ⟨rfl, rfl⟩
  go_wp2_with fail
  rw [HX.out, HY.out]
  refine (Try.bits_Mul64 x y (by have := HX.out; omega) (by have := HY.out; omega) _).mono ?_
  rintro e w' ⟨rfl, rfl⟩
  generalize x * y / 18446744073709551616 = h at *
  generalize x * y % 18446744073709551616 = l at *
  go_wp2_with fail
  refine (add_any _ _ (by omega) (by omega) (by omega) (by omega) _).mono ?_; rintro e w' ⟨rfl, rfl⟩
  go_wp2_with fail
  go_ret
  exact ⟨ret_u64 H.out, rfl⟩
end Go.Proofs.Ytfjhecgicemoeaa
