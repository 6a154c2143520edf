/-
  The walks of package hash (program) and gaugerref04 (reference). Conditions: the arguments fit their kinds.
-/
import Derived.Test.YtgcfopallncnlabFldL
import Derived.Test.YtgcfopallncnlabHsP
import Derived.Below
import Derived.Outline
import Derived.WalkSmall
import Derived.Deep.QuietTactic
import Derived.BigQuiet
namespace Go.Proofs.Ytgcfopallncnlab
open Go.RowKit
set_option linter.unusedVariables false
set_option linter.unusedSimpArgs false

theorem bel_trans' {w w1 w2 : World} (h : Below w.heap.size w w1) (k : Below w1.heap.size w1 w2) : Below w.heap.size w w2 := h.trans (k.mono h.size)
theorem ret_i64 {a b : Int} (h : a = b) : Ending.returned (.int .i64 a) = .returned (.int .i64 b) := by rw [h]

theorem at_any (a b x : Int) (h0 : 0 ≤ a) (h1 : a ≤ 18446744073709551615) (g0 : 0 ≤ b) (g1 : b ≤ 18446744073709551615) (k0 : 0 ≤ x) (k1 : x ≤ 18446744073709551615) (w : World) :
    Calls Try.prog 27 #[.agg #[.int .u64 a, .int .u64 b], .int .u64 x] w fun e w' => e = .returned (.int .u64 (lineI a b x)) ∧ Below w.heap.size w w' := by
  have b1 := fmul_bd a x
  go_enter Try.func27, Try.ntmps27
  go_wp2_with fail
  go_quiet ((first
    | (go_at_call 24; exact Calls.quiet_of_same ((mul_any _ _ (by omega) (by omega) (by omega) (by omega) _).mono fun e w' ⟨p, q⟩ => ⟨p, q.symm⟩))
    | (go_at_call 22; exact Calls.quiet_of_same ((add_any _ _ (by omega) (by omega) (by omega) (by omega) _).mono fun e w' ⟨p, q⟩ => ⟨p, q.symm⟩))))
  go_wp2
  go_ret
  exact ⟨ret_u64 rfl, below_drewN ((Below.refl _ _).alloc (Nat.le_refl _) _) _⟩

theorem line_any (a b x : Int) (h0 : 0 ≤ a) (h1 : a ≤ 18446744073709551615) (g0 : 0 ≤ b) (g1 : b ≤ 18446744073709551615) (k0 : 0 ≤ x) (k1 : x ≤ 18446744073709551615) (w : World) :
    Calls Try.prog 15 #[.int .u64 a, .int .u64 b, .int .u64 x] w fun e w' => e = .returned (.int .u64 (lineI a b x)) ∧ Below w.heap.size w w' := by
  go_enter Try.func15, Try.ntmps15
  go_wp2_with fail
  refine (at_any a b x h0 h1 g0 g1 k0 k1 _).mono ?_; rintro e w' ⟨rfl, hb⟩
  go_wp2_with fail
  go_ret
  exact ⟨rfl, hb⟩

theorem bucket_any (a b x n : Int) (h0 : 0 ≤ a) (h1 : a ≤ 18446744073709551615) (g0 : 0 ≤ b) (g1 : b ≤ 18446744073709551615) (k0 : 0 ≤ x) (k1 : x ≤ 18446744073709551615) (n0 : 1 ≤ n) (n1 : n ≤ 9223372036854775807) (w : World) :
    Calls Try.prog 17 #[.int .u64 a, .int .u64 b, .int .u64 x, .int .i64 n] w fun e w' => e = .returned (.int .i64 (lineI a b x % n)) ∧ Below w.heap.size w w' := by
  have b1 := lineI_bd a b x
  have m0 : 0 ≤ lineI a b x % n := Int.emod_nonneg _ (by omega)
  have m1 : lineI a b x % n < n := Int.emod_lt_of_pos _ (by omega)
  go_enter Try.func17, Try.ntmps17
  go_wp2_with (go_at_call 27; refine (at_any a b x h0 h1 g0 g1 k0 k1 _).mono ?_; rintro e w' ⟨rfl, hb⟩)
  go_ret
  exact ⟨ret_i64 rfl, hb⟩
theorem bucket_none (a b x n : Int) (n0 : n < 1) (w : World) :
    Calls Try.prog 17 #[.int .u64 a, .int .u64 b, .int .u64 x, .int .i64 n] w fun e w' => e = .returned (.int .i64 (-1)) ∧ w = w' := by
  go_enter Try.func17, Try.ntmps17
  go_wp2
  go_ret
  exact ⟨rfl, rfl⟩

theorem ret3 {a b c d : Int} {t : Bool} (h : a = b) (k : c = d) : Ending.returned (.tuple #[.int .u64 a, .int .u64 c, .bool t]) = .returned (.tuple #[.int .u64 b, .int .u64 d, .bool t]) := by rw [h, k]
theorem through_none (x u y v : Int) (h0 : 0 ≤ x) (h1 : x ≤ 18446744073709551615) (k0 : 0 ≤ y) (k1 : y ≤ 18446744073709551615) (hz : fsub y x = 0) (w : World) :
    Calls Try.prog 19 #[.int .u64 x, .int .u64 u, .int .u64 y, .int .u64 v] w fun e w' => e = .returned (.tuple #[.int .u64 0, .int .u64 0, .bool false]) ∧ w = w' := by
  have e0 : (fsub y x == 0) = true := by simp [hz]
  clear hz
  go_enter Try.func19, Try.ntmps19
  go_wp2_with (first
    | (go_at_call 21; refine (fold_any _ (by omega) (by omega) _).mono ?_; rintro e w' ⟨rfl, rfl⟩)
    | (go_at_call 31; refine (rfold_any _ (by omega) (by omega) _).mono ?_; rintro e w' ⟨rfl, rfl⟩)
    | (go_at_call 22; refine (add_any _ _ (by omega) (by omega) (by omega) (by omega) _).mono ?_; rintro e w' ⟨rfl, rfl⟩)
    | (go_at_call 28; refine (radd_any _ _ (by omega) (by omega) (by omega) (by omega) _).mono ?_; rintro e w' ⟨rfl, rfl⟩)
    | (go_at_call 23; refine (sub_any _ _ (by omega) (by omega) (by omega) (by omega) _).mono ?_; rintro e w' ⟨rfl, rfl⟩)
    | (go_at_call 32; refine (rsub_any _ _ (by omega) (by omega) (by omega) (by omega) _).mono ?_; rintro e w' ⟨rfl, rfl⟩)
    | (go_at_call 24; refine (mul_any _ _ (by omega) (by omega) (by omega) (by omega) _).mono ?_; rintro e w' ⟨rfl, rfl⟩)
    | (go_at_call 29; refine (rmul_any _ _ (by omega) (by omega) (by omega) (by omega) _).mono ?_; rintro e w' ⟨rfl, rfl⟩)
    | (go_at_call 38; refine (pow_any _ _ (by omega) (by omega) (by omega) (by omega) _).mono ?_; rintro e w' ⟨rfl, rfl⟩)
    | (go_at_call 30; refine (inv_any _ (by omega) (by omega) _).mono ?_; rintro e w' ⟨rfl, rfl⟩)
    | (go_at_call 33; refine (rinv_any _ (by omega) (by omega) _).mono ?_; rintro e w' ⟨rfl, rfl⟩)
  )
  go_ret3
  exact ⟨rfl, rfl⟩
theorem through_any (x u y v : Int) (h0 : 0 ≤ x) (h1 : x ≤ 18446744073709551615) (g0 : 0 ≤ u) (g1 : u ≤ 18446744073709551615) (k0 : 0 ≤ y) (k1 : y ≤ 18446744073709551615) (v0 : 0 ≤ v) (v1 : v ≤ 18446744073709551615) (hz : fsub y x ≠ 0) (w : World) :
    Calls Try.prog 19 #[.int .u64 x, .int .u64 u, .int .u64 y, .int .u64 v] w fun e w' => e = .returned (.tuple #[.int .u64 (slopeI x u y v), .int .u64 (baseI x u y v), .bool true]) ∧ w = w' := by
  have e0 : (fsub y x == 0) = false := by simp [hz]
  have b1 := fsub_bd y x
  have b2 := fsub_bd v u
  have b3 := finv_bd (fsub y x)
  have b4 := fmul_bd (fsub v u) (finv (fsub y x))
  have b5 := fmul_bd (fmul (fsub v u) (finv (fsub y x))) x
  clear hz
  go_enter Try.func19, Try.ntmps19
  go_wp2_with (first
    | (go_at_call 21; refine (fold_any _ (by omega) (by omega) _).mono ?_; rintro e w' ⟨rfl, rfl⟩)
    | (go_at_call 31; refine (rfold_any _ (by omega) (by omega) _).mono ?_; rintro e w' ⟨rfl, rfl⟩)
    | (go_at_call 22; refine (add_any _ _ (by omega) (by omega) (by omega) (by omega) _).mono ?_; rintro e w' ⟨rfl, rfl⟩)
    | (go_at_call 28; refine (radd_any _ _ (by omega) (by omega) (by omega) (by omega) _).mono ?_; rintro e w' ⟨rfl, rfl⟩)
    | (go_at_call 23; refine (sub_any _ _ (by omega) (by omega) (by omega) (by omega) _).mono ?_; rintro e w' ⟨rfl, rfl⟩)
    | (go_at_call 32; refine (rsub_any _ _ (by omega) (by omega) (by omega) (by omega) _).mono ?_; rintro e w' ⟨rfl, rfl⟩)
    | (go_at_call 24; refine (mul_any _ _ (by omega) (by omega) (by omega) (by omega) _).mono ?_; rintro e w' ⟨rfl, rfl⟩)
    | (go_at_call 29; refine (rmul_any _ _ (by omega) (by omega) (by omega) (by omega) _).mono ?_; rintro e w' ⟨rfl, rfl⟩)
    | (go_at_call 38; refine (pow_any _ _ (by omega) (by omega) (by omega) (by omega) _).mono ?_; rintro e w' ⟨rfl, rfl⟩)
    | (go_at_call 30; refine (inv_any _ (by omega) (by omega) _).mono ?_; rintro e w' ⟨rfl, rfl⟩)
    | (go_at_call 33; refine (rinv_any _ (by omega) (by omega) _).mono ?_; rintro e w' ⟨rfl, rfl⟩)
  )
  go_ret3
  exact ⟨ret3 rfl rfl, rfl⟩

theorem rline_any (a b x : Int) (h0 : 0 ≤ a) (h1 : a ≤ 18446744073709551615) (g0 : 0 ≤ b) (g1 : b ≤ 18446744073709551615) (k0 : 0 ≤ x) (k1 : x ≤ 18446744073709551615) (w : World) :
    Calls Try.prog 16 #[.int .u64 a, .int .u64 b, .int .u64 x] w fun e w' => e = .returned (.int .u64 (lineI a b x)) ∧ w = w' := by
  have b1 := fmul_bd x a
  have H : Hid (fadd (fmul x a) b = lineI a b x) := Lib.hid (by unfold lineI; rw [fmul_comm])
  go_enter Try.func16, Try.ntmps16
  go_wp2_with (first
    | (go_at_call 21; refine (fold_any _ (by omega) (by omega) _).mono ?_; rintro e w' ⟨rfl, rfl⟩)
    | (go_at_call 31; refine (rfold_any _ (by omega) (by omega) _).mono ?_; rintro e w' ⟨rfl, rfl⟩)
    | (go_at_call 22; refine (add_any _ _ (by omega) (by omega) (by omega) (by omega) _).mono ?_; rintro e w' ⟨rfl, rfl⟩)
    | (go_at_call 28; refine (radd_any _ _ (by omega) (by omega) (by omega) (by omega) _).mono ?_; rintro e w' ⟨rfl, rfl⟩)
    | (go_at_call 23; refine (sub_any _ _ (by omega) (by omega) (by omega) (by omega) _).mono ?_; rintro e w' ⟨rfl, rfl⟩)
    | (go_at_call 32; refine (rsub_any _ _ (by omega) (by omega) (by omega) (by omega) _).mono ?_; rintro e w' ⟨rfl, rfl⟩)
    | (go_at_call 24; refine (mul_any _ _ (by omega) (by omega) (by omega) (by omega) _).mono ?_; rintro e w' ⟨rfl, rfl⟩)
    | (go_at_call 29; refine (rmul_any _ _ (by omega) (by omega) (by omega) (by omega) _).mono ?_; rintro e w' ⟨rfl, rfl⟩)
    | (go_at_call 38; refine (pow_any _ _ (by omega) (by omega) (by omega) (by omega) _).mono ?_; rintro e w' ⟨rfl, rfl⟩)
    | (go_at_call 30; refine (inv_any _ (by omega) (by omega) _).mono ?_; rintro e w' ⟨rfl, rfl⟩)
    | (go_at_call 33; refine (rinv_any _ (by omega) (by omega) _).mono ?_; rintro e w' ⟨rfl, rfl⟩)
  )
  go_ret
  exact ⟨ret_u64 H.out, rfl⟩
theorem rbucket_any (a b x n : Int) (h0 : 0 ≤ a) (h1 : a ≤ 18446744073709551615) (g0 : 0 ≤ b) (g1 : b ≤ 18446744073709551615) (k0 : 0 ≤ x) (k1 : x ≤ 18446744073709551615) (n0 : 1 ≤ n) (n1 : n ≤ 9223372036854775807) (w : World) :
    Calls Try.prog 18 #[.int .u64 a, .int .u64 b, .int .u64 x, .int .i64 n] w fun e w' => e = .returned (.int .i64 (lineI a b x % n)) ∧ w = w' := by
  have b1 := lineI_bd a b x
  have m0 : 0 ≤ lineI a b x % n := Int.emod_nonneg _ (by omega)
  have m1 : lineI a b x % n < n := Int.emod_lt_of_pos _ (by omega)
  go_enter Try.func18, Try.ntmps18
  go_wp2_with (go_at_call 16; refine (rline_any a b x h0 h1 g0 g1 k0 k1 _).mono ?_; rintro e w' ⟨rfl, rfl⟩)
  go_ret
  exact ⟨ret_i64 rfl, rfl⟩
theorem rbucket_none (a b x n : Int) (n0 : n < 1) (w : World) :
    Calls Try.prog 18 #[.int .u64 a, .int .u64 b, .int .u64 x, .int .i64 n] w fun e w' => e = .returned (.int .i64 (-1)) ∧ w = w' := by
  go_enter Try.func18, Try.ntmps18
  go_wp2
  go_ret
  exact ⟨rfl, rfl⟩
theorem rthrough_none (x u y v : Int) (h0 : 0 ≤ x) (h1 : x ≤ 18446744073709551615) (k0 : 0 ≤ y) (k1 : y ≤ 18446744073709551615) (hz : fsub y x = 0) (w : World) :
    Calls Try.prog 20 #[.int .u64 x, .int .u64 u, .int .u64 y, .int .u64 v] w fun e w' => e = .returned (.tuple #[.int .u64 0, .int .u64 0, .bool false]) ∧ w = w' := by
  have e0 : (ffold x == ffold y) = true := by simp [(fsub_zero_iff y x).1 hz]
  clear hz
  go_enter Try.func20, Try.ntmps20
  go_wp2_with (first
    | (go_at_call 21; refine (fold_any _ (by omega) (by omega) _).mono ?_; rintro e w' ⟨rfl, rfl⟩)
    | (go_at_call 31; refine (rfold_any _ (by omega) (by omega) _).mono ?_; rintro e w' ⟨rfl, rfl⟩)
    | (go_at_call 22; refine (add_any _ _ (by omega) (by omega) (by omega) (by omega) _).mono ?_; rintro e w' ⟨rfl, rfl⟩)
    | (go_at_call 28; refine (radd_any _ _ (by omega) (by omega) (by omega) (by omega) _).mono ?_; rintro e w' ⟨rfl, rfl⟩)
    | (go_at_call 23; refine (sub_any _ _ (by omega) (by omega) (by omega) (by omega) _).mono ?_; rintro e w' ⟨rfl, rfl⟩)
    | (go_at_call 32; refine (rsub_any _ _ (by omega) (by omega) (by omega) (by omega) _).mono ?_; rintro e w' ⟨rfl, rfl⟩)
    | (go_at_call 24; refine (mul_any _ _ (by omega) (by omega) (by omega) (by omega) _).mono ?_; rintro e w' ⟨rfl, rfl⟩)
    | (go_at_call 29; refine (rmul_any _ _ (by omega) (by omega) (by omega) (by omega) _).mono ?_; rintro e w' ⟨rfl, rfl⟩)
    | (go_at_call 38; refine (pow_any _ _ (by omega) (by omega) (by omega) (by omega) _).mono ?_; rintro e w' ⟨rfl, rfl⟩)
    | (go_at_call 30; refine (inv_any _ (by omega) (by omega) _).mono ?_; rintro e w' ⟨rfl, rfl⟩)
    | (go_at_call 33; refine (rinv_any _ (by omega) (by omega) _).mono ?_; rintro e w' ⟨rfl, rfl⟩)
  )
  go_ret3
  exact ⟨rfl, rfl⟩
theorem rthrough_any (x u y v : Int) (h0 : 0 ≤ x) (h1 : x ≤ 18446744073709551615) (g0 : 0 ≤ u) (g1 : u ≤ 18446744073709551615) (k0 : 0 ≤ y) (k1 : y ≤ 18446744073709551615) (v0 : 0 ≤ v) (v1 : v ≤ 18446744073709551615) (hz : fsub y x ≠ 0) (w : World) :
    Calls Try.prog 20 #[.int .u64 x, .int .u64 u, .int .u64 y, .int .u64 v] w fun e w' => e = .returned (.tuple #[.int .u64 (slopeI x u y v), .int .u64 (baseI x u y v), .bool true]) ∧ w = w' := by
  have e0 : (ffold x == ffold y) = false := by
    rw [beq_eq_false_iff_ne]; intro e; exact hz ((fsub_zero_iff y x).2 e.symm)
  have b1 := fsub_bd x y
  have b2 := fsub_bd u v
  have b3 := finv_bd (fsub x y)
  have b4 := slopeI_bd x u y v
  have b5 := fmul_bd (slopeI x u y v) y
  have es := slope_other x u y v hz
  have eb := base_other x u y v hz
  clear hz
  go_enter Try.func20, Try.ntmps20
  go_wp2_with (first
    | (go_at_call 21; refine (fold_any _ (by omega) (by omega) _).mono ?_; rintro e w' ⟨rfl, rfl⟩)
    | (go_at_call 31; refine (rfold_any _ (by omega) (by omega) _).mono ?_; rintro e w' ⟨rfl, rfl⟩)
    | (go_at_call 22; refine (add_any _ _ (by omega) (by omega) (by omega) (by omega) _).mono ?_; rintro e w' ⟨rfl, rfl⟩)
    | (go_at_call 28; refine (radd_any _ _ (by omega) (by omega) (by omega) (by omega) _).mono ?_; rintro e w' ⟨rfl, rfl⟩)
    | (go_at_call 23; refine (sub_any _ _ (by omega) (by omega) (by omega) (by omega) _).mono ?_; rintro e w' ⟨rfl, rfl⟩)
    | (go_at_call 32; refine (rsub_any _ _ (by omega) (by omega) (by omega) (by omega) _).mono ?_; rintro e w' ⟨rfl, rfl⟩)
    | (go_at_call 24; refine (mul_any _ _ (by omega) (by omega) (by omega) (by omega) _).mono ?_; rintro e w' ⟨rfl, rfl⟩)
    | (go_at_call 29; refine (rmul_any _ _ (by omega) (by omega) (by omega) (by omega) _).mono ?_; rintro e w' ⟨rfl, rfl⟩)
    | (go_at_call 38; refine (pow_any _ _ (by omega) (by omega) (by omega) (by omega) _).mono ?_; rintro e w' ⟨rfl, rfl⟩)
    | (go_at_call 30; refine (inv_any _ (by omega) (by omega) _).mono ?_; rintro e w' ⟨rfl, rfl⟩)
    | (go_at_call 33; refine (rinv_any _ (by omega) (by omega) _).mono ?_; rintro e w' ⟨rfl, rfl⟩)
  )
  go_ret3
  exact ⟨ret3 rfl rfl, rfl⟩

theorem hs1 : (lineI 2 3 5 == 13) = true := by decide +kernel
theorem hs2 : (lineI 2 3 5 % 4 == 1) = true := by decide +kernel
theorem hs3 : slopeI 1 5 2 7 = 2 := by
  have h : fsub 2 1 ≠ 0 := by decide +kernel
  have := (line_unique 1 5 2 7 2 3 h (by decide +kernel) (by decide +kernel)).1
  rw [← this]; decide +kernel
theorem hs4 : baseI 1 5 2 7 = 3 := by unfold baseI; rw [hs3]; decide +kernel
theorem hs5 : fsub 2 1 ≠ 0 := by decide +kernel
theorem shown04 (w : World) : Calls Try.prog 14 #[] w fun e w' => e = .returned (.bool true) ∧ Below w.heap.size w w' := by
  have f1 := hs1
  have f2 := hs2
  have f3 := hs3
  have f4 := hs4
  have hb := Below.refl w.heap.size w
  go_enter Try.func14, Try.ntmps14
  go_wp2_with fail
  refine (through_any _ _ _ _ (by omega) (by omega) (by omega) (by omega) (by omega) (by omega) (by omega) (by omega) hs5 _).mono ?_; rintro e w' ⟨rfl, rfl⟩
  go_wp2_with fail
  refine (line_any _ _ _ (by omega) (by omega) (by omega) (by omega) (by omega) (by omega) _).mono ?_; rintro e w' ⟨rfl, hb'⟩; replace hb := bel_trans' hb hb'; clear hb'
  go_wp2_with fail
  refine (bucket_any _ _ _ _ (by omega) (by omega) (by omega) (by omega) (by omega) (by omega) (by omega) (by omega) _).mono ?_; rintro e w' ⟨rfl, hb'⟩; replace hb := bel_trans' hb hb'; clear hb'
  go_wp2_with fail
  refine (bucket_none _ _ _ _ (by omega) _).mono ?_; rintro e w' ⟨rfl, rfl⟩
  go_wp2_with fail
  go_ret
  exact ⟨rfl, hb⟩
end Go.Proofs.Ytgcfopallncnlab
