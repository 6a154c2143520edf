/-
  The walks of package gaugerref03: Mix, Unmix, Draw and Pair (the reference). Conditions: the arguments fit their kinds.
-/
import Derived.Test.YtfjhecgicemoeaaSdB
import Derived.Test.YtfjhecgicemoeaaSdW
namespace Go.Proofs.Ytfjhecgicemoeaa
open Go.RowKit
set_option linter.unusedVariables false
set_option linter.unusedSimpArgs false

theorem shaken_i (z k : Int) (h0 : 0 ≤ z) (h1 : z ≤ 18446744073709551615) (g0 : 22 ≤ k) (g1 : k ≤ 63) (w : World) :
    Calls Try.prog 80 #[.int .u64 z, .int .i64 k] w fun e w' => e = .returned (.int .u64 (nv (sx k.toNat (bv z)))) ∧ w = w' := by
  obtain ⟨K, rfl⟩ := Int.eq_ofNat_of_zero_le (show 0 ≤ k by omega)
  rw [Int.toNat_natCast]
  exact shaken_any z K h0 h1 (by omega) (by omega) w
theorem shaken_c (z k : Int) (x : BitVec 64) (K : Nat) (hz : z = nv x) (hk : k = (K : Int)) (g0 : 22 ≤ K) (g1 : K ≤ 63) (w : World) :
    Calls Try.prog 80 #[.int .u64 z, .int .i64 k] w fun e w' => e = .returned (.int .u64 (nv (sx K x))) ∧ w = w' := by
  subst hz; subst hk
  have := shaken_any (nv x) K (nv_bd x).1 (nv_bd x).2 g0 g1 w
  rw [bv_nv] at this; exact this
theorem times_c (a b : Int) (x y : BitVec 64) (hx : a = nv x) (hy : b = nv y) (w : World) :
    Calls Try.prog 72 #[.int .u64 a, .int .u64 b] w fun e w' => e = .returned (.int .u64 (nv (x * y))) ∧ w = w' := by
  subst hx; subst hy
  have := times_any (nv x) (nv y) (nv_bd x).1 (nv_bd x).2 (nv_bd y).1 (nv_bd y).2 w
  unfold timesI at this
  rw [bv_nv, bv_nv] at this; exact this
theorem rmix_any (a : Int) (h0 : 0 ≤ a) (h1 : a ≤ 18446744073709551615) (w : World) :
    Calls Try.prog 71 #[.int .u64 a] w fun e w' => e = .returned (.int .u64 (mixI a)) ∧ w = w' := by
  have ha : Hid (a = nv (bv a)) := Lib.hid (nv_bv a h0 h1).symm
  go_enter Try.func71, Try.ntmps71
  go_wp2_with fail
  refine (shaken_c _ _ (bv a) 30 ha.out rfl (by omega) (by omega) _).mono ?_; rintro e w' ⟨rfl, rfl⟩
  go_wp2_with fail
  refine (times_c _ _ (sx 30 (bv a)) C1 rfl (by decide) _).mono ?_; rintro e w' ⟨rfl, rfl⟩
  go_wp2_with fail
  refine (shaken_c _ _ (sx 30 (bv a) * C1) 27 rfl rfl (by omega) (by omega) _).mono ?_; rintro e w' ⟨rfl, rfl⟩
  go_wp2_with fail
  refine (times_c _ _ (sx 27 (sx 30 (bv a) * C1)) C2 rfl (by decide) _).mono ?_; rintro e w' ⟨rfl, rfl⟩
  go_wp2_with fail
  refine (shaken_c _ _ (sx 27 (sx 30 (bv a) * C1) * C2) 31 rfl rfl (by omega) (by omega) _).mono ?_; rintro e w' ⟨rfl, rfl⟩
  go_wp2_with fail
  go_ret
  exact ⟨ret_u64s rfl, rfl⟩

theorem rdraw_any (s i : Int) (h0 : 0 ≤ s) (h1 : s ≤ 18446744073709551615) (g0 : 0 ≤ i) (g1 : i ≤ 18446744073709551615) (w : World) :
    Calls Try.prog 62 #[.int .u64 s, .int .u64 i] w fun e w' => e = .returned (.int .u64 (drawI s i)) ∧ w = w' := by
  have hn : Hid (IntKind.u64.wrap (i + 1) = nv (bv i + 1#64)) := Lib.hid (by rw [wrap_bv, bv_add]; rfl)
  have hw : Hid (0 ≤ IntKind.u64.wrap (s + nv ((bv i + 1#64) * G)) ∧ IntKind.u64.wrap (s + nv ((bv i + 1#64) * G)) ≤ 18446744073709551615) := Lib.hid (by rw [wrap_bv]; exact nv_bd _)
  have HE : Hid (mixI (IntKind.u64.wrap (s + nv ((bv i + 1#64) * G))) = drawI s i) := Lib.hid (by
    unfold mixI drawI drawB; rw [bv_wrap, bv_add, bv_nv])
  go_enter Try.func62, Try.ntmps62
  go_wp2_with fail
  refine (times_c _ _ (bv i + 1#64) G hn.out (by decide) _).mono ?_; rintro e w' ⟨rfl, rfl⟩
  go_wp2_with fail
  refine (rmix_any _ hw.out.1 hw.out.2 _).mono ?_; rintro e w' ⟨rfl, rfl⟩
  go_wp2_with fail
  go_ret
  exact ⟨ret_u64s HE.out, rfl⟩

theorem rpair_any (s l r : Int) (h0 : 0 ≤ s) (h1 : s ≤ 18446744073709551615) (l0 : 0 ≤ l) (l1 : l ≤ 59) (r0 : 0 ≤ r) (r1 : r ≤ 7) (w : World) :
    Calls Try.prog 49 #[.int .u64 s, .int .i64 l, .int .i64 r] w fun e w' => e = .returned (.tuple #[.int .u64 (pairA s l r), .int .u64 (pairB s l r)]) ∧ w = w' := by
  have b1 := drawI_bd s (16 * l + 2 * r)
  have b2 := drawI_bd s (16 * l + 2 * r + 1)
  go_enter Try.func49, Try.ntmps49
  go_wp2_with fail
  refine (rdraw_any _ _ h0 h1 (by omega) (by omega) _).mono ?_
  rintro e w' ⟨rfl, rfl⟩
  go_wp2_with fail
  refine (rdraw_any _ _ h0 h1 (by omega) (by omega) _).mono ?_
  rintro e w2 ⟨rfl, rfl⟩
  go_wp2_with fail
  go_ret2
  exact ⟨ret_u64s2 rfl rfl, rfl⟩

theorem rpair_none (s l r : Int) (h : l < 0 ∨ 59 < l ∨ r < 0 ∨ 7 < r) (w : World) :
    Calls Try.prog 49 #[.int .u64 s, .int .i64 l, .int .i64 r] w fun e w' => e = .returned (.tuple #[.int .u64 0, .int .u64 0]) ∧ w = w' := by
  by_cases c1 : l < 0
  · clear h
    go_enter Try.func49, Try.ntmps49
    go_wp2
    go_ret2
    exact ⟨rfl, rfl⟩
  · by_cases c2 : 59 < l
    · clear h
      go_enter Try.func49, Try.ntmps49
      go_wp2
      go_ret2
      exact ⟨rfl, rfl⟩
    · by_cases c3 : r < 0
      · clear h
        go_enter Try.func49, Try.ntmps49
        go_wp2
        go_ret2
        exact ⟨rfl, rfl⟩
      · have c4 : 7 < r := by omega
        clear h
        go_enter Try.func49, Try.ntmps49
        go_wp2
        go_ret2
        exact ⟨rfl, rfl⟩
end Go.Proofs.Ytfjhecgicemoeaa
