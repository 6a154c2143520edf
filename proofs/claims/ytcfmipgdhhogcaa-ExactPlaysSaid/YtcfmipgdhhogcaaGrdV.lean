/-
  The walks of wide.Add, Sub, Sum, Plus, Minus. Conditions: the arguments fit their kinds, and what is asked fits.
-/
import Derived.Test.YtcfmipgdhhogcaaGrdW
namespace Go.Proofs.Ytcfmipgdhhogcaa
open Go.RowKit
set_option linter.unusedVariables false
set_option linter.unusedSimpArgs false

theorem wrap64_of_mod (x : Int) (x0 : -9223372036854775808 ≤ x) (x1 : x ≤ 9223372036854775807) : wrap64 (x % 18446744073709551616) = x := by
  unfold wrap64; omega

set_option maxRecDepth 100000 in
set_option maxHeartbeats 4000000 in
theorem wadd_any (ah al bh bl s l : Int) (a0 : -9223372036854775808 ≤ ah) (a1 : ah ≤ 9223372036854775807) (b0 : -9223372036854775808 ≤ bh) (b1 : bh ≤ 9223372036854775807)
    (al0 : 0 ≤ al) (al1 : al ≤ 18446744073709551615) (bl0 : 0 ≤ bl) (bl1 : bl ≤ 18446744073709551615) (hs : s = ah + bh + (al + bl) / 18446744073709551616) (hl : l = (al + bl) % 18446744073709551616) (s0 : -9223372036854775808 ≤ s) (s1 : s ≤ 9223372036854775807) (w : World) :
    Calls Try.prog 58 #[.agg #[.int .i64 ah, .int .u64 al], .agg #[.int .i64 bh, .int .u64 bl]] w fun e w' => e = .returned (.tuple #[.agg #[.int .i64 s, .int .u64 l], .bool true]) ∧ Below w.heap.size w w' := by
  have k0 : 0 ≤ ((al + bl) / 18446744073709551616) ∧ ((al + bl) / 18446744073709551616) ≤ 1 := by omega
  obtain ⟨k0, k1⟩ := k0
  have A0 := fun w => add64c0 al bl al0 bl0 w
  have U1 : 0 ≤ IntKind.u64.wrap ah ∧ IntKind.u64.wrap ah ≤ 18446744073709551615 := by rw [wrapU_eq]; omega
  have U2 : 0 ≤ IntKind.u64.wrap bh ∧ IntKind.u64.wrap bh ≤ 18446744073709551615 := by rw [wrapU_eq]; omega
  have U3 : IntKind.u64.wrap ah = ah % 18446744073709551616 := wrapU_eq ah
  have U4 : IntKind.u64.wrap bh = bh % 18446744073709551616 := wrapU_eq bh
  rw [← hl] at A0
  generalize ((al + bl) / 18446744073709551616) = c at *
  have A1 := fun w => add64c (IntKind.u64.wrap ah) (IntKind.u64.wrap bh) c U1.1 U2.1 k0 k1 w
  have hq : wrap64 ((IntKind.u64.wrap ah + IntKind.u64.wrap bh + c) % 18446744073709551616) = s := by
    have e : ((IntKind.u64.wrap ah + IntKind.u64.wrap bh + c) % 18446744073709551616) = s % 18446744073709551616 := by rw [U3, U4, hs]; omega
    rw [e]; exact wrap64_of_mod s s0 s1
  generalize ((IntKind.u64.wrap ah + IntKind.u64.wrap bh + c) % 18446744073709551616) = q at *
  generalize (IntKind.u64.wrap ah + IntKind.u64.wrap bh + c) / 18446744073709551616 = q2 at *
  have hsum : (0 ≤ ah → 0 ≤ bh → 0 ≤ s) ∧ (ah < 0 → bh < 0 → s < 0) := ⟨by omega, by omega⟩
  clear al0 al1 bl0 bl1 hl U1 U2 U3 U4 k0 k1 hs
  have key : ∀ (p q r : Bool), decide (ah < 0) = p → decide (bh < 0) = q → decide (s < 0) = r → (p = q → r = p) → Calls Try.prog 58 #[.agg #[.int .i64 ah, .int .u64 al], .agg #[.int .i64 bh, .int .u64 bl]] w fun e w' => e = .returned (.tuple #[.agg #[.int .i64 s, .int .u64 l], .bool true]) ∧ Below w.heap.size w w' := by
    intro p q r D1 D2 D3 hk
    clear a0 a1 b0 b1 s0 s1
    cases p <;> cases q <;> cases r <;> (first | (exfalso; revert hk; decide) | skip) <;> clear hk
    all_goals
      go_enter Try.func58, Try.ntmps58
      go_wp2_with (first | simp only [A0] | simp only [A1])
    all_goals
      refine bodyPost_ret (v := .tuple #[.agg #[.int .i64 s, .int .u64 l], .bool true]) (by simp [results, Try.results58, go_sem]) rfl ⟨rfl, ?_⟩
      exact ((((Below.refl _ _).alloc (Nat.le_refl _) _).alloc (by simp) _).alloc (by simp; omega) _).alloc (by simp; omega) _
  exact key _ _ _ rfl rfl rfl (by by_cases h1 : ah < 0 <;> by_cases h2 : bh < 0 <;> by_cases h3 : s < 0 <;> simp [h1, h2, h3] <;> omega)

set_option maxRecDepth 100000 in
set_option maxHeartbeats 4000000 in
theorem wsub_any (ah al bh bl s l : Int) (a0 : -9223372036854775808 ≤ ah) (a1 : ah ≤ 9223372036854775807) (b0 : -9223372036854775808 ≤ bh) (b1 : bh ≤ 9223372036854775807)
    (al0 : 0 ≤ al) (al1 : al ≤ 18446744073709551615) (bl0 : 0 ≤ bl) (bl1 : bl ≤ 18446744073709551615) (hs : s = ah - bh - bor64 al bl) (hl : l = (al - bl) % 18446744073709551616) (s0 : -9223372036854775808 ≤ s) (s1 : s ≤ 9223372036854775807) (w : World) :
    Calls Try.prog 55 #[.agg #[.int .i64 ah, .int .u64 al], .agg #[.int .i64 bh, .int .u64 bl]] w fun e w' => e = .returned (.tuple #[.agg #[.int .i64 s, .int .u64 l], .bool true]) ∧ Below w.heap.size w w' := by
  have k0 : 0 ≤ (bor64 al bl) ∧ (bor64 al bl) ≤ 1 := by exact bor64_bd al bl
  obtain ⟨k0, k1⟩ := k0
  have A0 := fun w => sub64c0 al bl al0 bl0 (by omega) w
  have U1 : 0 ≤ IntKind.u64.wrap ah ∧ IntKind.u64.wrap ah ≤ 18446744073709551615 := by rw [wrapU_eq]; omega
  have U2 : 0 ≤ IntKind.u64.wrap bh ∧ IntKind.u64.wrap bh ≤ 18446744073709551615 := by rw [wrapU_eq]; omega
  have U3 : IntKind.u64.wrap ah = ah % 18446744073709551616 := wrapU_eq ah
  have U4 : IntKind.u64.wrap bh = bh % 18446744073709551616 := wrapU_eq bh
  rw [← hl] at A0
  generalize (bor64 al bl) = c at *
  have A1 := fun w => sub64c (IntKind.u64.wrap ah) (IntKind.u64.wrap bh) c U1.1 U2.1 (by omega) k0 k1 w
  have hq : wrap64 ((IntKind.u64.wrap ah - IntKind.u64.wrap bh - c) % 18446744073709551616) = s := by
    have e : ((IntKind.u64.wrap ah - IntKind.u64.wrap bh - c) % 18446744073709551616) = s % 18446744073709551616 := by rw [U3, U4, hs]; omega
    rw [e]; exact wrap64_of_mod s s0 s1
  generalize ((IntKind.u64.wrap ah - IntKind.u64.wrap bh - c) % 18446744073709551616) = q at *
  generalize bor64 (IntKind.u64.wrap ah) (IntKind.u64.wrap bh + c) = q2 at *
  have hsum : (0 ≤ ah → bh < 0 → 0 ≤ s) ∧ (ah < 0 → 0 ≤ bh → s < 0) := ⟨by omega, by omega⟩
  clear al0 al1 bl0 bl1 hl U1 U2 U3 U4 k0 k1 hs
  have key : ∀ (p q r : Bool), decide (ah < 0) = p → decide (bh < 0) = q → decide (s < 0) = r → (p = !q → r = p) → Calls Try.prog 55 #[.agg #[.int .i64 ah, .int .u64 al], .agg #[.int .i64 bh, .int .u64 bl]] w fun e w' => e = .returned (.tuple #[.agg #[.int .i64 s, .int .u64 l], .bool true]) ∧ Below w.heap.size w w' := by
    intro p q r D1 D2 D3 hk
    clear a0 a1 b0 b1 s0 s1
    cases p <;> cases q <;> cases r <;> (first | (exfalso; revert hk; decide) | skip) <;> clear hk
    all_goals
      go_enter Try.func55, Try.ntmps55
      go_wp2_with (first | simp only [A0] | simp only [A1])
    all_goals
      refine bodyPost_ret (v := .tuple #[.agg #[.int .i64 s, .int .u64 l], .bool true]) (by simp [results, Try.results55, go_sem]) rfl ⟨rfl, ?_⟩
      exact ((((Below.refl _ _).alloc (Nat.le_refl _) _).alloc (by simp) _).alloc (by simp; omega) _).alloc (by simp; omega) _
  exact key _ _ _ rfl rfl rfl (by by_cases h1 : ah < 0 <;> by_cases h2 : bh < 0 <;> by_cases h3 : s < 0 <;> simp [h1, h2, h3] <;> omega)

end Go.Proofs.Ytcfmipgdhhogcaa
