/-
  The walks of the last two statements of layer 3: each returns true. Conditions: the arguments fit their kinds.
-/
import Derived.Test.YtgcfopallncnlabSdS
import Derived.OpenShut
namespace Go.Proofs.Ytgcfopallncnlab
open Go.RowKit Go.ChangeShapes Go.WideShapes Go.ChangeAt
set_option linter.unusedVariables false
set_option linter.unusedSimpArgs false

theorem SeedsShift_walk (a0 a1 a2 : Int) (w0 : (Lit.int .u64 a0).wf = true) (w1 : (Lit.int .u64 a1).wf = true) (w2 : (Lit.int .u64 a2).wf = true) (w : World) :
    Calls Try.prog 4 #[.int .u64 a0, .int .u64 a1, .int .u64 a2] w fun e w' => e = .returned (.bool true) ∧ Below w.heap.size w w' := by
  obtain ⟨h0, h1⟩ := bounds_u64 w0
  obtain ⟨g0, g1⟩ := bounds_u64 w1
  obtain ⟨k0, k1⟩ := bounds_u64 w2
  have q1 : 0 ≤ IntKind.u64.wrap (a0 + IntKind.u64.wrap (a2 * 11400714819323198485)) ∧ IntKind.u64.wrap (a0 + IntKind.u64.wrap (a2 * 11400714819323198485)) ≤ 18446744073709551615 := by rw [wrap_bv]; exact nv_bd _
  have q2 : 0 ≤ IntKind.u64.wrap (a1 + a2) ∧ IntKind.u64.wrap (a1 + a2) ≤ 18446744073709551615 := by rw [wrap_bv]; exact nv_bd _
  have e1 : (drawI (IntKind.u64.wrap (a0 + IntKind.u64.wrap (a2 * 11400714819323198485))) a1 == drawI a0 (IntKind.u64.wrap (a1 + a2))) = true := by
    have : drawI (IntKind.u64.wrap (a0 + IntKind.u64.wrap (a2 * 11400714819323198485))) a1 = drawI a0 (IntKind.u64.wrap (a1 + a2)) := by
      unfold drawI
      rw [bv_wrap, bv_add, bv_wrap, bv_mul, bv_wrap, bv_add]
      exact congrArg nv (draw_shift (bv a0) (bv a1) (bv a2))
    rw [this]; simp
  have Q1 := Lib.hid q1
  have Q2 := Lib.hid q2
  clear q1 q2
  have hb := Below.refl w.heap.size w
  go_enter Try.func4, Try.ntmps4
  go_wp2_with fail
  refine (shown03 _).mono ?_; rintro e w' ⟨rfl, hb'⟩; replace hb := bel_trans hb hb'; clear hb'
  go_wp2_with fail
  refine (draw_any _ _ Q1.out.1 Q1.out.2 g0 g1 _).mono ?_; rintro e w' ⟨rfl, hb'⟩; replace hb := bel_trans hb hb'; clear hb'
  go_wp2_with fail
  refine (draw_any _ _ h0 h1 Q2.out.1 Q2.out.2 _).mono ?_; rintro e w' ⟨rfl, hb'⟩; replace hb := bel_trans hb hb'; clear hb'
  go_wp2_with fail
  go_ret
  exact ⟨rfl, hb⟩

set_option maxRecDepth 100000 in
theorem SeedsRange_w1 (a0 a1 a2 : Int) (c1 : a1 < 0) (w : World) :
    Calls Try.prog 3 #[.int .u64 a0, .int .i64 a1, .int .i64 a2] w fun e w' => e = .returned (.bool true) ∧ Below w.heap.size w w' := by
  have HC := Lib.hid (show a1 < 0 ∨ 59 < a1 ∨ a2 < 0 ∨ 7 < a2 by omega)
  go_enter Try.func3, Try.ntmps3
  go_wp2_with fail
  refine (shown03 _).mono ?_; rintro e w' ⟨rfl, hb⟩
  go_wp2_with fail
  refine (pair_none _ _ _ HC.out _).mono ?_; rintro e w' ⟨rfl, rfl⟩
  go_wp2_with fail
  go_ret
  exact ⟨rfl, hb⟩
set_option maxRecDepth 100000 in
theorem SeedsRange_w2 (a0 a1 a2 : Int) (k0 : ¬ a1 < 0) (c1 : 59 < a1) (w : World) :
    Calls Try.prog 3 #[.int .u64 a0, .int .i64 a1, .int .i64 a2] w fun e w' => e = .returned (.bool true) ∧ Below w.heap.size w w' := by
  have HC := Lib.hid (show a1 < 0 ∨ 59 < a1 ∨ a2 < 0 ∨ 7 < a2 by omega)
  go_enter Try.func3, Try.ntmps3
  go_wp2_with fail
  refine (shown03 _).mono ?_; rintro e w' ⟨rfl, hb⟩
  go_wp2_with fail
  refine (pair_none _ _ _ HC.out _).mono ?_; rintro e w' ⟨rfl, rfl⟩
  go_wp2_with fail
  go_ret
  exact ⟨rfl, hb⟩
set_option maxRecDepth 100000 in
theorem SeedsRange_w3 (a0 a1 a2 : Int) (k0 : ¬ a1 < 0) (k1 : ¬ 59 < a1) (c1 : a2 < 0) (w : World) :
    Calls Try.prog 3 #[.int .u64 a0, .int .i64 a1, .int .i64 a2] w fun e w' => e = .returned (.bool true) ∧ Below w.heap.size w w' := by
  have HC := Lib.hid (show a1 < 0 ∨ 59 < a1 ∨ a2 < 0 ∨ 7 < a2 by omega)
  go_enter Try.func3, Try.ntmps3
  go_wp2_with fail
  refine (shown03 _).mono ?_; rintro e w' ⟨rfl, hb⟩
  go_wp2_with fail
  refine (pair_none _ _ _ HC.out _).mono ?_; rintro e w' ⟨rfl, rfl⟩
  go_wp2_with fail
  go_ret
  exact ⟨rfl, hb⟩
set_option maxRecDepth 100000 in
theorem SeedsRange_w4 (a0 a1 a2 : Int) (k0 : ¬ a1 < 0) (k1 : ¬ 59 < a1) (k2 : ¬ a2 < 0) (c1 : 7 < a2) (w : World) :
    Calls Try.prog 3 #[.int .u64 a0, .int .i64 a1, .int .i64 a2] w fun e w' => e = .returned (.bool true) ∧ Below w.heap.size w w' := by
  have HC := Lib.hid (show a1 < 0 ∨ 59 < a1 ∨ a2 < 0 ∨ 7 < a2 by omega)
  go_enter Try.func3, Try.ntmps3
  go_wp2_with fail
  refine (shown03 _).mono ?_; rintro e w' ⟨rfl, hb⟩
  go_wp2_with fail
  refine (pair_none _ _ _ HC.out _).mono ?_; rintro e w' ⟨rfl, rfl⟩
  go_wp2_with fail
  go_ret
  exact ⟨rfl, hb⟩
set_option maxRecDepth 100000 in
theorem SeedsRange_w5 (a0 a1 a2 : Int) (h0 : 0 ≤ a0) (h1 : a0 ≤ 18446744073709551615) (k1 : 0 ≤ a1) (k2 : a1 ≤ 59) (k3 : 0 ≤ a2) (k4 : a2 ≤ 7) (w : World) :
    Calls Try.prog 3 #[.int .u64 a0, .int .i64 a1, .int .i64 a2] w fun e w' => e = .returned (.bool true) ∧ Below w.heap.size w w' := by
  obtain ⟨b1, b2⟩ := pairA_bd a0 a1 a2
  obtain ⟨b3, b4⟩ := pairB_bd a0 a1 a2
  go_enter Try.func3, Try.ntmps3
  go_wp2_with fail
  refine (shown03 _).mono ?_; rintro e w' ⟨rfl, hb⟩
  go_wp2_with fail
  refine (pair_any _ _ _ h0 h1 k1 k2 k3 k4 _).mono ?_; rintro e w' ⟨rfl, hb'⟩; replace hb := bel_trans hb hb'; clear hb'
  generalize pairA a0 a1 a2 = A at *
  generalize pairB a0 a1 a2 = C at *
  have d1 : decide (C < 2305843009213693951) = true := decide_eq_true (by omega)
  have d2 : decide (A < 2305843009213693951) = true := decide_eq_true (by omega)
  have d3 : decide (1 ≤ A) = true := decide_eq_true (by omega)
  have HA := Lib.hid (And.intro b1 b2)
  have HC := Lib.hid (And.intro b3 b4)
  clear b1 b2 b3 b4
  go_wp2_with fail
  go_ret
  exact ⟨rfl, hb⟩
theorem SeedsRange_walk (a0 a1 a2 : Int) (w0 : (Lit.int .u64 a0).wf = true) (w1 : (Lit.int .i64 a1).wf = true) (w2 : (Lit.int .i64 a2).wf = true) (w : World) :
    Calls Try.prog 3 #[.int .u64 a0, .int .i64 a1, .int .i64 a2] w fun e w' => e = .returned (.bool true) ∧ Below w.heap.size w w' := by
  obtain ⟨h0, h1⟩ := bounds_u64 w0
  by_cases c1 : a1 < 0
  · exact SeedsRange_w1 a0 a1 a2 c1 w
  · by_cases c2 : 59 < a1
    · exact SeedsRange_w2 a0 a1 a2 c1 c2 w
    · by_cases c3 : a2 < 0
      · exact SeedsRange_w3 a0 a1 a2 c1 c2 c3 w
      · by_cases c4 : 7 < a2
        · exact SeedsRange_w4 a0 a1 a2 c1 c2 c3 c4 w
        · exact SeedsRange_w5 a0 a1 a2 h0 h1 (by omega) (by omega) (by omega) (by omega) w
end Go.Proofs.Ytgcfopallncnlab
