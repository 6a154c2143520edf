/-
  The walks of the statements of layer 3 (the first five): each returns true. Conditions: the arguments fit their kinds.
-/
import Derived.Test.YtgcfopallncnlaaSdS
import Derived.Test.YtgcfopallncnlaaSdR
import Derived.OpenShut
namespace Go.Proofs.Ytgcfopallncnlaa
open Go.RowKit Go.ChangeShapes Go.WideShapes Go.ChangeAt
set_option linter.unusedVariables false
set_option linter.unusedSimpArgs false

theorem SeedsMix_walk (a0 : Int) (w0 : (Lit.int .u64 a0).wf = true) (w : World) :
    Calls Try.prog 10 #[.int .u64 a0] w fun e w' => e = .returned (.bool true) ∧ Below w.heap.size w w' := by
  obtain ⟨h0, h1⟩ := bounds_u64 w0
  have hb := Below.refl w.heap.size w
  go_enter Try.func10, Try.ntmps10
  go_wp2_with (first
    | (go_at_call 28; refine (shown03 _).mono ?_; rintro e w' ⟨rfl, hb'⟩; replace hb := bel_trans hb hb'; clear hb')
    | (go_at_call 29; refine (mix_any _ (by omega) (by omega) _).mono ?_; rintro e w' ⟨rfl, hb'⟩; replace hb := bel_trans hb hb'; clear hb')
    | (go_at_call 31; refine (unmix_any _ (by omega) (by omega) _).mono ?_; rintro e w' ⟨rfl, hb'⟩; replace hb := bel_trans hb hb'; clear hb')
    | (go_at_call 33; refine (draw_any _ _ (by omega) (by omega) (by omega) (by omega) _).mono ?_; rintro e w' ⟨rfl, hb'⟩; replace hb := bel_trans hb hb'; clear hb')
    | (go_at_call 35; refine (pair_any _ _ _ (by omega) (by omega) (by omega) (by omega) (by omega) (by omega) _).mono ?_; rintro e w' ⟨rfl, hb'⟩; replace hb := bel_trans hb hb'; clear hb')
    | (go_at_call 35; refine (pair_none _ _ _ (by omega) _).mono ?_; rintro e w' ⟨rfl, rfl⟩)
    | (go_at_call 30; refine (rmix_any _ (by omega) (by omega) _).mono ?_; rintro e w' ⟨rfl, rfl⟩)
    | (go_at_call 32; refine (runmix_any _ (by omega) (by omega) _).mono ?_; rintro e w' ⟨rfl, rfl⟩)
    | (go_at_call 34; refine (rdraw_any _ _ (by omega) (by omega) (by omega) (by omega) _).mono ?_; rintro e w' ⟨rfl, rfl⟩)
    | (go_at_call 36; refine (rpair_any _ _ _ (by omega) (by omega) (by omega) (by omega) (by omega) (by omega) _).mono ?_; rintro e w' ⟨rfl, rfl⟩)
    | (go_at_call 36; refine (rpair_none _ _ _ (by omega) _).mono ?_; rintro e w' ⟨rfl, rfl⟩)
  )
  go_ret
  exact ⟨rfl, hb⟩

theorem SeedsDraw_walk (a0 a1 : Int) (w0 : (Lit.int .u64 a0).wf = true) (w1 : (Lit.int .u64 a1).wf = true) (w : World) :
    Calls Try.prog 11 #[.int .u64 a0, .int .u64 a1] w fun e w' => e = .returned (.bool true) ∧ Below w.heap.size w w' := by
  obtain ⟨h0, h1⟩ := bounds_u64 w0
  obtain ⟨g0, g1⟩ := bounds_u64 w1
  have hb := Below.refl w.heap.size w
  go_enter Try.func11, Try.ntmps11
  go_wp2_with (first
    | (go_at_call 28; refine (shown03 _).mono ?_; rintro e w' ⟨rfl, hb'⟩; replace hb := bel_trans hb hb'; clear hb')
    | (go_at_call 29; refine (mix_any _ (by omega) (by omega) _).mono ?_; rintro e w' ⟨rfl, hb'⟩; replace hb := bel_trans hb hb'; clear hb')
    | (go_at_call 31; refine (unmix_any _ (by omega) (by omega) _).mono ?_; rintro e w' ⟨rfl, hb'⟩; replace hb := bel_trans hb hb'; clear hb')
    | (go_at_call 33; refine (draw_any _ _ (by omega) (by omega) (by omega) (by omega) _).mono ?_; rintro e w' ⟨rfl, hb'⟩; replace hb := bel_trans hb hb'; clear hb')
    | (go_at_call 35; refine (pair_any _ _ _ (by omega) (by omega) (by omega) (by omega) (by omega) (by omega) _).mono ?_; rintro e w' ⟨rfl, hb'⟩; replace hb := bel_trans hb hb'; clear hb')
    | (go_at_call 35; refine (pair_none _ _ _ (by omega) _).mono ?_; rintro e w' ⟨rfl, rfl⟩)
    | (go_at_call 30; refine (rmix_any _ (by omega) (by omega) _).mono ?_; rintro e w' ⟨rfl, rfl⟩)
    | (go_at_call 32; refine (runmix_any _ (by omega) (by omega) _).mono ?_; rintro e w' ⟨rfl, rfl⟩)
    | (go_at_call 34; refine (rdraw_any _ _ (by omega) (by omega) (by omega) (by omega) _).mono ?_; rintro e w' ⟨rfl, rfl⟩)
    | (go_at_call 36; refine (rpair_any _ _ _ (by omega) (by omega) (by omega) (by omega) (by omega) (by omega) _).mono ?_; rintro e w' ⟨rfl, rfl⟩)
    | (go_at_call 36; refine (rpair_none _ _ _ (by omega) _).mono ?_; rintro e w' ⟨rfl, rfl⟩)
  )
  go_ret
  exact ⟨rfl, hb⟩

theorem SeedsPair_walk (a0 a1 a2 : Int) (w0 : (Lit.int .u64 a0).wf = true) (w1 : (Lit.int .i64 a1).wf = true) (w2 : (Lit.int .i64 a2).wf = true) (w : World) :
    Calls Try.prog 12 #[.int .u64 a0, .int .i64 a1, .int .i64 a2] w fun e w' => e = .returned (.bool true) ∧ Below w.heap.size w w' := by
  obtain ⟨h0, h1⟩ := bounds_u64 w0
  have hb := Below.refl w.heap.size w
  by_cases c : a1 < 0 ∨ 59 < a1 ∨ a2 < 0 ∨ 7 < a2
  · have HC := Lib.hid c
    clear c
    go_enter Try.func12, Try.ntmps12
    go_wp2_with fail
    refine (shown03 _).mono ?_; rintro e w' ⟨rfl, hb'⟩; replace hb := bel_trans hb hb'; clear hb'
    go_wp2_with fail
    refine (pair_none _ _ _ HC.out _).mono ?_; rintro e w' ⟨rfl, rfl⟩
    go_wp2_with fail
    refine (rpair_none _ _ _ HC.out _).mono ?_; rintro e w' ⟨rfl, rfl⟩
    go_wp2_with fail
    go_ret
    exact ⟨rfl, hb⟩
  · obtain ⟨k1, k2, k3, k4⟩ : 0 ≤ a1 ∧ a1 ≤ 59 ∧ 0 ≤ a2 ∧ a2 ≤ 7 := by omega
    clear c
    go_enter Try.func12, Try.ntmps12
    go_wp2_with fail
    refine (shown03 _).mono ?_; rintro e w' ⟨rfl, hb'⟩; replace hb := bel_trans hb hb'; clear hb'
    go_wp2_with fail
    refine (pair_any _ _ _ h0 h1 k1 k2 k3 k4 _).mono ?_; rintro e w' ⟨rfl, hb'⟩; replace hb := bel_trans hb hb'; clear hb'
    go_wp2_with fail
    refine (rpair_any _ _ _ h0 h1 k1 k2 k3 k4 _).mono ?_; rintro e w' ⟨rfl, rfl⟩
    go_wp2_with fail
    go_ret
    exact ⟨rfl, hb⟩

theorem SeedsBack_walk (a0 : Int) (w0 : (Lit.int .u64 a0).wf = true) (w : World) :
    Calls Try.prog 13 #[.int .u64 a0] w fun e w' => e = .returned (.bool true) ∧ Below w.heap.size w w' := by
  obtain ⟨h0, h1⟩ := bounds_u64 w0
  have hb := Below.refl w.heap.size w
  have b1 := mixI_bd a0
  have b2 := unmixI_bd a0
  have e1 : (unmixI (mixI a0) == a0) = true := by
    unfold unmixI mixI; rw [bv_nv, unmix_mix, nv_bv _ h0 h1]; simp
  have e2 : (mixI (unmixI a0) == a0) = true := by
    unfold unmixI mixI; rw [bv_nv, mix_unmix, nv_bv _ h0 h1]; simp
  go_enter Try.func13, Try.ntmps13
  go_wp2_with (first
    | (go_at_call 28; refine (shown03 _).mono ?_; rintro e w' ⟨rfl, hb'⟩; replace hb := bel_trans hb hb'; clear hb')
    | (go_at_call 29; refine (mix_any _ (by omega) (by omega) _).mono ?_; rintro e w' ⟨rfl, hb'⟩; replace hb := bel_trans hb hb'; clear hb')
    | (go_at_call 31; refine (unmix_any _ (by omega) (by omega) _).mono ?_; rintro e w' ⟨rfl, hb'⟩; replace hb := bel_trans hb hb'; clear hb')
    | (go_at_call 33; refine (draw_any _ _ (by omega) (by omega) (by omega) (by omega) _).mono ?_; rintro e w' ⟨rfl, hb'⟩; replace hb := bel_trans hb hb'; clear hb')
    | (go_at_call 35; refine (pair_any _ _ _ (by omega) (by omega) (by omega) (by omega) (by omega) (by omega) _).mono ?_; rintro e w' ⟨rfl, hb'⟩; replace hb := bel_trans hb hb'; clear hb')
    | (go_at_call 35; refine (pair_none _ _ _ (by omega) _).mono ?_; rintro e w' ⟨rfl, rfl⟩)
    | (go_at_call 30; refine (rmix_any _ (by omega) (by omega) _).mono ?_; rintro e w' ⟨rfl, rfl⟩)
    | (go_at_call 32; refine (runmix_any _ (by omega) (by omega) _).mono ?_; rintro e w' ⟨rfl, rfl⟩)
    | (go_at_call 34; refine (rdraw_any _ _ (by omega) (by omega) (by omega) (by omega) _).mono ?_; rintro e w' ⟨rfl, rfl⟩)
    | (go_at_call 36; refine (rpair_any _ _ _ (by omega) (by omega) (by omega) (by omega) (by omega) (by omega) _).mono ?_; rintro e w' ⟨rfl, rfl⟩)
    | (go_at_call 36; refine (rpair_none _ _ _ (by omega) _).mono ?_; rintro e w' ⟨rfl, rfl⟩)
  )
  go_ret
  exact ⟨rfl, hb⟩

theorem bv_inj {a b : Int} (h0 : 0 ≤ a) (h1 : a ≤ 18446744073709551615) (g0 : 0 ≤ b) (g1 : b ≤ 18446744073709551615) (h : bv a = bv b) : a = b := by
  rw [← nv_bv a h0 h1, ← nv_bv b g0 g1, h]

theorem SeedsUnlike_walk (a0 a1 a2 : Int) (w0 : (Lit.int .u64 a0).wf = true) (w1 : (Lit.int .u64 a1).wf = true) (w2 : (Lit.int .u64 a2).wf = true) (w : World) :
    Calls Try.prog 14 #[.int .u64 a0, .int .u64 a1, .int .u64 a2] w fun e w' => e = .returned (.bool true) ∧ Below w.heap.size w w' := by
  obtain ⟨h0, h1⟩ := bounds_u64 w0
  obtain ⟨g0, g1⟩ := bounds_u64 w1
  obtain ⟨k0, k1⟩ := bounds_u64 w2
  have hb := Below.refl w.heap.size w
  by_cases c : a0 = a1
  · subst c
    go_enter Try.func14, Try.ntmps14
    go_wp2_with (first
    | (go_at_call 28; refine (shown03 _).mono ?_; rintro e w' ⟨rfl, hb'⟩; replace hb := bel_trans hb hb'; clear hb')
    | (go_at_call 29; refine (mix_any _ (by omega) (by omega) _).mono ?_; rintro e w' ⟨rfl, hb'⟩; replace hb := bel_trans hb hb'; clear hb')
    | (go_at_call 31; refine (unmix_any _ (by omega) (by omega) _).mono ?_; rintro e w' ⟨rfl, hb'⟩; replace hb := bel_trans hb hb'; clear hb')
    | (go_at_call 33; refine (draw_any _ _ (by omega) (by omega) (by omega) (by omega) _).mono ?_; rintro e w' ⟨rfl, hb'⟩; replace hb := bel_trans hb hb'; clear hb')
    | (go_at_call 35; refine (pair_any _ _ _ (by omega) (by omega) (by omega) (by omega) (by omega) (by omega) _).mono ?_; rintro e w' ⟨rfl, hb'⟩; replace hb := bel_trans hb hb'; clear hb')
    | (go_at_call 35; refine (pair_none _ _ _ (by omega) _).mono ?_; rintro e w' ⟨rfl, rfl⟩)
    | (go_at_call 30; refine (rmix_any _ (by omega) (by omega) _).mono ?_; rintro e w' ⟨rfl, rfl⟩)
    | (go_at_call 32; refine (runmix_any _ (by omega) (by omega) _).mono ?_; rintro e w' ⟨rfl, rfl⟩)
    | (go_at_call 34; refine (rdraw_any _ _ (by omega) (by omega) (by omega) (by omega) _).mono ?_; rintro e w' ⟨rfl, rfl⟩)
    | (go_at_call 36; refine (rpair_any _ _ _ (by omega) (by omega) (by omega) (by omega) (by omega) (by omega) _).mono ?_; rintro e w' ⟨rfl, rfl⟩)
    | (go_at_call 36; refine (rpair_none _ _ _ (by omega) _).mono ?_; rintro e w' ⟨rfl, rfl⟩)
  )
    go_ret
    exact ⟨rfl, hb⟩
  · have e0 : (a0 == a1) = false := by simp [c]
    have e1 : (mixI a0 == mixI a1) = false := by
      rw [beq_eq_false_iff_ne]; intro h; exact c (bv_inj h0 h1 g0 g1 (mix_inj (nv_inj h)))
    have e2 : (drawI a2 a0 == drawI a2 a1) = false := by
      rw [beq_eq_false_iff_ne]; intro h; exact c (bv_inj h0 h1 g0 g1 (draw_i (nv_inj h)))
    have e3 : (drawI a0 a2 == drawI a1 a2) = false := by
      rw [beq_eq_false_iff_ne]; intro h; exact c (bv_inj h0 h1 g0 g1 (draw_s (nv_inj h)))
    clear c
    go_enter Try.func14, Try.ntmps14
    go_wp2_with (first
    | (go_at_call 28; refine (shown03 _).mono ?_; rintro e w' ⟨rfl, hb'⟩; replace hb := bel_trans hb hb'; clear hb')
    | (go_at_call 29; refine (mix_any _ (by omega) (by omega) _).mono ?_; rintro e w' ⟨rfl, hb'⟩; replace hb := bel_trans hb hb'; clear hb')
    | (go_at_call 31; refine (unmix_any _ (by omega) (by omega) _).mono ?_; rintro e w' ⟨rfl, hb'⟩; replace hb := bel_trans hb hb'; clear hb')
    | (go_at_call 33; refine (draw_any _ _ (by omega) (by omega) (by omega) (by omega) _).mono ?_; rintro e w' ⟨rfl, hb'⟩; replace hb := bel_trans hb hb'; clear hb')
    | (go_at_call 35; refine (pair_any _ _ _ (by omega) (by omega) (by omega) (by omega) (by omega) (by omega) _).mono ?_; rintro e w' ⟨rfl, hb'⟩; replace hb := bel_trans hb hb'; clear hb')
    | (go_at_call 35; refine (pair_none _ _ _ (by omega) _).mono ?_; rintro e w' ⟨rfl, rfl⟩)
    | (go_at_call 30; refine (rmix_any _ (by omega) (by omega) _).mono ?_; rintro e w' ⟨rfl, rfl⟩)
    | (go_at_call 32; refine (runmix_any _ (by omega) (by omega) _).mono ?_; rintro e w' ⟨rfl, rfl⟩)
    | (go_at_call 34; refine (rdraw_any _ _ (by omega) (by omega) (by omega) (by omega) _).mono ?_; rintro e w' ⟨rfl, rfl⟩)
    | (go_at_call 36; refine (rpair_any _ _ _ (by omega) (by omega) (by omega) (by omega) (by omega) (by omega) _).mono ?_; rintro e w' ⟨rfl, rfl⟩)
    | (go_at_call 36; refine (rpair_none _ _ _ (by omega) _).mono ?_; rintro e w' ⟨rfl, rfl⟩)
  )
    go_ret
    exact ⟨rfl, hb⟩
end Go.Proofs.Ytgcfopallncnlaa
