/-
  The walk of gaugerlaw07's head: it returns true. No condition.
-/
import Derived.Test.YtfjhecgicemoeaaShpC
namespace Go.Proofs.Ytfjhecgicemoeaa
open Go.RowKit
set_option linter.unusedVariables false
set_option linter.unusedSimpArgs false
theorem sh_a : rightB 3 2 2 1 = true := by decide +kernel
theorem sh_b : rightB 0 0 0 0 = false := by decide +kernel
theorem sh_c : (keysI 3 2 2 1 1 == 4) = true := by decide +kernel
theorem sh_d : exactB 3 2 2 1 2 = true := by decide +kernel
theorem sh_e : exactB 3 2 2 1 1 = false := by decide +kernel
theorem sh_f : aboveB 3 2 2 1 2 6 = true := by decide +kernel
theorem sh_g : aboveB 3 2 2 1 2 8 = false := by decide +kernel
theorem sh_h : (aboveI 3 2 2 1 2 6 == 1) = true := by decide +kernel
theorem sh_i : 7 < keysI 3 2 2 1 0 := by decide +kernel
theorem sh_j : ¬ 8 < keysI 3 2 2 1 0 := by decide +kernel

theorem shown07 (w : World) : Calls Try.prog 15 #[] w fun e w' => e = .returned (.bool true) ∧ Below w.heap.size w w' := by
  have f1 := sh_a
  have f2 := sh_b
  have f3 := sh_c
  have f4 := sh_d
  have f5 := sh_e
  have f6 := sh_f
  have f7 := sh_g
  have f8 := sh_h
  go_enter Try.func15, Try.ntmps15
  go_wp2_with fail
  refine (above_any 3 2 2 1 5 2 6 (by omega) (by omega) _).mono ?_; rintro e w1 ⟨rfl, hb'⟩
  obtain ⟨hk, hb⟩ := box_kept hb'
  obtain ⟨q0, q1, q2, q3, q4⟩ := box_cells hk
  clear hb'
  go_wp2_with fail
  refine (above_any 3 2 2 1 5 2 8 (by omega) (by omega) _).mono ?_; rintro e w2 ⟨rfl, hb'⟩
  replace hk := hk.kept hb'; clear q0 q1 q2 q3 q4; obtain ⟨q0, q1, q2, q3, q4⟩ := box_cells hk; replace hb := btr hb hb'; clear hb'
  go_wp2_with fail
  refine (cols_any 3 2 1 5 0 7 2 (by omega) (by omega) (by omega) (by omega) sh_i _).mono ?_; rintro e w3 ⟨g, rfl, hg, hrow, hb'⟩
  replace hk := hk.kept hb'; clear q0 q1 q2 q3 q4; obtain ⟨q0, q1, q2, q3, q4⟩ := box_cells hk; replace hb := btr hb hb'; clear hb' hrow
  go_wp2_with fail
  refine (right_any 3 2 2 1 5 _).mono ?_; rintro e w4 ⟨rfl, hb'⟩
  replace hk := hk.kept hb'; clear q0 q1 q2 q3 q4; obtain ⟨q0, q1, q2, q3, q4⟩ := box_cells hk; replace hb := btr hb hb'; clear hb'
  go_wp2_with fail
  refine (right_any 0 0 0 0 0 _).mono ?_; rintro e w5 ⟨rfl, hb'⟩
  replace hk := hk.kept hb'; clear q0 q1 q2 q3 q4; obtain ⟨q0, q1, q2, q3, q4⟩ := box_cells hk; replace hb := btr hb hb'; clear hb'
  go_wp2_with fail
  refine (keys_any 3 2 2 1 5 1 _).mono ?_; rintro e w6 ⟨rfl, hb'⟩
  replace hk := hk.kept hb'; clear q0 q1 q2 q3 q4; obtain ⟨q0, q1, q2, q3, q4⟩ := box_cells hk; replace hb := btr hb hb'; clear hb'
  go_wp2_with fail
  refine (exact_any 3 2 2 1 5 2 _).mono ?_; rintro e w7 ⟨rfl, hb'⟩
  replace hk := hk.kept hb'; clear q0 q1 q2 q3 q4; obtain ⟨q0, q1, q2, q3, q4⟩ := box_cells hk; replace hb := btr hb hb'; clear hb'
  go_wp2_with fail
  refine (exact_any 3 2 2 1 5 1 _).mono ?_; rintro e w8 ⟨rfl, hb'⟩
  replace hk := hk.kept hb'; clear q0 q1 q2 q3 q4; obtain ⟨q0, q1, q2, q3, q4⟩ := box_cells hk; replace hb := btr hb hb'; clear hb'
  go_wp2_with fail
  refine (cols_none 3 2 2 1 5 0 8 sh_j _).mono ?_; rintro e w9 ⟨rfl, hb'⟩
  replace hb := btr hb hb'; clear hb'
  go_wp2_with fail
  go_ret
  exact ⟨rfl, hb⟩
end Go.Proofs.Ytfjhecgicemoeaa
