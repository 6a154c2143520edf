/-
  The walk of gaugerlaw03's head: it returns true. No condition.
-/
import Derived.Test.YtgcfopallncnlabSdU
namespace Go.Proofs.Ytgcfopallncnlab
open Go.RowKit
set_option linter.unusedVariables false
set_option linter.unusedSimpArgs false
theorem sd1 : (drawI 0 0 == 16294208416658607535) = true := by decide +kernel
theorem sd2 : (drawI 0 1 == 7960286522194355700) = true := by decide +kernel
theorem sd3 : (unmixI 16294208416658607535 == 11400714819323198485) = true := by decide +kernel
theorem sd4 : (mixI 0 == 0) = true := by decide +kernel
theorem sd5 : (pairA 0 0 0 == 153307352162749886) = true := by decide +kernel
theorem sd6 : (pairB 0 0 0 == 1042757494553273847) = true := by decide +kernel
theorem shown03 (w : World) : Calls Try.prog 11 #[] w fun e w' => e = .returned (.bool true) ∧ Below w.heap.size w w' := by
  have f1 := sd1
  have f2 := sd2
  have f3 := sd3
  have f4 := sd4
  have f5 := sd5
  have f6 := sd6
  go_enter Try.func11, Try.ntmps11
  go_wp2_with fail
  refine (pair_any _ _ _ (by omega) (by omega) (by omega) (by omega) (by omega) (by omega) _).mono ?_; rintro e w' ⟨rfl, hb⟩
  go_wp2_with fail
  refine (draw_any _ _ (by omega) (by omega) (by omega) (by omega) _).mono ?_; rintro e w' ⟨rfl, hb'⟩; replace hb := bel_trans hb hb'; clear hb'
  go_wp2_with fail
  refine (draw_any _ _ (by omega) (by omega) (by omega) (by omega) _).mono ?_; rintro e w' ⟨rfl, hb'⟩; replace hb := bel_trans hb hb'; clear hb'
  go_wp2_with fail
  refine (unmix_any _ (by omega) (by omega) _).mono ?_; rintro e w' ⟨rfl, hb'⟩; replace hb := bel_trans hb hb'; clear hb'
  go_wp2_with fail
  refine (mix_any _ (by omega) (by omega) _).mono ?_; rintro e w' ⟨rfl, hb'⟩; replace hb := bel_trans hb hb'; clear hb'
  go_wp2_with fail
  go_ret
  exact ⟨rfl, hb⟩
end Go.Proofs.Ytgcfopallncnlab
