/-
  The walk of GridNone. Conditions: none beyond those stated at each theorem.
-/
import Derived.Test.YtfjhecgicemoeaaGrdS
import Derived.Test.YtfjhecgicemoeaaSh
namespace Go.Proofs.Ytfjhecgicemoeaa
open Go.RowKit
set_option linter.unusedVariables false
set_option linter.unusedSimpArgs false

set_option maxRecDepth 100000 in
set_option maxHeartbeats 4000000 in
theorem GridNone_main (r c : Int) (w : World) : Calls Try.prog 14 #[.int .i64 r, .int .i64 c] w fun e w' => e = .returned (.bool true) ∧ Below w.heap.size w w' := by
  have N1 := Lib.hid (new_any r c)
  have b1 := clampN_le r 8
  have b2 := clampN_le c 128
  generalize clampN r 8 = R at *
  generalize clampN c 128 = W at *
  go_enter Try.func14, Try.ntmps14
  go_wp2_with fail
  refine (shown06 w).mono ?_; rintro e w1 ⟨rfl, hb⟩
  have HB1 := Lib.hid hb
  clear hb
  go_wp2_with fail
  refine (N1.out w1).mono ?_; rintro e w2 ⟨G, C, rfl, hG, hC, hg, hb⟩
  have HB2 := Lib.hid (btr HB1.out hb)
  have G2 := Lib.hid hg
  clear hG hC hg hb
  have P1 := gplus_nil w2 G
  go_wp2_with fail
  refine P1.mono ?_; clear P1; rintro e w3 ⟨rfl, hb⟩
  have HB3 := Lib.hid (btr HB2.out hb)
  have G3 := Lib.hid (G2.out.kept hb)
  clear hb
  have P1 := gminus_nil w3 G
  go_wp2_with fail
  refine P1.mono ?_; clear P1; rintro e w4 ⟨rfl, hb⟩
  have HB4 := Lib.hid (btr HB3.out hb)
  have G4 := Lib.hid (G3.out.kept hb)
  clear hb
  have P1 := cells_any w4 G C R W _ G4.out
  go_wp2_with fail
  refine P1.mono ?_; clear P1; rintro e w5 ⟨v, rfl, hown, hne, hb⟩
  obtain ⟨g, cp, rfl, hg0, hgc, _⟩ := own_row hown hne
  have HB5 := Lib.hid (btr HB4.out hb)
  have G5 := Lib.hid (G4.out.kept hb)
  rw [G4.out.len] at hgc ⊢
  clear hown hne hb
  have P1 := rows_any w5 G C R W _ G5.out
  have P2 := width_any w5 G C R W _ G5.out
  have hm : (R : Int) * (W : Int) = ((R * W : Nat) : Int) := by simp
  have hle : R * W ≤ 1024 := Nat.mul_le_mul b1 b2
  generalize R * W = n at *
  go_wp2_with (first
    | (go_at_call 37; refine P1.mono ?_; clear P1; rintro e w' ⟨rfl, rfl⟩)
    | (go_at_call 38; refine P2.mono ?_; clear P2; rintro e w' ⟨rfl, rfl⟩))
  go_ret
  exact ⟨rfl, HB5.out⟩
theorem GridNone_walk (v0 v1 : Value) (w : World) (h0 : (Sh.int .i64).Val w v0) (h1 : (Sh.int .i64).Val w v1) :
    Calls Try.prog 14 #[v0, v1] w fun e w' => e = .returned (.bool true) ∧ Below w.heap.size w w' := by
  obtain ⟨r, rfl, _⟩ := Sh.val_int h0
  obtain ⟨c, rfl, _⟩ := Sh.val_int h1
  exact GridNone_main r c w
end Go.Proofs.Ytfjhecgicemoeaa
