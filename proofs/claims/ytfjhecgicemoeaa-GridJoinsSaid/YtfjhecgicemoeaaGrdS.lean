/-
  The walk of gaugerlaw06.shown. Conditions: none.
-/
import Derived.Test.YtfjhecgicemoeaaGrdK
namespace Go.Proofs.Ytfjhecgicemoeaa
open Go.RowKit
set_option linter.unusedVariables false
set_option linter.unusedSimpArgs false

set_option maxRecDepth 100000 in
set_option maxHeartbeats 4000000 in
theorem shown06 (w : World) : Calls Try.prog 30 #[] w fun e w' => e = .returned (.bool true) ∧ Below w.heap.size w w' := by
  have n1 := new_any 2 3
  have n2 := new_any 3 2
  simp only [clampN, show min (Int.toNat 2) 8 = 2 from rfl, show min (Int.toNat 3) 128 = 3 from rfl, show min (Int.toNat 3) 8 = 3 from rfl, show min (Int.toNat 2) 128 = 2 from rfl] at n1 n2
  have N1 := Lib.hid n1
  have N2 := Lib.hid n2
  clear n1 n2
  go_enter Try.func30, Try.ntmps30
  go_wp2_with fail
  refine (N1.out w).mono ?_; rintro e w1 ⟨G, C, rfl, hG, hC, hg, hb⟩
  have HC : Hid (w.heap.size ≤ C) := Lib.hid hC
  have HB1 := Lib.hid hb
  have G1 := Lib.hid hg
  clear hG hC hg hb
  go_wp2_with fail
  refine (copy_any _ G C 2 3 _ G1.out).mono ?_; rintro e w2 ⟨H, D, rfl, hH, hD, hh, hb⟩
  have HHN : Hid (w1.heap.size ≤ H ∧ w1.heap.size ≤ D) := ⟨hH, hD⟩
  have HD : Hid (w.heap.size ≤ D) := Lib.hid (Nat.le_trans HB1.out.size hD)
  have HN : Hid (G ≠ H ∧ G ≠ D ∧ C ≠ H ∧ C ≠ D) := Lib.hid (by have := G1.out.ltG; have := G1.out.ltC; omega)
  have G2 := Lib.hid (G1.out.kept hb)
  have H2 := Lib.hid hh
  have HB2 := Lib.hid (btr HB1.out hb)
  clear hH hD hh hb
  have P : Calls Try.prog 34 #[.pointer (some ⟨G, 0, none⟩), .int .i64 1, .int .i64 2, .int .i64 7] w2 (fun e w' => e = .returned (.bool true) ∧ w' = w2.setCell ⟨C, 5, none⟩ (.int .i64 7)) := put_in w2 G C 2 3 1 2 7 _ G2.out (by decide) (by decide)
  go_wp2_with fail
  refine P.mono ?_; clear P; rintro e w3 ⟨rfl, hw⟩
  have G3 : Hid (GridIs w3 G C 2 3 [0, 0, 0, 0, 0, 7]) := Lib.hid (by rw [hw]; exact G2.out.set 5 7 (by decide) (by decide))
  have H3 : Hid (GridIs w3 H D 2 3 [0, 0, 0, 0, 0, 0]) := Lib.hid (by rw [hw]; exact H2.out.far HN.out.2.2.1.symm HN.out.2.2.2.symm _)
  have HB3 : Hid (Below w.heap.size w w3) := Lib.hid (by rw [hw]; exact HB2.out.setCell HC.out _)
  clear hw
  have P := put_out w3 G C 2 3 2 0 1 _ G3.out (by decide)
  go_wp2_with fail
  refine P.mono ?_; clear P; rintro e w4 ⟨rfl, rfl⟩
  have P := gplus_yes w4 H D G C 2 3 _ _ H3.out G3.out (by unfold Fit; decide)
  go_wp2_with fail
  refine P.mono ?_; clear P; rintro e w5 ⟨rfl, hh, hgr⟩
  have H5 : Hid (GridIs w5 H D 2 3 [0, 0, 0, 0, 0, 7]) := Lib.hid hh
  have G5 : Hid (GridIs w5 G C 2 3 [0, 0, 0, 0, 0, 7]) := Lib.hid (G3.out.grown hgr (by simpa using HN.out.2.1) (by simpa using HN.out.2.2.2))
  have HB5 := Lib.hid (bgr HB3.out hgr HD.out)
  clear hh hgr
  have P := gplus_yes w5 H D G C 2 3 _ _ H5.out G5.out (by unfold Fit; decide)
  go_wp2_with fail
  refine P.mono ?_; clear P; rintro e w6 ⟨rfl, hh, hgr⟩
  have H6 : Hid (GridIs w6 H D 2 3 [0, 0, 0, 0, 0, 14]) := Lib.hid hh
  have G6 : Hid (GridIs w6 G C 2 3 [0, 0, 0, 0, 0, 7]) := Lib.hid (G5.out.grown hgr (by simpa using HN.out.2.1) (by simpa using HN.out.2.2.2))
  have HB6 := Lib.hid (bgr HB5.out hgr HD.out)
  clear hh hgr
  go_wp2_with fail
  refine (N2.out _).mono ?_; rintro e w7 ⟨K, L, rfl, hK, hL, hk, hb⟩
  have H7 := Lib.hid (H6.out.kept hb)
  have G7 := Lib.hid (G6.out.kept hb)
  have HB7 := Lib.hid (btr HB6.out hb)
  have K7 := Lib.hid hk
  clear hK hL hk hb
  have P := gminus_unlike w7 H D K L 2 3 3 2 _ _ H7.out K7.out (by decide)
  go_wp2_with fail
  refine P.mono ?_; clear P; rintro e w8 ⟨rfl, hb⟩
  have H8 := Lib.hid (H7.out.kept hb)
  have G8 := Lib.hid (G7.out.kept hb)
  have HB8 := Lib.hid (btr HB7.out hb)
  clear hb
  have P1 := rows_any w8 G C 2 3 _ G8.out
  have P2 := width_any w8 G C 2 3 _ G8.out
  have P3 : Calls Try.prog 33 #[.pointer (some ⟨G, 0, none⟩), .int .i64 1, .int .i64 2] w8 (fun e w' => e = .returned (.int .i64 7) ∧ w8 = w') := at_in w8 G C 2 3 1 2 _ G8.out (by decide) (by decide)
  have P4 : Calls Try.prog 33 #[.pointer (some ⟨H, 0, none⟩), .int .i64 1, .int .i64 2] w8 (fun e w' => e = .returned (.int .i64 14) ∧ w8 = w') := at_in w8 H D 2 3 1 2 _ H8.out (by decide) (by decide)
  have P5 := cells_any w8 H D 2 3 _ H8.out
  have HNE := HN.out.1
  go_wp2_with (first
    | (go_at_call 37; refine P1.mono ?_; clear P1; rintro e w' ⟨rfl, rfl⟩)
    | (go_at_call 38; refine P2.mono ?_; clear P2; rintro e w' ⟨rfl, rfl⟩)
    | (go_at_call 33; refine P3.mono ?_; clear P3; rintro e w' ⟨rfl, rfl⟩)
    | (go_at_call 33; refine P4.mono ?_; clear P4; rintro e w' ⟨rfl, rfl⟩)
    | (go_at_call 40; refine P5.mono ?_; clear P5; rintro e w9 ⟨v, rfl, hown, hne, hb⟩; obtain ⟨g, cp, rfl, hg0, hgc, _⟩ := own_row hown hne; have HB9 := Lib.hid (btr HB8.out hb); clear hown hne hb))
  go_ret
  exact ⟨rfl, HB9.out⟩
end Go.Proofs.Ytfjhecgicemoeaa
