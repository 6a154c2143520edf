/-
  The walks of gaugerlaw09.shown, sized, plain. Conditions: none beyond those stated at each theorem.
-/
import Derived.Test.YtcinlcbmjboaaaaCon
import Derived.Test.YtcinlcbmjboaaaaLinB
namespace Go.Proofs.Ytcinlcbmjboaaaa
open Go.RowKit
set_option linter.unusedVariables false
set_option linter.unusedSimpArgs false

set_option maxRecDepth 100000 in
theorem sized09 (r c : Int) (l : Value) (w : World) :
    Calls Try.prog 38 #[.agg #[.int .i64 r, .int .i64 c, l]] w fun e w' => e = .returned (.tuple #[.int .i64 (sizeR r : Int), .int .i64 (sizeW c : Int)]) ∧ Below w.heap.size w w' := by
  have HR := Lib.hid (sizeR_bd r).2.2
  have HC := Lib.hid (sizeW_bd c).2.2
  have e1 := and16' r
  have e2 := and16' c
  have t1 : (r % 65536).tmod 5 = r % 65536 % 5 := Int.tmod_eq_emod_of_nonneg (by omega)
  have t2 : (c % 65536).tmod 9 = c % 65536 % 9 := Int.tmod_eq_emod_of_nonneg (by omega)
  have HB := Lib.hid (news1 w (.cells #[.int .i64 r, .int .i64 c, l] 63)).2.1
  have hr0 : 0 ≤ r % 65536 % 5 ∧ r % 65536 % 5 < 5 := by omega
  have hc0 : 0 ≤ c % 65536 % 9 ∧ c % 65536 % 9 < 9 := by omega
  generalize hx : r % 65536 % 5 = x at *
  generalize hy : c % 65536 % 9 = y at *
  clear hx hy
  go_enter Try.func38, Try.ntmps38
  go_wp2_with fail
  go_quiet (fail)
  go_wp2
  go_ret2
  exact ⟨by rw [HR.out, HC.out]; go_num, below_drewN HB.out nq⟩
theorem raise_lit (w : World) (G C R W : Nat) (zs zs' : List Int) (x y d u : Int) (h : GridIs w G C R W zs) (hm : meetB R W [x, y] = true) (hd : In64 d) (hk : IsKth (readZ W zs [x, y]) 0 u) (hd0 : 0 ≤ d) (hs : In64 (u + d)) (he : raiseZ W zs [x, y] (u + d) = zs') :
    Calls Try.prog 36 #[.pointer (some ⟨G, 0, none⟩), .slice (some ⟨w.heap.size, 0, none⟩) 2 2, .int .i64 d] (w.alloc (.cells #[.int .i64 x, .int .i64 y] 3)) fun e w' => e = .returned (.int .i64 0) ∧ GridIs w' G C R W zs' ∧ w.grownBy w' (some C) := by
  have hC := h.ltC
  refine (raise_yes _ G C R W zs [x, y] d (.slice (some ⟨w.heap.size, 0, none⟩) 2 2) (h.kept (below_alloc1 _ _)) (ints_lit2 w x y 3) hm hd (by simp [Value.ownBlock]; omega)).mono ?_
  rintro e w' ⟨u', hu', ⟨hn, -⟩ | ⟨-, hno, -⟩ | ⟨-, -, rfl, hg, hgr⟩⟩
  · omega
  · rw [hu'.unique hk] at hno; exact absurd hs hno
  · rw [hu'.unique hk, he] at hg
    exact ⟨rfl, hg, grown_trans (below_grown (below_alloc1 _ _)) hgr⟩
set_option maxRecDepth 100000 in
set_option maxHeartbeats 4000000 in
theorem shown09 (w : World) : Calls Try.prog 35 #[] w fun e w' => e = .returned (.bool true) ∧ Below w.heap.size w w' := by
  have N1 : ∀ w, Calls Try.prog 24 #[.int .i64 2, .int .i64 3] w (NewPost w 2 3) := fun w => new_any 2 3 w
  go_enter Try.func35, Try.ntmps35
  go_wp2_with fail
  refine (N1 w).mono ?_; rintro e w1 ⟨G, C, rfl, hG, hC, hg, hb⟩
  have hg : GridIs w1 G C 2 3 [0, 0, 0, 0, 0, 0] := hg
  have HC : Hid (w.heap.size ≤ C) := Lib.hid hC
  have HB1 := Lib.hid hb
  have G1 := Lib.hid hg
  clear hG hC hg hb N1
  have P := raise_lit w1 G C 2 3 _ [5, 0, 0, 0, 5, 0] 0 1 5 0 G1.out (by decide) (by unfold In64; decide) (show IsKth [0, 0] 0 0 by unfold IsKth; decide) (by decide) (by unfold In64; decide) (by decide)
  go_wp2_with fail
  refine P.mono ?_; clear P; rintro e w2 ⟨rfl, hg, hgr⟩
  have G2 := Lib.hid hg
  have HB2 := Lib.hid (bgr HB1.out hgr HC.out)
  clear hg hgr
  have P := raise_lit w2 G C 2 3 _ [7, 0, 0, 0, 5, 7] 0 2 7 0 G2.out (by decide) (by unfold In64; decide) (show IsKth [5, 0] 0 0 by unfold IsKth; decide) (by decide) (by unfold In64; decide) (by decide)
  go_wp2_with fail
  refine P.mono ?_; clear P; rintro e w3 ⟨rfl, hg, hgr⟩
  have G3 := Lib.hid hg
  have HB3 := Lib.hid (bgr HB2.out hgr HC.out)
  clear hg hgr
  have hCw := G3.out.ltC
  have P : Calls Try.prog 36 #[.pointer (some ⟨G, 0, none⟩), .slice (some ⟨w3.heap.size, 0, none⟩) 2 2, .int .i64 (-1)] (w3.alloc (.cells #[.int .i64 0, .int .i64 2] 3)) fun e w' => e = .returned (.int .i64 3) ∧ Below w3.heap.size w3 w' := by
    refine (raise_yes _ G C 2 3 _ [0, 2] (-1) _ (G3.out.kept (below_alloc1 _ _)) (ints_lit2 w3 0 2 3) (by decide) (by unfold In64; decide) (by simp [Value.ownBlock]; omega)).mono ?_
    rintro e w' ⟨u', hu', ⟨hn, rfl, hb⟩ | ⟨hn, -⟩ | ⟨hn, -⟩⟩
    · exact ⟨rfl, btr (below_alloc1 _ _) hb⟩
    · omega
    · omega
  go_wp2_with fail
  refine P.mono ?_; clear P; rintro e w4 ⟨rfl, hb⟩
  have G4 := Lib.hid (G3.out.kept hb)
  have HB4 := Lib.hid (btr HB3.out hb)
  clear hb hCw
  have P1 : Calls Try.prog 18 #[.pointer (some ⟨G, 0, none⟩), .int .i64 0, .int .i64 0] w4 (fun e w' => e = .returned (.int .i64 7) ∧ w4 = w') := at_in w4 G C 2 3 0 0 _ G4.out (by decide) (by decide)
  have P2 : Calls Try.prog 18 #[.pointer (some ⟨G, 0, none⟩), .int .i64 1, .int .i64 1] w4 (fun e w' => e = .returned (.int .i64 5) ∧ w4 = w') := at_in w4 G C 2 3 1 1 _ G4.out (by decide) (by decide)
  have P3 : Calls Try.prog 18 #[.pointer (some ⟨G, 0, none⟩), .int .i64 1, .int .i64 2] w4 (fun e w' => e = .returned (.int .i64 7) ∧ w4 = w') := at_in w4 G C 2 3 1 2 _ G4.out (by decide) (by decide)
  go_wp2_with (go_at_call 18; first
    | (with_reducible refine P1.mono ?_; clear P1; rintro e w' ⟨rfl, hw'⟩; subst hw')
    | (with_reducible refine P2.mono ?_; clear P2; rintro e w' ⟨rfl, hw'⟩; subst hw')
    | (with_reducible refine P3.mono ?_; clear P3; rintro e w' ⟨rfl, hw'⟩; subst hw'))
  go_ret
  exact ⟨rfl, HB4.out⟩
end Go.Proofs.Ytcinlcbmjboaaaa
