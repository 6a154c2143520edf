/-
  The walk of gaugerlaw08.shown. Conditions: none beyond those stated at each theorem.
-/
import Derived.Test.YtcinlcbmjboaaaaLinB
namespace Go.Proofs.Ytcinlcbmjboaaaa
open Go.RowKit
set_option linter.unusedVariables false
set_option linter.unusedSimpArgs false

theorem ints_lit2 (w : World) (x y : Int) (t : TypeId) : IntsAt (w.alloc (.cells #[.int .i64 x, .int .i64 y] t)) (.slice (some ⟨w.heap.size, 0, none⟩) 2 2) [x, y] := by
  refine ⟨_, _, rfl, Nat.le_refl _, fun _ => ⟨_, rfl, by simp, fun i u hu => ?_⟩⟩
  rw [(Blk.new w t #[.int .i64 x, .int .i64 y]).cell i]
  match i, hu with
  | 0, hu => simp at hu; simp [hu]
  | 1, hu => simp at hu; simp [hu]
  | _ + 2, hu => simp at hu
theorem below_alloc1 (w : World) (o : Obj) : Below w.heap.size w (w.alloc o) := (Below.refl _ _).alloc (Nat.le_refl _) _
/-- one change by two columns that fits -/
theorem change_lit (w : World) (G C R W : Nat) (zs zs' : List Int) (x y d : Int) (h : GridIs w G C R W zs) (hm : meetB R W [x, y] = true) (hd : In64 d) (he : changeZ W zs [x, y] d = zs') (hf : ∀ r, r < 2 → In64 (cellD zs (r * W + colN [x, y] r) + d)) :
    Calls Try.prog 26 #[.pointer (some ⟨G, 0, none⟩), .slice (some ⟨w.heap.size, 0, none⟩) 2 2, .int .i64 d] (w.alloc (.cells #[.int .i64 x, .int .i64 y] 3)) fun e w' => e = .returned (.int .i64 0) ∧ GridIs w' G C R W zs' ∧ w.grownBy w' (some C) := by
  have hC := h.ltC
  refine (change_yes _ G C R W zs [x, y] d (.slice (some ⟨w.heap.size, 0, none⟩) 2 2) (h.kept (below_alloc1 _ _)) (ints_lit2 w x y 3) hm hd (by simp [Value.ownBlock]; omega)).mono ?_
  rintro e w' (⟨-, rfl, hg, hgr⟩ | ⟨hno, -⟩)
  · exact ⟨rfl, he ▸ hg, grown_trans (below_grown (below_alloc1 _ _)) hgr⟩
  · exact absurd hf hno

set_option maxRecDepth 100000 in
set_option maxHeartbeats 4000000 in
theorem shown08 (w : World) : Calls Try.prog 14 #[] w fun e w' => e = .returned (.bool true) ∧ Below w.heap.size w w' := by
  have N1 : ∀ w, Calls Try.prog 24 #[.int .i64 2, .int .i64 3] w (NewPost w 2 3) := fun w => new_any 2 3 w
  go_enter Try.func14, Try.ntmps14
  go_wp2_with fail
  refine (N1 w).mono ?_; rintro e w1 ⟨G, C, rfl, hG, hC, hg, hb⟩
  have hg : GridIs w1 G C 2 3 [0, 0, 0, 0, 0, 0] := hg
  have HC : Hid (w.heap.size ≤ C) := Lib.hid hC
  have HB1 := Lib.hid hb
  have G1 := Lib.hid hg
  clear hG hC hg hb N1
  have P := change_lit w1 G C 2 3 _ [5, 0, 0, 0, 5, 0] 0 1 5 G1.out (by decide) (by unfold In64; decide) (by decide) (by intro r hr; have : r = 0 ∨ r = 1 := (by omega); unfold In64; rcases this with rfl | rfl <;> decide)
  go_wp2_with fail
  refine P.mono ?_; clear P; rintro e w2 ⟨rfl, hg, hgr⟩
  have G2 := Lib.hid hg
  have HB2 := Lib.hid (bgr HB1.out hgr HC.out)
  clear hg hgr
  have P := change_lit w2 G C 2 3 _ [12, 0, 0, 0, 5, 7] 0 2 7 G2.out (by decide) (by unfold In64; decide) (by decide) (by intro r hr; have : r = 0 ∨ r = 1 := (by omega); unfold In64; rcases this with rfl | rfl <;> decide)
  go_wp2_with fail
  refine P.mono ?_; clear P; rintro e w3 ⟨rfl, hg, hgr⟩
  have G3 := Lib.hid hg
  have HB3 := Lib.hid (bgr HB2.out hgr HC.out)
  clear hg hgr
  have P := change_no _ G C 2 3 _ [0, 3] 7 _ (G3.out.kept (below_alloc1 _ (.cells #[.int .i64 0, .int .i64 3] 3))) (ints_lit2 w3 0 3 3) (by decide) (by decide)
  go_wp2_with fail
  refine P.mono ?_; clear P; rintro e w4 ⟨rfl, hw⟩
  have G4 : Hid (GridIs w4 G C 2 3 [12, 0, 0, 0, 5, 7]) := Lib.hid (by rw [← hw]; exact G3.out.kept (below_alloc1 _ _))
  have HB4 : Hid (Below w.heap.size w w4) := Lib.hid (by rw [← hw]; exact btr HB3.out (below_alloc1 _ _))
  clear hw
  have P := read_yes _ G C 2 3 _ [0, 1] _ (G4.out.kept (below_alloc1 _ (.cells #[.int .i64 0, .int .i64 1] 3))) (ints_lit2 w4 0 1 3) (by decide)
  go_wp2_with fail
  refine P.mono ?_; clear P; rintro e w5 ⟨g, rfl, -, hrow, hb⟩
  have hb := btr (below_alloc1 _ _) hb
  have G5 := Lib.hid (G4.out.kept hb)
  have HB5 := Lib.hid (btr HB4.out hb)
  have HR5 := Lib.hid hrow
  clear hb hrow
  have P := least_yes _ G C 2 3 _ [0, 1] _ (G5.out.kept (below_alloc1 _ (.cells #[.int .i64 0, .int .i64 1] 3))) (ints_lit2 w5 0 1 3) (by decide)
  go_wp2_with fail
  refine P.mono ?_; clear P; rintro e w6 ⟨u, rfl, hu, hb⟩
  obtain rfl : u = 5 := hu.unique (v := 5) (show IsKth [12, 5] 0 5 by unfold IsKth; decide)
  have hb := btr (below_alloc1 _ _) hb
  have G6 := Lib.hid (G5.out.kept hb)
  have HB6 := Lib.hid (btr HB5.out hb)
  have HR6 := Lib.hid (HR5.out.of_block (hb.block g HR5.out.lt))
  clear hb hu
  have P := middle_yes _ G C 2 3 _ [0, 2] _ (G6.out.kept (below_alloc1 _ (.cells #[.int .i64 0, .int .i64 2] 3))) (ints_lit2 w6 0 2 3) (by decide)
  go_wp2_with fail
  refine P.mono ?_; clear P; rintro e w7 ⟨u, rfl, hu, hb⟩
  obtain rfl : u = 7 := hu.unique (v := 7) (show IsKth [12, 7] 0 7 by unfold IsKth; decide)
  have hb := btr (below_alloc1 _ _) hb
  have HB7 := Lib.hid (btr HB6.out hb)
  have hr7 := HR6.out.of_block (hb.block g HR6.out.lt)
  have c0 : w7.cell? ⟨g, 0, none⟩ = some (.int .i64 12) := hr7.cell (i := 0) (by decide)
  have c1 : w7.cell? ⟨g, 1, none⟩ = some (.int .i64 5) := hr7.cell (i := 1) (by decide)
  clear hb hu hr7
  go_wp2
  go_ret
  exact ⟨rfl, HB7.out⟩
end Go.Proofs.Ytcinlcbmjboaaaa
