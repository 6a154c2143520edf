import Derived.Test.YtfeficdndjiijaaGreatDoorQwg
import Derived.RangeFuncNested
import Derived.RangeFuncBound
import Derived.RangeFuncCalls
import Derived.RangeFuncLeaves
import Derived.RangeFuncWrites
import Derived.Shelf.Abstract
import Derived.Shelf.RegionOpen
import Derived.WalkKit
import Derived.OwnWalkIn
import Derived.TacticsInMore
import Derived.LoopNIn
import Derived.LoopIn
import Derived.Deep.RegionHeld3
import Derived.StillTailTactics
import Derived.Test.YtfeficdndjiijaaGreatDoorQwa
import Derived.Test.YtfeficdndjiijaaGreatDoorQwd
/-
  Contracts of the functions that TopWire reaches, and the plain laws that it leans on. Conditions: none beyond those stated at each theorem.
-/
namespace Go.Proofs.YtfeficdndjiijaaGreatDoor
open Go.RowKit Go.Maps
set_option linter.unusedVariables false
set_option linter.unusedSimpArgs false

set_option maxRecDepth 100000 in
set_option maxHeartbeats 4000000 in
theorem agg_range (w : World) (A b n : Nat) (T : Nat → Option Nat × Option Nat) (x0 x1 x2 : Int) (S g : Nat) (lo hi m : Int) (hlo : IntKind.u64.wrap x1 = lo) (hhi : IntKind.u64.wrap x2 = hi) (hA : AggIs w A b n T) (h1 : 1 ≤ x0) (h2 : x0 ≤ (n : Int)) (hn : n ≤ 100) (hT : T x0.toNat = (some S, none)) (hg : w.rowIs g 2 3 (fun j => .int .i64 (cellD [x0, x1, x2] j)))
  (hU : ∀ w1, Below w.heap.size w w1 → Calls Tryz.prog 95 #[.pointer (some ⟨S, 0, none⟩), .int .u64 lo, .int .u64 hi] w1 fun e w' => e = .returned (.tuple #[.int .i64 m, .int .i64 0]) ∧ Below w1.heap.size w1 w') :
  Calls Tryz.prog 51 #[.pointer (some ⟨A, 0, none⟩), .agg #[.string (sB [114, 97, 110, 103, 101]), .int .i64 x0, .slice (some ⟨g, 1, none⟩) 2 2]] w fun e w' => e = .returned (.tuple #[.iface 137 (.agg #[.int .i64 m]), .int .i64 0]) ∧ Below w.heap.size w w' := by
 have HA := Lib.hid hA
 have HH := Lib.hid (And.intro h1 (And.intro h2 hn))
 have HT := Lib.hid hT
 have HU := Lib.hid hU
 have PN := Lib.hid num_ok
 have PS := Lib.hid (thstackP S)
 have hvl := sB_list [114, 97, 110, 103, 101]
 obtain ⟨V, hV⟩ : ∃ V, V = sB [114, 97, 110, 103, 101] := ⟨_, rfl⟩
 rw [← hV] at hvl ⊢
 have hb1 : Below w.heap.size w (w.alloc (.cells #[.string V, .int .i64 x0, .slice (some ⟨g, 1, none⟩) 2 2] 123)) := (Below.refl _ w).alloc (Nat.le_refl _) _
 have HX1 := Lib.hid (Blk.new w 123 #[.string V, .int .i64 x0, .slice (some ⟨g, 1, none⟩) 2 2])
 have HA1 := Lib.hid (hA.kept hb1)
 have HB1 := Lib.hid hb1
 have HG := Lib.hid hg
 clear hA h1 h2 hn hT hU hb1 hV hg
 go_enter Tryz.func51, Tryz.ntmps51
 go_wp2_with fail
 generalize (w.alloc (.cells #[.string V, .int .i64 x0, .slice (some ⟨g, 1, none⟩) 2 2] 123)) = w1 at *
 generalize hX : w.heap.size = X at *
 have HXX := Lib.hid hX
 clear hX
 have HXW : Hid (X ≤ w1.heap.size) := Lib.hid (Nat.le_of_lt HX1.out.lt)
 refine wp_region_held_drew (S := fun w' => Below w1.heap.size w1 w') (by kernel_rfl) (by exact below_drewN (Below.refl _ _) 1) (fun hHeld => ?_)
 refine tkH (i := 0) (v := ?_) rfl (by kernel_rfl) (fun _ _ _ h => h) (Or.inl ⟨by rfl, ?_⟩) (by assumption) ?_
 rotate_left
 ·intro w hSw
  try dsimp only at hSw
  go_simp
  try with_reducible rfl
 simp only [Act.put, z1, z2, z3, z4, z5, z6]
 refine tkH (i := 1) (v := ?_) rfl (by kernel_rfl) (fun _ _ _ h => h) (Or.inl ⟨by rfl, ?_⟩) (by assumption) ?_
 rotate_left
 ·intro w hSw
  try dsimp only at hSw
  go_simp
  try with_reducible rfl
 simp only [Act.put, z1, z2, z3, z4, z5, z6]
 refine tkH (i := 2) (v := ?_) rfl (by kernel_rfl) (fun _ _ _ h => h) (Or.inl ⟨by rfl, ?_⟩) (by assumption) ?_
 rotate_left
 ·intro w hSw
  try dsimp only at hSw
  go_simp
  try with_reducible rfl
 simp only [Act.put, z1, z2, z3, z4, z5, z6]
 refine tkH (i := 3) (v := ?_) rfl (by kernel_rfl) (fun _ _ _ h => h) (Or.inl ⟨by rfl, ?_⟩) (by assumption) ?_
 rotate_left
 ·intro w hSw
  have q0 := (HA1.out.kept hSw).1.cell 0
  have q1 := (HX1.out.kept hSw).cell 1
  have hlk := (HA1.out.kept hSw).look x0 HH.out.1 HH.out.2.1 HH.out.2.2
  rw [HT.out] at hlk
  simp at q0 q1
  go_simp
  try with_reducible rfl
 simp only [Act.put, z1, z2, z3, z4, z5, z6]
 refine tkH (i := 4) (v := ?_) rfl (by kernel_rfl) (fun _ _ _ h => h) (Or.inl ⟨by rfl, ?_⟩) (by assumption) ?_
 rotate_left
 ·intro w hSw
  try dsimp only at hSw
  go_simp
  try with_reducible rfl
 simp only [Act.put, z1, z2, z3, z4, z5, z6]
 refine tkH (i := 5) (v := ?_) rfl (by kernel_rfl) (fun _ _ _ h => h) (Or.inl ⟨by rfl, ?_⟩) (by assumption) ?_
 rotate_left
 ·intro w hSw
  have q0 := (HA1.out.kept hSw).1.cell 0
  have q1 := (HX1.out.kept hSw).cell 1
  have hlk := (HA1.out.kept hSw).look x0 HH.out.1 HH.out.2.1 HH.out.2.2
  rw [HT.out] at hlk
  simp at q0 q1
  go_simp
  try with_reducible rfl
 simp only [Act.put, z1, z2, z3, z4, z5, z6]
 refine tkH (i := 6) (v := ?_) rfl (by kernel_rfl) (fun _ _ _ h => h) (Or.inl ⟨by rfl, ?_⟩) (by assumption) ?_
 rotate_left
 ·intro w hSw
  have q0 := (HA1.out.kept hSw).1.cell 0
  have q1 := (HX1.out.kept hSw).cell 1
  have hlk := (HA1.out.kept hSw).look x0 HH.out.1 HH.out.2.1 HH.out.2.2
  rw [HT.out] at hlk
  simp at q0 q1
  go_simp
  try with_reducible rfl
 simp only [Act.put, z1, z2, z3, z4, z5, z6]
 refine tkH (i := 7) (v := ?_) rfl (by kernel_rfl) (fun _ _ _ h => h) (Or.inl ⟨by rfl, ?_⟩) (by assumption) ?_
 rotate_left
 ·intro w hSw
  try dsimp only at hSw
  go_simp
  try with_reducible rfl
 simp only [Act.put, z1, z2, z3, z4, z5, z6]
 refine tkH (i := 8) (v := ?_) rfl (by kernel_rfl) (fun _ _ _ h => h) (Or.inl ⟨by rfl, ?_⟩) (by assumption) ?_
 rotate_left
 ·intro w hSw
  try dsimp only at hSw
  go_simp
  try with_reducible rfl
 simp only [Act.put, z1, z2, z3, z4, z5, z6]
 refine tkH (i := 9) (v := ?_) rfl (by kernel_rfl) (fun _ _ _ h => h) (Or.inl ⟨by rfl, ?_⟩) (by assumption) ?_
 rotate_left
 ·intro w hSw
  try dsimp only at hSw
  go_simp
  try with_reducible rfl
 simp only [Act.put, z1, z2, z3, z4, z5, z6]
 refine wpAnyH_ready (rs := [10]) (by kernel_rfl) (by simp) ?_
 refine AllReadyH.cons rfl (fun Kc hKc => ?_) AllReadyH.nil
 go_simp
 have hPrev := Lib.hid hHeld.size
 refine hKc.out _ _ ?_ (fun hHeld => ?_)
 ·first | assumption | exact hHeld | exact hHeld.alloc hHeld.size _ | exact below_setRow hHeld hPrev.out _
 clear hKc Kc
 first | have HAQ := Lib.hid (freshOf hHeld) | have HAQ := Lib.hid (freshDrew hHeld)
 refine wpAnyH_ready (rs := [11]) (by kernel_rfl) (by simp) ?_
 refine AllReadyH.cons rfl (fun Kc hKc => ?_) AllReadyH.nil
 have HAR := Lib.hid (blkRowNew (cs' := #[thPtr (some S), thPtr none]) HAQ.out); refine wp_store_row 84 _ _ rfl _ #[thPtr (some S), thPtr none] rfl (by rfl) 84 _ HAQ.out (by kernel_rfl) rfl (by simp [Value.oneCell', thPtr]) ?_
 refine hKc.out _ _ ?_ (fun hHeld => ?_)
 ·first | assumption | exact hHeld | exact hHeld.alloc hHeld.size _ | exact below_setRow hHeld hPrev.out _
 clear hKc Kc
 refine tkH (i := 12) (v := ?_) rfl (by kernel_rfl) (fun _ _ _ h => h) (Or.inl ⟨by rfl, ?_⟩) (by assumption) ?_
 rotate_left
 ·intro w hSw
  try dsimp only at hSw
  go_simp
  try with_reducible rfl
 simp only [Act.put, z1, z2, z3, z4, z5, z6]
 refine wpAnyH_done (by kernel_rfl) ?_ _
 generalize ((w1.alloc (.cells #[.pointer none, .pointer none] 84)).drew.setRow w1.heap.size #[thPtr (some S), thPtr none]) = wz at *
 have hx := HX1.out.kept hHeld
 have HXZ := Lib.hid hx
 have hr := HAR.out
 have x_0 := hx.cell 0
 have x_2 := hx.cell 2
 simp at x_0 x_2
 have HB9 : Hid (Below X w wz) := Lib.hid (HB1.out.trans (hHeld.mono HXW.out))
 clear hHeld hx HAR HAQ
 go_wp2_with (refine wpList_load_row rfl 84 _ rfl w1.heap.size rfl 84 _ (0, 0) _ hr Tryz.underlying84 rfl (by kernel_rfl) ?_)
 with_reducible refine (PS.out _).mono ?_
 rintro e wy ⟨rfl, hb⟩
 have HBY : Hid (Below X w wy) := Lib.hid (HB9.out.trans (hb.mono (by have := HB9.out.size; have := HXW.out; have := HXZ.out.lt; omega)))
 have hxy := HXZ.out.kept hb
 have HXY := Lib.hid hxy
 have x_0 := hxy.cell 0
 have x_2 := hxy.cell 2
 simp at x_0 x_2
 have HXL : Hid (X ≤ wy.heap.size) := Lib.hid (by have := HXY.out.lt; omega)
 have hg := HG.out.of_block (HBY.out.block g (by have := HG.out.lt; have := HXX.out; omega))
 have HGY := Lib.hid hg
 have y1 : wy.cell? ⟨g, 1, none⟩ = some (.int .i64 x1) := hg.cell (by decide)
 have y2 : wy.cell? ⟨g, 2, none⟩ = some (.int .i64 x2) := hg.cell (by decide)
 clear hg
 clear hr hb hxy
 go_wp2_with fail
 refine wp_region_held_drew (S := fun w' => Below wy.heap.size wy w') (by kernel_rfl) (by exact below_drewN (Below.refl _ _) 1) (fun hHeld => ?_)
 refine tkH (i := 0) (v := ?_) rfl (by kernel_rfl) (fun _ _ _ h => h) (Or.inl ⟨by rfl, ?_⟩) (by assumption) ?_
 rotate_left
 ·intro w hSw
  try dsimp only at hSw
  go_simp
  try with_reducible rfl
 simp only [Act.put, z1, z2, z3, z4, z5, z6]
 refine tkH (i := 1) (v := ?_) rfl (by kernel_rfl) (fun _ _ _ h => h) (Or.inl ⟨by rfl, ?_⟩) (by assumption) ?_
 rotate_left
 ·intro w hSw
  try dsimp only at hSw
  go_simp
  try with_reducible rfl
 simp only [Act.put, z1, z2, z3, z4, z5, z6]
 refine tkH (i := 2) (v := ?_) rfl (by kernel_rfl) (fun _ _ _ h => h) (Or.inl ⟨by rfl, ?_⟩) (by assumption) ?_
 rotate_left
 ·intro w hSw
  have q1 := (HXY.out.kept hSw).cell 2
  have q2 : w.cell? ⟨g, 1, none⟩ = some (.int .i64 x1) := (HGY.out.of_block (hSw.block g HGY.out.lt)).cell (by decide)
  have q3 : w.cell? ⟨g, 2, none⟩ = some (.int .i64 x2) := (HGY.out.of_block (hSw.block g HGY.out.lt)).cell (by decide)
  simp at q1
  go_simp
  try with_reducible rfl
 simp only [Act.put, z1, z2, z3, z4, z5, z6]
 refine tkH (i := 3) (v := ?_) rfl (by kernel_rfl) (fun _ _ _ h => h) (Or.inl ⟨by rfl, ?_⟩) (by assumption) ?_
 rotate_left
 ·intro w hSw
  try dsimp only at hSw
  go_simp
  try with_reducible rfl
 simp only [Act.put, z1, z2, z3, z4, z5, z6]
 refine tkH (i := 4) (v := ?_) rfl (by kernel_rfl) (fun _ _ _ h => h) (Or.inl ⟨by rfl, ?_⟩) (by assumption) ?_
 rotate_left
 ·intro w hSw
  have q1 := (HXY.out.kept hSw).cell 2
  have q2 : w.cell? ⟨g, 1, none⟩ = some (.int .i64 x1) := (HGY.out.of_block (hSw.block g HGY.out.lt)).cell (by decide)
  have q3 : w.cell? ⟨g, 2, none⟩ = some (.int .i64 x2) := (HGY.out.of_block (hSw.block g HGY.out.lt)).cell (by decide)
  simp at q1
  go_simp
  try with_reducible rfl
 simp only [Act.put, z1, z2, z3, z4, z5, z6]
 refine tkH (i := 5) (v := ?_) rfl (by kernel_rfl) (fun _ _ _ h => h) (Or.inl ⟨by rfl, ?_⟩) (by assumption) ?_
 rotate_left
 ·intro w hSw
  try dsimp only at hSw
  go_simp
  try with_reducible rfl
 simp only [Act.put, z1, z2, z3, z4, z5, z6]
 refine tkH (i := 6) (v := ?_) rfl (by kernel_rfl) (fun _ _ _ h => h) (Or.inl ⟨by rfl, ?_⟩) (by assumption) ?_
 rotate_left
 ·intro w hSw
  try dsimp only at hSw
  go_simp
  try with_reducible rfl
 simp only [Act.put, z1, z2, z3, z4, z5, z6]
 refine tkH (i := 7) (v := ?_) rfl (by kernel_rfl) (fun _ _ _ h => h) (Or.inl ⟨by rfl, ?_⟩) (by assumption) ?_
 rotate_left
 ·intro w hSw
  have q1 := (HXY.out.kept hSw).cell 2
  have q2 : w.cell? ⟨g, 1, none⟩ = some (.int .i64 x1) := (HGY.out.of_block (hSw.block g HGY.out.lt)).cell (by decide)
  have q3 : w.cell? ⟨g, 2, none⟩ = some (.int .i64 x2) := (HGY.out.of_block (hSw.block g HGY.out.lt)).cell (by decide)
  simp at q1
  go_simp
  try with_reducible rfl
 simp only [Act.put, z1, z2, z3, z4, z5, z6]
 refine tkH (i := 8) (v := ?_) rfl (by kernel_rfl) (fun _ _ _ h => h) (Or.inl ⟨by rfl, ?_⟩) (by assumption) ?_
 rotate_left
 ·intro w hSw
  try dsimp only at hSw
  go_simp
  try with_reducible rfl
 simp only [Act.put, z1, z2, z3, z4, z5, z6]
 refine tkH (i := 9) (v := ?_) rfl (by kernel_rfl) (fun _ _ _ h => h) (Or.inl ⟨by rfl, ?_⟩) (by assumption) ?_
 rotate_left
 ·intro w hSw
  have q1 := (HXY.out.kept hSw).cell 2
  have q2 : w.cell? ⟨g, 1, none⟩ = some (.int .i64 x1) := (HGY.out.of_block (hSw.block g HGY.out.lt)).cell (by decide)
  have q3 : w.cell? ⟨g, 2, none⟩ = some (.int .i64 x2) := (HGY.out.of_block (hSw.block g HGY.out.lt)).cell (by decide)
  simp at q1
  go_simp
  try with_reducible rfl
 simp only [Act.put, z1, z2, z3, z4, z5, z6]
 refine tkH (i := 10) (v := ?_) rfl (by kernel_rfl) (fun _ _ _ h => h) (Or.inl ⟨by rfl, ?_⟩) (by assumption) ?_
 rotate_left
 ·intro w hSw
  try dsimp only at hSw
  go_simp
  try with_reducible rfl
 simp only [Act.put, z1, z2, z3, z4, z5, z6]
 refine wpAnyH_ready (rs := [11]) (by kernel_rfl) (by simp) ?_
 refine AllReadyH.cons rfl (fun Kc hKc => ?_) AllReadyH.nil
 go_simp
 go_wp2_with (first | (with_reducible refine (HU.out _ (HBY.out.trans (hHeld.mono HXL.out))).mono ?_; rintro e wq ⟨rfl, hb'⟩) | (with_reducible refine (PN.out _ _).mono ?_; rintro e wq ⟨rfl, hw'⟩; subst hw'))
 refine hKc.out _ _ ?_ (fun hHeld => ?_)
 ·first | assumption | exact hHeld | exact btr hHeld hb'
 clear hKc Kc
 refine tkH (i := 12) (v := ?_) rfl (by kernel_rfl) (fun _ _ _ h => h) (Or.inl ⟨by rfl, ?_⟩) (by assumption) ?_
 rotate_left
 ·intro w hSw
  try dsimp only at hSw
  go_simp
  try with_reducible rfl
 simp only [Act.put, z1, z2, z3, z4, z5, z6]
 refine tkH (i := 13) (v := ?_) rfl (by kernel_rfl) (fun _ _ _ h => h) (Or.inl ⟨by rfl, ?_⟩) (by assumption) ?_
 rotate_left
 ·intro w hSw
  try dsimp only at hSw
  go_simp
  try with_reducible rfl
 simp only [Act.put, z1, z2, z3, z4, z5, z6]
 refine wpAnyH_ready (rs := [14]) (by kernel_rfl) (by simp) ?_
 refine AllReadyH.cons rfl (fun Kc hKc => ?_) AllReadyH.nil
 go_simp
 go_wp2_with (first | (with_reducible refine (HU.out _ (HBY.out.trans (hHeld.mono HXL.out))).mono ?_; rintro e wq ⟨rfl, hb'⟩) | (with_reducible refine (PN.out _ _).mono ?_; rintro e wq ⟨rfl, hw'⟩; subst hw'))
 refine hKc.out _ _ ?_ (fun hHeld => ?_)
 ·first | assumption | exact hHeld | exact btr hHeld hb'
 clear hKc Kc
 refine tkH (i := 15) (v := ?_) rfl (by kernel_rfl) (fun _ _ _ h => h) (Or.inl ⟨by rfl, ?_⟩) (by assumption) ?_
 rotate_left
 ·intro w hSw
  try dsimp only at hSw
  go_simp
  try with_reducible rfl
 simp only [Act.put, z1, z2, z3, z4, z5, z6]
 refine tkH (i := 16) (v := ?_) rfl (by kernel_rfl) (fun _ _ _ h => h) (Or.inl ⟨by rfl, ?_⟩) (by assumption) ?_
 rotate_left
 ·intro w hSw
  try dsimp only at hSw
  go_simp
  try with_reducible rfl
 simp only [Act.put, z1, z2, z3, z4, z5, z6]
 refine tkH (i := 17) (v := ?_) rfl (by kernel_rfl) (fun _ _ _ h => h) (Or.inl ⟨by rfl, ?_⟩) (by assumption) ?_
 rotate_left
 ·intro w hSw
  try dsimp only at hSw
  go_simp
  try with_reducible rfl
 simp only [Act.put, z1, z2, z3, z4, z5, z6]
 refine tkH (i := 18) (v := ?_) rfl (by kernel_rfl) (fun _ _ _ h => h) (Or.inl ⟨by rfl, ?_⟩) (by assumption) ?_
 rotate_left
 ·intro w hSw
  try dsimp only at hSw
  go_simp
  try with_reducible rfl
 simp only [Act.put, z1, z2, z3, z4, z5, z6]
 refine wpAnyH_done (by kernel_rfl) ?_ _
 have HBF : Hid (Below w.heap.size w wq) := Lib.hid (by rw [HXX.out]; exact HBY.out.trans (hHeld.mono HXL.out))
 clear hHeld
 go_wp2_with fail
 go_ret2
 exact ⟨rfl, HBF.out⟩
set_option maxRecDepth 100000 in
set_option maxHeartbeats 4000000 in
theorem agg_quantile (w : World) (A b n : Nat) (T : Nat → Option Nat × Option Nat) (x0 x1 : Int) (S g : Nat) (m : Int) (hA : AggIs w A b n T) (h1 : 1 ≤ x0) (h2 : x0 ≤ (n : Int)) (hn : n ≤ 100) (hT : T x0.toNat = (some S, none)) (hg : w.rowIs g 2 2 (fun j => .int .i64 (cellD [x0, x1] j)))
  (hU : ∀ w1, Below w.heap.size w w1 → Calls Tryz.prog 96 #[.pointer (some ⟨S, 0, none⟩), .int .i64 x1] w1 fun e w' => e = .returned (.tuple #[.int .u64 m, .int .i64 0]) ∧ Below w1.heap.size w1 w') :
  Calls Tryz.prog 51 #[.pointer (some ⟨A, 0, none⟩), .agg #[.string (sB [113, 117, 97, 110, 116, 105, 108, 101]), .int .i64 x0, .slice (some ⟨g, 1, none⟩) 1 1]] w fun e w' => e = .returned (.tuple #[.iface 140 (.agg #[.int .u64 m]), .int .i64 0]) ∧ Below w.heap.size w w' := by
 have HA := Lib.hid hA
 have HH := Lib.hid (And.intro h1 (And.intro h2 hn))
 have HT := Lib.hid hT
 have HU := Lib.hid hU
 have PN := Lib.hid num_ok
 have PS := Lib.hid (thstackP S)
 have hvl := sB_list [113, 117, 97, 110, 116, 105, 108, 101]
 obtain ⟨V, hV⟩ : ∃ V, V = sB [113, 117, 97, 110, 116, 105, 108, 101] := ⟨_, rfl⟩
 rw [← hV] at hvl ⊢
 have hb1 : Below w.heap.size w (w.alloc (.cells #[.string V, .int .i64 x0, .slice (some ⟨g, 1, none⟩) 1 1] 123)) := (Below.refl _ w).alloc (Nat.le_refl _) _
 have HX1 := Lib.hid (Blk.new w 123 #[.string V, .int .i64 x0, .slice (some ⟨g, 1, none⟩) 1 1])
 have HA1 := Lib.hid (hA.kept hb1)
 have HB1 := Lib.hid hb1
 have HG := Lib.hid hg
 clear hA h1 h2 hn hT hU hb1 hV hg
 go_enter Tryz.func51, Tryz.ntmps51
 go_wp2_with fail
 generalize (w.alloc (.cells #[.string V, .int .i64 x0, .slice (some ⟨g, 1, none⟩) 1 1] 123)) = w1 at *
 generalize hX : w.heap.size = X at *
 have HXX := Lib.hid hX
 clear hX
 have HXW : Hid (X ≤ w1.heap.size) := Lib.hid (Nat.le_of_lt HX1.out.lt)
 refine wp_region_held_drew (S := fun w' => Below w1.heap.size w1 w') (by kernel_rfl) (by exact below_drewN (Below.refl _ _) 1) (fun hHeld => ?_)
 refine tkH (i := 0) (v := ?_) rfl (by kernel_rfl) (fun _ _ _ h => h) (Or.inl ⟨by rfl, ?_⟩) (by assumption) ?_
 rotate_left
 ·intro w hSw
  try dsimp only at hSw
  go_simp
  try with_reducible rfl
 simp only [Act.put, z1, z2, z3, z4, z5, z6]
 refine tkH (i := 1) (v := ?_) rfl (by kernel_rfl) (fun _ _ _ h => h) (Or.inl ⟨by rfl, ?_⟩) (by assumption) ?_
 rotate_left
 ·intro w hSw
  try dsimp only at hSw
  go_simp
  try with_reducible rfl
 simp only [Act.put, z1, z2, z3, z4, z5, z6]
 refine tkH (i := 2) (v := ?_) rfl (by kernel_rfl) (fun _ _ _ h => h) (Or.inl ⟨by rfl, ?_⟩) (by assumption) ?_
 rotate_left
 ·intro w hSw
  try dsimp only at hSw
  go_simp
  try with_reducible rfl
 simp only [Act.put, z1, z2, z3, z4, z5, z6]
 refine tkH (i := 3) (v := ?_) rfl (by kernel_rfl) (fun _ _ _ h => h) (Or.inl ⟨by rfl, ?_⟩) (by assumption) ?_
 rotate_left
 ·intro w hSw
  have q0 := (HA1.out.kept hSw).1.cell 0
  have q1 := (HX1.out.kept hSw).cell 1
  have hlk := (HA1.out.kept hSw).look x0 HH.out.1 HH.out.2.1 HH.out.2.2
  rw [HT.out] at hlk
  simp at q0 q1
  go_simp
  try with_reducible rfl
 simp only [Act.put, z1, z2, z3, z4, z5, z6]
 refine tkH (i := 4) (v := ?_) rfl (by kernel_rfl) (fun _ _ _ h => h) (Or.inl ⟨by rfl, ?_⟩) (by assumption) ?_
 rotate_left
 ·intro w hSw
  try dsimp only at hSw
  go_simp
  try with_reducible rfl
 simp only [Act.put, z1, z2, z3, z4, z5, z6]
 refine tkH (i := 5) (v := ?_) rfl (by kernel_rfl) (fun _ _ _ h => h) (Or.inl ⟨by rfl, ?_⟩) (by assumption) ?_
 rotate_left
 ·intro w hSw
  have q0 := (HA1.out.kept hSw).1.cell 0
  have q1 := (HX1.out.kept hSw).cell 1
  have hlk := (HA1.out.kept hSw).look x0 HH.out.1 HH.out.2.1 HH.out.2.2
  rw [HT.out] at hlk
  simp at q0 q1
  go_simp
  try with_reducible rfl
 simp only [Act.put, z1, z2, z3, z4, z5, z6]
 refine tkH (i := 6) (v := ?_) rfl (by kernel_rfl) (fun _ _ _ h => h) (Or.inl ⟨by rfl, ?_⟩) (by assumption) ?_
 rotate_left
 ·intro w hSw
  have q0 := (HA1.out.kept hSw).1.cell 0
  have q1 := (HX1.out.kept hSw).cell 1
  have hlk := (HA1.out.kept hSw).look x0 HH.out.1 HH.out.2.1 HH.out.2.2
  rw [HT.out] at hlk
  simp at q0 q1
  go_simp
  try with_reducible rfl
 simp only [Act.put, z1, z2, z3, z4, z5, z6]
 refine tkH (i := 7) (v := ?_) rfl (by kernel_rfl) (fun _ _ _ h => h) (Or.inl ⟨by rfl, ?_⟩) (by assumption) ?_
 rotate_left
 ·intro w hSw
  try dsimp only at hSw
  go_simp
  try with_reducible rfl
 simp only [Act.put, z1, z2, z3, z4, z5, z6]
 refine tkH (i := 8) (v := ?_) rfl (by kernel_rfl) (fun _ _ _ h => h) (Or.inl ⟨by rfl, ?_⟩) (by assumption) ?_
 rotate_left
 ·intro w hSw
  try dsimp only at hSw
  go_simp
  try with_reducible rfl
 simp only [Act.put, z1, z2, z3, z4, z5, z6]
 refine tkH (i := 9) (v := ?_) rfl (by kernel_rfl) (fun _ _ _ h => h) (Or.inl ⟨by rfl, ?_⟩) (by assumption) ?_
 rotate_left
 ·intro w hSw
  try dsimp only at hSw
  go_simp
  try with_reducible rfl
 simp only [Act.put, z1, z2, z3, z4, z5, z6]
 refine wpAnyH_ready (rs := [10]) (by kernel_rfl) (by simp) ?_
 refine AllReadyH.cons rfl (fun Kc hKc => ?_) AllReadyH.nil
 go_simp
 have hPrev := Lib.hid hHeld.size
 refine hKc.out _ _ ?_ (fun hHeld => ?_)
 ·first | assumption | exact hHeld | exact hHeld.alloc hHeld.size _ | exact below_setRow hHeld hPrev.out _
 clear hKc Kc
 first | have HAQ := Lib.hid (freshOf hHeld) | have HAQ := Lib.hid (freshDrew hHeld)
 refine wpAnyH_ready (rs := [11]) (by kernel_rfl) (by simp) ?_
 refine AllReadyH.cons rfl (fun Kc hKc => ?_) AllReadyH.nil
 have HAR := Lib.hid (blkRowNew (cs' := #[thPtr (some S), thPtr none]) HAQ.out); refine wp_store_row 84 _ _ rfl _ #[thPtr (some S), thPtr none] rfl (by rfl) 84 _ HAQ.out (by kernel_rfl) rfl (by simp [Value.oneCell', thPtr]) ?_
 refine hKc.out _ _ ?_ (fun hHeld => ?_)
 ·first | assumption | exact hHeld | exact hHeld.alloc hHeld.size _ | exact below_setRow hHeld hPrev.out _
 clear hKc Kc
 refine tkH (i := 12) (v := ?_) rfl (by kernel_rfl) (fun _ _ _ h => h) (Or.inl ⟨by rfl, ?_⟩) (by assumption) ?_
 rotate_left
 ·intro w hSw
  try dsimp only at hSw
  go_simp
  try with_reducible rfl
 simp only [Act.put, z1, z2, z3, z4, z5, z6]
 refine wpAnyH_done (by kernel_rfl) ?_ _
 generalize ((w1.alloc (.cells #[.pointer none, .pointer none] 84)).drew.setRow w1.heap.size #[thPtr (some S), thPtr none]) = wz at *
 have hx := HX1.out.kept hHeld
 have HXZ := Lib.hid hx
 have hr := HAR.out
 have x_0 := hx.cell 0
 have x_2 := hx.cell 2
 simp at x_0 x_2
 have HB9 : Hid (Below X w wz) := Lib.hid (HB1.out.trans (hHeld.mono HXW.out))
 clear hHeld hx HAR HAQ
 go_wp2_with (refine wpList_load_row rfl 84 _ rfl w1.heap.size rfl 84 _ (0, 0) _ hr Tryz.underlying84 rfl (by kernel_rfl) ?_)
 with_reducible refine (PS.out _).mono ?_
 rintro e wy ⟨rfl, hb⟩
 have HBY : Hid (Below X w wy) := Lib.hid (HB9.out.trans (hb.mono (by have := HB9.out.size; have := HXW.out; have := HXZ.out.lt; omega)))
 have hxy := HXZ.out.kept hb
 have HXY := Lib.hid hxy
 have x_0 := hxy.cell 0
 have x_2 := hxy.cell 2
 simp at x_0 x_2
 have HXL : Hid (X ≤ wy.heap.size) := Lib.hid (by have := HXY.out.lt; omega)
 have hg := HG.out.of_block (HBY.out.block g (by have := HG.out.lt; have := HXX.out; omega))
 have HGY := Lib.hid hg
 have y1 : wy.cell? ⟨g, 1, none⟩ = some (.int .i64 x1) := hg.cell (by decide)
 clear hg
 clear hr hb hxy
 go_wp2_with fail
 with_reducible refine (HU.out _ HBY.out).mono ?_
 rintro e wq ⟨rfl, hb⟩
 have HBF : Hid (Below w.heap.size w wq) := Lib.hid (by rw [HXX.out]; exact HBY.out.trans (hb.mono HXL.out))
 clear hb
 go_wp2_with fail
 go_ret2
 exact ⟨rfl, HBF.out⟩
set_option maxRecDepth 100000 in
set_option maxHeartbeats 4000000 in
theorem agg_export (w : World) (A b n : Nat) (T : Nat → Option Nat × Option Nat) (x0 : Int) (S : Nat) (QB : Value → World → Prop) (hA : AggIs w A b n T) (h1 : 1 ≤ x0) (h2 : x0 ≤ (n : Int)) (hn : n ≤ 100) (hT : T x0.toNat = (some S, none))
  (hU : ∀ w1, Below w.heap.size w w1 → Calls Tryz.prog 92 #[.pointer (some ⟨S, 0, none⟩)] w1 fun e w' => (∃ ao k cp, e = .returned (.slice ao k cp) ∧ QB (.slice ao k cp) w') ∧ Below w1.heap.size w1 w') :
  Calls Tryz.prog 51 #[.pointer (some ⟨A, 0, none⟩), .agg #[.string (sB [101, 120, 112, 111, 114, 116]), .int .i64 x0, .slice none 0 0]] w fun e w' => (∃ ao k cp, e = .returned (.tuple #[.iface 158 (.agg #[.slice ao k cp]), .int .i64 0]) ∧ QB (.slice ao k cp) w') ∧ Below w.heap.size w w' := by
 have HA := Lib.hid hA
 have HH := Lib.hid (And.intro h1 (And.intro h2 hn))
 have HT := Lib.hid hT
 have HU := Lib.hid hU
 have PN := Lib.hid num_ok
 have PS := Lib.hid (thstackP S)
 have hvl := sB_list [101, 120, 112, 111, 114, 116]
 obtain ⟨V, hV⟩ : ∃ V, V = sB [101, 120, 112, 111, 114, 116] := ⟨_, rfl⟩
 rw [← hV] at hvl ⊢
 have hb1 : Below w.heap.size w (w.alloc (.cells #[.string V, .int .i64 x0, .slice none 0 0] 123)) := (Below.refl _ w).alloc (Nat.le_refl _) _
 have HX1 := Lib.hid (Blk.new w 123 #[.string V, .int .i64 x0, .slice none 0 0])
 have HA1 := Lib.hid (hA.kept hb1)
 have HB1 := Lib.hid hb1
 clear hA h1 h2 hn hT hU hb1 hV
 go_enter Tryz.func51, Tryz.ntmps51
 go_wp2_with fail
 generalize (w.alloc (.cells #[.string V, .int .i64 x0, .slice none 0 0] 123)) = w1 at *
 generalize hX : w.heap.size = X at *
 have HXX := Lib.hid hX
 clear hX
 have HXW : Hid (X ≤ w1.heap.size) := Lib.hid (Nat.le_of_lt HX1.out.lt)
 refine wp_region_held_drew (S := fun w' => Below w1.heap.size w1 w') (by kernel_rfl) (by exact below_drewN (Below.refl _ _) 1) (fun hHeld => ?_)
 refine tkH (i := 0) (v := ?_) rfl (by kernel_rfl) (fun _ _ _ h => h) (Or.inl ⟨by rfl, ?_⟩) (by assumption) ?_
 rotate_left
 ·intro w hSw
  try dsimp only at hSw
  go_simp
  try with_reducible rfl
 simp only [Act.put, z1, z2, z3, z4, z5, z6]
 refine tkH (i := 1) (v := ?_) rfl (by kernel_rfl) (fun _ _ _ h => h) (Or.inl ⟨by rfl, ?_⟩) (by assumption) ?_
 rotate_left
 ·intro w hSw
  try dsimp only at hSw
  go_simp
  try with_reducible rfl
 simp only [Act.put, z1, z2, z3, z4, z5, z6]
 refine tkH (i := 2) (v := ?_) rfl (by kernel_rfl) (fun _ _ _ h => h) (Or.inl ⟨by rfl, ?_⟩) (by assumption) ?_
 rotate_left
 ·intro w hSw
  try dsimp only at hSw
  go_simp
  try with_reducible rfl
 simp only [Act.put, z1, z2, z3, z4, z5, z6]
 refine tkH (i := 3) (v := ?_) rfl (by kernel_rfl) (fun _ _ _ h => h) (Or.inl ⟨by rfl, ?_⟩) (by assumption) ?_
 rotate_left
 ·intro w hSw
  have q0 := (HA1.out.kept hSw).1.cell 0
  have q1 := (HX1.out.kept hSw).cell 1
  have hlk := (HA1.out.kept hSw).look x0 HH.out.1 HH.out.2.1 HH.out.2.2
  rw [HT.out] at hlk
  simp at q0 q1
  go_simp
  try with_reducible rfl
 simp only [Act.put, z1, z2, z3, z4, z5, z6]
 refine tkH (i := 4) (v := ?_) rfl (by kernel_rfl) (fun _ _ _ h => h) (Or.inl ⟨by rfl, ?_⟩) (by assumption) ?_
 rotate_left
 ·intro w hSw
  try dsimp only at hSw
  go_simp
  try with_reducible rfl
 simp only [Act.put, z1, z2, z3, z4, z5, z6]
 refine tkH (i := 5) (v := ?_) rfl (by kernel_rfl) (fun _ _ _ h => h) (Or.inl ⟨by rfl, ?_⟩) (by assumption) ?_
 rotate_left
 ·intro w hSw
  have q0 := (HA1.out.kept hSw).1.cell 0
  have q1 := (HX1.out.kept hSw).cell 1
  have hlk := (HA1.out.kept hSw).look x0 HH.out.1 HH.out.2.1 HH.out.2.2
  rw [HT.out] at hlk
  simp at q0 q1
  go_simp
  try with_reducible rfl
 simp only [Act.put, z1, z2, z3, z4, z5, z6]
 refine tkH (i := 6) (v := ?_) rfl (by kernel_rfl) (fun _ _ _ h => h) (Or.inl ⟨by rfl, ?_⟩) (by assumption) ?_
 rotate_left
 ·intro w hSw
  have q0 := (HA1.out.kept hSw).1.cell 0
  have q1 := (HX1.out.kept hSw).cell 1
  have hlk := (HA1.out.kept hSw).look x0 HH.out.1 HH.out.2.1 HH.out.2.2
  rw [HT.out] at hlk
  simp at q0 q1
  go_simp
  try with_reducible rfl
 simp only [Act.put, z1, z2, z3, z4, z5, z6]
 refine tkH (i := 7) (v := ?_) rfl (by kernel_rfl) (fun _ _ _ h => h) (Or.inl ⟨by rfl, ?_⟩) (by assumption) ?_
 rotate_left
 ·intro w hSw
  try dsimp only at hSw
  go_simp
  try with_reducible rfl
 simp only [Act.put, z1, z2, z3, z4, z5, z6]
 refine tkH (i := 8) (v := ?_) rfl (by kernel_rfl) (fun _ _ _ h => h) (Or.inl ⟨by rfl, ?_⟩) (by assumption) ?_
 rotate_left
 ·intro w hSw
  try dsimp only at hSw
  go_simp
  try with_reducible rfl
 simp only [Act.put, z1, z2, z3, z4, z5, z6]
 refine tkH (i := 9) (v := ?_) rfl (by kernel_rfl) (fun _ _ _ h => h) (Or.inl ⟨by rfl, ?_⟩) (by assumption) ?_
 rotate_left
 ·intro w hSw
  try dsimp only at hSw
  go_simp
  try with_reducible rfl
 simp only [Act.put, z1, z2, z3, z4, z5, z6]
 refine wpAnyH_ready (rs := [10]) (by kernel_rfl) (by simp) ?_
 refine AllReadyH.cons rfl (fun Kc hKc => ?_) AllReadyH.nil
 go_simp
 have hPrev := Lib.hid hHeld.size
 refine hKc.out _ _ ?_ (fun hHeld => ?_)
 ·first | assumption | exact hHeld | exact hHeld.alloc hHeld.size _ | exact below_setRow hHeld hPrev.out _
 clear hKc Kc
 first | have HAQ := Lib.hid (freshOf hHeld) | have HAQ := Lib.hid (freshDrew hHeld)
 refine wpAnyH_ready (rs := [11]) (by kernel_rfl) (by simp) ?_
 refine AllReadyH.cons rfl (fun Kc hKc => ?_) AllReadyH.nil
 have HAR := Lib.hid (blkRowNew (cs' := #[thPtr (some S), thPtr none]) HAQ.out); refine wp_store_row 84 _ _ rfl _ #[thPtr (some S), thPtr none] rfl (by rfl) 84 _ HAQ.out (by kernel_rfl) rfl (by simp [Value.oneCell', thPtr]) ?_
 refine hKc.out _ _ ?_ (fun hHeld => ?_)
 ·first | assumption | exact hHeld | exact hHeld.alloc hHeld.size _ | exact below_setRow hHeld hPrev.out _
 clear hKc Kc
 refine tkH (i := 12) (v := ?_) rfl (by kernel_rfl) (fun _ _ _ h => h) (Or.inl ⟨by rfl, ?_⟩) (by assumption) ?_
 rotate_left
 ·intro w hSw
  try dsimp only at hSw
  go_simp
  try with_reducible rfl
 simp only [Act.put, z1, z2, z3, z4, z5, z6]
 refine wpAnyH_done (by kernel_rfl) ?_ _
 generalize ((w1.alloc (.cells #[.pointer none, .pointer none] 84)).drew.setRow w1.heap.size #[thPtr (some S), thPtr none]) = wz at *
 have hx := HX1.out.kept hHeld
 have HXZ := Lib.hid hx
 have hr := HAR.out
 have x_0 := hx.cell 0
 have x_2 := hx.cell 2
 simp at x_0 x_2
 have HB9 : Hid (Below X w wz) := Lib.hid (HB1.out.trans (hHeld.mono HXW.out))
 clear hHeld hx HAR HAQ
 go_wp2_with (refine wpList_load_row rfl 84 _ rfl w1.heap.size rfl 84 _ (0, 0) _ hr Tryz.underlying84 rfl (by kernel_rfl) ?_)
 with_reducible refine (PS.out _).mono ?_
 rintro e wy ⟨rfl, hb⟩
 have HBY : Hid (Below X w wy) := Lib.hid (HB9.out.trans (hb.mono (by have := HB9.out.size; have := HXW.out; have := HXZ.out.lt; omega)))
 have hxy := HXZ.out.kept hb
 have HXY := Lib.hid hxy
 have x_0 := hxy.cell 0
 have x_2 := hxy.cell 2
 simp at x_0 x_2
 have HXL : Hid (X ≤ wy.heap.size) := Lib.hid (by have := HXY.out.lt; omega)
 clear hr hb hxy
 go_wp2_with fail
 with_reducible refine (HU.out _ HBY.out).mono ?_
 rintro e wq ⟨⟨ao, k, cp, rfl, hq⟩, hb⟩
 have HQ := Lib.hid hq
 have HBF : Hid (Below w.heap.size w wq) := Lib.hid (by rw [HXX.out]; exact HBY.out.trans (hb.mono HXL.out))
 clear hb hq
 go_wp2_with fail
 go_ret2
 exact ⟨⟨ao, k, cp, rfl, HQ.out⟩, HBF.out⟩
set_option maxRecDepth 100000 in
set_option maxHeartbeats 4000000 in
theorem agg_heavy (w : World) (A b n : Nat) (T : Nat → Option Nat × Option Nat) (x0 x1 x2 : Int) (S g : Nat) (QB : Value → World → Prop) (hA : AggIs w A b n T) (h1 : 1 ≤ x0) (h2 : x0 ≤ (n : Int)) (hn : n ≤ 100) (hT : T x0.toNat = (some S, none)) (hg : w.rowIs g 2 3 (fun j => .int .i64 (cellD [x0, x1, x2] j)))
  (hU : ∀ w1, Below w.heap.size w w1 → Calls Tryz.prog 97 #[.pointer (some ⟨S, 0, none⟩), .int .i64 x1, .int .i64 x2] w1 fun e w' => (∃ ao k cp, e = .returned (.tuple #[.slice ao k cp, .int .i64 0]) ∧ QB (.slice ao k cp) w') ∧ Below w1.heap.size w1 w') :
  Calls Tryz.prog 51 #[.pointer (some ⟨A, 0, none⟩), .agg #[.string (sB [104, 101, 97, 118, 121]), .int .i64 x0, .slice (some ⟨g, 1, none⟩) 2 2]] w fun e w' => (∃ ao k cp, e = .returned (.tuple #[.iface 149 (.agg #[.slice ao k cp]), .int .i64 0]) ∧ QB (.slice ao k cp) w') ∧ Below w.heap.size w w' := by
 have HA := Lib.hid hA
 have HH := Lib.hid (And.intro h1 (And.intro h2 hn))
 have HT := Lib.hid hT
 have HU := Lib.hid hU
 have PN := Lib.hid num_ok
 have PS := Lib.hid (thstackP S)
 have hvl := sB_list [104, 101, 97, 118, 121]
 obtain ⟨V, hV⟩ : ∃ V, V = sB [104, 101, 97, 118, 121] := ⟨_, rfl⟩
 rw [← hV] at hvl ⊢
 have hb1 : Below w.heap.size w (w.alloc (.cells #[.string V, .int .i64 x0, .slice (some ⟨g, 1, none⟩) 2 2] 123)) := (Below.refl _ w).alloc (Nat.le_refl _) _
 have HX1 := Lib.hid (Blk.new w 123 #[.string V, .int .i64 x0, .slice (some ⟨g, 1, none⟩) 2 2])
 have HA1 := Lib.hid (hA.kept hb1)
 have HB1 := Lib.hid hb1
 have HG := Lib.hid hg
 clear hA h1 h2 hn hT hU hb1 hV hg
 go_enter Tryz.func51, Tryz.ntmps51
 go_wp2_with fail
 generalize (w.alloc (.cells #[.string V, .int .i64 x0, .slice (some ⟨g, 1, none⟩) 2 2] 123)) = w1 at *
 generalize hX : w.heap.size = X at *
 have HXX := Lib.hid hX
 clear hX
 have HXW : Hid (X ≤ w1.heap.size) := Lib.hid (Nat.le_of_lt HX1.out.lt)
 refine wp_region_held_drew (S := fun w' => Below w1.heap.size w1 w') (by kernel_rfl) (by exact below_drewN (Below.refl _ _) 1) (fun hHeld => ?_)
 refine tkH (i := 0) (v := ?_) rfl (by kernel_rfl) (fun _ _ _ h => h) (Or.inl ⟨by rfl, ?_⟩) (by assumption) ?_
 rotate_left
 ·intro w hSw
  try dsimp only at hSw
  go_simp
  try with_reducible rfl
 simp only [Act.put, z1, z2, z3, z4, z5, z6]
 refine tkH (i := 1) (v := ?_) rfl (by kernel_rfl) (fun _ _ _ h => h) (Or.inl ⟨by rfl, ?_⟩) (by assumption) ?_
 rotate_left
 ·intro w hSw
  try dsimp only at hSw
  go_simp
  try with_reducible rfl
 simp only [Act.put, z1, z2, z3, z4, z5, z6]
 refine tkH (i := 2) (v := ?_) rfl (by kernel_rfl) (fun _ _ _ h => h) (Or.inl ⟨by rfl, ?_⟩) (by assumption) ?_
 rotate_left
 ·intro w hSw
  try dsimp only at hSw
  go_simp
  try with_reducible rfl
 simp only [Act.put, z1, z2, z3, z4, z5, z6]
 refine tkH (i := 3) (v := ?_) rfl (by kernel_rfl) (fun _ _ _ h => h) (Or.inl ⟨by rfl, ?_⟩) (by assumption) ?_
 rotate_left
 ·intro w hSw
  have q0 := (HA1.out.kept hSw).1.cell 0
  have q1 := (HX1.out.kept hSw).cell 1
  have hlk := (HA1.out.kept hSw).look x0 HH.out.1 HH.out.2.1 HH.out.2.2
  rw [HT.out] at hlk
  simp at q0 q1
  go_simp
  try with_reducible rfl
 simp only [Act.put, z1, z2, z3, z4, z5, z6]
 refine tkH (i := 4) (v := ?_) rfl (by kernel_rfl) (fun _ _ _ h => h) (Or.inl ⟨by rfl, ?_⟩) (by assumption) ?_
 rotate_left
 ·intro w hSw
  try dsimp only at hSw
  go_simp
  try with_reducible rfl
 simp only [Act.put, z1, z2, z3, z4, z5, z6]
 refine tkH (i := 5) (v := ?_) rfl (by kernel_rfl) (fun _ _ _ h => h) (Or.inl ⟨by rfl, ?_⟩) (by assumption) ?_
 rotate_left
 ·intro w hSw
  have q0 := (HA1.out.kept hSw).1.cell 0
  have q1 := (HX1.out.kept hSw).cell 1
  have hlk := (HA1.out.kept hSw).look x0 HH.out.1 HH.out.2.1 HH.out.2.2
  rw [HT.out] at hlk
  simp at q0 q1
  go_simp
  try with_reducible rfl
 simp only [Act.put, z1, z2, z3, z4, z5, z6]
 refine tkH (i := 6) (v := ?_) rfl (by kernel_rfl) (fun _ _ _ h => h) (Or.inl ⟨by rfl, ?_⟩) (by assumption) ?_
 rotate_left
 ·intro w hSw
  have q0 := (HA1.out.kept hSw).1.cell 0
  have q1 := (HX1.out.kept hSw).cell 1
  have hlk := (HA1.out.kept hSw).look x0 HH.out.1 HH.out.2.1 HH.out.2.2
  rw [HT.out] at hlk
  simp at q0 q1
  go_simp
  try with_reducible rfl
 simp only [Act.put, z1, z2, z3, z4, z5, z6]
 refine tkH (i := 7) (v := ?_) rfl (by kernel_rfl) (fun _ _ _ h => h) (Or.inl ⟨by rfl, ?_⟩) (by assumption) ?_
 rotate_left
 ·intro w hSw
  try dsimp only at hSw
  go_simp
  try with_reducible rfl
 simp only [Act.put, z1, z2, z3, z4, z5, z6]
 refine tkH (i := 8) (v := ?_) rfl (by kernel_rfl) (fun _ _ _ h => h) (Or.inl ⟨by rfl, ?_⟩) (by assumption) ?_
 rotate_left
 ·intro w hSw
  try dsimp only at hSw
  go_simp
  try with_reducible rfl
 simp only [Act.put, z1, z2, z3, z4, z5, z6]
 refine tkH (i := 9) (v := ?_) rfl (by kernel_rfl) (fun _ _ _ h => h) (Or.inl ⟨by rfl, ?_⟩) (by assumption) ?_
 rotate_left
 ·intro w hSw
  try dsimp only at hSw
  go_simp
  try with_reducible rfl
 simp only [Act.put, z1, z2, z3, z4, z5, z6]
 refine wpAnyH_ready (rs := [10]) (by kernel_rfl) (by simp) ?_
 refine AllReadyH.cons rfl (fun Kc hKc => ?_) AllReadyH.nil
 go_simp
 have hPrev := Lib.hid hHeld.size
 refine hKc.out _ _ ?_ (fun hHeld => ?_)
 ·first | assumption | exact hHeld | exact hHeld.alloc hHeld.size _ | exact below_setRow hHeld hPrev.out _
 clear hKc Kc
 first | have HAQ := Lib.hid (freshOf hHeld) | have HAQ := Lib.hid (freshDrew hHeld)
 refine wpAnyH_ready (rs := [11]) (by kernel_rfl) (by simp) ?_
 refine AllReadyH.cons rfl (fun Kc hKc => ?_) AllReadyH.nil
 have HAR := Lib.hid (blkRowNew (cs' := #[thPtr (some S), thPtr none]) HAQ.out); refine wp_store_row 84 _ _ rfl _ #[thPtr (some S), thPtr none] rfl (by rfl) 84 _ HAQ.out (by kernel_rfl) rfl (by simp [Value.oneCell', thPtr]) ?_
 refine hKc.out _ _ ?_ (fun hHeld => ?_)
 ·first | assumption | exact hHeld | exact hHeld.alloc hHeld.size _ | exact below_setRow hHeld hPrev.out _
 clear hKc Kc
 refine tkH (i := 12) (v := ?_) rfl (by kernel_rfl) (fun _ _ _ h => h) (Or.inl ⟨by rfl, ?_⟩) (by assumption) ?_
 rotate_left
 ·intro w hSw
  try dsimp only at hSw
  go_simp
  try with_reducible rfl
 simp only [Act.put, z1, z2, z3, z4, z5, z6]
 refine wpAnyH_done (by kernel_rfl) ?_ _
 generalize ((w1.alloc (.cells #[.pointer none, .pointer none] 84)).drew.setRow w1.heap.size #[thPtr (some S), thPtr none]) = wz at *
 have hx := HX1.out.kept hHeld
 have HXZ := Lib.hid hx
 have hr := HAR.out
 have x_0 := hx.cell 0
 have x_2 := hx.cell 2
 simp at x_0 x_2
 have HB9 : Hid (Below X w wz) := Lib.hid (HB1.out.trans (hHeld.mono HXW.out))
 clear hHeld hx HAR HAQ
 go_wp2_with (refine wpList_load_row rfl 84 _ rfl w1.heap.size rfl 84 _ (0, 0) _ hr Tryz.underlying84 rfl (by kernel_rfl) ?_)
 with_reducible refine (PS.out _).mono ?_
 rintro e wy ⟨rfl, hb⟩
 have HBY : Hid (Below X w wy) := Lib.hid (HB9.out.trans (hb.mono (by have := HB9.out.size; have := HXW.out; have := HXZ.out.lt; omega)))
 have hxy := HXZ.out.kept hb
 have HXY := Lib.hid hxy
 have x_0 := hxy.cell 0
 have x_2 := hxy.cell 2
 simp at x_0 x_2
 have HXL : Hid (X ≤ wy.heap.size) := Lib.hid (by have := HXY.out.lt; omega)
 have hg := HG.out.of_block (HBY.out.block g (by have := HG.out.lt; have := HXX.out; omega))
 have HGY := Lib.hid hg
 have y1 : wy.cell? ⟨g, 1, none⟩ = some (.int .i64 x1) := hg.cell (by decide)
 have y2 : wy.cell? ⟨g, 2, none⟩ = some (.int .i64 x2) := hg.cell (by decide)
 clear hg
 clear hr hb hxy
 go_wp2_with fail
 refine wp_region_held_drew (S := fun w' => Below wy.heap.size wy w') (by kernel_rfl) (by exact below_drewN (Below.refl _ _) 1) (fun hHeld => ?_)
 refine tkH (i := 0) (v := ?_) rfl (by kernel_rfl) (fun _ _ _ h => h) (Or.inl ⟨by rfl, ?_⟩) (by assumption) ?_
 rotate_left
 ·intro w hSw
  try dsimp only at hSw
  go_simp
  try with_reducible rfl
 simp only [Act.put, z1, z2, z3, z4, z5, z6]
 refine tkH (i := 1) (v := ?_) rfl (by kernel_rfl) (fun _ _ _ h => h) (Or.inl ⟨by rfl, ?_⟩) (by assumption) ?_
 rotate_left
 ·intro w hSw
  try dsimp only at hSw
  go_simp
  try with_reducible rfl
 simp only [Act.put, z1, z2, z3, z4, z5, z6]
 refine tkH (i := 2) (v := ?_) rfl (by kernel_rfl) (fun _ _ _ h => h) (Or.inl ⟨by rfl, ?_⟩) (by assumption) ?_
 rotate_left
 ·intro w hSw
  have q1 := (HXY.out.kept hSw).cell 2
  have q2 : w.cell? ⟨g, 1, none⟩ = some (.int .i64 x1) := (HGY.out.of_block (hSw.block g HGY.out.lt)).cell (by decide)
  have q3 : w.cell? ⟨g, 2, none⟩ = some (.int .i64 x2) := (HGY.out.of_block (hSw.block g HGY.out.lt)).cell (by decide)
  simp at q1
  go_simp
  try with_reducible rfl
 simp only [Act.put, z1, z2, z3, z4, z5, z6]
 refine tkH (i := 3) (v := ?_) rfl (by kernel_rfl) (fun _ _ _ h => h) (Or.inl ⟨by rfl, ?_⟩) (by assumption) ?_
 rotate_left
 ·intro w hSw
  try dsimp only at hSw
  go_simp
  try with_reducible rfl
 simp only [Act.put, z1, z2, z3, z4, z5, z6]
 refine tkH (i := 4) (v := ?_) rfl (by kernel_rfl) (fun _ _ _ h => h) (Or.inl ⟨by rfl, ?_⟩) (by assumption) ?_
 rotate_left
 ·intro w hSw
  have q1 := (HXY.out.kept hSw).cell 2
  have q2 : w.cell? ⟨g, 1, none⟩ = some (.int .i64 x1) := (HGY.out.of_block (hSw.block g HGY.out.lt)).cell (by decide)
  have q3 : w.cell? ⟨g, 2, none⟩ = some (.int .i64 x2) := (HGY.out.of_block (hSw.block g HGY.out.lt)).cell (by decide)
  simp at q1
  go_simp
  try with_reducible rfl
 simp only [Act.put, z1, z2, z3, z4, z5, z6]
 refine tkH (i := 5) (v := ?_) rfl (by kernel_rfl) (fun _ _ _ h => h) (Or.inl ⟨by rfl, ?_⟩) (by assumption) ?_
 rotate_left
 ·intro w hSw
  try dsimp only at hSw
  go_simp
  try with_reducible rfl
 simp only [Act.put, z1, z2, z3, z4, z5, z6]
 refine tkH (i := 6) (v := ?_) rfl (by kernel_rfl) (fun _ _ _ h => h) (Or.inl ⟨by rfl, ?_⟩) (by assumption) ?_
 rotate_left
 ·intro w hSw
  have q1 := (HXY.out.kept hSw).cell 2
  have q2 : w.cell? ⟨g, 1, none⟩ = some (.int .i64 x1) := (HGY.out.of_block (hSw.block g HGY.out.lt)).cell (by decide)
  have q3 : w.cell? ⟨g, 2, none⟩ = some (.int .i64 x2) := (HGY.out.of_block (hSw.block g HGY.out.lt)).cell (by decide)
  simp at q1
  go_simp
  try with_reducible rfl
 simp only [Act.put, z1, z2, z3, z4, z5, z6]
 refine tkH (i := 7) (v := ?_) rfl (by kernel_rfl) (fun _ _ _ h => h) (Or.inl ⟨by rfl, ?_⟩) (by assumption) ?_
 rotate_left
 ·intro w hSw
  try dsimp only at hSw
  go_simp
  try with_reducible rfl
 simp only [Act.put, z1, z2, z3, z4, z5, z6]
 refine tkH (i := 8) (v := ?_) rfl (by kernel_rfl) (fun _ _ _ h => h) (Or.inl ⟨by rfl, ?_⟩) (by assumption) ?_
 rotate_left
 ·intro w hSw
  have q1 := (HXY.out.kept hSw).cell 2
  have q2 : w.cell? ⟨g, 1, none⟩ = some (.int .i64 x1) := (HGY.out.of_block (hSw.block g HGY.out.lt)).cell (by decide)
  have q3 : w.cell? ⟨g, 2, none⟩ = some (.int .i64 x2) := (HGY.out.of_block (hSw.block g HGY.out.lt)).cell (by decide)
  simp at q1
  go_simp
  try with_reducible rfl
 simp only [Act.put, z1, z2, z3, z4, z5, z6]
 refine wpAnyH_ready (rs := [9]) (by kernel_rfl) (by simp) ?_
 refine AllReadyH.cons rfl (fun Kc hKc => ?_) AllReadyH.nil
 go_simp
 go_wp2_with (first | (with_reducible refine (HU.out _ (HBY.out.trans (hHeld.mono HXL.out))).mono ?_; rintro e wq ⟨⟨ao, k, cp, rfl, hq⟩, hb'⟩; have HQ := Lib.hid hq; clear hq))
 refine hKc.out _ _ ?_ (fun hHeld => ?_)
 ·first | assumption | exact hHeld | exact btr hHeld hb'
 clear hKc Kc
 refine tkH (i := 10) (v := ?_) rfl (by kernel_rfl) (fun _ _ _ h => h) (Or.inl ⟨by rfl, ?_⟩) (by assumption) ?_
 rotate_left
 ·intro w hSw
  try dsimp only at hSw
  go_simp
  try with_reducible rfl
 simp only [Act.put, z1, z2, z3, z4, z5, z6]
 refine tkH (i := 11) (v := ?_) rfl (by kernel_rfl) (fun _ _ _ h => h) (Or.inl ⟨by rfl, ?_⟩) (by assumption) ?_
 rotate_left
 ·intro w hSw
  try dsimp only at hSw
  go_simp
  try with_reducible rfl
 simp only [Act.put, z1, z2, z3, z4, z5, z6]
 refine tkH (i := 12) (v := ?_) rfl (by kernel_rfl) (fun _ _ _ h => h) (Or.inl ⟨by rfl, ?_⟩) (by assumption) ?_
 rotate_left
 ·intro w hSw
  try dsimp only at hSw
  go_simp
  try with_reducible rfl
 simp only [Act.put, z1, z2, z3, z4, z5, z6]
 refine tkH (i := 13) (v := ?_) rfl (by kernel_rfl) (fun _ _ _ h => h) (Or.inl ⟨by rfl, ?_⟩) (by assumption) ?_
 rotate_left
 ·intro w hSw
  try dsimp only at hSw
  go_simp
  try with_reducible rfl
 simp only [Act.put, z1, z2, z3, z4, z5, z6]
 refine tkH (i := 14) (v := ?_) rfl (by kernel_rfl) (fun _ _ _ h => h) (Or.inl ⟨by rfl, ?_⟩) (by assumption) ?_
 rotate_left
 ·intro w hSw
  try dsimp only at hSw
  go_simp
  try with_reducible rfl
 simp only [Act.put, z1, z2, z3, z4, z5, z6]
 refine wpAnyH_done (by kernel_rfl) ?_ _
 have HBF : Hid (Below w.heap.size w wq) := Lib.hid (by rw [HXX.out]; exact HBY.out.trans (hHeld.mono HXL.out))
 clear hHeld
 go_wp2_with fail
 go_ret2
 exact ⟨⟨ao, k, cp, rfl, HQ.out⟩, HBF.out⟩
end Go.Proofs.YtfeficdndjiijaaGreatDoor


namespace Go.Proofs.YtfeficdndjiijaaGreatDoor
open Go.RowKit Go.Maps
set_option linter.unusedVariables false
set_option linter.unusedSimpArgs false

set_option maxRecDepth 100000 in
set_option maxHeartbeats 4000000 in
theorem agg_inner (w : World) (A b n : Nat) (T : Nat → Option Nat × Option Nat) (x0 x1 : Int) (S1 S2 : Nat) (hi lo : Int) (hA : AggIs w A b n T) (h1 : 1 ≤ x0) (h2 : x0 ≤ (n : Int)) (h3 : 1 ≤ x1) (h4 : x1 ≤ (n : Int)) (hn : n ≤ 100) (hT1 : T x0.toNat = (some S1, none)) (hT2 : T x1.toNat = (some S2, none))
  (hU : ∀ w1, Below w.heap.size w w1 → Calls Tryz.prog 98 #[.pointer (some ⟨S1, 0, none⟩), .pointer (some ⟨S2, 0, none⟩)] w1 fun e w' => e = .returned (.tuple #[.agg #[.int .i64 hi, .int .u64 lo], .int .i64 0]) ∧ Below w1.heap.size w1 w') :
  Calls Tryz.prog 52 #[.pointer (some ⟨A, 0, none⟩), .agg #[.string (sB [105, 110, 110, 101, 114]), .int .i64 x0, .int .i64 x1]] w fun e w' => e = .returned (.tuple #[.iface 145 (.agg #[.int .i64 hi, .int .u64 lo]), .int .i64 0]) ∧ Below w.heap.size w w' := by
 have HA := Lib.hid hA
 have HH := Lib.hid (And.intro h1 (And.intro h2 (And.intro h3 (And.intro h4 hn))))
 have HT1 := Lib.hid hT1
 have HT2 := Lib.hid hT2
 have HU := Lib.hid hU
 have PD := Lib.hid done_ok
 have PS1 := Lib.hid (thstackP S1)
 have PS := Lib.hid (thstackP S2)
 have hvl := sB_list [105, 110, 110, 101, 114]
 obtain ⟨V, hV⟩ : ∃ V, V = sB [105, 110, 110, 101, 114] := ⟨_, rfl⟩
 rw [← hV] at hvl ⊢
 have hb1 : Below w.heap.size w (w.alloc (.cells #[.string V, .int .i64 x0, .int .i64 x1] 126)) := (Below.refl _ w).alloc (Nat.le_refl _) _
 have HX_w1 := Lib.hid (Blk.new w 126 #[.string V, .int .i64 x0, .int .i64 x1])
 have HA_w1 := Lib.hid (hA.kept hb1)
 have HB1 := Lib.hid hb1
 clear hA h1 h2 h3 h4 hn hT1 hT2 hU hb1 hV
 go_enter Tryz.func52, Tryz.ntmps52
 go_wp2_with fail
 generalize (w.alloc (.cells #[.string V, .int .i64 x0, .int .i64 x1] 126)) = w1 at *
 generalize hX : w.heap.size = X at *
 have HXX := Lib.hid hX
 clear hX
 have HXW : Hid (X ≤ w1.heap.size) := Lib.hid (Nat.le_of_lt HX_w1.out.lt)
 refine wp_region_held_drew (S := fun w' => Below w1.heap.size w1 w') (by kernel_rfl) (by exact below_drewN (Below.refl _ _) 1) (fun hHeld => ?_)
 refine tkH (i := 0) (v := ?_) rfl (by kernel_rfl) (fun _ _ _ h => h) (Or.inl ⟨by rfl, ?_⟩) (by assumption) ?_
 rotate_left
 ·intro w hSw
  try dsimp only at hSw
  go_simp
  try with_reducible rfl
 simp only [Act.put, z1, z2, z3, z4, z5, z6]
 refine tkH (i := 1) (v := ?_) rfl (by kernel_rfl) (fun _ _ _ h => h) (Or.inl ⟨by rfl, ?_⟩) (by assumption) ?_
 rotate_left
 ·intro w hSw
  try dsimp only at hSw
  go_simp
  try with_reducible rfl
 simp only [Act.put, z1, z2, z3, z4, z5, z6]
 refine tkH (i := 2) (v := ?_) rfl (by kernel_rfl) (fun _ _ _ h => h) (Or.inl ⟨by rfl, ?_⟩) (by assumption) ?_
 rotate_left
 ·intro w hSw
  try dsimp only at hSw
  go_simp
  try with_reducible rfl
 simp only [Act.put, z1, z2, z3, z4, z5, z6]
 refine tkH (i := 3) (v := ?_) rfl (by kernel_rfl) (fun _ _ _ h => h) (Or.inl ⟨by rfl, ?_⟩) (by assumption) ?_
 rotate_left
 ·intro w hSw
  have q0 := (HA_w1.out.kept hSw).1.cell 0
  have q1 := (HX_w1.out.kept hSw).cell 1
  have hlk := (HA_w1.out.kept hSw).look x0 HH.out.1 HH.out.2.1 HH.out.2.2.2.2
  rw [HT1.out] at hlk
  simp at q0 q1
  go_simp
  try with_reducible rfl
 simp only [Act.put, z1, z2, z3, z4, z5, z6]
 refine tkH (i := 4) (v := ?_) rfl (by kernel_rfl) (fun _ _ _ h => h) (Or.inl ⟨by rfl, ?_⟩) (by assumption) ?_
 rotate_left
 ·intro w hSw
  try dsimp only at hSw
  go_simp
  try with_reducible rfl
 simp only [Act.put, z1, z2, z3, z4, z5, z6]
 refine tkH (i := 5) (v := ?_) rfl (by kernel_rfl) (fun _ _ _ h => h) (Or.inl ⟨by rfl, ?_⟩) (by assumption) ?_
 rotate_left
 ·intro w hSw
  have q0 := (HA_w1.out.kept hSw).1.cell 0
  have q1 := (HX_w1.out.kept hSw).cell 1
  have hlk := (HA_w1.out.kept hSw).look x0 HH.out.1 HH.out.2.1 HH.out.2.2.2.2
  rw [HT1.out] at hlk
  simp at q0 q1
  go_simp
  try with_reducible rfl
 simp only [Act.put, z1, z2, z3, z4, z5, z6]
 refine tkH (i := 6) (v := ?_) rfl (by kernel_rfl) (fun _ _ _ h => h) (Or.inl ⟨by rfl, ?_⟩) (by assumption) ?_
 rotate_left
 ·intro w hSw
  have q0 := (HA_w1.out.kept hSw).1.cell 0
  have q1 := (HX_w1.out.kept hSw).cell 1
  have hlk := (HA_w1.out.kept hSw).look x0 HH.out.1 HH.out.2.1 HH.out.2.2.2.2
  rw [HT1.out] at hlk
  simp at q0 q1
  go_simp
  try with_reducible rfl
 simp only [Act.put, z1, z2, z3, z4, z5, z6]
 refine tkH (i := 7) (v := ?_) rfl (by kernel_rfl) (fun _ _ _ h => h) (Or.inl ⟨by rfl, ?_⟩) (by assumption) ?_
 rotate_left
 ·intro w hSw
  try dsimp only at hSw
  go_simp
  try with_reducible rfl
 simp only [Act.put, z1, z2, z3, z4, z5, z6]
 refine tkH (i := 8) (v := ?_) rfl (by kernel_rfl) (fun _ _ _ h => h) (Or.inl ⟨by rfl, ?_⟩) (by assumption) ?_
 rotate_left
 ·intro w hSw
  try dsimp only at hSw
  go_simp
  try with_reducible rfl
 simp only [Act.put, z1, z2, z3, z4, z5, z6]
 refine tkH (i := 9) (v := ?_) rfl (by kernel_rfl) (fun _ _ _ h => h) (Or.inl ⟨by rfl, ?_⟩) (by assumption) ?_
 rotate_left
 ·intro w hSw
  try dsimp only at hSw
  go_simp
  try with_reducible rfl
 simp only [Act.put, z1, z2, z3, z4, z5, z6]
 refine wpAnyH_ready (rs := [10]) (by kernel_rfl) (by simp) ?_
 refine AllReadyH.cons rfl (fun Kc hKc => ?_) AllReadyH.nil
 go_simp
 have hPrev := Lib.hid hHeld.size
 refine hKc.out _ _ ?_ (fun hHeld => ?_)
 ·first | assumption | exact hHeld | exact hHeld.alloc hHeld.size _ | exact below_setRow hHeld hPrev.out _
 clear hKc Kc
 first | have HAQ := Lib.hid (freshOf hHeld) | have HAQ := Lib.hid (freshDrew hHeld)
 refine wpAnyH_ready (rs := [11]) (by kernel_rfl) (by simp) ?_
 refine AllReadyH.cons rfl (fun Kc hKc => ?_) AllReadyH.nil
 have HAR := Lib.hid (blkRowNew (cs' := #[thPtr (some S1), thPtr none]) HAQ.out); refine wp_store_row 84 _ _ rfl _ #[thPtr (some S1), thPtr none] rfl (by rfl) 84 _ HAQ.out (by kernel_rfl) rfl (by simp [Value.oneCell', thPtr]) ?_
 refine hKc.out _ _ ?_ (fun hHeld => ?_)
 ·first | assumption | exact hHeld | exact hHeld.alloc hHeld.size _ | exact below_setRow hHeld hPrev.out _
 clear hKc Kc
 refine tkH (i := 12) (v := ?_) rfl (by kernel_rfl) (fun _ _ _ h => h) (Or.inl ⟨by rfl, ?_⟩) (by assumption) ?_
 rotate_left
 ·intro w hSw
  try dsimp only at hSw
  go_simp
  try with_reducible rfl
 simp only [Act.put, z1, z2, z3, z4, z5, z6]
 refine wpAnyH_done (by kernel_rfl) ?_ _
 generalize ((w1.alloc (.cells #[.pointer none, .pointer none] 84)).drew.setRow w1.heap.size #[thPtr (some S1), thPtr none]) = w2 at *
 have HA_w2 := Lib.hid (HA_w1.out.kept hHeld)
 have HX_w2 := Lib.hid (HX_w1.out.kept hHeld)
 have HB2 : Hid (Below X w w2) := Lib.hid (HB1.out.trans (hHeld.mono HXW.out))
 have HTB_2 := Lib.hid HAR.out
 have HW12 := Lib.hid (And.intro hHeld.size HAR.out.lt)
 generalize w1.heap.size = tB at *
 clear hHeld HAR HAQ HA_w1 HX_w1 HB1 HXW hPrev
 go_wp2_with fail
 refine wp_region_held_drew (S := fun w' => Below w2.heap.size w2 w') (by kernel_rfl) (by exact below_drewN (Below.refl _ _) 1) (fun hHeld => ?_)
 refine tkH (i := 0) (v := ?_) rfl (by kernel_rfl) (fun _ _ _ h => h) (Or.inl ⟨by rfl, ?_⟩) (by assumption) ?_
 rotate_left
 ·intro w hSw
  try dsimp only at hSw
  go_simp
  try with_reducible rfl
 simp only [Act.put, z1, z2, z3, z4, z5, z6]
 refine tkH (i := 1) (v := ?_) rfl (by kernel_rfl) (fun _ _ _ h => h) (Or.inl ⟨by rfl, ?_⟩) (by assumption) ?_
 rotate_left
 ·intro w hSw
  try dsimp only at hSw
  go_simp
  try with_reducible rfl
 simp only [Act.put, z1, z2, z3, z4, z5, z6]
 refine tkH (i := 2) (v := ?_) rfl (by kernel_rfl) (fun _ _ _ h => h) (Or.inl ⟨by rfl, ?_⟩) (by assumption) ?_
 rotate_left
 ·intro w hSw
  try dsimp only at hSw
  go_simp
  try with_reducible rfl
 simp only [Act.put, z1, z2, z3, z4, z5, z6]
 refine tkH (i := 3) (v := ?_) rfl (by kernel_rfl) (fun _ _ _ h => h) (Or.inl ⟨by rfl, ?_⟩) (by assumption) ?_
 rotate_left
 ·intro w hSw
  have q0 := (HA_w2.out.kept hSw).1.cell 0
  have q1 := (HX_w2.out.kept hSw).cell 2
  have hlk := (HA_w2.out.kept hSw).look x1 HH.out.2.2.1 HH.out.2.2.2.1 HH.out.2.2.2.2
  rw [HT2.out] at hlk
  simp at q0 q1
  go_simp
  try with_reducible rfl
 simp only [Act.put, z1, z2, z3, z4, z5, z6]
 refine tkH (i := 4) (v := ?_) rfl (by kernel_rfl) (fun _ _ _ h => h) (Or.inl ⟨by rfl, ?_⟩) (by assumption) ?_
 rotate_left
 ·intro w hSw
  try dsimp only at hSw
  go_simp
  try with_reducible rfl
 simp only [Act.put, z1, z2, z3, z4, z5, z6]
 refine tkH (i := 5) (v := ?_) rfl (by kernel_rfl) (fun _ _ _ h => h) (Or.inl ⟨by rfl, ?_⟩) (by assumption) ?_
 rotate_left
 ·intro w hSw
  have q0 := (HA_w2.out.kept hSw).1.cell 0
  have q1 := (HX_w2.out.kept hSw).cell 2
  have hlk := (HA_w2.out.kept hSw).look x1 HH.out.2.2.1 HH.out.2.2.2.1 HH.out.2.2.2.2
  rw [HT2.out] at hlk
  simp at q0 q1
  go_simp
  try with_reducible rfl
 simp only [Act.put, z1, z2, z3, z4, z5, z6]
 refine tkH (i := 6) (v := ?_) rfl (by kernel_rfl) (fun _ _ _ h => h) (Or.inl ⟨by rfl, ?_⟩) (by assumption) ?_
 rotate_left
 ·intro w hSw
  have q0 := (HA_w2.out.kept hSw).1.cell 0
  have q1 := (HX_w2.out.kept hSw).cell 2
  have hlk := (HA_w2.out.kept hSw).look x1 HH.out.2.2.1 HH.out.2.2.2.1 HH.out.2.2.2.2
  rw [HT2.out] at hlk
  simp at q0 q1
  go_simp
  try with_reducible rfl
 simp only [Act.put, z1, z2, z3, z4, z5, z6]
 refine tkH (i := 7) (v := ?_) rfl (by kernel_rfl) (fun _ _ _ h => h) (Or.inl ⟨by rfl, ?_⟩) (by assumption) ?_
 rotate_left
 ·intro w hSw
  try dsimp only at hSw
  go_simp
  try with_reducible rfl
 simp only [Act.put, z1, z2, z3, z4, z5, z6]
 refine tkH (i := 8) (v := ?_) rfl (by kernel_rfl) (fun _ _ _ h => h) (Or.inl ⟨by rfl, ?_⟩) (by assumption) ?_
 rotate_left
 ·intro w hSw
  try dsimp only at hSw
  go_simp
  try with_reducible rfl
 simp only [Act.put, z1, z2, z3, z4, z5, z6]
 refine tkH (i := 9) (v := ?_) rfl (by kernel_rfl) (fun _ _ _ h => h) (Or.inl ⟨by rfl, ?_⟩) (by assumption) ?_
 rotate_left
 ·intro w hSw
  try dsimp only at hSw
  go_simp
  try with_reducible rfl
 simp only [Act.put, z1, z2, z3, z4, z5, z6]
 refine wpAnyH_ready (rs := [10]) (by kernel_rfl) (by simp) ?_
 refine AllReadyH.cons rfl (fun Kc hKc => ?_) AllReadyH.nil
 go_simp
 have hPrev := Lib.hid hHeld.size
 refine hKc.out _ _ ?_ (fun hHeld => ?_)
 ·first | assumption | exact hHeld | exact hHeld.alloc hHeld.size _ | exact below_setRow hHeld hPrev.out _
 clear hKc Kc
 first | have HAQ := Lib.hid (freshOf hHeld) | have HAQ := Lib.hid (freshDrew hHeld)
 refine wpAnyH_ready (rs := [11]) (by kernel_rfl) (by simp) ?_
 refine AllReadyH.cons rfl (fun Kc hKc => ?_) AllReadyH.nil
 have HAR := Lib.hid (blkRowNew (cs' := #[thPtr (some S2), thPtr none]) HAQ.out); refine wp_store_row 84 _ _ rfl _ #[thPtr (some S2), thPtr none] rfl (by rfl) 84 _ HAQ.out (by kernel_rfl) rfl (by simp [Value.oneCell', thPtr]) ?_
 refine hKc.out _ _ ?_ (fun hHeld => ?_)
 ·first | assumption | exact hHeld | exact hHeld.alloc hHeld.size _ | exact below_setRow hHeld hPrev.out _
 clear hKc Kc
 refine tkH (i := 12) (v := ?_) rfl (by kernel_rfl) (fun _ _ _ h => h) (Or.inl ⟨by rfl, ?_⟩) (by assumption) ?_
 rotate_left
 ·intro w hSw
  try dsimp only at hSw
  go_simp
  try with_reducible rfl
 simp only [Act.put, z1, z2, z3, z4, z5, z6]
 refine wpAnyH_done (by kernel_rfl) ?_ _
 generalize ((w2.alloc (.cells #[.pointer none, .pointer none] 84)).drew.setRow w2.heap.size #[thPtr (some S2), thPtr none]) = w3 at *
 have HX_w3 := Lib.hid (HX_w2.out.kept hHeld)
 have HB3 : Hid (Below X w w3) := Lib.hid (HB2.out.trans (hHeld.mono (by have := HX_w2.out.lt; omega)))
 have HTB := Lib.hid (HTB_2.out.kept hHeld)
 have HUB := Lib.hid HAR.out
 have HX3 : Hid (X ≤ w3.heap.size) := Lib.hid (by have := HX_w3.out.lt; omega)
 have x_0 := HX_w3.out.cell 0
 have t_0 := HTB.out.cell 0
 have t_1 := HTB.out.cell 1
 simp [thPtr] at x_0 t_0 t_1
 generalize w2.heap.size = uB at *
 clear hHeld HAR HAQ HA_w2 HX_w2 HTB_2 hPrev HW12
 go_wp2_with fail
 refine wp_region_held_drew (S := fun w' => Below w3.heap.size w3 w') (by kernel_rfl) (by exact below_drewN (Below.refl _ _) 1) (fun hHeld => ?_)
 refine tkH (i := 0) (v := ?_) rfl (by kernel_rfl) (fun _ _ _ h => h) (Or.inl ⟨by rfl, ?_⟩) (by assumption) ?_
 rotate_left
 ·intro w hSw
  have q1 := HTB.out.kept hSw
  have q2 := HUB.out.kept hSw
  try (refine (exec_load_row 84 _ rfl tB rfl 84 _ (0, 0) _ q1 Tryz.underlying84 rfl (by kernel_rfl)).trans ?_)
  try (refine (exec_load_row 84 _ rfl uB rfl 84 _ (0, 0) _ q2 Tryz.underlying84 rfl (by kernel_rfl)).trans ?_)
  go_simp
  try with_reducible rfl
 simp only [Act.put, z1, z2, z3, z4, z5, z6]
 refine tkH (i := 2) (v := ?_) rfl (by kernel_rfl) (fun _ _ _ h => h) (Or.inl ⟨by rfl, ?_⟩) (by assumption) ?_
 rotate_left
 ·intro w hSw
  have q1 := HTB.out.kept hSw
  have q2 := HUB.out.kept hSw
  try (refine (exec_load_row 84 _ rfl tB rfl 84 _ (0, 0) _ q1 Tryz.underlying84 rfl (by kernel_rfl)).trans ?_)
  try (refine (exec_load_row 84 _ rfl uB rfl 84 _ (0, 0) _ q2 Tryz.underlying84 rfl (by kernel_rfl)).trans ?_)
  go_simp
  try with_reducible rfl
 simp only [Act.put, z1, z2, z3, z4, z5, z6]
 refine wpAnyH_ready (rs := [1, 8]) (by kernel_rfl) (by simp) ?_
 refine AllReadyH.cons rfl (fun Kc hKc => ?_) (AllReadyH.cons rfl (fun Kc hKc => ?_) AllReadyH.nil)
 ·go_simp
  go_wp2_with (first | (with_reducible refine (PS1.out _).mono ?_; rintro e wq ⟨rfl, hb'⟩; try have HAQ := Lib.hid (HAQ.out.kept hb')) | (with_reducible refine (PS.out _).mono ?_; rintro e wq ⟨rfl, hb'⟩; try have HAQ := Lib.hid (HAQ.out.kept hb')) | (with_reducible refine (HU.out _ (HB3.out.trans (hHeld.mono HX3.out))).mono ?_; rintro e wq ⟨rfl, hb'⟩; try have HAQ := Lib.hid (HAQ.out.kept hb')))
  refine hKc.out _ _ ?_ (fun hHeld => ?_)
  ·first | assumption | exact hHeld | exact btr hHeld hb' | exact hHeld.alloc hHeld.size _ | exact below_setRow hHeld hPrev.out _
  clear hKc Kc
  refine wpAnyH_ready (rs := [3, 8]) (by kernel_rfl) (by simp) ?_
  refine AllReadyH.cons rfl (fun Kc hKc => ?_) (AllReadyH.cons rfl (fun Kc hKc => ?_) AllReadyH.nil)
  ·go_simp
   go_wp2_with (first | (with_reducible refine (PS1.out _).mono ?_; rintro e wq ⟨rfl, hb'⟩; try have HAQ := Lib.hid (HAQ.out.kept hb')) | (with_reducible refine (PS.out _).mono ?_; rintro e wq ⟨rfl, hb'⟩; try have HAQ := Lib.hid (HAQ.out.kept hb')) | (with_reducible refine (HU.out _ (HB3.out.trans (hHeld.mono HX3.out))).mono ?_; rintro e wq ⟨rfl, hb'⟩; try have HAQ := Lib.hid (HAQ.out.kept hb')))
   refine hKc.out _ _ ?_ (fun hHeld => ?_)
   ·first | assumption | exact hHeld | exact btr hHeld hb' | exact hHeld.alloc hHeld.size _ | exact below_setRow hHeld hPrev.out _
   clear hKc Kc
   refine wpAnyH_ready (rs := [4, 8]) (by kernel_rfl) (by simp) ?_
   refine AllReadyH.cons rfl (fun Kc hKc => ?_) (AllReadyH.cons rfl (fun Kc hKc => ?_) AllReadyH.nil)
   ·go_simp
    go_wp2_with (first | (with_reducible refine (PS1.out _).mono ?_; rintro e wq ⟨rfl, hb'⟩; try have HAQ := Lib.hid (HAQ.out.kept hb')) | (with_reducible refine (PS.out _).mono ?_; rintro e wq ⟨rfl, hb'⟩; try have HAQ := Lib.hid (HAQ.out.kept hb')) | (with_reducible refine (HU.out _ (HB3.out.trans (hHeld.mono HX3.out))).mono ?_; rintro e wq ⟨rfl, hb'⟩; try have HAQ := Lib.hid (HAQ.out.kept hb')))
    refine hKc.out _ _ ?_ (fun hHeld => ?_)
    ·first | assumption | exact hHeld | exact btr hHeld hb' | exact hHeld.alloc hHeld.size _ | exact below_setRow hHeld hPrev.out _
    clear hKc Kc
    refine tkH (i := 5) (v := ?_) rfl (by kernel_rfl) (fun _ _ _ h => h) (Or.inl ⟨by rfl, ?_⟩) (by assumption) ?_
    rotate_left
    ·intro w hSw
     try dsimp only at hSw
     go_simp
     try with_reducible rfl
    simp only [Act.put, z1, z2, z3, z4, z5, z6]
    refine tkH (i := 6) (v := ?_) rfl (by kernel_rfl) (fun _ _ _ h => h) (Or.inl ⟨by rfl, ?_⟩) (by assumption) ?_
    rotate_left
    ·intro w hSw
     try dsimp only at hSw
     go_simp
     try with_reducible rfl
    simp only [Act.put, z1, z2, z3, z4, z5, z6]
    refine tkH (i := 7) (v := ?_) rfl (by kernel_rfl) (fun _ _ _ h => h) (Or.inl ⟨by rfl, ?_⟩) (by assumption) ?_
    rotate_left
    ·intro w hSw
     try dsimp only at hSw
     go_simp
     try with_reducible rfl
    simp only [Act.put, z1, z2, z3, z4, z5, z6]
    refine wpAnyH_ready (rs := [8]) (by kernel_rfl) (by simp) ?_
    refine AllReadyH.cons rfl (fun Kc hKc => ?_) AllReadyH.nil
    go_simp
    have hPrev := Lib.hid hHeld.size
    refine hKc.out _ _ ?_ (fun hHeld => ?_)
    ·first | assumption | exact hHeld | exact btr hHeld hb' | exact hHeld.alloc hHeld.size _ | exact below_setRow hHeld hPrev.out _
    clear hKc Kc
    first | have HAQ := Lib.hid (freshOf hHeld) | have HAQ := Lib.hid (freshDrew hHeld)
    refine wpAnyH_ready (rs := [9]) (by kernel_rfl) (by simp) ?_
    refine AllReadyH.cons rfl (fun Kc hKc => ?_) AllReadyH.nil
    have HAR := Lib.hid (blkRowNew (cs' := #[.int .i64 hi, .int .u64 lo]) HAQ.out); refine wp_store_row 143 _ _ rfl _ #[.int .i64 hi, .int .u64 lo] rfl (by rfl) 143 _ HAQ.out (by kernel_rfl) rfl (by simp [Value.oneCell']) ?_
    refine hKc.out _ _ ?_ (fun hHeld => ?_)
    ·first | assumption | exact hHeld | exact btr hHeld hb' | exact hHeld.alloc hHeld.size _ | exact below_setRow hHeld hPrev.out _
    clear hKc Kc
    refine tkH (i := 10) (v := ?_) rfl (by kernel_rfl) (fun _ _ _ h => h) (Or.inl ⟨by rfl, ?_⟩) (by assumption) ?_
    rotate_left
    ·intro w hSw
     try dsimp only at hSw
     go_simp
     try with_reducible rfl
    simp only [Act.put, z1, z2, z3, z4, z5, z6]
    refine wpAnyH_done (by kernel_rfl) ?_ _
    have HBZ := Lib.hid (HB3.out.trans (hHeld.mono HX3.out))
    have har := HAR.out
    clear hHeld
    go_wp2_with (refine wpList_load_row rfl 143 _ rfl _ rfl 143 _ (0, 0) _ har Tryz.underlying143 rfl (by kernel_rfl) ?_)
    go_ret2
    exact ⟨rfl, by rw [HXX.out]; exact HBZ.out⟩
   ·go_simp
    have hPrev := Lib.hid hHeld.size
    refine hKc.out _ _ ?_ (fun hHeld => ?_)
    ·first | assumption | exact hHeld | exact btr hHeld hb' | exact hHeld.alloc hHeld.size _ | exact below_setRow hHeld hPrev.out _
    clear hKc Kc
    first | have HAQ := Lib.hid (freshOf hHeld) | have HAQ := Lib.hid (freshDrew hHeld)
    refine wpAnyH_ready (rs := [4]) (by kernel_rfl) (by simp) ?_
    refine AllReadyH.cons rfl (fun Kc hKc => ?_) AllReadyH.nil
    go_simp
    go_wp2_with (first | (with_reducible refine (PS1.out _).mono ?_; rintro e wq ⟨rfl, hb'⟩; try have HAQ := Lib.hid (HAQ.out.kept hb')) | (with_reducible refine (PS.out _).mono ?_; rintro e wq ⟨rfl, hb'⟩; try have HAQ := Lib.hid (HAQ.out.kept hb')) | (with_reducible refine (HU.out _ (HB3.out.trans (hHeld.mono HX3.out))).mono ?_; rintro e wq ⟨rfl, hb'⟩; try have HAQ := Lib.hid (HAQ.out.kept hb')))
    refine hKc.out _ _ ?_ (fun hHeld => ?_)
    ·first | assumption | exact hHeld | exact btr hHeld hb' | exact hHeld.alloc hHeld.size _ | exact below_setRow hHeld hPrev.out _
    clear hKc Kc
    refine tkH (i := 5) (v := ?_) rfl (by kernel_rfl) (fun _ _ _ h => h) (Or.inl ⟨by rfl, ?_⟩) (by assumption) ?_
    rotate_left
    ·intro w hSw
     try dsimp only at hSw
     go_simp
     try with_reducible rfl
    simp only [Act.put, z1, z2, z3, z4, z5, z6]
    refine tkH (i := 6) (v := ?_) rfl (by kernel_rfl) (fun _ _ _ h => h) (Or.inl ⟨by rfl, ?_⟩) (by assumption) ?_
    rotate_left
    ·intro w hSw
     try dsimp only at hSw
     go_simp
     try with_reducible rfl
    simp only [Act.put, z1, z2, z3, z4, z5, z6]
    refine tkH (i := 7) (v := ?_) rfl (by kernel_rfl) (fun _ _ _ h => h) (Or.inl ⟨by rfl, ?_⟩) (by assumption) ?_
    rotate_left
    ·intro w hSw
     try dsimp only at hSw
     go_simp
     try with_reducible rfl
    simp only [Act.put, z1, z2, z3, z4, z5, z6]
    refine wpAnyH_ready (rs := [9]) (by kernel_rfl) (by simp) ?_
    refine AllReadyH.cons rfl (fun Kc hKc => ?_) AllReadyH.nil
    have HAR := Lib.hid (blkRowNew (cs' := #[.int .i64 hi, .int .u64 lo]) HAQ.out); refine wp_store_row 143 _ _ rfl _ #[.int .i64 hi, .int .u64 lo] rfl (by rfl) 143 _ HAQ.out (by kernel_rfl) rfl (by simp [Value.oneCell']) ?_
    refine hKc.out _ _ ?_ (fun hHeld => ?_)
    ·first | assumption | exact hHeld | exact btr hHeld hb' | exact hHeld.alloc hHeld.size _ | exact below_setRow hHeld hPrev.out _
    clear hKc Kc
    refine tkH (i := 10) (v := ?_) rfl (by kernel_rfl) (fun _ _ _ h => h) (Or.inl ⟨by rfl, ?_⟩) (by assumption) ?_
    rotate_left
    ·intro w hSw
     try dsimp only at hSw
     go_simp
     try with_reducible rfl
    simp only [Act.put, z1, z2, z3, z4, z5, z6]
    refine wpAnyH_done (by kernel_rfl) ?_ _
    have HBZ := Lib.hid (HB3.out.trans (hHeld.mono HX3.out))
    have har := HAR.out
    clear hHeld
    go_wp2_with (refine wpList_load_row rfl 143 _ rfl _ rfl 143 _ (0, 0) _ har Tryz.underlying143 rfl (by kernel_rfl) ?_)
    go_ret2
    exact ⟨rfl, by rw [HXX.out]; exact HBZ.out⟩
  ·go_simp
   have hPrev := Lib.hid hHeld.size
   refine hKc.out _ _ ?_ (fun hHeld => ?_)
   ·first | assumption | exact hHeld | exact btr hHeld hb' | exact hHeld.alloc hHeld.size _ | exact below_setRow hHeld hPrev.out _
   clear hKc Kc
   first | have HAQ := Lib.hid (freshOf hHeld) | have HAQ := Lib.hid (freshDrew hHeld)
   refine wpAnyH_ready (rs := [3]) (by kernel_rfl) (by simp) ?_
   refine AllReadyH.cons rfl (fun Kc hKc => ?_) AllReadyH.nil
   go_simp
   go_wp2_with (first | (with_reducible refine (PS1.out _).mono ?_; rintro e wq ⟨rfl, hb'⟩; try have HAQ := Lib.hid (HAQ.out.kept hb')) | (with_reducible refine (PS.out _).mono ?_; rintro e wq ⟨rfl, hb'⟩; try have HAQ := Lib.hid (HAQ.out.kept hb')) | (with_reducible refine (HU.out _ (HB3.out.trans (hHeld.mono HX3.out))).mono ?_; rintro e wq ⟨rfl, hb'⟩; try have HAQ := Lib.hid (HAQ.out.kept hb')))
   refine hKc.out _ _ ?_ (fun hHeld => ?_)
   ·first | assumption | exact hHeld | exact btr hHeld hb' | exact hHeld.alloc hHeld.size _ | exact below_setRow hHeld hPrev.out _
   clear hKc Kc
   refine wpAnyH_ready (rs := [4]) (by kernel_rfl) (by simp) ?_
   refine AllReadyH.cons rfl (fun Kc hKc => ?_) AllReadyH.nil
   go_simp
   go_wp2_with (first | (with_reducible refine (PS1.out _).mono ?_; rintro e wq ⟨rfl, hb'⟩; try have HAQ := Lib.hid (HAQ.out.kept hb')) | (with_reducible refine (PS.out _).mono ?_; rintro e wq ⟨rfl, hb'⟩; try have HAQ := Lib.hid (HAQ.out.kept hb')) | (with_reducible refine (HU.out _ (HB3.out.trans (hHeld.mono HX3.out))).mono ?_; rintro e wq ⟨rfl, hb'⟩; try have HAQ := Lib.hid (HAQ.out.kept hb')))
   refine hKc.out _ _ ?_ (fun hHeld => ?_)
   ·first | assumption | exact hHeld | exact btr hHeld hb' | exact hHeld.alloc hHeld.size _ | exact below_setRow hHeld hPrev.out _
   clear hKc Kc
   refine tkH (i := 5) (v := ?_) rfl (by kernel_rfl) (fun _ _ _ h => h) (Or.inl ⟨by rfl, ?_⟩) (by assumption) ?_
   rotate_left
   ·intro w hSw
    try dsimp only at hSw
    go_simp
    try with_reducible rfl
   simp only [Act.put, z1, z2, z3, z4, z5, z6]
   refine tkH (i := 6) (v := ?_) rfl (by kernel_rfl) (fun _ _ _ h => h) (Or.inl ⟨by rfl, ?_⟩) (by assumption) ?_
   rotate_left
   ·intro w hSw
    try dsimp only at hSw
    go_simp
    try with_reducible rfl
   simp only [Act.put, z1, z2, z3, z4, z5, z6]
   refine tkH (i := 7) (v := ?_) rfl (by kernel_rfl) (fun _ _ _ h => h) (Or.inl ⟨by rfl, ?_⟩) (by assumption) ?_
   rotate_left
   ·intro w hSw
    try dsimp only at hSw
    go_simp
    try with_reducible rfl
   simp only [Act.put, z1, z2, z3, z4, z5, z6]
   refine wpAnyH_ready (rs := [9]) (by kernel_rfl) (by simp) ?_
   refine AllReadyH.cons rfl (fun Kc hKc => ?_) AllReadyH.nil
   have HAR := Lib.hid (blkRowNew (cs' := #[.int .i64 hi, .int .u64 lo]) HAQ.out); refine wp_store_row 143 _ _ rfl _ #[.int .i64 hi, .int .u64 lo] rfl (by rfl) 143 _ HAQ.out (by kernel_rfl) rfl (by simp [Value.oneCell']) ?_
   refine hKc.out _ _ ?_ (fun hHeld => ?_)
   ·first | assumption | exact hHeld | exact btr hHeld hb' | exact hHeld.alloc hHeld.size _ | exact below_setRow hHeld hPrev.out _
   clear hKc Kc
   refine tkH (i := 10) (v := ?_) rfl (by kernel_rfl) (fun _ _ _ h => h) (Or.inl ⟨by rfl, ?_⟩) (by assumption) ?_
   rotate_left
   ·intro w hSw
    try dsimp only at hSw
    go_simp
    try with_reducible rfl
   simp only [Act.put, z1, z2, z3, z4, z5, z6]
   refine wpAnyH_done (by kernel_rfl) ?_ _
   have HBZ := Lib.hid (HB3.out.trans (hHeld.mono HX3.out))
   have har := HAR.out
   clear hHeld
   go_wp2_with (refine wpList_load_row rfl 143 _ rfl _ rfl 143 _ (0, 0) _ har Tryz.underlying143 rfl (by kernel_rfl) ?_)
   go_ret2
   exact ⟨rfl, by rw [HXX.out]; exact HBZ.out⟩
 ·go_simp
  have hPrev := Lib.hid hHeld.size
  refine hKc.out _ _ ?_ (fun hHeld => ?_)
  ·first | assumption | exact hHeld | exact btr hHeld hb' | exact hHeld.alloc hHeld.size _ | exact below_setRow hHeld hPrev.out _
  clear hKc Kc
  first | have HAQ := Lib.hid (freshOf hHeld) | have HAQ := Lib.hid (freshDrew hHeld)
  refine wpAnyH_ready (rs := [1]) (by kernel_rfl) (by simp) ?_
  refine AllReadyH.cons rfl (fun Kc hKc => ?_) AllReadyH.nil
  go_simp
  go_wp2_with (first | (with_reducible refine (PS1.out _).mono ?_; rintro e wq ⟨rfl, hb'⟩; try have HAQ := Lib.hid (HAQ.out.kept hb')) | (with_reducible refine (PS.out _).mono ?_; rintro e wq ⟨rfl, hb'⟩; try have HAQ := Lib.hid (HAQ.out.kept hb')) | (with_reducible refine (HU.out _ (HB3.out.trans (hHeld.mono HX3.out))).mono ?_; rintro e wq ⟨rfl, hb'⟩; try have HAQ := Lib.hid (HAQ.out.kept hb')))
  refine hKc.out _ _ ?_ (fun hHeld => ?_)
  ·first | assumption | exact hHeld | exact btr hHeld hb' | exact hHeld.alloc hHeld.size _ | exact below_setRow hHeld hPrev.out _
  clear hKc Kc
  refine wpAnyH_ready (rs := [3]) (by kernel_rfl) (by simp) ?_
  refine AllReadyH.cons rfl (fun Kc hKc => ?_) AllReadyH.nil
  go_simp
  go_wp2_with (first | (with_reducible refine (PS1.out _).mono ?_; rintro e wq ⟨rfl, hb'⟩; try have HAQ := Lib.hid (HAQ.out.kept hb')) | (with_reducible refine (PS.out _).mono ?_; rintro e wq ⟨rfl, hb'⟩; try have HAQ := Lib.hid (HAQ.out.kept hb')) | (with_reducible refine (HU.out _ (HB3.out.trans (hHeld.mono HX3.out))).mono ?_; rintro e wq ⟨rfl, hb'⟩; try have HAQ := Lib.hid (HAQ.out.kept hb')))
  refine hKc.out _ _ ?_ (fun hHeld => ?_)
  ·first | assumption | exact hHeld | exact btr hHeld hb' | exact hHeld.alloc hHeld.size _ | exact below_setRow hHeld hPrev.out _
  clear hKc Kc
  refine wpAnyH_ready (rs := [4]) (by kernel_rfl) (by simp) ?_
  refine AllReadyH.cons rfl (fun Kc hKc => ?_) AllReadyH.nil
  go_simp
  go_wp2_with (first | (with_reducible refine (PS1.out _).mono ?_; rintro e wq ⟨rfl, hb'⟩; try have HAQ := Lib.hid (HAQ.out.kept hb')) | (with_reducible refine (PS.out _).mono ?_; rintro e wq ⟨rfl, hb'⟩; try have HAQ := Lib.hid (HAQ.out.kept hb')) | (with_reducible refine (HU.out _ (HB3.out.trans (hHeld.mono HX3.out))).mono ?_; rintro e wq ⟨rfl, hb'⟩; try have HAQ := Lib.hid (HAQ.out.kept hb')))
  refine hKc.out _ _ ?_ (fun hHeld => ?_)
  ·first | assumption | exact hHeld | exact btr hHeld hb' | exact hHeld.alloc hHeld.size _ | exact below_setRow hHeld hPrev.out _
  clear hKc Kc
  refine tkH (i := 5) (v := ?_) rfl (by kernel_rfl) (fun _ _ _ h => h) (Or.inl ⟨by rfl, ?_⟩) (by assumption) ?_
  rotate_left
  ·intro w hSw
   try dsimp only at hSw
   go_simp
   try with_reducible rfl
  simp only [Act.put, z1, z2, z3, z4, z5, z6]
  refine tkH (i := 6) (v := ?_) rfl (by kernel_rfl) (fun _ _ _ h => h) (Or.inl ⟨by rfl, ?_⟩) (by assumption) ?_
  rotate_left
  ·intro w hSw
   try dsimp only at hSw
   go_simp
   try with_reducible rfl
  simp only [Act.put, z1, z2, z3, z4, z5, z6]
  refine tkH (i := 7) (v := ?_) rfl (by kernel_rfl) (fun _ _ _ h => h) (Or.inl ⟨by rfl, ?_⟩) (by assumption) ?_
  rotate_left
  ·intro w hSw
   try dsimp only at hSw
   go_simp
   try with_reducible rfl
  simp only [Act.put, z1, z2, z3, z4, z5, z6]
  refine wpAnyH_ready (rs := [9]) (by kernel_rfl) (by simp) ?_
  refine AllReadyH.cons rfl (fun Kc hKc => ?_) AllReadyH.nil
  have HAR := Lib.hid (blkRowNew (cs' := #[.int .i64 hi, .int .u64 lo]) HAQ.out); refine wp_store_row 143 _ _ rfl _ #[.int .i64 hi, .int .u64 lo] rfl (by rfl) 143 _ HAQ.out (by kernel_rfl) rfl (by simp [Value.oneCell']) ?_
  refine hKc.out _ _ ?_ (fun hHeld => ?_)
  ·first | assumption | exact hHeld | exact btr hHeld hb' | exact hHeld.alloc hHeld.size _ | exact below_setRow hHeld hPrev.out _
  clear hKc Kc
  refine tkH (i := 10) (v := ?_) rfl (by kernel_rfl) (fun _ _ _ h => h) (Or.inl ⟨by rfl, ?_⟩) (by assumption) ?_
  rotate_left
  ·intro w hSw
   try dsimp only at hSw
   go_simp
   try with_reducible rfl
  simp only [Act.put, z1, z2, z3, z4, z5, z6]
  refine wpAnyH_done (by kernel_rfl) ?_ _
  have HBZ := Lib.hid (HB3.out.trans (hHeld.mono HX3.out))
  have har := HAR.out
  clear hHeld
  go_wp2_with (refine wpList_load_row rfl 143 _ rfl _ rfl 143 _ (0, 0) _ har Tryz.underlying143 rfl (by kernel_rfl) ?_)
  go_ret2
  exact ⟨rfl, by rw [HXX.out]; exact HBZ.out⟩
end Go.Proofs.YtfeficdndjiijaaGreatDoor


namespace Go.Proofs.YtfeficdndjiijaaGreatDoor
open Go.RowKit Go.Maps
set_option linter.unusedVariables false
set_option linter.unusedSimpArgs false

end Go.Proofs.YtfeficdndjiijaaGreatDoor


namespace Go.Proofs.YtfeficdndjiijaaGreatDoor
open Go.RowKit
set_option linter.unusedVariables false
set_option linter.unusedSimpArgs false

theorem tcCreateCreate (b r d m s : Int) (w : World) : (Instr.typeAssert (.iface 110 (.agg #[.int .i64 b, .int .i64 r, .int .i64 d, .int .i64 m, .int .u64 s])) 62 110 true).run Tryz.prog w = .ok (.tuple #[.agg #[.int .i64 b, .int .i64 r, .int .i64 d, .int .i64 m, .int .u64 s], .bool true]) w := by kernel_rfl
theorem tcAddCreate (h key x : Int) (w : World) : (Instr.typeAssert (.iface 117 (.agg #[.int .i64 h, .bool false, .string ⟨#[]⟩, .int .u64 key, .int .i64 x])) 62 110 true).run Tryz.prog w = .ok (.tuple #[.agg #[.int .i64 0, .int .i64 0, .int .i64 0, .int .i64 0, .int .u64 0], .bool false]) w := by kernel_rfl
theorem tcAddOpen (h key x : Int) (w : World) : (Instr.typeAssert (.iface 117 (.agg #[.int .i64 h, .bool false, .string ⟨#[]⟩, .int .u64 key, .int .i64 x])) 62 113 true).run Tryz.prog w = .ok (.tuple #[.agg #[.int .i64 0, .int .i64 0, .int .i64 0, .int .i64 0, .int .u64 0, .int .i64 0], .bool false]) w := by kernel_rfl
theorem tcAddAdd (h key x : Int) (w : World) : (Instr.typeAssert (.iface 117 (.agg #[.int .i64 h, .bool false, .string ⟨#[]⟩, .int .u64 key, .int .i64 x])) 62 117 true).run Tryz.prog w = .ok (.tuple #[.agg #[.int .i64 h, .bool false, .string ⟨#[]⟩, .int .u64 key, .int .i64 x], .bool true]) w := by kernel_rfl
theorem tcTickCreate  (w : World) : (Instr.typeAssert (.iface 120 (.agg #[])) 62 110 true).run Tryz.prog w = .ok (.tuple #[.agg #[.int .i64 0, .int .i64 0, .int .i64 0, .int .i64 0, .int .u64 0], .bool false]) w := by kernel_rfl
theorem tcTickOpen  (w : World) : (Instr.typeAssert (.iface 120 (.agg #[])) 62 113 true).run Tryz.prog w = .ok (.tuple #[.agg #[.int .i64 0, .int .i64 0, .int .i64 0, .int .i64 0, .int .u64 0, .int .i64 0], .bool false]) w := by kernel_rfl
theorem tcTickAdd  (w : World) : (Instr.typeAssert (.iface 120 (.agg #[])) 62 117 true).run Tryz.prog w = .ok (.tuple #[.agg #[.int .i64 0, .bool false, .string ⟨#[]⟩, .int .u64 0, .int .i64 0], .bool false]) w := by kernel_rfl
theorem tcTickTick  (w : World) : (Instr.typeAssert (.iface 120 (.agg #[])) 62 120 true).run Tryz.prog w = .ok (.tuple #[.agg #[], .bool true]) w := by kernel_rfl
theorem tcQueryCreate (V : ByteArray) (h : Int) (ao : Option Addr) (k cp : Nat) (w : World) : (Instr.typeAssert (.iface 123 (.agg #[.string V, .int .i64 h, .slice ao k cp])) 62 110 true).run Tryz.prog w = .ok (.tuple #[.agg #[.int .i64 0, .int .i64 0, .int .i64 0, .int .i64 0, .int .u64 0], .bool false]) w := by kernel_rfl
theorem tcQueryOpen (V : ByteArray) (h : Int) (ao : Option Addr) (k cp : Nat) (w : World) : (Instr.typeAssert (.iface 123 (.agg #[.string V, .int .i64 h, .slice ao k cp])) 62 113 true).run Tryz.prog w = .ok (.tuple #[.agg #[.int .i64 0, .int .i64 0, .int .i64 0, .int .i64 0, .int .u64 0, .int .i64 0], .bool false]) w := by kernel_rfl
theorem tcQueryAdd (V : ByteArray) (h : Int) (ao : Option Addr) (k cp : Nat) (w : World) : (Instr.typeAssert (.iface 123 (.agg #[.string V, .int .i64 h, .slice ao k cp])) 62 117 true).run Tryz.prog w = .ok (.tuple #[.agg #[.int .i64 0, .bool false, .string ⟨#[]⟩, .int .u64 0, .int .i64 0], .bool false]) w := by kernel_rfl
theorem tcQueryTick (V : ByteArray) (h : Int) (ao : Option Addr) (k cp : Nat) (w : World) : (Instr.typeAssert (.iface 123 (.agg #[.string V, .int .i64 h, .slice ao k cp])) 62 120 true).run Tryz.prog w = .ok (.tuple #[.agg #[], .bool false]) w := by kernel_rfl
theorem tcQueryQuery (V : ByteArray) (h : Int) (ao : Option Addr) (k cp : Nat) (w : World) : (Instr.typeAssert (.iface 123 (.agg #[.string V, .int .i64 h, .slice ao k cp])) 62 123 true).run Tryz.prog w = .ok (.tuple #[.agg #[.string V, .int .i64 h, .slice ao k cp], .bool true]) w := by kernel_rfl
theorem tcPairCreate (V : ByteArray) (h o : Int) (w : World) : (Instr.typeAssert (.iface 126 (.agg #[.string V, .int .i64 h, .int .i64 o])) 62 110 true).run Tryz.prog w = .ok (.tuple #[.agg #[.int .i64 0, .int .i64 0, .int .i64 0, .int .i64 0, .int .u64 0], .bool false]) w := by kernel_rfl
theorem tcPairOpen (V : ByteArray) (h o : Int) (w : World) : (Instr.typeAssert (.iface 126 (.agg #[.string V, .int .i64 h, .int .i64 o])) 62 113 true).run Tryz.prog w = .ok (.tuple #[.agg #[.int .i64 0, .int .i64 0, .int .i64 0, .int .i64 0, .int .u64 0, .int .i64 0], .bool false]) w := by kernel_rfl
theorem tcPairAdd (V : ByteArray) (h o : Int) (w : World) : (Instr.typeAssert (.iface 126 (.agg #[.string V, .int .i64 h, .int .i64 o])) 62 117 true).run Tryz.prog w = .ok (.tuple #[.agg #[.int .i64 0, .bool false, .string ⟨#[]⟩, .int .u64 0, .int .i64 0], .bool false]) w := by kernel_rfl
theorem tcPairTick (V : ByteArray) (h o : Int) (w : World) : (Instr.typeAssert (.iface 126 (.agg #[.string V, .int .i64 h, .int .i64 o])) 62 120 true).run Tryz.prog w = .ok (.tuple #[.agg #[], .bool false]) w := by kernel_rfl
theorem tcPairQuery (V : ByteArray) (h o : Int) (w : World) : (Instr.typeAssert (.iface 126 (.agg #[.string V, .int .i64 h, .int .i64 o])) 62 123 true).run Tryz.prog w = .ok (.tuple #[.agg #[.string ⟨#[]⟩, .int .i64 0, .slice none 0 0], .bool false]) w := by kernel_rfl
theorem tcPairPair (V : ByteArray) (h o : Int) (w : World) : (Instr.typeAssert (.iface 126 (.agg #[.string V, .int .i64 h, .int .i64 o])) 62 126 true).run Tryz.prog w = .ok (.tuple #[.agg #[.string V, .int .i64 h, .int .i64 o], .bool true]) w := by kernel_rfl
theorem tcImportCreate (ao : Option Addr) (k cp : Nat) (w : World) : (Instr.typeAssert (.iface 129 (.agg #[.slice ao k cp])) 62 110 true).run Tryz.prog w = .ok (.tuple #[.agg #[.int .i64 0, .int .i64 0, .int .i64 0, .int .i64 0, .int .u64 0], .bool false]) w := by kernel_rfl
theorem tcImportOpen (ao : Option Addr) (k cp : Nat) (w : World) : (Instr.typeAssert (.iface 129 (.agg #[.slice ao k cp])) 62 113 true).run Tryz.prog w = .ok (.tuple #[.agg #[.int .i64 0, .int .i64 0, .int .i64 0, .int .i64 0, .int .u64 0, .int .i64 0], .bool false]) w := by kernel_rfl
theorem tcImportAdd (ao : Option Addr) (k cp : Nat) (w : World) : (Instr.typeAssert (.iface 129 (.agg #[.slice ao k cp])) 62 117 true).run Tryz.prog w = .ok (.tuple #[.agg #[.int .i64 0, .bool false, .string ⟨#[]⟩, .int .u64 0, .int .i64 0], .bool false]) w := by kernel_rfl
theorem tcImportTick (ao : Option Addr) (k cp : Nat) (w : World) : (Instr.typeAssert (.iface 129 (.agg #[.slice ao k cp])) 62 120 true).run Tryz.prog w = .ok (.tuple #[.agg #[], .bool false]) w := by kernel_rfl
theorem tcImportQuery (ao : Option Addr) (k cp : Nat) (w : World) : (Instr.typeAssert (.iface 129 (.agg #[.slice ao k cp])) 62 123 true).run Tryz.prog w = .ok (.tuple #[.agg #[.string ⟨#[]⟩, .int .i64 0, .slice none 0 0], .bool false]) w := by kernel_rfl
theorem tcImportPair (ao : Option Addr) (k cp : Nat) (w : World) : (Instr.typeAssert (.iface 129 (.agg #[.slice ao k cp])) 62 126 true).run Tryz.prog w = .ok (.tuple #[.agg #[.string ⟨#[]⟩, .int .i64 0, .int .i64 0], .bool false]) w := by kernel_rfl
theorem tcImportImport (ao : Option Addr) (k cp : Nat) (w : World) : (Instr.typeAssert (.iface 129 (.agg #[.slice ao k cp])) 62 129 true).run Tryz.prog w = .ok (.tuple #[.agg #[.slice ao k cp], .bool true]) w := by kernel_rfl
set_option maxRecDepth 100000 in
set_option maxHeartbeats 4000000 in
theorem do_add (w : World) (A : Nat) (h key x : Int) (Q : Value → World → Prop) (h1 : ∀ w1, Below w.heap.size w w1 → Calls Tryz.prog 49 #[.pointer (some ⟨A, 0, none⟩), .agg #[.int .i64 h, .bool false, .string ⟨#[]⟩, .int .u64 key, .int .i64 x]] w1 fun e w' => ∃ r, e = .returned (.tuple #[r, .int .i64 0]) ∧ Q r w') :
  Calls Tryz.prog 24 #[.pointer (some ⟨A, 0, none⟩), .iface 117 (.agg #[.int .i64 h, .bool false, .string ⟨#[]⟩, .int .u64 key, .int .i64 x])] w fun e w' => ∃ r, e = .returned (.tuple #[r, .int .i64 0]) ∧ Q r w' := by
 have t0 := tcAddCreate h key x
 have t1 := tcAddOpen h key x
 have t2 := tcAddAdd h key x
 have hb1 : Below w.heap.size w (w.alloc (.cells #[.int .i64 h, .bool false, .string ⟨#[]⟩, .int .u64 key, .int .i64 x] 117)) := (Below.refl _ w).alloc (Nat.le_refl _) _
 have hx1 := Blk.new w 117 #[.int .i64 h, .bool false, .string ⟨#[]⟩, .int .u64 key, .int .i64 x]
 have H1 := Lib.hid (h1 _ hb1)
 clear h1 hb1
 go_enter Tryz.func24, Tryz.ntmps24
 go_wp2_with (refine wpList_load_row rfl 117 _ rfl w.heap.size rfl 117 _ (0, 0) _ hx1 Tryz.underlying117 rfl (by kernel_rfl) ?_)
 with_reducible refine H1.out.mono ?_
 rintro e w2 ⟨r, rfl, hq⟩
 have HQ := Lib.hid hq
 clear hq H1
 go_wp2_with fail
 go_ret2
 exact ⟨r, rfl, HQ.out⟩
set_option maxRecDepth 100000 in
set_option maxHeartbeats 4000000 in
theorem do_tick (w : World) (A : Nat)  (Q : Value → World → Prop) (h1 : ∀ w1, Below w.heap.size w w1 → Calls Tryz.prog 50 #[.pointer (some ⟨A, 0, none⟩)] w1 fun e w' => ∃ r, e = .returned (.tuple #[r, .int .i64 0]) ∧ Q r w') :
    Calls Tryz.prog 24 #[.pointer (some ⟨A, 0, none⟩), .iface 120 (.agg #[])] w fun e w' => ∃ r, e = .returned (.tuple #[r, .int .i64 0]) ∧ Q r w' := by
  have t0 := tcTickCreate 
  have t1 := tcTickOpen 
  have t2 := tcTickAdd 
  have t3 := tcTickTick 
  have hb1 : Below w.heap.size w (w.alloc (.cells #[] 120)) := (Below.refl _ w).alloc (Nat.le_refl _) _
  have hx1 := Blk.new w 120 #[]
  have H1 := Lib.hid (h1 _ hb1)
  clear h1 hb1
  go_enter Tryz.func24, Tryz.ntmps24
  go_wp2_with fail
  with_reducible refine H1.out.mono ?_
  rintro e w2 ⟨r, rfl, hq⟩
  have HQ := Lib.hid hq
  clear hq H1
  go_wp2_with fail
  go_ret2
  exact ⟨r, rfl, HQ.out⟩
set_option maxRecDepth 100000 in
set_option maxHeartbeats 4000000 in
theorem do_query (w : World) (A : Nat) (V : ByteArray) (h : Int) (ao : Option Addr) (k cp : Nat) (Q : Value → World → Prop) (h1 : ∀ w1, Below w.heap.size w w1 → Calls Tryz.prog 51 #[.pointer (some ⟨A, 0, none⟩), .agg #[.string V, .int .i64 h, .slice ao k cp]] w1 fun e w' => ∃ r, e = .returned (.tuple #[r, .int .i64 0]) ∧ Q r w') :
  Calls Tryz.prog 24 #[.pointer (some ⟨A, 0, none⟩), .iface 123 (.agg #[.string V, .int .i64 h, .slice ao k cp])] w fun e w' => ∃ r, e = .returned (.tuple #[r, .int .i64 0]) ∧ Q r w' := by
 have t0 := tcQueryCreate V h ao k cp
 have t1 := tcQueryOpen V h ao k cp
 have t2 := tcQueryAdd V h ao k cp
 have t3 := tcQueryTick V h ao k cp
 have t4 := tcQueryQuery V h ao k cp
 have hb1 : Below w.heap.size w (w.alloc (.cells #[.string V, .int .i64 h, .slice ao k cp] 123)) := (Below.refl _ w).alloc (Nat.le_refl _) _
 have hx1 := Blk.new w 123 #[.string V, .int .i64 h, .slice ao k cp]
 have H1 := Lib.hid (h1 _ hb1)
 clear h1 hb1
 go_enter Tryz.func24, Tryz.ntmps24
 go_wp2_with (refine wpList_load_row rfl 123 _ rfl w.heap.size rfl 123 _ (0, 0) _ hx1 Tryz.underlying123 rfl (by kernel_rfl) ?_)
 with_reducible refine H1.out.mono ?_
 rintro e w2 ⟨r, rfl, hq⟩
 have HQ := Lib.hid hq
 clear hq H1
 go_wp2_with fail
 go_ret2
 exact ⟨r, rfl, HQ.out⟩
set_option maxRecDepth 100000 in
set_option maxHeartbeats 4000000 in
theorem do_pair (w : World) (A : Nat) (V : ByteArray) (h o : Int) (Q : Value → World → Prop) (h1 : ∀ w1, Below w.heap.size w w1 → Calls Tryz.prog 52 #[.pointer (some ⟨A, 0, none⟩), .agg #[.string V, .int .i64 h, .int .i64 o]] w1 fun e w' => ∃ r, e = .returned (.tuple #[r, .int .i64 0]) ∧ Q r w') :
  Calls Tryz.prog 24 #[.pointer (some ⟨A, 0, none⟩), .iface 126 (.agg #[.string V, .int .i64 h, .int .i64 o])] w fun e w' => ∃ r, e = .returned (.tuple #[r, .int .i64 0]) ∧ Q r w' := by
 have t0 := tcPairCreate V h o
 have t1 := tcPairOpen V h o
 have t2 := tcPairAdd V h o
 have t3 := tcPairTick V h o
 have t4 := tcPairQuery V h o
 have t5 := tcPairPair V h o
 have hb1 : Below w.heap.size w (w.alloc (.cells #[.string V, .int .i64 h, .int .i64 o] 126)) := (Below.refl _ w).alloc (Nat.le_refl _) _
 have hx1 := Blk.new w 126 #[.string V, .int .i64 h, .int .i64 o]
 have H1 := Lib.hid (h1 _ hb1)
 clear h1 hb1
 go_enter Tryz.func24, Tryz.ntmps24
 go_wp2_with (refine wpList_load_row rfl 126 _ rfl w.heap.size rfl 126 _ (0, 0) _ hx1 Tryz.underlying126 rfl (by kernel_rfl) ?_)
 with_reducible refine H1.out.mono ?_
 rintro e w2 ⟨r, rfl, hq⟩
 have HQ := Lib.hid hq
 clear hq H1
 go_wp2_with fail
 go_ret2
 exact ⟨r, rfl, HQ.out⟩
set_option maxRecDepth 100000 in
set_option maxHeartbeats 4000000 in
theorem do_create (w : World) (A : Nat) (b r d m s : Int) (Q : Value → World → Prop) (N : Nat → World → Prop) (h1 : ∀ w1, Below w.heap.size w w1 → Calls Tryz.prog 36 #[.agg #[.int .i64 b, .int .i64 r, .int .i64 d, .int .i64 m, .int .u64 s]] w1 fun e w' => ∃ S, e = .returned (.tuple #[.pointer (some ⟨S, 0, none⟩), .int .i64 0]) ∧ N S w')
  (h2 : ∀ S w2, N S w2 → Calls Tryz.prog 47 #[.pointer (some ⟨A, 0, none⟩), .agg #[.pointer (some ⟨S, 0, none⟩), .pointer none], .int .i64 0] w2 fun e w' => ∃ r, e = .returned (.tuple #[r, .int .i64 0]) ∧ Q r w') :
  Calls Tryz.prog 24 #[.pointer (some ⟨A, 0, none⟩), .iface 110 (.agg #[.int .i64 b, .int .i64 r, .int .i64 d, .int .i64 m, .int .u64 s])] w fun e w' => ∃ r, e = .returned (.tuple #[r, .int .i64 0]) ∧ Q r w' := by
 have t0 := tcCreateCreate b r d m s
 have hb1 : Below w.heap.size w (w.alloc (.cells #[.int .i64 b, .int .i64 r, .int .i64 d, .int .i64 m, .int .u64 s] 110)) := (Below.refl _ w).alloc (Nat.le_refl _) _
 have hx1 := Blk.new w 110 #[.int .i64 b, .int .i64 r, .int .i64 d, .int .i64 m, .int .u64 s]
 have H1 := Lib.hid (h1 _ hb1)
 have H2 := Lib.hid h2
 clear h1 h2 hb1
 go_enter Tryz.func24, Tryz.ntmps24
 go_wp2_with (refine wpList_load_row rfl 24 _ rfl w.heap.size rfl 110 _ (0, 0) _ hx1 Tryz.underlying24 rfl (by kernel_rfl) ?_)
 with_reducible refine H1.out.mono ?_
 rintro e w2 ⟨S, rfl, hq⟩
 have H3 := Lib.hid (H2.out S _ hq)
 clear hq H1 H2
 go_wp2_with fail
 with_reducible refine H3.out.mono ?_
 rintro e w3 ⟨r, rfl, hq⟩
 have HQ := Lib.hid hq
 clear hq H3
 go_wp2_with fail
 go_ret2
 exact ⟨r, rfl, HQ.out⟩
end Go.Proofs.YtfeficdndjiijaaGreatDoor


namespace Go.Proofs.YtfeficdndjiijaaGreatDoor
open Go.RowKit
set_option linter.unusedVariables false
set_option linter.unusedSimpArgs false

section
variable {P : Program}
def noDefer (o : Oper) : Bool := match o.op with
  | .defer _ => false
  | _ => true
theorem noDefer_ne {o : Oper} (h : noDefer o = true) : ∀ c, o.op ≠ .defer c := fun c e => by
  unfold noDefer at h
  rw [e] at h
  cases h
theorem upon_round {l n : Nat} {o : Oper} {a : Act} {next next' : Act → World → Prop} {Q : Exit → Act → World → Prop} {r : Result Next} (hn : ∀ a w, next a w → next' a w) (h : o.upon P a next Q r) : o.uponIn (Fence.wide.inRound l) n P a next' Q r := by
  unfold Oper.upon at h
  split at h
  · exact hn _ _ h
  · exact hn _ _ h
  · exact hn _ _ h
  · refine ⟨(fun hh => by cases hh), CallsIn.inRound l (callsIn_wide.2 (h.mono ?_))⟩
    intro e w' hq
    cases e with
    | returned v => exact hn _ _ hq
    | panicked c => exact hq
    | outgrown => exact hq
  · refine ⟨(fun hh => by cases hh), fun c cs _ => ?_⟩
    obtain ⟨v, w', hr, hs⟩ := h c cs
    exact ⟨v, w', hn _ _ hr, stepsIn_wide.2 hs⟩
  · exact h
  · exact h.elim
theorem wpOps_round {l n : Nat} {ops : Array Oper} {Q : Exit → Act → World → Prop} (hno : ¬ LetsOut Q) (hd : ∀ (i : Nat) (o : Oper), ops[i]? = some o → noDefer o = true) :
    ∀ (is : List Nat) (a : Act) (w : World), wpOps P ops Q is a w → wpOpsIn (Fence.wide.inRound l) n P ops Q is a w := by
  intro is
  induction is with
  | nil => exact fun a w h => h
  | cons i is ih =>
    intro a w h
    simp only [wpOps] at h
    simp only [wpOpsIn]
    cases ho : ops[i]? with
    | none =>
      rw [ho] at h
      exact ih a w h
    | some o =>
      rw [ho] at h
      simp only [] at h ⊢
      by_cases hw : Region.wanted o (yielded ops a.tmps) = true
      · rw [if_pos hw] at h
        rw [if_pos hw]
        rcases h with h | ⟨_, h⟩
        · refine ⟨fun _ _ => trivial, ?_⟩
          show o.uponIn (Fence.wide.inRound l) n P a _ Q ((o.semAt (some l) a.eval).run P w)
          rw [Oper.semAt_some l a.eval o (noDefer_ne (hd i o ho))]
          exact upon_round ih h
        · exact absurd h hno
      · rw [if_neg hw] at h
        rw [if_neg hw]
        exact ⟨fun _ _ => trivial, ih _ _ h⟩
theorem wpIn_round_any {l n id : Nat} {ops : Array Oper} {Q : Exit → Act → World → Prop} {a : Act} {w : World} (hm : P.follows .mixedOrders = true) (hd : ops.all noDefer = true) (hno : ¬ LetsOut Q)
    (h : wpAny P .any ops Q ops.size (Array.replicate ops.size false) a w.drew) : (Code.region id ops true).wpIn (Fence.wide.inRound l) n P Q a w :=
  wpIn_region_draw fun t => by
    simp only [Region.schedule, hm, Bool.true_or, if_true]
    refine wpOps_round hno (fun i o ho => ?_) _ _ _ (wpAny_sound ops.size t _ a _ h)
    have := Array.all_eq_true.1 hd i (Array.getElem?_eq_some_iff.1 ho).1
    rwa [(Array.getElem?_eq_some_iff.1 ho).2] at this
end
def KpB (l : List Nat) (W W' : World) : Prop := W.heap.size ≤ W'.heap.size ∧ ∀ i ∈ l, W'.heap[i]? = W.heap[i]?
theorem KpB.trans {l : List Nat} {A B C : World} (h : KpB l A B) (k : KpB l B C) : KpB l A C := ⟨Nat.le_trans h.1 k.1, fun i hi => (k.2 i hi).trans (h.2 i hi)⟩
theorem KpB.put {l : List Nat} {w : World} (hl : ∀ i ∈ l, i < w.heap.size) (W : World) (k : Nat) (o o' : Obj) (hk : w.heap.size ≤ k) (_ : W.heap[k]? = some o) (_ : o.isCells = false) (_ : o.isWalk = false) : KpB l W (W.putObj k o') :=
  ⟨by simp, fun i hi => World.putObj_heap_other (by have := hl i hi; omega)⟩
theorem KpB.blk {l : List Nat} {W W' : World} (h : KpB l W W') {g : Nat} (hg : g ∈ l) {t : TypeId} {cs : Array Value} (hb : Blk W g t cs) : Blk W' g t cs := (h.2 g hg).trans hb
theorem KpB.of_below {l : List Nat} {n : Nat} {W W' : World} (h : Below n W W') (hl : ∀ i ∈ l, i < n) : KpB l W W' := ⟨h.size, fun i hi => h.block i (hl i hi)⟩
theorem KpB.of_grown {l : List Nat} {row : Option Nat} {W W' : World} (h : W.grownBy W' row) (hl : ∀ i ∈ l, i < W.heap.size ∧ some i ≠ row) : KpB l W W' := ⟨h.size, fun i hi => h.block i (hl i hi).1 (hl i hi).2⟩
theorem kept_others {W W' : World} {row : Option Nat} (h : W.grownBy W' row) (hr : ∀ g, row = some g → ∃ t cs, Blk W g t cs) : KeepsOthers W W' :=
  ⟨h.size, fun k o hk ho => (h.block k (Array.getElem?_eq_some_iff.1 hk).1 (fun e => by
    obtain ⟨t, cs, hb⟩ := hr k e.symm
    unfold Blk at hb
    rw [hb] at hk
    injection hk with hk
    subst hk
    cases ho)).trans hk⟩
theorem Blk.not_other {W : World} {g r : Nat} {t : TypeId} {cs : Array Value} {o : Obj} (h : Blk W g t cs) (hr : W.heap[r]? = some o) (ho : o.isCells = false) : g ≠ r := by
  rintro rfl
  unfold Blk at h
  rw [h] at hr
  injection hr with hr
  subst hr
  cases ho
theorem Blk.walked {W W' : World} {row : Option Nat} {g : Nat} {t : TypeId} {cs : Array Value} (h : Blk W g t cs) (hg : W.grownBy W' row) (hr : ∀ r, row = some r → ∃ o : Obj, W.heap[r]? = some o ∧ o.isCells = false) : Blk W' g t cs :=
  h.grown hg (fun e => by
    obtain ⟨o, ho, hc⟩ := hr g e.symm
    exact h.not_other ho hc rfl)
end Go.Proofs.YtfeficdndjiijaaGreatDoor


namespace Go.Proofs.YtfeficdndjiijaaGreatDoor
open Go.RowKit
set_option linter.unusedVariables false
set_option linter.unusedSimpArgs false

def SkUpPost (w : World) (A G C : Nat) (b r d m s l : Int) (zs : List Int) (k x : Int) (e : Ending) (w' : World) : Prop :=
  e = .returned (.int .i64 (skErr b r d m s l zs k x)) ∧ SkIs w' A G C b r d m s l (skUpd b r d m s l zs k x) ∧ w.grownBy w' (some C)
theorem skErr_ok {b r d m s l : Int} {zs : List Int} {k x : Int} (h : skErr b r d m s l zs k x = 0) : k < keysI b r d m l ∧ (m = 2 → 0 ≤ x ∧ In64 (kthL (readZ d.toNat zs (colsZ d s l k r.toNat)) 0 + x)) ∧ (m ≠ 2 → changeFits d.toNat zs (colsZ d s l k r.toNat) x) := by
  unfold skErr at h
  split at h
  · cases h
  · rename_i h1
    refine ⟨by omega, fun hm => ?_, fun hm => ?_⟩
    · rw [if_pos hm] at h
      split at h
      · cases h
      · split at h
        · rename_i h2 h3; exact ⟨by omega, h3⟩
        · cases h
    · rw [if_neg hm] at h
      split at h
      · assumption
      · cases h
set_option maxRecDepth 100000 in
set_option maxHeartbeats 8000000 in
theorem skupdate (w : World) (A G C : Nat) (b r d m s l : Int) (zs : List Int) (h : SkIs w A G C b r d m s l zs) (hr : rightB b r d m = true) (s0 : 0 ≤ s) (s1 : s ≤ 18446744073709551615) (k x : Int) (k0 : 0 ≤ k) (k1 : k ≤ 18446744073709551615) (hx : In64 x) :
  Calls Tryz.prog 287 #[.pointer (some ⟨A, 0, none⟩), .int .u64 k, .int .i64 x] w (SkUpPost w A G C b r d m s l zs k x) := by
 have PC := Lib.hid (skcheck w A G C b r d m s l zs h hr s0 s1 k x k0 k1 hx)
 have HA := Lib.hid h
 have HNE := Lib.hid h.neA
 by_cases h0 : skErr b r d m s l zs k x = 0
 ·obtain ⟨hk, hc2, hcn⟩ := skErr_ok h0
  obtain ⟨R, W, rfl, rfl, h1, h2, h3, h4⟩ := sk_nat (w := w) (A := A) (G := G) (C := C) (s := s) (l := l) (zs := zs) hr
  rw [h0] at PC
  have H0 := Lib.hid h0
  have PK := Lib.hid (fun w => cols_any b W m s l k R s0 s1 k0 k1 hk w)
  have HM : Hid (meetB R W (colsZ W s l k R) = true) := Lib.hid (by have := colsZ_meet (d := (W : Int)) (s := s) (l := l) (k := k) h1 (by omega); simpa using this)
  rw [Int.toNat_natCast, Int.toNat_natCast] at hc2 hcn
  clear h hk
  by_cases hm : m = 2
  ·have HC2 := Lib.hid (hc2 hm)
   have HU : Hid (skUpd b R W m s l zs k x = raiseZ W zs (colsZ W s l k R) (kthL (readZ W zs (colsZ W s l k R)) 0 + x)) := Lib.hid (by unfold skUpd; rw [if_pos h0, if_pos hm, Int.toNat_natCast, Int.toNat_natCast])
   clear h0 hc2 hcn
   subst hm
   go_enter Tryz.func287, Tryz.ntmps287
   go_wp2_with fail
   with_reducible refine PC.out.mono ?_
   rintro e w2 ⟨rfl, hb⟩
   have HA1 := Lib.hid (HA.out.kept hb)
   have HB1 := Lib.hid hb
   clear hb
   go_wp2_with fail
   refine wp_region_still_tail 9 (by kernel_rfl) (by kernel_rfl) ?_
   simp only [List.take_succ_cons, List.take_zero, List.drop_succ_cons, List.drop_zero]
   have HA2 : Hid (SkIs { heap := w2.heap, tape := w2.tape, drawn := w2.drawn + 1, os := w2.os, output := w2.output } A G C b R W _ s l zs) := Lib.hid (HA1.out.kept (below_drewN (Below.refl _ _) 1))
   have HB2 : Hid (Below w.heap.size w { heap := w2.heap, tape := w2.tape, drawn := w2.drawn + 1, os := w2.os, output := w2.output }) := Lib.hid (below_drewN HB1.out 1)
   generalize ({ heap := w2.heap, tape := w2.tape, drawn := w2.drawn + 1, os := w2.os, output := w2.output } : World) = wd at *
   have q1 := HA2.out.box.cell 1
   have q2 := HA2.out.box.cell 2
   have q3 := HA2.out.box.cell 3
   have q4 := HA2.out.box.cell 4
   have q5 := HA2.out.box.cell 5
   have q6 := HA2.out.box.cell 6
   simp at q1 q2 q3 q4 q5 q6
   repeat still_step
   refine wpStill_nil ?_
   go_wp2_with fail
   with_reducible refine (PK.out _).mono ?_
   intro e w3 hpost
   obtain ⟨gc, rfl, hgc, -, hints, hb⟩ := hpost.ints
   have HA3 := Lib.hid (HA2.out.kept hb)
   have HB3 := Lib.hid (btr HB2.out hb)
   have HGR : Hid (GridIs w3 G C R W zs) := Lib.hid (by
    have h1 := HA3.out.grid
    rw [Int.toNat_natCast, Int.toNat_natCast] at h1
    exact h1)
   have HIN := Lib.hid hints
   have hgC : gc ≠ C := by have := HA2.out.grid.ltC; omega
   have HGC : Hid ((Value.slice (some ⟨gc, 0, none⟩) R R).ownBlock ≠ some C) := Lib.hid (by simpa [Value.ownBlock] using hgC)
   clear hb hpost hints q1 q2 q3 q4 q5 q6 hgc hgC
   have q0 := HA3.out.box.cell 0
   have q4 := HA3.out.box.cell 4
   simp at q0 q4
   go_wp2_with fail
   have PR := Lib.hid (raise_yes w3 G C R W zs (colsZ W s l k R) x _ HGR.out HIN.out HM.out hx HGC.out)
   clear q0 q4
   with_reducible refine PR.out.mono ?_
   rintro e w4 ⟨u, hu, hpost⟩
   have hku := kthL_of hu
   obtain ⟨c0, c1⟩ := HC2.out
   rw [hku] at c1
   have hres : e = .returned (.int .i64 0) ∧ GridIs w4 G C R W (raiseZ W zs (colsZ W s l k R) (u + x)) ∧ w3.grownBy w4 (some C) := by
    rcases hpost with ⟨h1, -⟩ | ⟨-, h1, -⟩ | ⟨-, -, h1, h2, h3⟩
    ·omega
    ·exact absurd c1 h1
    ·exact ⟨h1, h2, h3⟩
   obtain ⟨rfl, hg, hgr⟩ := hres
   have HS4 : Hid (SkIs w4 A G C b R W 2 s l (skUpd b R W 2 s l zs k x)) := Lib.hid (by
    rw [HU.out, hku]
    exact ⟨HA3.out.box.grown hgr (by simpa using HNE.out), by rw [Int.toNat_natCast, Int.toNat_natCast]; exact hg⟩)
   have HG4 : Hid (w.grownBy w4 (some C)) := Lib.hid (gr_trans (below_gr HB3.out) hgr)
   clear hu hpost hku c0 c1 hg hgr
   go_wp2
   go_ret
   exact ⟨ret_err H0.out.symm, HS4.out, HG4.out⟩
  ·have HCN := Lib.hid (hcn hm)
   have HU : Hid (skUpd b R W m s l zs k x = changeZ W zs (colsZ W s l k R) x) := Lib.hid (by unfold skUpd; rw [if_pos h0, if_neg hm, Int.toNat_natCast, Int.toNat_natCast])
   have em : (m == 2) = false := by simp [hm]
   have em' : decide (m = 2) = false := by simp [hm]
   clear h0 hc2 hcn
   go_enter Tryz.func287, Tryz.ntmps287
   go_wp2_with fail
   with_reducible refine PC.out.mono ?_
   rintro e w2 ⟨rfl, hb⟩
   have HA1 := Lib.hid (HA.out.kept hb)
   have HB1 := Lib.hid hb
   clear hb
   go_wp2_with fail
   refine wp_region_still_tail 9 (by kernel_rfl) (by kernel_rfl) ?_
   simp only [List.take_succ_cons, List.take_zero, List.drop_succ_cons, List.drop_zero]
   have HA2 : Hid (SkIs { heap := w2.heap, tape := w2.tape, drawn := w2.drawn + 1, os := w2.os, output := w2.output } A G C b R W _ s l zs) := Lib.hid (HA1.out.kept (below_drewN (Below.refl _ _) 1))
   have HB2 : Hid (Below w.heap.size w { heap := w2.heap, tape := w2.tape, drawn := w2.drawn + 1, os := w2.os, output := w2.output }) := Lib.hid (below_drewN HB1.out 1)
   generalize ({ heap := w2.heap, tape := w2.tape, drawn := w2.drawn + 1, os := w2.os, output := w2.output } : World) = wd at *
   have q1 := HA2.out.box.cell 1
   have q2 := HA2.out.box.cell 2
   have q3 := HA2.out.box.cell 3
   have q4 := HA2.out.box.cell 4
   have q5 := HA2.out.box.cell 5
   have q6 := HA2.out.box.cell 6
   simp at q1 q2 q3 q4 q5 q6
   repeat still_step
   refine wpStill_nil ?_
   go_wp2_with fail
   with_reducible refine (PK.out _).mono ?_
   intro e w3 hpost
   obtain ⟨gc, rfl, hgc, -, hints, hb⟩ := hpost.ints
   have HA3 := Lib.hid (HA2.out.kept hb)
   have HB3 := Lib.hid (btr HB2.out hb)
   have HGR : Hid (GridIs w3 G C R W zs) := Lib.hid (by
    have h1 := HA3.out.grid
    rw [Int.toNat_natCast, Int.toNat_natCast] at h1
    exact h1)
   have HIN := Lib.hid hints
   have hgC : gc ≠ C := by have := HA2.out.grid.ltC; omega
   have HGC : Hid ((Value.slice (some ⟨gc, 0, none⟩) R R).ownBlock ≠ some C) := Lib.hid (by simpa [Value.ownBlock] using hgC)
   clear hb hpost hints q1 q2 q3 q4 q5 q6 hgc hgC
   have q0 := HA3.out.box.cell 0
   have q4 := HA3.out.box.cell 4
   simp at q0 q4
   go_wp2_with fail
   have PR := Lib.hid (change_yes w3 G C R W zs (colsZ W s l k R) x _ HGR.out HIN.out HM.out hx HGC.out)
   clear q0 q4
   with_reducible refine PR.out.mono ?_
   intro e w4 hpost
   have hres : e = .returned (.int .i64 0) ∧ GridIs w4 G C R W (changeZ W zs (colsZ W s l k R) x) ∧ w3.grownBy w4 (some C) := by
    rcases hpost with ⟨-, h1⟩ | ⟨h1, -⟩
    ·exact h1
    ·exact absurd HCN.out h1
   obtain ⟨rfl, hg, hgr⟩ := hres
   have HS4 : Hid (SkIs w4 A G C b R W m s l (skUpd b R W m s l zs k x)) := Lib.hid (by
    rw [HU.out]
    exact ⟨HA3.out.box.grown hgr (by simpa using HNE.out), by rw [Int.toNat_natCast, Int.toNat_natCast]; exact hg⟩)
   have HG4 : Hid (w.grownBy w4 (some C)) := Lib.hid (gr_trans (below_gr HB3.out) hgr)
   clear hpost hg hgr
   go_wp2
   go_ret
   exact ⟨ret_err H0.out.symm, HS4.out, HG4.out⟩
 ·have HU : Hid (skUpd b r d m s l zs k x = zs) := Lib.hid (by unfold skUpd; rw [if_neg h0])
  have e0 : (skErr b r d m s l zs k x != 0) = true := by simp [h0]
  unfold SkUpPost
  generalize skErr b r d m s l zs k x = q at *
  clear h h0
  go_enter Tryz.func287, Tryz.ntmps287
  go_wp2_with fail
  with_reducible refine PC.out.mono ?_
  rintro e w2 ⟨rfl, hb⟩
  have HA1 := Lib.hid (HA.out.kept hb)
  have HB1 := Lib.hid hb
  clear hb
  go_wp2
  go_ret
  exact ⟨rfl, by rw [HU.out]; exact HA1.out, below_gr HB1.out⟩
end Go.Proofs.YtfeficdndjiijaaGreatDoor

