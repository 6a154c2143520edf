import Derived.Test.YtfeficdndjiijaaGreatDoorQzh
import Derived.Test.YtfeficdndjiijaaGreatDoorQzd
/-
  Contracts of the functions that TopWindow reaches, and the plain laws that it leans on. Conditions: none beyond those stated at each theorem.
-/
namespace Go.Proofs.YtfeficdndjiijaaGreatDoor
open Go.RowKit Go.Maps
set_option linter.unusedVariables false
set_option linter.unusedSimpArgs false

set_option maxRecDepth 100000 in
set_option maxHeartbeats 4000000 in
theorem agg_range (w : World) (A b n : Nat) (T : Nat → Option Nat × Option Nat) (x0 x1 x2 : Int) (S g : Nat) (lo hi m : Int) (hlo : IntKind.u64.wrap x1 = lo) (hhi : IntKind.u64.wrap x2 = hi) (hA : AggIs w A b n T) (h1 : 1 ≤ x0) (h2 : x0 ≤ (n : Int)) (hn : n ≤ 100) (hT : T x0.toNat = (some S, none)) (hg : w.rowIs g 2 3 (fun j => .int .i64 (cellD [x0, x1, x2] j)))
  (hU : ∀ w1, Below w.heap.size w w1 → Calls Tryz.prog 95 #[.pointer (some ⟨S, 0, none⟩), .int .u64 lo, .int .u64 hi] w1 fun e w' => e = .returned (.tuple #[.int .i64 m, .int .i64 0]) ∧ Below w1.heap.size w1 w') :
  Calls Tryz.prog 51 #[.pointer (some ⟨A, 0, none⟩), .agg #[.string (sB [114, 97, 110, 103, 101]), .int .i64 x0, .slice (some ⟨g, 1, none⟩) 2 2]] w fun e w' => e = .returned (.tuple #[.iface 137 (.agg #[.int .i64 m]), .int .i64 0]) ∧ Below w.heap.size w w' := by
 have HA := Lib.hid hA
 have HH := Lib.hid (And.intro h1 (And.intro h2 hn))
 have HT := Lib.hid hT
 have HU := Lib.hid hU
 have PN := Lib.hid num_ok
 have PS := Lib.hid (thstackP S)
 have hvl := sB_list [114, 97, 110, 103, 101]
 obtain ⟨V, hV⟩ : ∃ V, V = sB [114, 97, 110, 103, 101] := ⟨_, rfl⟩
 rw [← hV] at hvl ⊢
 have hb1 : Below w.heap.size w (w.alloc (.cells #[.string V, .int .i64 x0, .slice (some ⟨g, 1, none⟩) 2 2] 123)) := (Below.refl _ w).alloc (Nat.le_refl _) _
 have HX1 := Lib.hid (Blk.new w 123 #[.string V, .int .i64 x0, .slice (some ⟨g, 1, none⟩) 2 2])
 have HA1 := Lib.hid (hA.kept hb1)
 have HB1 := Lib.hid hb1
 have HG := Lib.hid hg
 clear hA h1 h2 hn hT hU hb1 hV hg
 go_enter Tryz.func51, Tryz.ntmps51
 go_wp2_with fail
 generalize (w.alloc (.cells #[.string V, .int .i64 x0, .slice (some ⟨g, 1, none⟩) 2 2] 123)) = w1 at *
 generalize hX : w.heap.size = X at *
 have HXX := Lib.hid hX
 clear hX
 have HXW : Hid (X ≤ w1.heap.size) := Lib.hid (Nat.le_of_lt HX1.out.lt)
 refine wp_region_held_drew (S := fun w' => Below w1.heap.size w1 w') (by kernel_rfl) (by exact below_drewN (Below.refl _ _) 1) (fun hHeld => ?_)
 refine tkH (i := 0) (v := ?_) rfl (by kernel_rfl) (fun _ _ _ h => h) (Or.inl ⟨by rfl, ?_⟩) (by assumption) ?_
 rotate_left
 ·intro w hSw
  try dsimp only at hSw
  go_simp
  try with_reducible rfl
 simp only [Act.put, z1, z2, z3, z4, z5, z6]
 refine tkH (i := 1) (v := ?_) rfl (by kernel_rfl) (fun _ _ _ h => h) (Or.inl ⟨by rfl, ?_⟩) (by assumption) ?_
 rotate_left
 ·intro w hSw
  try dsimp only at hSw
  go_simp
  try with_reducible rfl
 simp only [Act.put, z1, z2, z3, z4, z5, z6]
 refine tkH (i := 2) (v := ?_) rfl (by kernel_rfl) (fun _ _ _ h => h) (Or.inl ⟨by rfl, ?_⟩) (by assumption) ?_
 rotate_left
 ·intro w hSw
  try dsimp only at hSw
  go_simp
  try with_reducible rfl
 simp only [Act.put, z1, z2, z3, z4, z5, z6]
 refine tkH (i := 3) (v := ?_) rfl (by kernel_rfl) (fun _ _ _ h => h) (Or.inl ⟨by rfl, ?_⟩) (by assumption) ?_
 rotate_left
 ·intro w hSw
  have q0 := (HA1.out.kept hSw).1.cell 0
  have q1 := (HX1.out.kept hSw).cell 1
  have hlk := (HA1.out.kept hSw).look x0 HH.out.1 HH.out.2.1 HH.out.2.2
  rw [HT.out] at hlk
  simp at q0 q1
  go_simp
  try with_reducible rfl
 simp only [Act.put, z1, z2, z3, z4, z5, z6]
 refine tkH (i := 4) (v := ?_) rfl (by kernel_rfl) (fun _ _ _ h => h) (Or.inl ⟨by rfl, ?_⟩) (by assumption) ?_
 rotate_left
 ·intro w hSw
  try dsimp only at hSw
  go_simp
  try with_reducible rfl
 simp only [Act.put, z1, z2, z3, z4, z5, z6]
 refine tkH (i := 5) (v := ?_) rfl (by kernel_rfl) (fun _ _ _ h => h) (Or.inl ⟨by rfl, ?_⟩) (by assumption) ?_
 rotate_left
 ·intro w hSw
  have q0 := (HA1.out.kept hSw).1.cell 0
  have q1 := (HX1.out.kept hSw).cell 1
  have hlk := (HA1.out.kept hSw).look x0 HH.out.1 HH.out.2.1 HH.out.2.2
  rw [HT.out] at hlk
  simp at q0 q1
  go_simp
  try with_reducible rfl
 simp only [Act.put, z1, z2, z3, z4, z5, z6]
 refine tkH (i := 6) (v := ?_) rfl (by kernel_rfl) (fun _ _ _ h => h) (Or.inl ⟨by rfl, ?_⟩) (by assumption) ?_
 rotate_left
 ·intro w hSw
  have q0 := (HA1.out.kept hSw).1.cell 0
  have q1 := (HX1.out.kept hSw).cell 1
  have hlk := (HA1.out.kept hSw).look x0 HH.out.1 HH.out.2.1 HH.out.2.2
  rw [HT.out] at hlk
  simp at q0 q1
  go_simp
  try with_reducible rfl
 simp only [Act.put, z1, z2, z3, z4, z5, z6]
 refine tkH (i := 7) (v := ?_) rfl (by kernel_rfl) (fun _ _ _ h => h) (Or.inl ⟨by rfl, ?_⟩) (by assumption) ?_
 rotate_left
 ·intro w hSw
  try dsimp only at hSw
  go_simp
  try with_reducible rfl
 simp only [Act.put, z1, z2, z3, z4, z5, z6]
 refine tkH (i := 8) (v := ?_) rfl (by kernel_rfl) (fun _ _ _ h => h) (Or.inl ⟨by rfl, ?_⟩) (by assumption) ?_
 rotate_left
 ·intro w hSw
  try dsimp only at hSw
  go_simp
  try with_reducible rfl
 simp only [Act.put, z1, z2, z3, z4, z5, z6]
 refine tkH (i := 9) (v := ?_) rfl (by kernel_rfl) (fun _ _ _ h => h) (Or.inl ⟨by rfl, ?_⟩) (by assumption) ?_
 rotate_left
 ·intro w hSw
  try dsimp only at hSw
  go_simp
  try with_reducible rfl
 simp only [Act.put, z1, z2, z3, z4, z5, z6]
 refine wpAnyH_ready (rs := [10]) (by kernel_rfl) (by simp) ?_
 refine AllReadyH.cons rfl (fun Kc hKc => ?_) AllReadyH.nil
 go_simp
 have hPrev := Lib.hid hHeld.size
 refine hKc.out _ _ ?_ (fun hHeld => ?_)
 ·first | assumption | exact hHeld | exact hHeld.alloc hHeld.size _ | exact below_setRow hHeld hPrev.out _
 clear hKc Kc
 first | have HAQ := Lib.hid (freshOf hHeld) | have HAQ := Lib.hid (freshDrew hHeld)
 refine wpAnyH_ready (rs := [11]) (by kernel_rfl) (by simp) ?_
 refine AllReadyH.cons rfl (fun Kc hKc => ?_) AllReadyH.nil
 have HAR := Lib.hid (blkRowNew (cs' := #[thPtr (some S), thPtr none]) HAQ.out); refine wp_store_row 84 _ _ rfl _ #[thPtr (some S), thPtr none] rfl (by rfl) 84 _ HAQ.out (by kernel_rfl) rfl (by simp [Value.oneCell', thPtr]) ?_
 refine hKc.out _ _ ?_ (fun hHeld => ?_)
 ·first | assumption | exact hHeld | exact hHeld.alloc hHeld.size _ | exact below_setRow hHeld hPrev.out _
 clear hKc Kc
 refine tkH (i := 12) (v := ?_) rfl (by kernel_rfl) (fun _ _ _ h => h) (Or.inl ⟨by rfl, ?_⟩) (by assumption) ?_
 rotate_left
 ·intro w hSw
  try dsimp only at hSw
  go_simp
  try with_reducible rfl
 simp only [Act.put, z1, z2, z3, z4, z5, z6]
 refine wpAnyH_done (by kernel_rfl) ?_ _
 generalize ((w1.alloc (.cells #[.pointer none, .pointer none] 84)).drew.setRow w1.heap.size #[thPtr (some S), thPtr none]) = wz at *
 have hx := HX1.out.kept hHeld
 have HXZ := Lib.hid hx
 have hr := HAR.out
 have x_0 := hx.cell 0
 have x_2 := hx.cell 2
 simp at x_0 x_2
 have HB9 : Hid (Below X w wz) := Lib.hid (HB1.out.trans (hHeld.mono HXW.out))
 clear hHeld hx HAR HAQ
 go_wp2_with (refine wpList_load_row rfl 84 _ rfl w1.heap.size rfl 84 _ (0, 0) _ hr Tryz.underlying84 rfl (by kernel_rfl) ?_)
 with_reducible refine (PS.out _).mono ?_
 rintro e wy ⟨rfl, hb⟩
 have HBY : Hid (Below X w wy) := Lib.hid (HB9.out.trans (hb.mono (by have := HB9.out.size; have := HXW.out; have := HXZ.out.lt; omega)))
 have hxy := HXZ.out.kept hb
 have HXY := Lib.hid hxy
 have x_0 := hxy.cell 0
 have x_2 := hxy.cell 2
 simp at x_0 x_2
 have HXL : Hid (X ≤ wy.heap.size) := Lib.hid (by have := HXY.out.lt; omega)
 have hg := HG.out.of_block (HBY.out.block g (by have := HG.out.lt; have := HXX.out; omega))
 have HGY := Lib.hid hg
 have y1 : wy.cell? ⟨g, 1, none⟩ = some (.int .i64 x1) := hg.cell (by decide)
 have y2 : wy.cell? ⟨g, 2, none⟩ = some (.int .i64 x2) := hg.cell (by decide)
 clear hg
 clear hr hb hxy
 go_wp2_with fail
 refine wp_region_held_drew (S := fun w' => Below wy.heap.size wy w') (by kernel_rfl) (by exact below_drewN (Below.refl _ _) 1) (fun hHeld => ?_)
 refine tkH (i := 0) (v := ?_) rfl (by kernel_rfl) (fun _ _ _ h => h) (Or.inl ⟨by rfl, ?_⟩) (by assumption) ?_
 rotate_left
 ·intro w hSw
  try dsimp only at hSw
  go_simp
  try with_reducible rfl
 simp only [Act.put, z1, z2, z3, z4, z5, z6]
 refine tkH (i := 1) (v := ?_) rfl (by kernel_rfl) (fun _ _ _ h => h) (Or.inl ⟨by rfl, ?_⟩) (by assumption) ?_
 rotate_left
 ·intro w hSw
  try dsimp only at hSw
  go_simp
  try with_reducible rfl
 simp only [Act.put, z1, z2, z3, z4, z5, z6]
 refine tkH (i := 2) (v := ?_) rfl (by kernel_rfl) (fun _ _ _ h => h) (Or.inl ⟨by rfl, ?_⟩) (by assumption) ?_
 rotate_left
 ·intro w hSw
  have q1 := (HXY.out.kept hSw).cell 2
  have q2 : w.cell? ⟨g, 1, none⟩ = some (.int .i64 x1) := (HGY.out.of_block (hSw.block g HGY.out.lt)).cell (by decide)
  have q3 : w.cell? ⟨g, 2, none⟩ = some (.int .i64 x2) := (HGY.out.of_block (hSw.block g HGY.out.lt)).cell (by decide)
  simp at q1
  go_simp
  try with_reducible rfl
 simp only [Act.put, z1, z2, z3, z4, z5, z6]
 refine tkH (i := 3) (v := ?_) rfl (by kernel_rfl) (fun _ _ _ h => h) (Or.inl ⟨by rfl, ?_⟩) (by assumption) ?_
 rotate_left
 ·intro w hSw
  try dsimp only at hSw
  go_simp
  try with_reducible rfl
 simp only [Act.put, z1, z2, z3, z4, z5, z6]
 refine tkH (i := 4) (v := ?_) rfl (by kernel_rfl) (fun _ _ _ h => h) (Or.inl ⟨by rfl, ?_⟩) (by assumption) ?_
 rotate_left
 ·intro w hSw
  have q1 := (HXY.out.kept hSw).cell 2
  have q2 : w.cell? ⟨g, 1, none⟩ = some (.int .i64 x1) := (HGY.out.of_block (hSw.block g HGY.out.lt)).cell (by decide)
  have q3 : w.cell? ⟨g, 2, none⟩ = some (.int .i64 x2) := (HGY.out.of_block (hSw.block g HGY.out.lt)).cell (by decide)
  simp at q1
  go_simp
  try with_reducible rfl
 simp only [Act.put, z1, z2, z3, z4, z5, z6]
 refine tkH (i := 5) (v := ?_) rfl (by kernel_rfl) (fun _ _ _ h => h) (Or.inl ⟨by rfl, ?_⟩) (by assumption) ?_
 rotate_left
 ·intro w hSw
  try dsimp only at hSw
  go_simp
  try with_reducible rfl
 simp only [Act.put, z1, z2, z3, z4, z5, z6]
 refine tkH (i := 6) (v := ?_) rfl (by kernel_rfl) (fun _ _ _ h => h) (Or.inl ⟨by rfl, ?_⟩) (by assumption) ?_
 rotate_left
 ·intro w hSw
  try dsimp only at hSw
  go_simp
  try with_reducible rfl
 simp only [Act.put, z1, z2, z3, z4, z5, z6]
 refine tkH (i := 7) (v := ?_) rfl (by kernel_rfl) (fun _ _ _ h => h) (Or.inl ⟨by rfl, ?_⟩) (by assumption) ?_
 rotate_left
 ·intro w hSw
  have q1 := (HXY.out.kept hSw).cell 2
  have q2 : w.cell? ⟨g, 1, none⟩ = some (.int .i64 x1) := (HGY.out.of_block (hSw.block g HGY.out.lt)).cell (by decide)
  have q3 : w.cell? ⟨g, 2, none⟩ = some (.int .i64 x2) := (HGY.out.of_block (hSw.block g HGY.out.lt)).cell (by decide)
  simp at q1
  go_simp
  try with_reducible rfl
 simp only [Act.put, z1, z2, z3, z4, z5, z6]
 refine tkH (i := 8) (v := ?_) rfl (by kernel_rfl) (fun _ _ _ h => h) (Or.inl ⟨by rfl, ?_⟩) (by assumption) ?_
 rotate_left
 ·intro w hSw
  try dsimp only at hSw
  go_simp
  try with_reducible rfl
 simp only [Act.put, z1, z2, z3, z4, z5, z6]
 refine tkH (i := 9) (v := ?_) rfl (by kernel_rfl) (fun _ _ _ h => h) (Or.inl ⟨by rfl, ?_⟩) (by assumption) ?_
 rotate_left
 ·intro w hSw
  have q1 := (HXY.out.kept hSw).cell 2
  have q2 : w.cell? ⟨g, 1, none⟩ = some (.int .i64 x1) := (HGY.out.of_block (hSw.block g HGY.out.lt)).cell (by decide)
  have q3 : w.cell? ⟨g, 2, none⟩ = some (.int .i64 x2) := (HGY.out.of_block (hSw.block g HGY.out.lt)).cell (by decide)
  simp at q1
  go_simp
  try with_reducible rfl
 simp only [Act.put, z1, z2, z3, z4, z5, z6]
 refine tkH (i := 10) (v := ?_) rfl (by kernel_rfl) (fun _ _ _ h => h) (Or.inl ⟨by rfl, ?_⟩) (by assumption) ?_
 rotate_left
 ·intro w hSw
  try dsimp only at hSw
  go_simp
  try with_reducible rfl
 simp only [Act.put, z1, z2, z3, z4, z5, z6]
 refine wpAnyH_ready (rs := [11]) (by kernel_rfl) (by simp) ?_
 refine AllReadyH.cons rfl (fun Kc hKc => ?_) AllReadyH.nil
 go_simp
 go_wp2_with (first | (with_reducible refine (HU.out _ (HBY.out.trans (hHeld.mono HXL.out))).mono ?_; rintro e wq ⟨rfl, hb'⟩) | (with_reducible refine (PN.out _ _).mono ?_; rintro e wq ⟨rfl, hw'⟩; subst hw'))
 refine hKc.out _ _ ?_ (fun hHeld => ?_)
 ·first | assumption | exact hHeld | exact btr hHeld hb'
 clear hKc Kc
 refine tkH (i := 12) (v := ?_) rfl (by kernel_rfl) (fun _ _ _ h => h) (Or.inl ⟨by rfl, ?_⟩) (by assumption) ?_
 rotate_left
 ·intro w hSw
  try dsimp only at hSw
  go_simp
  try with_reducible rfl
 simp only [Act.put, z1, z2, z3, z4, z5, z6]
 refine tkH (i := 13) (v := ?_) rfl (by kernel_rfl) (fun _ _ _ h => h) (Or.inl ⟨by rfl, ?_⟩) (by assumption) ?_
 rotate_left
 ·intro w hSw
  try dsimp only at hSw
  go_simp
  try with_reducible rfl
 simp only [Act.put, z1, z2, z3, z4, z5, z6]
 refine wpAnyH_ready (rs := [14]) (by kernel_rfl) (by simp) ?_
 refine AllReadyH.cons rfl (fun Kc hKc => ?_) AllReadyH.nil
 go_simp
 go_wp2_with (first | (with_reducible refine (HU.out _ (HBY.out.trans (hHeld.mono HXL.out))).mono ?_; rintro e wq ⟨rfl, hb'⟩) | (with_reducible refine (PN.out _ _).mono ?_; rintro e wq ⟨rfl, hw'⟩; subst hw'))
 refine hKc.out _ _ ?_ (fun hHeld => ?_)
 ·first | assumption | exact hHeld | exact btr hHeld hb'
 clear hKc Kc
 refine tkH (i := 15) (v := ?_) rfl (by kernel_rfl) (fun _ _ _ h => h) (Or.inl ⟨by rfl, ?_⟩) (by assumption) ?_
 rotate_left
 ·intro w hSw
  try dsimp only at hSw
  go_simp
  try with_reducible rfl
 simp only [Act.put, z1, z2, z3, z4, z5, z6]
 refine tkH (i := 16) (v := ?_) rfl (by kernel_rfl) (fun _ _ _ h => h) (Or.inl ⟨by rfl, ?_⟩) (by assumption) ?_
 rotate_left
 ·intro w hSw
  try dsimp only at hSw
  go_simp
  try with_reducible rfl
 simp only [Act.put, z1, z2, z3, z4, z5, z6]
 refine tkH (i := 17) (v := ?_) rfl (by kernel_rfl) (fun _ _ _ h => h) (Or.inl ⟨by rfl, ?_⟩) (by assumption) ?_
 rotate_left
 ·intro w hSw
  try dsimp only at hSw
  go_simp
  try with_reducible rfl
 simp only [Act.put, z1, z2, z3, z4, z5, z6]
 refine tkH (i := 18) (v := ?_) rfl (by kernel_rfl) (fun _ _ _ h => h) (Or.inl ⟨by rfl, ?_⟩) (by assumption) ?_
 rotate_left
 ·intro w hSw
  try dsimp only at hSw
  go_simp
  try with_reducible rfl
 simp only [Act.put, z1, z2, z3, z4, z5, z6]
 refine wpAnyH_done (by kernel_rfl) ?_ _
 have HBF : Hid (Below w.heap.size w wq) := Lib.hid (by rw [HXX.out]; exact HBY.out.trans (hHeld.mono HXL.out))
 clear hHeld
 go_wp2_with fail
 go_ret2
 exact ⟨rfl, HBF.out⟩
set_option maxRecDepth 100000 in
set_option maxHeartbeats 4000000 in
theorem agg_quantile (w : World) (A b n : Nat) (T : Nat → Option Nat × Option Nat) (x0 x1 : Int) (S g : Nat) (m : Int) (hA : AggIs w A b n T) (h1 : 1 ≤ x0) (h2 : x0 ≤ (n : Int)) (hn : n ≤ 100) (hT : T x0.toNat = (some S, none)) (hg : w.rowIs g 2 2 (fun j => .int .i64 (cellD [x0, x1] j)))
  (hU : ∀ w1, Below w.heap.size w w1 → Calls Tryz.prog 96 #[.pointer (some ⟨S, 0, none⟩), .int .i64 x1] w1 fun e w' => e = .returned (.tuple #[.int .u64 m, .int .i64 0]) ∧ Below w1.heap.size w1 w') :
  Calls Tryz.prog 51 #[.pointer (some ⟨A, 0, none⟩), .agg #[.string (sB [113, 117, 97, 110, 116, 105, 108, 101]), .int .i64 x0, .slice (some ⟨g, 1, none⟩) 1 1]] w fun e w' => e = .returned (.tuple #[.iface 140 (.agg #[.int .u64 m]), .int .i64 0]) ∧ Below w.heap.size w w' := by
 have HA := Lib.hid hA
 have HH := Lib.hid (And.intro h1 (And.intro h2 hn))
 have HT := Lib.hid hT
 have HU := Lib.hid hU
 have PN := Lib.hid num_ok
 have PS := Lib.hid (thstackP S)
 have hvl := sB_list [113, 117, 97, 110, 116, 105, 108, 101]
 obtain ⟨V, hV⟩ : ∃ V, V = sB [113, 117, 97, 110, 116, 105, 108, 101] := ⟨_, rfl⟩
 rw [← hV] at hvl ⊢
 have hb1 : Below w.heap.size w (w.alloc (.cells #[.string V, .int .i64 x0, .slice (some ⟨g, 1, none⟩) 1 1] 123)) := (Below.refl _ w).alloc (Nat.le_refl _) _
 have HX1 := Lib.hid (Blk.new w 123 #[.string V, .int .i64 x0, .slice (some ⟨g, 1, none⟩) 1 1])
 have HA1 := Lib.hid (hA.kept hb1)
 have HB1 := Lib.hid hb1
 have HG := Lib.hid hg
 clear hA h1 h2 hn hT hU hb1 hV hg
 go_enter Tryz.func51, Tryz.ntmps51
 go_wp2_with fail
 generalize (w.alloc (.cells #[.string V, .int .i64 x0, .slice (some ⟨g, 1, none⟩) 1 1] 123)) = w1 at *
 generalize hX : w.heap.size = X at *
 have HXX := Lib.hid hX
 clear hX
 have HXW : Hid (X ≤ w1.heap.size) := Lib.hid (Nat.le_of_lt HX1.out.lt)
 refine wp_region_held_drew (S := fun w' => Below w1.heap.size w1 w') (by kernel_rfl) (by exact below_drewN (Below.refl _ _) 1) (fun hHeld => ?_)
 refine tkH (i := 0) (v := ?_) rfl (by kernel_rfl) (fun _ _ _ h => h) (Or.inl ⟨by rfl, ?_⟩) (by assumption) ?_
 rotate_left
 ·intro w hSw
  try dsimp only at hSw
  go_simp
  try with_reducible rfl
 simp only [Act.put, z1, z2, z3, z4, z5, z6]
 refine tkH (i := 1) (v := ?_) rfl (by kernel_rfl) (fun _ _ _ h => h) (Or.inl ⟨by rfl, ?_⟩) (by assumption) ?_
 rotate_left
 ·intro w hSw
  try dsimp only at hSw
  go_simp
  try with_reducible rfl
 simp only [Act.put, z1, z2, z3, z4, z5, z6]
 refine tkH (i := 2) (v := ?_) rfl (by kernel_rfl) (fun _ _ _ h => h) (Or.inl ⟨by rfl, ?_⟩) (by assumption) ?_
 rotate_left
 ·intro w hSw
  try dsimp only at hSw
  go_simp
  try with_reducible rfl
 simp only [Act.put, z1, z2, z3, z4, z5, z6]
 refine tkH (i := 3) (v := ?_) rfl (by kernel_rfl) (fun _ _ _ h => h) (Or.inl ⟨by rfl, ?_⟩) (by assumption) ?_
 rotate_left
 ·intro w hSw
  have q0 := (HA1.out.kept hSw).1.cell 0
  have q1 := (HX1.out.kept hSw).cell 1
  have hlk := (HA1.out.kept hSw).look x0 HH.out.1 HH.out.2.1 HH.out.2.2
  rw [HT.out] at hlk
  simp at q0 q1
  go_simp
  try with_reducible rfl
 simp only [Act.put, z1, z2, z3, z4, z5, z6]
 refine tkH (i := 4) (v := ?_) rfl (by kernel_rfl) (fun _ _ _ h => h) (Or.inl ⟨by rfl, ?_⟩) (by assumption) ?_
 rotate_left
 ·intro w hSw
  try dsimp only at hSw
  go_simp
  try with_reducible rfl
 simp only [Act.put, z1, z2, z3, z4, z5, z6]
 refine tkH (i := 5) (v := ?_) rfl (by kernel_rfl) (fun _ _ _ h => h) (Or.inl ⟨by rfl, ?_⟩) (by assumption) ?_
 rotate_left
 ·intro w hSw
  have q0 := (HA1.out.kept hSw).1.cell 0
  have q1 := (HX1.out.kept hSw).cell 1
  have hlk := (HA1.out.kept hSw).look x0 HH.out.1 HH.out.2.1 HH.out.2.2
  rw [HT.out] at hlk
  simp at q0 q1
  go_simp
  try with_reducible rfl
 simp only [Act.put, z1, z2, z3, z4, z5, z6]
 refine tkH (i := 6) (v := ?_) rfl (by kernel_rfl) (fun _ _ _ h => h) (Or.inl ⟨by rfl, ?_⟩) (by assumption) ?_
 rotate_left
 ·intro w hSw
  have q0 := (HA1.out.kept hSw).1.cell 0
  have q1 := (HX1.out.kept hSw).cell 1
  have hlk := (HA1.out.kept hSw).look x0 HH.out.1 HH.out.2.1 HH.out.2.2
  rw [HT.out] at hlk
  simp at q0 q1
  go_simp
  try with_reducible rfl
 simp only [Act.put, z1, z2, z3, z4, z5, z6]
 refine tkH (i := 7) (v := ?_) rfl (by kernel_rfl) (fun _ _ _ h => h) (Or.inl ⟨by rfl, ?_⟩) (by assumption) ?_
 rotate_left
 ·intro w hSw
  try dsimp only at hSw
  go_simp
  try with_reducible rfl
 simp only [Act.put, z1, z2, z3, z4, z5, z6]
 refine tkH (i := 8) (v := ?_) rfl (by kernel_rfl) (fun _ _ _ h => h) (Or.inl ⟨by rfl, ?_⟩) (by assumption) ?_
 rotate_left
 ·intro w hSw
  try dsimp only at hSw
  go_simp
  try with_reducible rfl
 simp only [Act.put, z1, z2, z3, z4, z5, z6]
 refine tkH (i := 9) (v := ?_) rfl (by kernel_rfl) (fun _ _ _ h => h) (Or.inl ⟨by rfl, ?_⟩) (by assumption) ?_
 rotate_left
 ·intro w hSw
  try dsimp only at hSw
  go_simp
  try with_reducible rfl
 simp only [Act.put, z1, z2, z3, z4, z5, z6]
 refine wpAnyH_ready (rs := [10]) (by kernel_rfl) (by simp) ?_
 refine AllReadyH.cons rfl (fun Kc hKc => ?_) AllReadyH.nil
 go_simp
 have hPrev := Lib.hid hHeld.size
 refine hKc.out _ _ ?_ (fun hHeld => ?_)
 ·first | assumption | exact hHeld | exact hHeld.alloc hHeld.size _ | exact below_setRow hHeld hPrev.out _
 clear hKc Kc
 first | have HAQ := Lib.hid (freshOf hHeld) | have HAQ := Lib.hid (freshDrew hHeld)
 refine wpAnyH_ready (rs := [11]) (by kernel_rfl) (by simp) ?_
 refine AllReadyH.cons rfl (fun Kc hKc => ?_) AllReadyH.nil
 have HAR := Lib.hid (blkRowNew (cs' := #[thPtr (some S), thPtr none]) HAQ.out); refine wp_store_row 84 _ _ rfl _ #[thPtr (some S), thPtr none] rfl (by rfl) 84 _ HAQ.out (by kernel_rfl) rfl (by simp [Value.oneCell', thPtr]) ?_
 refine hKc.out _ _ ?_ (fun hHeld => ?_)
 ·first | assumption | exact hHeld | exact hHeld.alloc hHeld.size _ | exact below_setRow hHeld hPrev.out _
 clear hKc Kc
 refine tkH (i := 12) (v := ?_) rfl (by kernel_rfl) (fun _ _ _ h => h) (Or.inl ⟨by rfl, ?_⟩) (by assumption) ?_
 rotate_left
 ·intro w hSw
  try dsimp only at hSw
  go_simp
  try with_reducible rfl
 simp only [Act.put, z1, z2, z3, z4, z5, z6]
 refine wpAnyH_done (by kernel_rfl) ?_ _
 generalize ((w1.alloc (.cells #[.pointer none, .pointer none] 84)).drew.setRow w1.heap.size #[thPtr (some S), thPtr none]) = wz at *
 have hx := HX1.out.kept hHeld
 have HXZ := Lib.hid hx
 have hr := HAR.out
 have x_0 := hx.cell 0
 have x_2 := hx.cell 2
 simp at x_0 x_2
 have HB9 : Hid (Below X w wz) := Lib.hid (HB1.out.trans (hHeld.mono HXW.out))
 clear hHeld hx HAR HAQ
 go_wp2_with (refine wpList_load_row rfl 84 _ rfl w1.heap.size rfl 84 _ (0, 0) _ hr Tryz.underlying84 rfl (by kernel_rfl) ?_)
 with_reducible refine (PS.out _).mono ?_
 rintro e wy ⟨rfl, hb⟩
 have HBY : Hid (Below X w wy) := Lib.hid (HB9.out.trans (hb.mono (by have := HB9.out.size; have := HXW.out; have := HXZ.out.lt; omega)))
 have hxy := HXZ.out.kept hb
 have HXY := Lib.hid hxy
 have x_0 := hxy.cell 0
 have x_2 := hxy.cell 2
 simp at x_0 x_2
 have HXL : Hid (X ≤ wy.heap.size) := Lib.hid (by have := HXY.out.lt; omega)
 have hg := HG.out.of_block (HBY.out.block g (by have := HG.out.lt; have := HXX.out; omega))
 have HGY := Lib.hid hg
 have y1 : wy.cell? ⟨g, 1, none⟩ = some (.int .i64 x1) := hg.cell (by decide)
 clear hg
 clear hr hb hxy
 go_wp2_with fail
 with_reducible refine (HU.out _ HBY.out).mono ?_
 rintro e wq ⟨rfl, hb⟩
 have HBF : Hid (Below w.heap.size w wq) := Lib.hid (by rw [HXX.out]; exact HBY.out.trans (hb.mono HXL.out))
 clear hb
 go_wp2_with fail
 go_ret2
 exact ⟨rfl, HBF.out⟩
set_option maxRecDepth 100000 in
set_option maxHeartbeats 4000000 in
theorem agg_export (w : World) (A b n : Nat) (T : Nat → Option Nat × Option Nat) (x0 : Int) (S : Nat) (QB : Value → World → Prop) (hA : AggIs w A b n T) (h1 : 1 ≤ x0) (h2 : x0 ≤ (n : Int)) (hn : n ≤ 100) (hT : T x0.toNat = (some S, none))
  (hU : ∀ w1, Below w.heap.size w w1 → Calls Tryz.prog 92 #[.pointer (some ⟨S, 0, none⟩)] w1 fun e w' => (∃ ao k cp, e = .returned (.slice ao k cp) ∧ QB (.slice ao k cp) w') ∧ Below w1.heap.size w1 w') :
  Calls Tryz.prog 51 #[.pointer (some ⟨A, 0, none⟩), .agg #[.string (sB [101, 120, 112, 111, 114, 116]), .int .i64 x0, .slice none 0 0]] w fun e w' => (∃ ao k cp, e = .returned (.tuple #[.iface 158 (.agg #[.slice ao k cp]), .int .i64 0]) ∧ QB (.slice ao k cp) w') ∧ Below w.heap.size w w' := by
 have HA := Lib.hid hA
 have HH := Lib.hid (And.intro h1 (And.intro h2 hn))
 have HT := Lib.hid hT
 have HU := Lib.hid hU
 have PN := Lib.hid num_ok
 have PS := Lib.hid (thstackP S)
 have hvl := sB_list [101, 120, 112, 111, 114, 116]
 obtain ⟨V, hV⟩ : ∃ V, V = sB [101, 120, 112, 111, 114, 116] := ⟨_, rfl⟩
 rw [← hV] at hvl ⊢
 have hb1 : Below w.heap.size w (w.alloc (.cells #[.string V, .int .i64 x0, .slice none 0 0] 123)) := (Below.refl _ w).alloc (Nat.le_refl _) _
 have HX1 := Lib.hid (Blk.new w 123 #[.string V, .int .i64 x0, .slice none 0 0])
 have HA1 := Lib.hid (hA.kept hb1)
 have HB1 := Lib.hid hb1
 clear hA h1 h2 hn hT hU hb1 hV
 go_enter Tryz.func51, Tryz.ntmps51
 go_wp2_with fail
 generalize (w.alloc (.cells #[.string V, .int .i64 x0, .slice none 0 0] 123)) = w1 at *
 generalize hX : w.heap.size = X at *
 have HXX := Lib.hid hX
 clear hX
 have HXW : Hid (X ≤ w1.heap.size) := Lib.hid (Nat.le_of_lt HX1.out.lt)
 refine wp_region_held_drew (S := fun w' => Below w1.heap.size w1 w') (by kernel_rfl) (by exact below_drewN (Below.refl _ _) 1) (fun hHeld => ?_)
 refine tkH (i := 0) (v := ?_) rfl (by kernel_rfl) (fun _ _ _ h => h) (Or.inl ⟨by rfl, ?_⟩) (by assumption) ?_
 rotate_left
 ·intro w hSw
  try dsimp only at hSw
  go_simp
  try with_reducible rfl
 simp only [Act.put, z1, z2, z3, z4, z5, z6]
 refine tkH (i := 1) (v := ?_) rfl (by kernel_rfl) (fun _ _ _ h => h) (Or.inl ⟨by rfl, ?_⟩) (by assumption) ?_
 rotate_left
 ·intro w hSw
  try dsimp only at hSw
  go_simp
  try with_reducible rfl
 simp only [Act.put, z1, z2, z3, z4, z5, z6]
 refine tkH (i := 2) (v := ?_) rfl (by kernel_rfl) (fun _ _ _ h => h) (Or.inl ⟨by rfl, ?_⟩) (by assumption) ?_
 rotate_left
 ·intro w hSw
  try dsimp only at hSw
  go_simp
  try with_reducible rfl
 simp only [Act.put, z1, z2, z3, z4, z5, z6]
 refine tkH (i := 3) (v := ?_) rfl (by kernel_rfl) (fun _ _ _ h => h) (Or.inl ⟨by rfl, ?_⟩) (by assumption) ?_
 rotate_left
 ·intro w hSw
  have q0 := (HA1.out.kept hSw).1.cell 0
  have q1 := (HX1.out.kept hSw).cell 1
  have hlk := (HA1.out.kept hSw).look x0 HH.out.1 HH.out.2.1 HH.out.2.2
  rw [HT.out] at hlk
  simp at q0 q1
  go_simp
  try with_reducible rfl
 simp only [Act.put, z1, z2, z3, z4, z5, z6]
 refine tkH (i := 4) (v := ?_) rfl (by kernel_rfl) (fun _ _ _ h => h) (Or.inl ⟨by rfl, ?_⟩) (by assumption) ?_
 rotate_left
 ·intro w hSw
  try dsimp only at hSw
  go_simp
  try with_reducible rfl
 simp only [Act.put, z1, z2, z3, z4, z5, z6]
 refine tkH (i := 5) (v := ?_) rfl (by kernel_rfl) (fun _ _ _ h => h) (Or.inl ⟨by rfl, ?_⟩) (by assumption) ?_
 rotate_left
 ·intro w hSw
  have q0 := (HA1.out.kept hSw).1.cell 0
  have q1 := (HX1.out.kept hSw).cell 1
  have hlk := (HA1.out.kept hSw).look x0 HH.out.1 HH.out.2.1 HH.out.2.2
  rw [HT.out] at hlk
  simp at q0 q1
  go_simp
  try with_reducible rfl
 simp only [Act.put, z1, z2, z3, z4, z5, z6]
 refine tkH (i := 6) (v := ?_) rfl (by kernel_rfl) (fun _ _ _ h => h) (Or.inl ⟨by rfl, ?_⟩) (by assumption) ?_
 rotate_left
 ·intro w hSw
  have q0 := (HA1.out.kept hSw).1.cell 0
  have q1 := (HX1.out.kept hSw).cell 1
  have hlk := (HA1.out.kept hSw).look x0 HH.out.1 HH.out.2.1 HH.out.2.2
  rw [HT.out] at hlk
  simp at q0 q1
  go_simp
  try with_reducible rfl
 simp only [Act.put, z1, z2, z3, z4, z5, z6]
 refine tkH (i := 7) (v := ?_) rfl (by kernel_rfl) (fun _ _ _ h => h) (Or.inl ⟨by rfl, ?_⟩) (by assumption) ?_
 rotate_left
 ·intro w hSw
  try dsimp only at hSw
  go_simp
  try with_reducible rfl
 simp only [Act.put, z1, z2, z3, z4, z5, z6]
 refine tkH (i := 8) (v := ?_) rfl (by kernel_rfl) (fun _ _ _ h => h) (Or.inl ⟨by rfl, ?_⟩) (by assumption) ?_
 rotate_left
 ·intro w hSw
  try dsimp only at hSw
  go_simp
  try with_reducible rfl
 simp only [Act.put, z1, z2, z3, z4, z5, z6]
 refine tkH (i := 9) (v := ?_) rfl (by kernel_rfl) (fun _ _ _ h => h) (Or.inl ⟨by rfl, ?_⟩) (by assumption) ?_
 rotate_left
 ·intro w hSw
  try dsimp only at hSw
  go_simp
  try with_reducible rfl
 simp only [Act.put, z1, z2, z3, z4, z5, z6]
 refine wpAnyH_ready (rs := [10]) (by kernel_rfl) (by simp) ?_
 refine AllReadyH.cons rfl (fun Kc hKc => ?_) AllReadyH.nil
 go_simp
 have hPrev := Lib.hid hHeld.size
 refine hKc.out _ _ ?_ (fun hHeld => ?_)
 ·first | assumption | exact hHeld | exact hHeld.alloc hHeld.size _ | exact below_setRow hHeld hPrev.out _
 clear hKc Kc
 first | have HAQ := Lib.hid (freshOf hHeld) | have HAQ := Lib.hid (freshDrew hHeld)
 refine wpAnyH_ready (rs := [11]) (by kernel_rfl) (by simp) ?_
 refine AllReadyH.cons rfl (fun Kc hKc => ?_) AllReadyH.nil
 have HAR := Lib.hid (blkRowNew (cs' := #[thPtr (some S), thPtr none]) HAQ.out); refine wp_store_row 84 _ _ rfl _ #[thPtr (some S), thPtr none] rfl (by rfl) 84 _ HAQ.out (by kernel_rfl) rfl (by simp [Value.oneCell', thPtr]) ?_
 refine hKc.out _ _ ?_ (fun hHeld => ?_)
 ·first | assumption | exact hHeld | exact hHeld.alloc hHeld.size _ | exact below_setRow hHeld hPrev.out _
 clear hKc Kc
 refine tkH (i := 12) (v := ?_) rfl (by kernel_rfl) (fun _ _ _ h => h) (Or.inl ⟨by rfl, ?_⟩) (by assumption) ?_
 rotate_left
 ·intro w hSw
  try dsimp only at hSw
  go_simp
  try with_reducible rfl
 simp only [Act.put, z1, z2, z3, z4, z5, z6]
 refine wpAnyH_done (by kernel_rfl) ?_ _
 generalize ((w1.alloc (.cells #[.pointer none, .pointer none] 84)).drew.setRow w1.heap.size #[thPtr (some S), thPtr none]) = wz at *
 have hx := HX1.out.kept hHeld
 have HXZ := Lib.hid hx
 have hr := HAR.out
 have x_0 := hx.cell 0
 have x_2 := hx.cell 2
 simp at x_0 x_2
 have HB9 : Hid (Below X w wz) := Lib.hid (HB1.out.trans (hHeld.mono HXW.out))
 clear hHeld hx HAR HAQ
 go_wp2_with (refine wpList_load_row rfl 84 _ rfl w1.heap.size rfl 84 _ (0, 0) _ hr Tryz.underlying84 rfl (by kernel_rfl) ?_)
 with_reducible refine (PS.out _).mono ?_
 rintro e wy ⟨rfl, hb⟩
 have HBY : Hid (Below X w wy) := Lib.hid (HB9.out.trans (hb.mono (by have := HB9.out.size; have := HXW.out; have := HXZ.out.lt; omega)))
 have hxy := HXZ.out.kept hb
 have HXY := Lib.hid hxy
 have x_0 := hxy.cell 0
 have x_2 := hxy.cell 2
 simp at x_0 x_2
 have HXL : Hid (X ≤ wy.heap.size) := Lib.hid (by have := HXY.out.lt; omega)
 clear hr hb hxy
 go_wp2_with fail
 with_reducible refine (HU.out _ HBY.out).mono ?_
 rintro e wq ⟨⟨ao, k, cp, rfl, hq⟩, hb⟩
 have HQ := Lib.hid hq
 have HBF : Hid (Below w.heap.size w wq) := Lib.hid (by rw [HXX.out]; exact HBY.out.trans (hb.mono HXL.out))
 clear hb hq
 go_wp2_with fail
 go_ret2
 exact ⟨⟨ao, k, cp, rfl, HQ.out⟩, HBF.out⟩
set_option maxRecDepth 100000 in
set_option maxHeartbeats 4000000 in
theorem agg_heavy (w : World) (A b n : Nat) (T : Nat → Option Nat × Option Nat) (x0 x1 x2 : Int) (S g : Nat) (QB : Value → World → Prop) (hA : AggIs w A b n T) (h1 : 1 ≤ x0) (h2 : x0 ≤ (n : Int)) (hn : n ≤ 100) (hT : T x0.toNat = (some S, none)) (hg : w.rowIs g 2 3 (fun j => .int .i64 (cellD [x0, x1, x2] j)))
  (hU : ∀ w1, Below w.heap.size w w1 → Calls Tryz.prog 97 #[.pointer (some ⟨S, 0, none⟩), .int .i64 x1, .int .i64 x2] w1 fun e w' => (∃ ao k cp, e = .returned (.tuple #[.slice ao k cp, .int .i64 0]) ∧ QB (.slice ao k cp) w') ∧ Below w1.heap.size w1 w') :
  Calls Tryz.prog 51 #[.pointer (some ⟨A, 0, none⟩), .agg #[.string (sB [104, 101, 97, 118, 121]), .int .i64 x0, .slice (some ⟨g, 1, none⟩) 2 2]] w fun e w' => (∃ ao k cp, e = .returned (.tuple #[.iface 149 (.agg #[.slice ao k cp]), .int .i64 0]) ∧ QB (.slice ao k cp) w') ∧ Below w.heap.size w w' := by
 have HA := Lib.hid hA
 have HH := Lib.hid (And.intro h1 (And.intro h2 hn))
 have HT := Lib.hid hT
 have HU := Lib.hid hU
 have PN := Lib.hid num_ok
 have PS := Lib.hid (thstackP S)
 have hvl := sB_list [104, 101, 97, 118, 121]
 obtain ⟨V, hV⟩ : ∃ V, V = sB [104, 101, 97, 118, 121] := ⟨_, rfl⟩
 rw [← hV] at hvl ⊢
 have hb1 : Below w.heap.size w (w.alloc (.cells #[.string V, .int .i64 x0, .slice (some ⟨g, 1, none⟩) 2 2] 123)) := (Below.refl _ w).alloc (Nat.le_refl _) _
 have HX1 := Lib.hid (Blk.new w 123 #[.string V, .int .i64 x0, .slice (some ⟨g, 1, none⟩) 2 2])
 have HA1 := Lib.hid (hA.kept hb1)
 have HB1 := Lib.hid hb1
 have HG := Lib.hid hg
 clear hA h1 h2 hn hT hU hb1 hV hg
 go_enter Tryz.func51, Tryz.ntmps51
 go_wp2_with fail
 generalize (w.alloc (.cells #[.string V, .int .i64 x0, .slice (some ⟨g, 1, none⟩) 2 2] 123)) = w1 at *
 generalize hX : w.heap.size = X at *
 have HXX := Lib.hid hX
 clear hX
 have HXW : Hid (X ≤ w1.heap.size) := Lib.hid (Nat.le_of_lt HX1.out.lt)
 refine wp_region_held_drew (S := fun w' => Below w1.heap.size w1 w') (by kernel_rfl) (by exact below_drewN (Below.refl _ _) 1) (fun hHeld => ?_)
 refine tkH (i := 0) (v := ?_) rfl (by kernel_rfl) (fun _ _ _ h => h) (Or.inl ⟨by rfl, ?_⟩) (by assumption) ?_
 rotate_left
 ·intro w hSw
  try dsimp only at hSw
  go_simp
  try with_reducible rfl
 simp only [Act.put, z1, z2, z3, z4, z5, z6]
 refine tkH (i := 1) (v := ?_) rfl (by kernel_rfl) (fun _ _ _ h => h) (Or.inl ⟨by rfl, ?_⟩) (by assumption) ?_
 rotate_left
 ·intro w hSw
  try dsimp only at hSw
  go_simp
  try with_reducible rfl
 simp only [Act.put, z1, z2, z3, z4, z5, z6]
 refine tkH (i := 2) (v := ?_) rfl (by kernel_rfl) (fun _ _ _ h => h) (Or.inl ⟨by rfl, ?_⟩) (by assumption) ?_
 rotate_left
 ·intro w hSw
  try dsimp only at hSw
  go_simp
  try with_reducible rfl
 simp only [Act.put, z1, z2, z3, z4, z5, z6]
 refine tkH (i := 3) (v := ?_) rfl (by kernel_rfl) (fun _ _ _ h => h) (Or.inl ⟨by rfl, ?_⟩) (by assumption) ?_
 rotate_left
 ·intro w hSw
  have q0 := (HA1.out.kept hSw).1.cell 0
  have q1 := (HX1.out.kept hSw).cell 1
  have hlk := (HA1.out.kept hSw).look x0 HH.out.1 HH.out.2.1 HH.out.2.2
  rw [HT.out] at hlk
  simp at q0 q1
  go_simp
  try with_reducible rfl
 simp only [Act.put, z1, z2, z3, z4, z5, z6]
 refine tkH (i := 4) (v := ?_) rfl (by kernel_rfl) (fun _ _ _ h => h) (Or.inl ⟨by rfl, ?_⟩) (by assumption) ?_
 rotate_left
 ·intro w hSw
  try dsimp only at hSw
  go_simp
  try with_reducible rfl
 simp only [Act.put, z1, z2, z3, z4, z5, z6]
 refine tkH (i := 5) (v := ?_) rfl (by kernel_rfl) (fun _ _ _ h => h) (Or.inl ⟨by rfl, ?_⟩) (by assumption) ?_
 rotate_left
 ·intro w hSw
  have q0 := (HA1.out.kept hSw).1.cell 0
  have q1 := (HX1.out.kept hSw).cell 1
  have hlk := (HA1.out.kept hSw).look x0 HH.out.1 HH.out.2.1 HH.out.2.2
  rw [HT.out] at hlk
  simp at q0 q1
  go_simp
  try with_reducible rfl
 simp only [Act.put, z1, z2, z3, z4, z5, z6]
 refine tkH (i := 6) (v := ?_) rfl (by kernel_rfl) (fun _ _ _ h => h) (Or.inl ⟨by rfl, ?_⟩) (by assumption) ?_
 rotate_left
 ·intro w hSw
  have q0 := (HA1.out.kept hSw).1.cell 0
  have q1 := (HX1.out.kept hSw).cell 1
  have hlk := (HA1.out.kept hSw).look x0 HH.out.1 HH.out.2.1 HH.out.2.2
  rw [HT.out] at hlk
  simp at q0 q1
  go_simp
  try with_reducible rfl
 simp only [Act.put, z1, z2, z3, z4, z5, z6]
 refine tkH (i := 7) (v := ?_) rfl (by kernel_rfl) (fun _ _ _ h => h) (Or.inl ⟨by rfl, ?_⟩) (by assumption) ?_
 rotate_left
 ·intro w hSw
  try dsimp only at hSw
  go_simp
  try with_reducible rfl
 simp only [Act.put, z1, z2, z3, z4, z5, z6]
 refine tkH (i := 8) (v := ?_) rfl (by kernel_rfl) (fun _ _ _ h => h) (Or.inl ⟨by rfl, ?_⟩) (by assumption) ?_
 rotate_left
 ·intro w hSw
  try dsimp only at hSw
  go_simp
  try with_reducible rfl
 simp only [Act.put, z1, z2, z3, z4, z5, z6]
 refine tkH (i := 9) (v := ?_) rfl (by kernel_rfl) (fun _ _ _ h => h) (Or.inl ⟨by rfl, ?_⟩) (by assumption) ?_
 rotate_left
 ·intro w hSw
  try dsimp only at hSw
  go_simp
  try with_reducible rfl
 simp only [Act.put, z1, z2, z3, z4, z5, z6]
 refine wpAnyH_ready (rs := [10]) (by kernel_rfl) (by simp) ?_
 refine AllReadyH.cons rfl (fun Kc hKc => ?_) AllReadyH.nil
 go_simp
 have hPrev := Lib.hid hHeld.size
 refine hKc.out _ _ ?_ (fun hHeld => ?_)
 ·first | assumption | exact hHeld | exact hHeld.alloc hHeld.size _ | exact below_setRow hHeld hPrev.out _
 clear hKc Kc
 first | have HAQ := Lib.hid (freshOf hHeld) | have HAQ := Lib.hid (freshDrew hHeld)
 refine wpAnyH_ready (rs := [11]) (by kernel_rfl) (by simp) ?_
 refine AllReadyH.cons rfl (fun Kc hKc => ?_) AllReadyH.nil
 have HAR := Lib.hid (blkRowNew (cs' := #[thPtr (some S), thPtr none]) HAQ.out); refine wp_store_row 84 _ _ rfl _ #[thPtr (some S), thPtr none] rfl (by rfl) 84 _ HAQ.out (by kernel_rfl) rfl (by simp [Value.oneCell', thPtr]) ?_
 refine hKc.out _ _ ?_ (fun hHeld => ?_)
 ·first | assumption | exact hHeld | exact hHeld.alloc hHeld.size _ | exact below_setRow hHeld hPrev.out _
 clear hKc Kc
 refine tkH (i := 12) (v := ?_) rfl (by kernel_rfl) (fun _ _ _ h => h) (Or.inl ⟨by rfl, ?_⟩) (by assumption) ?_
 rotate_left
 ·intro w hSw
  try dsimp only at hSw
  go_simp
  try with_reducible rfl
 simp only [Act.put, z1, z2, z3, z4, z5, z6]
 refine wpAnyH_done (by kernel_rfl) ?_ _
 generalize ((w1.alloc (.cells #[.pointer none, .pointer none] 84)).drew.setRow w1.heap.size #[thPtr (some S), thPtr none]) = wz at *
 have hx := HX1.out.kept hHeld
 have HXZ := Lib.hid hx
 have hr := HAR.out
 have x_0 := hx.cell 0
 have x_2 := hx.cell 2
 simp at x_0 x_2
 have HB9 : Hid (Below X w wz) := Lib.hid (HB1.out.trans (hHeld.mono HXW.out))
 clear hHeld hx HAR HAQ
 go_wp2_with (refine wpList_load_row rfl 84 _ rfl w1.heap.size rfl 84 _ (0, 0) _ hr Tryz.underlying84 rfl (by kernel_rfl) ?_)
 with_reducible refine (PS.out _).mono ?_
 rintro e wy ⟨rfl, hb⟩
 have HBY : Hid (Below X w wy) := Lib.hid (HB9.out.trans (hb.mono (by have := HB9.out.size; have := HXW.out; have := HXZ.out.lt; omega)))
 have hxy := HXZ.out.kept hb
 have HXY := Lib.hid hxy
 have x_0 := hxy.cell 0
 have x_2 := hxy.cell 2
 simp at x_0 x_2
 have HXL : Hid (X ≤ wy.heap.size) := Lib.hid (by have := HXY.out.lt; omega)
 have hg := HG.out.of_block (HBY.out.block g (by have := HG.out.lt; have := HXX.out; omega))
 have HGY := Lib.hid hg
 have y1 : wy.cell? ⟨g, 1, none⟩ = some (.int .i64 x1) := hg.cell (by decide)
 have y2 : wy.cell? ⟨g, 2, none⟩ = some (.int .i64 x2) := hg.cell (by decide)
 clear hg
 clear hr hb hxy
 go_wp2_with fail
 refine wp_region_held_drew (S := fun w' => Below wy.heap.size wy w') (by kernel_rfl) (by exact below_drewN (Below.refl _ _) 1) (fun hHeld => ?_)
 refine tkH (i := 0) (v := ?_) rfl (by kernel_rfl) (fun _ _ _ h => h) (Or.inl ⟨by rfl, ?_⟩) (by assumption) ?_
 rotate_left
 ·intro w hSw
  try dsimp only at hSw
  go_simp
  try with_reducible rfl
 simp only [Act.put, z1, z2, z3, z4, z5, z6]
 refine tkH (i := 1) (v := ?_) rfl (by kernel_rfl) (fun _ _ _ h => h) (Or.inl ⟨by rfl, ?_⟩) (by assumption) ?_
 rotate_left
 ·intro w hSw
  try dsimp only at hSw
  go_simp
  try with_reducible rfl
 simp only [Act.put, z1, z2, z3, z4, z5, z6]
 refine tkH (i := 2) (v := ?_) rfl (by kernel_rfl) (fun _ _ _ h => h) (Or.inl ⟨by rfl, ?_⟩) (by assumption) ?_
 rotate_left
 ·intro w hSw
  have q1 := (HXY.out.kept hSw).cell 2
  have q2 : w.cell? ⟨g, 1, none⟩ = some (.int .i64 x1) := (HGY.out.of_block (hSw.block g HGY.out.lt)).cell (by decide)
  have q3 : w.cell? ⟨g, 2, none⟩ = some (.int .i64 x2) := (HGY.out.of_block (hSw.block g HGY.out.lt)).cell (by decide)
  simp at q1
  go_simp
  try with_reducible rfl
 simp only [Act.put, z1, z2, z3, z4, z5, z6]
 refine tkH (i := 3) (v := ?_) rfl (by kernel_rfl) (fun _ _ _ h => h) (Or.inl ⟨by rfl, ?_⟩) (by assumption) ?_
 rotate_left
 ·intro w hSw
  try dsimp only at hSw
  go_simp
  try with_reducible rfl
 simp only [Act.put, z1, z2, z3, z4, z5, z6]
 refine tkH (i := 4) (v := ?_) rfl (by kernel_rfl) (fun _ _ _ h => h) (Or.inl ⟨by rfl, ?_⟩) (by assumption) ?_
 rotate_left
 ·intro w hSw
  have q1 := (HXY.out.kept hSw).cell 2
  have q2 : w.cell? ⟨g, 1, none⟩ = some (.int .i64 x1) := (HGY.out.of_block (hSw.block g HGY.out.lt)).cell (by decide)
  have q3 : w.cell? ⟨g, 2, none⟩ = some (.int .i64 x2) := (HGY.out.of_block (hSw.block g HGY.out.lt)).cell (by decide)
  simp at q1
  go_simp
  try with_reducible rfl
 simp only [Act.put, z1, z2, z3, z4, z5, z6]
 refine tkH (i := 5) (v := ?_) rfl (by kernel_rfl) (fun _ _ _ h => h) (Or.inl ⟨by rfl, ?_⟩) (by assumption) ?_
 rotate_left
 ·intro w hSw
  try dsimp only at hSw
  go_simp
  try with_reducible rfl
 simp only [Act.put, z1, z2, z3, z4, z5, z6]
 refine tkH (i := 6) (v := ?_) rfl (by kernel_rfl) (fun _ _ _ h => h) (Or.inl ⟨by rfl, ?_⟩) (by assumption) ?_
 rotate_left
 ·intro w hSw
  have q1 := (HXY.out.kept hSw).cell 2
  have q2 : w.cell? ⟨g, 1, none⟩ = some (.int .i64 x1) := (HGY.out.of_block (hSw.block g HGY.out.lt)).cell (by decide)
  have q3 : w.cell? ⟨g, 2, none⟩ = some (.int .i64 x2) := (HGY.out.of_block (hSw.block g HGY.out.lt)).cell (by decide)
  simp at q1
  go_simp
  try with_reducible rfl
 simp only [Act.put, z1, z2, z3, z4, z5, z6]
 refine tkH (i := 7) (v := ?_) rfl (by kernel_rfl) (fun _ _ _ h => h) (Or.inl ⟨by rfl, ?_⟩) (by assumption) ?_
 rotate_left
 ·intro w hSw
  try dsimp only at hSw
  go_simp
  try with_reducible rfl
 simp only [Act.put, z1, z2, z3, z4, z5, z6]
 refine tkH (i := 8) (v := ?_) rfl (by kernel_rfl) (fun _ _ _ h => h) (Or.inl ⟨by rfl, ?_⟩) (by assumption) ?_
 rotate_left
 ·intro w hSw
  have q1 := (HXY.out.kept hSw).cell 2
  have q2 : w.cell? ⟨g, 1, none⟩ = some (.int .i64 x1) := (HGY.out.of_block (hSw.block g HGY.out.lt)).cell (by decide)
  have q3 : w.cell? ⟨g, 2, none⟩ = some (.int .i64 x2) := (HGY.out.of_block (hSw.block g HGY.out.lt)).cell (by decide)
  simp at q1
  go_simp
  try with_reducible rfl
 simp only [Act.put, z1, z2, z3, z4, z5, z6]
 refine wpAnyH_ready (rs := [9]) (by kernel_rfl) (by simp) ?_
 refine AllReadyH.cons rfl (fun Kc hKc => ?_) AllReadyH.nil
 go_simp
 go_wp2_with (first | (with_reducible refine (HU.out _ (HBY.out.trans (hHeld.mono HXL.out))).mono ?_; rintro e wq ⟨⟨ao, k, cp, rfl, hq⟩, hb'⟩; have HQ := Lib.hid hq; clear hq))
 refine hKc.out _ _ ?_ (fun hHeld => ?_)
 ·first | assumption | exact hHeld | exact btr hHeld hb'
 clear hKc Kc
 refine tkH (i := 10) (v := ?_) rfl (by kernel_rfl) (fun _ _ _ h => h) (Or.inl ⟨by rfl, ?_⟩) (by assumption) ?_
 rotate_left
 ·intro w hSw
  try dsimp only at hSw
  go_simp
  try with_reducible rfl
 simp only [Act.put, z1, z2, z3, z4, z5, z6]
 refine tkH (i := 11) (v := ?_) rfl (by kernel_rfl) (fun _ _ _ h => h) (Or.inl ⟨by rfl, ?_⟩) (by assumption) ?_
 rotate_left
 ·intro w hSw
  try dsimp only at hSw
  go_simp
  try with_reducible rfl
 simp only [Act.put, z1, z2, z3, z4, z5, z6]
 refine tkH (i := 12) (v := ?_) rfl (by kernel_rfl) (fun _ _ _ h => h) (Or.inl ⟨by rfl, ?_⟩) (by assumption) ?_
 rotate_left
 ·intro w hSw
  try dsimp only at hSw
  go_simp
  try with_reducible rfl
 simp only [Act.put, z1, z2, z3, z4, z5, z6]
 refine tkH (i := 13) (v := ?_) rfl (by kernel_rfl) (fun _ _ _ h => h) (Or.inl ⟨by rfl, ?_⟩) (by assumption) ?_
 rotate_left
 ·intro w hSw
  try dsimp only at hSw
  go_simp
  try with_reducible rfl
 simp only [Act.put, z1, z2, z3, z4, z5, z6]
 refine tkH (i := 14) (v := ?_) rfl (by kernel_rfl) (fun _ _ _ h => h) (Or.inl ⟨by rfl, ?_⟩) (by assumption) ?_
 rotate_left
 ·intro w hSw
  try dsimp only at hSw
  go_simp
  try with_reducible rfl
 simp only [Act.put, z1, z2, z3, z4, z5, z6]
 refine wpAnyH_done (by kernel_rfl) ?_ _
 have HBF : Hid (Below w.heap.size w wq) := Lib.hid (by rw [HXX.out]; exact HBY.out.trans (hHeld.mono HXL.out))
 clear hHeld
 go_wp2_with fail
 go_ret2
 exact ⟨⟨ao, k, cp, rfl, HQ.out⟩, HBF.out⟩
end Go.Proofs.YtfeficdndjiijaaGreatDoor


namespace Go.Proofs.YtfeficdndjiijaaGreatDoor
open Go.RowKit Go.Maps
set_option linter.unusedVariables false
set_option linter.unusedSimpArgs false

set_option maxRecDepth 100000 in
set_option maxHeartbeats 4000000 in
theorem agg_inner (w : World) (A b n : Nat) (T : Nat → Option Nat × Option Nat) (x0 x1 : Int) (S1 S2 : Nat) (hi lo : Int) (hA : AggIs w A b n T) (h1 : 1 ≤ x0) (h2 : x0 ≤ (n : Int)) (h3 : 1 ≤ x1) (h4 : x1 ≤ (n : Int)) (hn : n ≤ 100) (hT1 : T x0.toNat = (some S1, none)) (hT2 : T x1.toNat = (some S2, none))
  (hU : ∀ w1, Below w.heap.size w w1 → Calls Tryz.prog 98 #[.pointer (some ⟨S1, 0, none⟩), .pointer (some ⟨S2, 0, none⟩)] w1 fun e w' => e = .returned (.tuple #[.agg #[.int .i64 hi, .int .u64 lo], .int .i64 0]) ∧ Below w1.heap.size w1 w') :
  Calls Tryz.prog 52 #[.pointer (some ⟨A, 0, none⟩), .agg #[.string (sB [105, 110, 110, 101, 114]), .int .i64 x0, .int .i64 x1]] w fun e w' => e = .returned (.tuple #[.iface 145 (.agg #[.int .i64 hi, .int .u64 lo]), .int .i64 0]) ∧ Below w.heap.size w w' := by
 have HA := Lib.hid hA
 have HH := Lib.hid (And.intro h1 (And.intro h2 (And.intro h3 (And.intro h4 hn))))
 have HT1 := Lib.hid hT1
 have HT2 := Lib.hid hT2
 have HU := Lib.hid hU
 have PD := Lib.hid done_ok
 have PS1 := Lib.hid (thstackP S1)
 have PS := Lib.hid (thstackP S2)
 have hvl := sB_list [105, 110, 110, 101, 114]
 obtain ⟨V, hV⟩ : ∃ V, V = sB [105, 110, 110, 101, 114] := ⟨_, rfl⟩
 rw [← hV] at hvl ⊢
 have hb1 : Below w.heap.size w (w.alloc (.cells #[.string V, .int .i64 x0, .int .i64 x1] 126)) := (Below.refl _ w).alloc (Nat.le_refl _) _
 have HX_w1 := Lib.hid (Blk.new w 126 #[.string V, .int .i64 x0, .int .i64 x1])
 have HA_w1 := Lib.hid (hA.kept hb1)
 have HB1 := Lib.hid hb1
 clear hA h1 h2 h3 h4 hn hT1 hT2 hU hb1 hV
 go_enter Tryz.func52, Tryz.ntmps52
 go_wp2_with fail
 generalize (w.alloc (.cells #[.string V, .int .i64 x0, .int .i64 x1] 126)) = w1 at *
 generalize hX : w.heap.size = X at *
 have HXX := Lib.hid hX
 clear hX
 have HXW : Hid (X ≤ w1.heap.size) := Lib.hid (Nat.le_of_lt HX_w1.out.lt)
 refine wp_region_held_drew (S := fun w' => Below w1.heap.size w1 w') (by kernel_rfl) (by exact below_drewN (Below.refl _ _) 1) (fun hHeld => ?_)
 refine tkH (i := 0) (v := ?_) rfl (by kernel_rfl) (fun _ _ _ h => h) (Or.inl ⟨by rfl, ?_⟩) (by assumption) ?_
 rotate_left
 ·intro w hSw
  try dsimp only at hSw
  go_simp
  try with_reducible rfl
 simp only [Act.put, z1, z2, z3, z4, z5, z6]
 refine tkH (i := 1) (v := ?_) rfl (by kernel_rfl) (fun _ _ _ h => h) (Or.inl ⟨by rfl, ?_⟩) (by assumption) ?_
 rotate_left
 ·intro w hSw
  try dsimp only at hSw
  go_simp
  try with_reducible rfl
 simp only [Act.put, z1, z2, z3, z4, z5, z6]
 refine tkH (i := 2) (v := ?_) rfl (by kernel_rfl) (fun _ _ _ h => h) (Or.inl ⟨by rfl, ?_⟩) (by assumption) ?_
 rotate_left
 ·intro w hSw
  try dsimp only at hSw
  go_simp
  try with_reducible rfl
 simp only [Act.put, z1, z2, z3, z4, z5, z6]
 refine tkH (i := 3) (v := ?_) rfl (by kernel_rfl) (fun _ _ _ h => h) (Or.inl ⟨by rfl, ?_⟩) (by assumption) ?_
 rotate_left
 ·intro w hSw
  have q0 := (HA_w1.out.kept hSw).1.cell 0
  have q1 := (HX_w1.out.kept hSw).cell 1
  have hlk := (HA_w1.out.kept hSw).look x0 HH.out.1 HH.out.2.1 HH.out.2.2.2.2
  rw [HT1.out] at hlk
  simp at q0 q1
  go_simp
  try with_reducible rfl
 simp only [Act.put, z1, z2, z3, z4, z5, z6]
 refine tkH (i := 4) (v := ?_) rfl (by kernel_rfl) (fun _ _ _ h => h) (Or.inl ⟨by rfl, ?_⟩) (by assumption) ?_
 rotate_left
 ·intro w hSw
  try dsimp only at hSw
  go_simp
  try with_reducible rfl
 simp only [Act.put, z1, z2, z3, z4, z5, z6]
 refine tkH (i := 5) (v := ?_) rfl (by kernel_rfl) (fun _ _ _ h => h) (Or.inl ⟨by rfl, ?_⟩) (by assumption) ?_
 rotate_left
 ·intro w hSw
  have q0 := (HA_w1.out.kept hSw).1.cell 0
  have q1 := (HX_w1.out.kept hSw).cell 1
  have hlk := (HA_w1.out.kept hSw).look x0 HH.out.1 HH.out.2.1 HH.out.2.2.2.2
  rw [HT1.out] at hlk
  simp at q0 q1
  go_simp
  try with_reducible rfl
 simp only [Act.put, z1, z2, z3, z4, z5, z6]
 refine tkH (i := 6) (v := ?_) rfl (by kernel_rfl) (fun _ _ _ h => h) (Or.inl ⟨by rfl, ?_⟩) (by assumption) ?_
 rotate_left
 ·intro w hSw
  have q0 := (HA_w1.out.kept hSw).1.cell 0
  have q1 := (HX_w1.out.kept hSw).cell 1
  have hlk := (HA_w1.out.kept hSw).look x0 HH.out.1 HH.out.2.1 HH.out.2.2.2.2
  rw [HT1.out] at hlk
  simp at q0 q1
  go_simp
  try with_reducible rfl
 simp only [Act.put, z1, z2, z3, z4, z5, z6]
 refine tkH (i := 7) (v := ?_) rfl (by kernel_rfl) (fun _ _ _ h => h) (Or.inl ⟨by rfl, ?_⟩) (by assumption) ?_
 rotate_left
 ·intro w hSw
  try dsimp only at hSw
  go_simp
  try with_reducible rfl
 simp only [Act.put, z1, z2, z3, z4, z5, z6]
 refine tkH (i := 8) (v := ?_) rfl (by kernel_rfl) (fun _ _ _ h => h) (Or.inl ⟨by rfl, ?_⟩) (by assumption) ?_
 rotate_left
 ·intro w hSw
  try dsimp only at hSw
  go_simp
  try with_reducible rfl
 simp only [Act.put, z1, z2, z3, z4, z5, z6]
 refine tkH (i := 9) (v := ?_) rfl (by kernel_rfl) (fun _ _ _ h => h) (Or.inl ⟨by rfl, ?_⟩) (by assumption) ?_
 rotate_left
 ·intro w hSw
  try dsimp only at hSw
  go_simp
  try with_reducible rfl
 simp only [Act.put, z1, z2, z3, z4, z5, z6]
 refine wpAnyH_ready (rs := [10]) (by kernel_rfl) (by simp) ?_
 refine AllReadyH.cons rfl (fun Kc hKc => ?_) AllReadyH.nil
 go_simp
 have hPrev := Lib.hid hHeld.size
 refine hKc.out _ _ ?_ (fun hHeld => ?_)
 ·first | assumption | exact hHeld | exact hHeld.alloc hHeld.size _ | exact below_setRow hHeld hPrev.out _
 clear hKc Kc
 first | have HAQ := Lib.hid (freshOf hHeld) | have HAQ := Lib.hid (freshDrew hHeld)
 refine wpAnyH_ready (rs := [11]) (by kernel_rfl) (by simp) ?_
 refine AllReadyH.cons rfl (fun Kc hKc => ?_) AllReadyH.nil
 have HAR := Lib.hid (blkRowNew (cs' := #[thPtr (some S1), thPtr none]) HAQ.out); refine wp_store_row 84 _ _ rfl _ #[thPtr (some S1), thPtr none] rfl (by rfl) 84 _ HAQ.out (by kernel_rfl) rfl (by simp [Value.oneCell', thPtr]) ?_
 refine hKc.out _ _ ?_ (fun hHeld => ?_)
 ·first | assumption | exact hHeld | exact hHeld.alloc hHeld.size _ | exact below_setRow hHeld hPrev.out _
 clear hKc Kc
 refine tkH (i := 12) (v := ?_) rfl (by kernel_rfl) (fun _ _ _ h => h) (Or.inl ⟨by rfl, ?_⟩) (by assumption) ?_
 rotate_left
 ·intro w hSw
  try dsimp only at hSw
  go_simp
  try with_reducible rfl
 simp only [Act.put, z1, z2, z3, z4, z5, z6]
 refine wpAnyH_done (by kernel_rfl) ?_ _
 generalize ((w1.alloc (.cells #[.pointer none, .pointer none] 84)).drew.setRow w1.heap.size #[thPtr (some S1), thPtr none]) = w2 at *
 have HA_w2 := Lib.hid (HA_w1.out.kept hHeld)
 have HX_w2 := Lib.hid (HX_w1.out.kept hHeld)
 have HB2 : Hid (Below X w w2) := Lib.hid (HB1.out.trans (hHeld.mono HXW.out))
 have HTB_2 := Lib.hid HAR.out
 have HW12 := Lib.hid (And.intro hHeld.size HAR.out.lt)
 generalize w1.heap.size = tB at *
 clear hHeld HAR HAQ HA_w1 HX_w1 HB1 HXW hPrev
 go_wp2_with fail
 refine wp_region_held_drew (S := fun w' => Below w2.heap.size w2 w') (by kernel_rfl) (by exact below_drewN (Below.refl _ _) 1) (fun hHeld => ?_)
 refine tkH (i := 0) (v := ?_) rfl (by kernel_rfl) (fun _ _ _ h => h) (Or.inl ⟨by rfl, ?_⟩) (by assumption) ?_
 rotate_left
 ·intro w hSw
  try dsimp only at hSw
  go_simp
  try with_reducible rfl
 simp only [Act.put, z1, z2, z3, z4, z5, z6]
 refine tkH (i := 1) (v := ?_) rfl (by kernel_rfl) (fun _ _ _ h => h) (Or.inl ⟨by rfl, ?_⟩) (by assumption) ?_
 rotate_left
 ·intro w hSw
  try dsimp only at hSw
  go_simp
  try with_reducible rfl
 simp only [Act.put, z1, z2, z3, z4, z5, z6]
 refine tkH (i := 2) (v := ?_) rfl (by kernel_rfl) (fun _ _ _ h => h) (Or.inl ⟨by rfl, ?_⟩) (by assumption) ?_
 rotate_left
 ·intro w hSw
  try dsimp only at hSw
  go_simp
  try with_reducible rfl
 simp only [Act.put, z1, z2, z3, z4, z5, z6]
 refine tkH (i := 3) (v := ?_) rfl (by kernel_rfl) (fun _ _ _ h => h) (Or.inl ⟨by rfl, ?_⟩) (by assumption) ?_
 rotate_left
 ·intro w hSw
  have q0 := (HA_w2.out.kept hSw).1.cell 0
  have q1 := (HX_w2.out.kept hSw).cell 2
  have hlk := (HA_w2.out.kept hSw).look x1 HH.out.2.2.1 HH.out.2.2.2.1 HH.out.2.2.2.2
  rw [HT2.out] at hlk
  simp at q0 q1
  go_simp
  try with_reducible rfl
 simp only [Act.put, z1, z2, z3, z4, z5, z6]
 refine tkH (i := 4) (v := ?_) rfl (by kernel_rfl) (fun _ _ _ h => h) (Or.inl ⟨by rfl, ?_⟩) (by assumption) ?_
 rotate_left
 ·intro w hSw
  try dsimp only at hSw
  go_simp
  try with_reducible rfl
 simp only [Act.put, z1, z2, z3, z4, z5, z6]
 refine tkH (i := 5) (v := ?_) rfl (by kernel_rfl) (fun _ _ _ h => h) (Or.inl ⟨by rfl, ?_⟩) (by assumption) ?_
 rotate_left
 ·intro w hSw
  have q0 := (HA_w2.out.kept hSw).1.cell 0
  have q1 := (HX_w2.out.kept hSw).cell 2
  have hlk := (HA_w2.out.kept hSw).look x1 HH.out.2.2.1 HH.out.2.2.2.1 HH.out.2.2.2.2
  rw [HT2.out] at hlk
  simp at q0 q1
  go_simp
  try with_reducible rfl
 simp only [Act.put, z1, z2, z3, z4, z5, z6]
 refine tkH (i := 6) (v := ?_) rfl (by kernel_rfl) (fun _ _ _ h => h) (Or.inl ⟨by rfl, ?_⟩) (by assumption) ?_
 rotate_left
 ·intro w hSw
  have q0 := (HA_w2.out.kept hSw).1.cell 0
  have q1 := (HX_w2.out.kept hSw).cell 2
  have hlk := (HA_w2.out.kept hSw).look x1 HH.out.2.2.1 HH.out.2.2.2.1 HH.out.2.2.2.2
  rw [HT2.out] at hlk
  simp at q0 q1
  go_simp
  try with_reducible rfl
 simp only [Act.put, z1, z2, z3, z4, z5, z6]
 refine tkH (i := 7) (v := ?_) rfl (by kernel_rfl) (fun _ _ _ h => h) (Or.inl ⟨by rfl, ?_⟩) (by assumption) ?_
 rotate_left
 ·intro w hSw
  try dsimp only at hSw
  go_simp
  try with_reducible rfl
 simp only [Act.put, z1, z2, z3, z4, z5, z6]
 refine tkH (i := 8) (v := ?_) rfl (by kernel_rfl) (fun _ _ _ h => h) (Or.inl ⟨by rfl, ?_⟩) (by assumption) ?_
 rotate_left
 ·intro w hSw
  try dsimp only at hSw
  go_simp
  try with_reducible rfl
 simp only [Act.put, z1, z2, z3, z4, z5, z6]
 refine tkH (i := 9) (v := ?_) rfl (by kernel_rfl) (fun _ _ _ h => h) (Or.inl ⟨by rfl, ?_⟩) (by assumption) ?_
 rotate_left
 ·intro w hSw
  try dsimp only at hSw
  go_simp
  try with_reducible rfl
 simp only [Act.put, z1, z2, z3, z4, z5, z6]
 refine wpAnyH_ready (rs := [10]) (by kernel_rfl) (by simp) ?_
 refine AllReadyH.cons rfl (fun Kc hKc => ?_) AllReadyH.nil
 go_simp
 have hPrev := Lib.hid hHeld.size
 refine hKc.out _ _ ?_ (fun hHeld => ?_)
 ·first | assumption | exact hHeld | exact hHeld.alloc hHeld.size _ | exact below_setRow hHeld hPrev.out _
 clear hKc Kc
 first | have HAQ := Lib.hid (freshOf hHeld) | have HAQ := Lib.hid (freshDrew hHeld)
 refine wpAnyH_ready (rs := [11]) (by kernel_rfl) (by simp) ?_
 refine AllReadyH.cons rfl (fun Kc hKc => ?_) AllReadyH.nil
 have HAR := Lib.hid (blkRowNew (cs' := #[thPtr (some S2), thPtr none]) HAQ.out); refine wp_store_row 84 _ _ rfl _ #[thPtr (some S2), thPtr none] rfl (by rfl) 84 _ HAQ.out (by kernel_rfl) rfl (by simp [Value.oneCell', thPtr]) ?_
 refine hKc.out _ _ ?_ (fun hHeld => ?_)
 ·first | assumption | exact hHeld | exact hHeld.alloc hHeld.size _ | exact below_setRow hHeld hPrev.out _
 clear hKc Kc
 refine tkH (i := 12) (v := ?_) rfl (by kernel_rfl) (fun _ _ _ h => h) (Or.inl ⟨by rfl, ?_⟩) (by assumption) ?_
 rotate_left
 ·intro w hSw
  try dsimp only at hSw
  go_simp
  try with_reducible rfl
 simp only [Act.put, z1, z2, z3, z4, z5, z6]
 refine wpAnyH_done (by kernel_rfl) ?_ _
 generalize ((w2.alloc (.cells #[.pointer none, .pointer none] 84)).drew.setRow w2.heap.size #[thPtr (some S2), thPtr none]) = w3 at *
 have HX_w3 := Lib.hid (HX_w2.out.kept hHeld)
 have HB3 : Hid (Below X w w3) := Lib.hid (HB2.out.trans (hHeld.mono (by have := HX_w2.out.lt; omega)))
 have HTB := Lib.hid (HTB_2.out.kept hHeld)
 have HUB := Lib.hid HAR.out
 have HX3 : Hid (X ≤ w3.heap.size) := Lib.hid (by have := HX_w3.out.lt; omega)
 have x_0 := HX_w3.out.cell 0
 have t_0 := HTB.out.cell 0
 have t_1 := HTB.out.cell 1
 simp [thPtr] at x_0 t_0 t_1
 generalize w2.heap.size = uB at *
 clear hHeld HAR HAQ HA_w2 HX_w2 HTB_2 hPrev HW12
 go_wp2_with fail
 refine wp_region_held_drew (S := fun w' => Below w3.heap.size w3 w') (by kernel_rfl) (by exact below_drewN (Below.refl _ _) 1) (fun hHeld => ?_)
 refine tkH (i := 0) (v := ?_) rfl (by kernel_rfl) (fun _ _ _ h => h) (Or.inl ⟨by rfl, ?_⟩) (by assumption) ?_
 rotate_left
 ·intro w hSw
  have q1 := HTB.out.kept hSw
  have q2 := HUB.out.kept hSw
  try (refine (exec_load_row 84 _ rfl tB rfl 84 _ (0, 0) _ q1 Tryz.underlying84 rfl (by kernel_rfl)).trans ?_)
  try (refine (exec_load_row 84 _ rfl uB rfl 84 _ (0, 0) _ q2 Tryz.underlying84 rfl (by kernel_rfl)).trans ?_)
  go_simp
  try with_reducible rfl
 simp only [Act.put, z1, z2, z3, z4, z5, z6]
 refine tkH (i := 2) (v := ?_) rfl (by kernel_rfl) (fun _ _ _ h => h) (Or.inl ⟨by rfl, ?_⟩) (by assumption) ?_
 rotate_left
 ·intro w hSw
  have q1 := HTB.out.kept hSw
  have q2 := HUB.out.kept hSw
  try (refine (exec_load_row 84 _ rfl tB rfl 84 _ (0, 0) _ q1 Tryz.underlying84 rfl (by kernel_rfl)).trans ?_)
  try (refine (exec_load_row 84 _ rfl uB rfl 84 _ (0, 0) _ q2 Tryz.underlying84 rfl (by kernel_rfl)).trans ?_)
  go_simp
  try with_reducible rfl
 simp only [Act.put, z1, z2, z3, z4, z5, z6]
 refine wpAnyH_ready (rs := [1, 8]) (by kernel_rfl) (by simp) ?_
 refine AllReadyH.cons rfl (fun Kc hKc => ?_) (AllReadyH.cons rfl (fun Kc hKc => ?_) AllReadyH.nil)
 ·go_simp
  go_wp2_with (first | (with_reducible refine (PS1.out _).mono ?_; rintro e wq ⟨rfl, hb'⟩; try have HAQ := Lib.hid (HAQ.out.kept hb')) | (with_reducible refine (PS.out _).mono ?_; rintro e wq ⟨rfl, hb'⟩; try have HAQ := Lib.hid (HAQ.out.kept hb')) | (with_reducible refine (HU.out _ (HB3.out.trans (hHeld.mono HX3.out))).mono ?_; rintro e wq ⟨rfl, hb'⟩; try have HAQ := Lib.hid (HAQ.out.kept hb')))
  refine hKc.out _ _ ?_ (fun hHeld => ?_)
  ·first | assumption | exact hHeld | exact btr hHeld hb' | exact hHeld.alloc hHeld.size _ | exact below_setRow hHeld hPrev.out _
  clear hKc Kc
  refine wpAnyH_ready (rs := [3, 8]) (by kernel_rfl) (by simp) ?_
  refine AllReadyH.cons rfl (fun Kc hKc => ?_) (AllReadyH.cons rfl (fun Kc hKc => ?_) AllReadyH.nil)
  ·go_simp
   go_wp2_with (first | (with_reducible refine (PS1.out _).mono ?_; rintro e wq ⟨rfl, hb'⟩; try have HAQ := Lib.hid (HAQ.out.kept hb')) | (with_reducible refine (PS.out _).mono ?_; rintro e wq ⟨rfl, hb'⟩; try have HAQ := Lib.hid (HAQ.out.kept hb')) | (with_reducible refine (HU.out _ (HB3.out.trans (hHeld.mono HX3.out))).mono ?_; rintro e wq ⟨rfl, hb'⟩; try have HAQ := Lib.hid (HAQ.out.kept hb')))
   refine hKc.out _ _ ?_ (fun hHeld => ?_)
   ·first | assumption | exact hHeld | exact btr hHeld hb' | exact hHeld.alloc hHeld.size _ | exact below_setRow hHeld hPrev.out _
   clear hKc Kc
   refine wpAnyH_ready (rs := [4, 8]) (by kernel_rfl) (by simp) ?_
   refine AllReadyH.cons rfl (fun Kc hKc => ?_) (AllReadyH.cons rfl (fun Kc hKc => ?_) AllReadyH.nil)
   ·go_simp
    go_wp2_with (first | (with_reducible refine (PS1.out _).mono ?_; rintro e wq ⟨rfl, hb'⟩; try have HAQ := Lib.hid (HAQ.out.kept hb')) | (with_reducible refine (PS.out _).mono ?_; rintro e wq ⟨rfl, hb'⟩; try have HAQ := Lib.hid (HAQ.out.kept hb')) | (with_reducible refine (HU.out _ (HB3.out.trans (hHeld.mono HX3.out))).mono ?_; rintro e wq ⟨rfl, hb'⟩; try have HAQ := Lib.hid (HAQ.out.kept hb')))
    refine hKc.out _ _ ?_ (fun hHeld => ?_)
    ·first | assumption | exact hHeld | exact btr hHeld hb' | exact hHeld.alloc hHeld.size _ | exact below_setRow hHeld hPrev.out _
    clear hKc Kc
    refine tkH (i := 5) (v := ?_) rfl (by kernel_rfl) (fun _ _ _ h => h) (Or.inl ⟨by rfl, ?_⟩) (by assumption) ?_
    rotate_left
    ·intro w hSw
     try dsimp only at hSw
     go_simp
     try with_reducible rfl
    simp only [Act.put, z1, z2, z3, z4, z5, z6]
    refine tkH (i := 6) (v := ?_) rfl (by kernel_rfl) (fun _ _ _ h => h) (Or.inl ⟨by rfl, ?_⟩) (by assumption) ?_
    rotate_left
    ·intro w hSw
     try dsimp only at hSw
     go_simp
     try with_reducible rfl
    simp only [Act.put, z1, z2, z3, z4, z5, z6]
    refine tkH (i := 7) (v := ?_) rfl (by kernel_rfl) (fun _ _ _ h => h) (Or.inl ⟨by rfl, ?_⟩) (by assumption) ?_
    rotate_left
    ·intro w hSw
     try dsimp only at hSw
     go_simp
     try with_reducible rfl
    simp only [Act.put, z1, z2, z3, z4, z5, z6]
    refine wpAnyH_ready (rs := [8]) (by kernel_rfl) (by simp) ?_
    refine AllReadyH.cons rfl (fun Kc hKc => ?_) AllReadyH.nil
    go_simp
    have hPrev := Lib.hid hHeld.size
    refine hKc.out _ _ ?_ (fun hHeld => ?_)
    ·first | assumption | exact hHeld | exact btr hHeld hb' | exact hHeld.alloc hHeld.size _ | exact below_setRow hHeld hPrev.out _
    clear hKc Kc
    first | have HAQ := Lib.hid (freshOf hHeld) | have HAQ := Lib.hid (freshDrew hHeld)
    refine wpAnyH_ready (rs := [9]) (by kernel_rfl) (by simp) ?_
    refine AllReadyH.cons rfl (fun Kc hKc => ?_) AllReadyH.nil
    have HAR := Lib.hid (blkRowNew (cs' := #[.int .i64 hi, .int .u64 lo]) HAQ.out); refine wp_store_row 143 _ _ rfl _ #[.int .i64 hi, .int .u64 lo] rfl (by rfl) 143 _ HAQ.out (by kernel_rfl) rfl (by simp [Value.oneCell']) ?_
    refine hKc.out _ _ ?_ (fun hHeld => ?_)
    ·first | assumption | exact hHeld | exact btr hHeld hb' | exact hHeld.alloc hHeld.size _ | exact below_setRow hHeld hPrev.out _
    clear hKc Kc
    refine tkH (i := 10) (v := ?_) rfl (by kernel_rfl) (fun _ _ _ h => h) (Or.inl ⟨by rfl, ?_⟩) (by assumption) ?_
    rotate_left
    ·intro w hSw
     try dsimp only at hSw
     go_simp
     try with_reducible rfl
    simp only [Act.put, z1, z2, z3, z4, z5, z6]
    refine wpAnyH_done (by kernel_rfl) ?_ _
    have HBZ := Lib.hid (HB3.out.trans (hHeld.mono HX3.out))
    have har := HAR.out
    clear hHeld
    go_wp2_with (refine wpList_load_row rfl 143 _ rfl _ rfl 143 _ (0, 0) _ har Tryz.underlying143 rfl (by kernel_rfl) ?_)
    go_ret2
    exact ⟨rfl, by rw [HXX.out]; exact HBZ.out⟩
   ·go_simp
    have hPrev := Lib.hid hHeld.size
    refine hKc.out _ _ ?_ (fun hHeld => ?_)
    ·first | assumption | exact hHeld | exact btr hHeld hb' | exact hHeld.alloc hHeld.size _ | exact below_setRow hHeld hPrev.out _
    clear hKc Kc
    first | have HAQ := Lib.hid (freshOf hHeld) | have HAQ := Lib.hid (freshDrew hHeld)
    refine wpAnyH_ready (rs := [4]) (by kernel_rfl) (by simp) ?_
    refine AllReadyH.cons rfl (fun Kc hKc => ?_) AllReadyH.nil
    go_simp
    go_wp2_with (first | (with_reducible refine (PS1.out _).mono ?_; rintro e wq ⟨rfl, hb'⟩; try have HAQ := Lib.hid (HAQ.out.kept hb')) | (with_reducible refine (PS.out _).mono ?_; rintro e wq ⟨rfl, hb'⟩; try have HAQ := Lib.hid (HAQ.out.kept hb')) | (with_reducible refine (HU.out _ (HB3.out.trans (hHeld.mono HX3.out))).mono ?_; rintro e wq ⟨rfl, hb'⟩; try have HAQ := Lib.hid (HAQ.out.kept hb')))
    refine hKc.out _ _ ?_ (fun hHeld => ?_)
    ·first | assumption | exact hHeld | exact btr hHeld hb' | exact hHeld.alloc hHeld.size _ | exact below_setRow hHeld hPrev.out _
    clear hKc Kc
    refine tkH (i := 5) (v := ?_) rfl (by kernel_rfl) (fun _ _ _ h => h) (Or.inl ⟨by rfl, ?_⟩) (by assumption) ?_
    rotate_left
    ·intro w hSw
     try dsimp only at hSw
     go_simp
     try with_reducible rfl
    simp only [Act.put, z1, z2, z3, z4, z5, z6]
    refine tkH (i := 6) (v := ?_) rfl (by kernel_rfl) (fun _ _ _ h => h) (Or.inl ⟨by rfl, ?_⟩) (by assumption) ?_
    rotate_left
    ·intro w hSw
     try dsimp only at hSw
     go_simp
     try with_reducible rfl
    simp only [Act.put, z1, z2, z3, z4, z5, z6]
    refine tkH (i := 7) (v := ?_) rfl (by kernel_rfl) (fun _ _ _ h => h) (Or.inl ⟨by rfl, ?_⟩) (by assumption) ?_
    rotate_left
    ·intro w hSw
     try dsimp only at hSw
     go_simp
     try with_reducible rfl
    simp only [Act.put, z1, z2, z3, z4, z5, z6]
    refine wpAnyH_ready (rs := [9]) (by kernel_rfl) (by simp) ?_
    refine AllReadyH.cons rfl (fun Kc hKc => ?_) AllReadyH.nil
    have HAR := Lib.hid (blkRowNew (cs' := #[.int .i64 hi, .int .u64 lo]) HAQ.out); refine wp_store_row 143 _ _ rfl _ #[.int .i64 hi, .int .u64 lo] rfl (by rfl) 143 _ HAQ.out (by kernel_rfl) rfl (by simp [Value.oneCell']) ?_
    refine hKc.out _ _ ?_ (fun hHeld => ?_)
    ·first | assumption | exact hHeld | exact btr hHeld hb' | exact hHeld.alloc hHeld.size _ | exact below_setRow hHeld hPrev.out _
    clear hKc Kc
    refine tkH (i := 10) (v := ?_) rfl (by kernel_rfl) (fun _ _ _ h => h) (Or.inl ⟨by rfl, ?_⟩) (by assumption) ?_
    rotate_left
    ·intro w hSw
     try dsimp only at hSw
     go_simp
     try with_reducible rfl
    simp only [Act.put, z1, z2, z3, z4, z5, z6]
    refine wpAnyH_done (by kernel_rfl) ?_ _
    have HBZ := Lib.hid (HB3.out.trans (hHeld.mono HX3.out))
    have har := HAR.out
    clear hHeld
    go_wp2_with (refine wpList_load_row rfl 143 _ rfl _ rfl 143 _ (0, 0) _ har Tryz.underlying143 rfl (by kernel_rfl) ?_)
    go_ret2
    exact ⟨rfl, by rw [HXX.out]; exact HBZ.out⟩
  ·go_simp
   have hPrev := Lib.hid hHeld.size
   refine hKc.out _ _ ?_ (fun hHeld => ?_)
   ·first | assumption | exact hHeld | exact btr hHeld hb' | exact hHeld.alloc hHeld.size _ | exact below_setRow hHeld hPrev.out _
   clear hKc Kc
   first | have HAQ := Lib.hid (freshOf hHeld) | have HAQ := Lib.hid (freshDrew hHeld)
   refine wpAnyH_ready (rs := [3]) (by kernel_rfl) (by simp) ?_
   refine AllReadyH.cons rfl (fun Kc hKc => ?_) AllReadyH.nil
   go_simp
   go_wp2_with (first | (with_reducible refine (PS1.out _).mono ?_; rintro e wq ⟨rfl, hb'⟩; try have HAQ := Lib.hid (HAQ.out.kept hb')) | (with_reducible refine (PS.out _).mono ?_; rintro e wq ⟨rfl, hb'⟩; try have HAQ := Lib.hid (HAQ.out.kept hb')) | (with_reducible refine (HU.out _ (HB3.out.trans (hHeld.mono HX3.out))).mono ?_; rintro e wq ⟨rfl, hb'⟩; try have HAQ := Lib.hid (HAQ.out.kept hb')))
   refine hKc.out _ _ ?_ (fun hHeld => ?_)
   ·first | assumption | exact hHeld | exact btr hHeld hb' | exact hHeld.alloc hHeld.size _ | exact below_setRow hHeld hPrev.out _
   clear hKc Kc
   refine wpAnyH_ready (rs := [4]) (by kernel_rfl) (by simp) ?_
   refine AllReadyH.cons rfl (fun Kc hKc => ?_) AllReadyH.nil
   go_simp
   go_wp2_with (first | (with_reducible refine (PS1.out _).mono ?_; rintro e wq ⟨rfl, hb'⟩; try have HAQ := Lib.hid (HAQ.out.kept hb')) | (with_reducible refine (PS.out _).mono ?_; rintro e wq ⟨rfl, hb'⟩; try have HAQ := Lib.hid (HAQ.out.kept hb')) | (with_reducible refine (HU.out _ (HB3.out.trans (hHeld.mono HX3.out))).mono ?_; rintro e wq ⟨rfl, hb'⟩; try have HAQ := Lib.hid (HAQ.out.kept hb')))
   refine hKc.out _ _ ?_ (fun hHeld => ?_)
   ·first | assumption | exact hHeld | exact btr hHeld hb' | exact hHeld.alloc hHeld.size _ | exact below_setRow hHeld hPrev.out _
   clear hKc Kc
   refine tkH (i := 5) (v := ?_) rfl (by kernel_rfl) (fun _ _ _ h => h) (Or.inl ⟨by rfl, ?_⟩) (by assumption) ?_
   rotate_left
   ·intro w hSw
    try dsimp only at hSw
    go_simp
    try with_reducible rfl
   simp only [Act.put, z1, z2, z3, z4, z5, z6]
   refine tkH (i := 6) (v := ?_) rfl (by kernel_rfl) (fun _ _ _ h => h) (Or.inl ⟨by rfl, ?_⟩) (by assumption) ?_
   rotate_left
   ·intro w hSw
    try dsimp only at hSw
    go_simp
    try with_reducible rfl
   simp only [Act.put, z1, z2, z3, z4, z5, z6]
   refine tkH (i := 7) (v := ?_) rfl (by kernel_rfl) (fun _ _ _ h => h) (Or.inl ⟨by rfl, ?_⟩) (by assumption) ?_
   rotate_left
   ·intro w hSw
    try dsimp only at hSw
    go_simp
    try with_reducible rfl
   simp only [Act.put, z1, z2, z3, z4, z5, z6]
   refine wpAnyH_ready (rs := [9]) (by kernel_rfl) (by simp) ?_
   refine AllReadyH.cons rfl (fun Kc hKc => ?_) AllReadyH.nil
   have HAR := Lib.hid (blkRowNew (cs' := #[.int .i64 hi, .int .u64 lo]) HAQ.out); refine wp_store_row 143 _ _ rfl _ #[.int .i64 hi, .int .u64 lo] rfl (by rfl) 143 _ HAQ.out (by kernel_rfl) rfl (by simp [Value.oneCell']) ?_
   refine hKc.out _ _ ?_ (fun hHeld => ?_)
   ·first | assumption | exact hHeld | exact btr hHeld hb' | exact hHeld.alloc hHeld.size _ | exact below_setRow hHeld hPrev.out _
   clear hKc Kc
   refine tkH (i := 10) (v := ?_) rfl (by kernel_rfl) (fun _ _ _ h => h) (Or.inl ⟨by rfl, ?_⟩) (by assumption) ?_
   rotate_left
   ·intro w hSw
    try dsimp only at hSw
    go_simp
    try with_reducible rfl
   simp only [Act.put, z1, z2, z3, z4, z5, z6]
   refine wpAnyH_done (by kernel_rfl) ?_ _
   have HBZ := Lib.hid (HB3.out.trans (hHeld.mono HX3.out))
   have har := HAR.out
   clear hHeld
   go_wp2_with (refine wpList_load_row rfl 143 _ rfl _ rfl 143 _ (0, 0) _ har Tryz.underlying143 rfl (by kernel_rfl) ?_)
   go_ret2
   exact ⟨rfl, by rw [HXX.out]; exact HBZ.out⟩
 ·go_simp
  have hPrev := Lib.hid hHeld.size
  refine hKc.out _ _ ?_ (fun hHeld => ?_)
  ·first | assumption | exact hHeld | exact btr hHeld hb' | exact hHeld.alloc hHeld.size _ | exact below_setRow hHeld hPrev.out _
  clear hKc Kc
  first | have HAQ := Lib.hid (freshOf hHeld) | have HAQ := Lib.hid (freshDrew hHeld)
  refine wpAnyH_ready (rs := [1]) (by kernel_rfl) (by simp) ?_
  refine AllReadyH.cons rfl (fun Kc hKc => ?_) AllReadyH.nil
  go_simp
  go_wp2_with (first | (with_reducible refine (PS1.out _).mono ?_; rintro e wq ⟨rfl, hb'⟩; try have HAQ := Lib.hid (HAQ.out.kept hb')) | (with_reducible refine (PS.out _).mono ?_; rintro e wq ⟨rfl, hb'⟩; try have HAQ := Lib.hid (HAQ.out.kept hb')) | (with_reducible refine (HU.out _ (HB3.out.trans (hHeld.mono HX3.out))).mono ?_; rintro e wq ⟨rfl, hb'⟩; try have HAQ := Lib.hid (HAQ.out.kept hb')))
  refine hKc.out _ _ ?_ (fun hHeld => ?_)
  ·first | assumption | exact hHeld | exact btr hHeld hb' | exact hHeld.alloc hHeld.size _ | exact below_setRow hHeld hPrev.out _
  clear hKc Kc
  refine wpAnyH_ready (rs := [3]) (by kernel_rfl) (by simp) ?_
  refine AllReadyH.cons rfl (fun Kc hKc => ?_) AllReadyH.nil
  go_simp
  go_wp2_with (first | (with_reducible refine (PS1.out _).mono ?_; rintro e wq ⟨rfl, hb'⟩; try have HAQ := Lib.hid (HAQ.out.kept hb')) | (with_reducible refine (PS.out _).mono ?_; rintro e wq ⟨rfl, hb'⟩; try have HAQ := Lib.hid (HAQ.out.kept hb')) | (with_reducible refine (HU.out _ (HB3.out.trans (hHeld.mono HX3.out))).mono ?_; rintro e wq ⟨rfl, hb'⟩; try have HAQ := Lib.hid (HAQ.out.kept hb')))
  refine hKc.out _ _ ?_ (fun hHeld => ?_)
  ·first | assumption | exact hHeld | exact btr hHeld hb' | exact hHeld.alloc hHeld.size _ | exact below_setRow hHeld hPrev.out _
  clear hKc Kc
  refine wpAnyH_ready (rs := [4]) (by kernel_rfl) (by simp) ?_
  refine AllReadyH.cons rfl (fun Kc hKc => ?_) AllReadyH.nil
  go_simp
  go_wp2_with (first | (with_reducible refine (PS1.out _).mono ?_; rintro e wq ⟨rfl, hb'⟩; try have HAQ := Lib.hid (HAQ.out.kept hb')) | (with_reducible refine (PS.out _).mono ?_; rintro e wq ⟨rfl, hb'⟩; try have HAQ := Lib.hid (HAQ.out.kept hb')) | (with_reducible refine (HU.out _ (HB3.out.trans (hHeld.mono HX3.out))).mono ?_; rintro e wq ⟨rfl, hb'⟩; try have HAQ := Lib.hid (HAQ.out.kept hb')))
  refine hKc.out _ _ ?_ (fun hHeld => ?_)
  ·first | assumption | exact hHeld | exact btr hHeld hb' | exact hHeld.alloc hHeld.size _ | exact below_setRow hHeld hPrev.out _
  clear hKc Kc
  refine tkH (i := 5) (v := ?_) rfl (by kernel_rfl) (fun _ _ _ h => h) (Or.inl ⟨by rfl, ?_⟩) (by assumption) ?_
  rotate_left
  ·intro w hSw
   try dsimp only at hSw
   go_simp
   try with_reducible rfl
  simp only [Act.put, z1, z2, z3, z4, z5, z6]
  refine tkH (i := 6) (v := ?_) rfl (by kernel_rfl) (fun _ _ _ h => h) (Or.inl ⟨by rfl, ?_⟩) (by assumption) ?_
  rotate_left
  ·intro w hSw
   try dsimp only at hSw
   go_simp
   try with_reducible rfl
  simp only [Act.put, z1, z2, z3, z4, z5, z6]
  refine tkH (i := 7) (v := ?_) rfl (by kernel_rfl) (fun _ _ _ h => h) (Or.inl ⟨by rfl, ?_⟩) (by assumption) ?_
  rotate_left
  ·intro w hSw
   try dsimp only at hSw
   go_simp
   try with_reducible rfl
  simp only [Act.put, z1, z2, z3, z4, z5, z6]
  refine wpAnyH_ready (rs := [9]) (by kernel_rfl) (by simp) ?_
  refine AllReadyH.cons rfl (fun Kc hKc => ?_) AllReadyH.nil
  have HAR := Lib.hid (blkRowNew (cs' := #[.int .i64 hi, .int .u64 lo]) HAQ.out); refine wp_store_row 143 _ _ rfl _ #[.int .i64 hi, .int .u64 lo] rfl (by rfl) 143 _ HAQ.out (by kernel_rfl) rfl (by simp [Value.oneCell']) ?_
  refine hKc.out _ _ ?_ (fun hHeld => ?_)
  ·first | assumption | exact hHeld | exact btr hHeld hb' | exact hHeld.alloc hHeld.size _ | exact below_setRow hHeld hPrev.out _
  clear hKc Kc
  refine tkH (i := 10) (v := ?_) rfl (by kernel_rfl) (fun _ _ _ h => h) (Or.inl ⟨by rfl, ?_⟩) (by assumption) ?_
  rotate_left
  ·intro w hSw
   try dsimp only at hSw
   go_simp
   try with_reducible rfl
  simp only [Act.put, z1, z2, z3, z4, z5, z6]
  refine wpAnyH_done (by kernel_rfl) ?_ _
  have HBZ := Lib.hid (HB3.out.trans (hHeld.mono HX3.out))
  have har := HAR.out
  clear hHeld
  go_wp2_with (refine wpList_load_row rfl 143 _ rfl _ rfl 143 _ (0, 0) _ har Tryz.underlying143 rfl (by kernel_rfl) ?_)
  go_ret2
  exact ⟨rfl, by rw [HXX.out]; exact HBZ.out⟩
end Go.Proofs.YtfeficdndjiijaaGreatDoor


namespace Go.Proofs.YtfeficdndjiijaaGreatDoor
open Go.RowKit Go.Maps
set_option linter.unusedVariables false
set_option linter.unusedSimpArgs false

end Go.Proofs.YtfeficdndjiijaaGreatDoor


namespace Go.Proofs.YtfeficdndjiijaaGreatDoor
open Go.RowKit
set_option linter.unusedVariables false
set_option linter.unusedSimpArgs false

theorem tcCreateCreate (b r d m s : Int) (w : World) : (Instr.typeAssert (.iface 110 (.agg #[.int .i64 b, .int .i64 r, .int .i64 d, .int .i64 m, .int .u64 s])) 62 110 true).run Tryz.prog w = .ok (.tuple #[.agg #[.int .i64 b, .int .i64 r, .int .i64 d, .int .i64 m, .int .u64 s], .bool true]) w := by kernel_rfl
theorem tcOpenCreate (b r d m s q : Int) (w : World) : (Instr.typeAssert (.iface 113 (.agg #[.int .i64 b, .int .i64 r, .int .i64 d, .int .i64 m, .int .u64 s, .int .i64 q])) 62 110 true).run Tryz.prog w = .ok (.tuple #[.agg #[.int .i64 0, .int .i64 0, .int .i64 0, .int .i64 0, .int .u64 0], .bool false]) w := by kernel_rfl
theorem tcOpenOpen (b r d m s q : Int) (w : World) : (Instr.typeAssert (.iface 113 (.agg #[.int .i64 b, .int .i64 r, .int .i64 d, .int .i64 m, .int .u64 s, .int .i64 q])) 62 113 true).run Tryz.prog w = .ok (.tuple #[.agg #[.int .i64 b, .int .i64 r, .int .i64 d, .int .i64 m, .int .u64 s, .int .i64 q], .bool true]) w := by kernel_rfl
theorem tcAddCreate (h key x : Int) (w : World) : (Instr.typeAssert (.iface 117 (.agg #[.int .i64 h, .bool false, .string ⟨#[]⟩, .int .u64 key, .int .i64 x])) 62 110 true).run Tryz.prog w = .ok (.tuple #[.agg #[.int .i64 0, .int .i64 0, .int .i64 0, .int .i64 0, .int .u64 0], .bool false]) w := by kernel_rfl
theorem tcAddOpen (h key x : Int) (w : World) : (Instr.typeAssert (.iface 117 (.agg #[.int .i64 h, .bool false, .string ⟨#[]⟩, .int .u64 key, .int .i64 x])) 62 113 true).run Tryz.prog w = .ok (.tuple #[.agg #[.int .i64 0, .int .i64 0, .int .i64 0, .int .i64 0, .int .u64 0, .int .i64 0], .bool false]) w := by kernel_rfl
theorem tcAddAdd (h key x : Int) (w : World) : (Instr.typeAssert (.iface 117 (.agg #[.int .i64 h, .bool false, .string ⟨#[]⟩, .int .u64 key, .int .i64 x])) 62 117 true).run Tryz.prog w = .ok (.tuple #[.agg #[.int .i64 h, .bool false, .string ⟨#[]⟩, .int .u64 key, .int .i64 x], .bool true]) w := by kernel_rfl
theorem tcTickCreate  (w : World) : (Instr.typeAssert (.iface 120 (.agg #[])) 62 110 true).run Tryz.prog w = .ok (.tuple #[.agg #[.int .i64 0, .int .i64 0, .int .i64 0, .int .i64 0, .int .u64 0], .bool false]) w := by kernel_rfl
theorem tcTickOpen  (w : World) : (Instr.typeAssert (.iface 120 (.agg #[])) 62 113 true).run Tryz.prog w = .ok (.tuple #[.agg #[.int .i64 0, .int .i64 0, .int .i64 0, .int .i64 0, .int .u64 0, .int .i64 0], .bool false]) w := by kernel_rfl
theorem tcTickAdd  (w : World) : (Instr.typeAssert (.iface 120 (.agg #[])) 62 117 true).run Tryz.prog w = .ok (.tuple #[.agg #[.int .i64 0, .bool false, .string ⟨#[]⟩, .int .u64 0, .int .i64 0], .bool false]) w := by kernel_rfl
theorem tcTickTick  (w : World) : (Instr.typeAssert (.iface 120 (.agg #[])) 62 120 true).run Tryz.prog w = .ok (.tuple #[.agg #[], .bool true]) w := by kernel_rfl
theorem tcQueryCreate (V : ByteArray) (h : Int) (ao : Option Addr) (k cp : Nat) (w : World) : (Instr.typeAssert (.iface 123 (.agg #[.string V, .int .i64 h, .slice ao k cp])) 62 110 true).run Tryz.prog w = .ok (.tuple #[.agg #[.int .i64 0, .int .i64 0, .int .i64 0, .int .i64 0, .int .u64 0], .bool false]) w := by kernel_rfl
theorem tcQueryOpen (V : ByteArray) (h : Int) (ao : Option Addr) (k cp : Nat) (w : World) : (Instr.typeAssert (.iface 123 (.agg #[.string V, .int .i64 h, .slice ao k cp])) 62 113 true).run Tryz.prog w = .ok (.tuple #[.agg #[.int .i64 0, .int .i64 0, .int .i64 0, .int .i64 0, .int .u64 0, .int .i64 0], .bool false]) w := by kernel_rfl
theorem tcQueryAdd (V : ByteArray) (h : Int) (ao : Option Addr) (k cp : Nat) (w : World) : (Instr.typeAssert (.iface 123 (.agg #[.string V, .int .i64 h, .slice ao k cp])) 62 117 true).run Tryz.prog w = .ok (.tuple #[.agg #[.int .i64 0, .bool false, .string ⟨#[]⟩, .int .u64 0, .int .i64 0], .bool false]) w := by kernel_rfl
theorem tcQueryTick (V : ByteArray) (h : Int) (ao : Option Addr) (k cp : Nat) (w : World) : (Instr.typeAssert (.iface 123 (.agg #[.string V, .int .i64 h, .slice ao k cp])) 62 120 true).run Tryz.prog w = .ok (.tuple #[.agg #[], .bool false]) w := by kernel_rfl
theorem tcQueryQuery (V : ByteArray) (h : Int) (ao : Option Addr) (k cp : Nat) (w : World) : (Instr.typeAssert (.iface 123 (.agg #[.string V, .int .i64 h, .slice ao k cp])) 62 123 true).run Tryz.prog w = .ok (.tuple #[.agg #[.string V, .int .i64 h, .slice ao k cp], .bool true]) w := by kernel_rfl
theorem tcPairCreate (V : ByteArray) (h o : Int) (w : World) : (Instr.typeAssert (.iface 126 (.agg #[.string V, .int .i64 h, .int .i64 o])) 62 110 true).run Tryz.prog w = .ok (.tuple #[.agg #[.int .i64 0, .int .i64 0, .int .i64 0, .int .i64 0, .int .u64 0], .bool false]) w := by kernel_rfl
theorem tcPairOpen (V : ByteArray) (h o : Int) (w : World) : (Instr.typeAssert (.iface 126 (.agg #[.string V, .int .i64 h, .int .i64 o])) 62 113 true).run Tryz.prog w = .ok (.tuple #[.agg #[.int .i64 0, .int .i64 0, .int .i64 0, .int .i64 0, .int .u64 0, .int .i64 0], .bool false]) w := by kernel_rfl
theorem tcPairAdd (V : ByteArray) (h o : Int) (w : World) : (Instr.typeAssert (.iface 126 (.agg #[.string V, .int .i64 h, .int .i64 o])) 62 117 true).run Tryz.prog w = .ok (.tuple #[.agg #[.int .i64 0, .bool false, .string ⟨#[]⟩, .int .u64 0, .int .i64 0], .bool false]) w := by kernel_rfl
theorem tcPairTick (V : ByteArray) (h o : Int) (w : World) : (Instr.typeAssert (.iface 126 (.agg #[.string V, .int .i64 h, .int .i64 o])) 62 120 true).run Tryz.prog w = .ok (.tuple #[.agg #[], .bool false]) w := by kernel_rfl
theorem tcPairQuery (V : ByteArray) (h o : Int) (w : World) : (Instr.typeAssert (.iface 126 (.agg #[.string V, .int .i64 h, .int .i64 o])) 62 123 true).run Tryz.prog w = .ok (.tuple #[.agg #[.string ⟨#[]⟩, .int .i64 0, .slice none 0 0], .bool false]) w := by kernel_rfl
theorem tcPairPair (V : ByteArray) (h o : Int) (w : World) : (Instr.typeAssert (.iface 126 (.agg #[.string V, .int .i64 h, .int .i64 o])) 62 126 true).run Tryz.prog w = .ok (.tuple #[.agg #[.string V, .int .i64 h, .int .i64 o], .bool true]) w := by kernel_rfl
set_option maxRecDepth 100000 in
set_option maxHeartbeats 4000000 in
theorem do_add (w : World) (A : Nat) (h key x : Int) (Q : Value → World → Prop) (h1 : ∀ w1, Below w.heap.size w w1 → Calls Tryz.prog 49 #[.pointer (some ⟨A, 0, none⟩), .agg #[.int .i64 h, .bool false, .string ⟨#[]⟩, .int .u64 key, .int .i64 x]] w1 fun e w' => ∃ r, e = .returned (.tuple #[r, .int .i64 0]) ∧ Q r w') :
  Calls Tryz.prog 24 #[.pointer (some ⟨A, 0, none⟩), .iface 117 (.agg #[.int .i64 h, .bool false, .string ⟨#[]⟩, .int .u64 key, .int .i64 x])] w fun e w' => ∃ r, e = .returned (.tuple #[r, .int .i64 0]) ∧ Q r w' := by
 have t0 := tcAddCreate h key x
 have t1 := tcAddOpen h key x
 have t2 := tcAddAdd h key x
 have hb1 : Below w.heap.size w (w.alloc (.cells #[.int .i64 h, .bool false, .string ⟨#[]⟩, .int .u64 key, .int .i64 x] 117)) := (Below.refl _ w).alloc (Nat.le_refl _) _
 have hx1 := Blk.new w 117 #[.int .i64 h, .bool false, .string ⟨#[]⟩, .int .u64 key, .int .i64 x]
 have H1 := Lib.hid (h1 _ hb1)
 clear h1 hb1
 go_enter Tryz.func24, Tryz.ntmps24
 go_wp2_with (refine wpList_load_row rfl 117 _ rfl w.heap.size rfl 117 _ (0, 0) _ hx1 Tryz.underlying117 rfl (by kernel_rfl) ?_)
 with_reducible refine H1.out.mono ?_
 rintro e w2 ⟨r, rfl, hq⟩
 have HQ := Lib.hid hq
 clear hq H1
 go_wp2_with fail
 go_ret2
 exact ⟨r, rfl, HQ.out⟩
set_option maxRecDepth 100000 in
set_option maxHeartbeats 4000000 in
theorem do_tick (w : World) (A : Nat)  (Q : Value → World → Prop) (h1 : ∀ w1, Below w.heap.size w w1 → Calls Tryz.prog 50 #[.pointer (some ⟨A, 0, none⟩)] w1 fun e w' => ∃ r, e = .returned (.tuple #[r, .int .i64 0]) ∧ Q r w') :
    Calls Tryz.prog 24 #[.pointer (some ⟨A, 0, none⟩), .iface 120 (.agg #[])] w fun e w' => ∃ r, e = .returned (.tuple #[r, .int .i64 0]) ∧ Q r w' := by
  have t0 := tcTickCreate 
  have t1 := tcTickOpen 
  have t2 := tcTickAdd 
  have t3 := tcTickTick 
  have hb1 : Below w.heap.size w (w.alloc (.cells #[] 120)) := (Below.refl _ w).alloc (Nat.le_refl _) _
  have hx1 := Blk.new w 120 #[]
  have H1 := Lib.hid (h1 _ hb1)
  clear h1 hb1
  go_enter Tryz.func24, Tryz.ntmps24
  go_wp2_with fail
  with_reducible refine H1.out.mono ?_
  rintro e w2 ⟨r, rfl, hq⟩
  have HQ := Lib.hid hq
  clear hq H1
  go_wp2_with fail
  go_ret2
  exact ⟨r, rfl, HQ.out⟩
set_option maxRecDepth 100000 in
set_option maxHeartbeats 4000000 in
theorem do_query (w : World) (A : Nat) (V : ByteArray) (h : Int) (ao : Option Addr) (k cp : Nat) (Q : Value → World → Prop) (h1 : ∀ w1, Below w.heap.size w w1 → Calls Tryz.prog 51 #[.pointer (some ⟨A, 0, none⟩), .agg #[.string V, .int .i64 h, .slice ao k cp]] w1 fun e w' => ∃ r, e = .returned (.tuple #[r, .int .i64 0]) ∧ Q r w') :
  Calls Tryz.prog 24 #[.pointer (some ⟨A, 0, none⟩), .iface 123 (.agg #[.string V, .int .i64 h, .slice ao k cp])] w fun e w' => ∃ r, e = .returned (.tuple #[r, .int .i64 0]) ∧ Q r w' := by
 have t0 := tcQueryCreate V h ao k cp
 have t1 := tcQueryOpen V h ao k cp
 have t2 := tcQueryAdd V h ao k cp
 have t3 := tcQueryTick V h ao k cp
 have t4 := tcQueryQuery V h ao k cp
 have hb1 : Below w.heap.size w (w.alloc (.cells #[.string V, .int .i64 h, .slice ao k cp] 123)) := (Below.refl _ w).alloc (Nat.le_refl _) _
 have hx1 := Blk.new w 123 #[.string V, .int .i64 h, .slice ao k cp]
 have H1 := Lib.hid (h1 _ hb1)
 clear h1 hb1
 go_enter Tryz.func24, Tryz.ntmps24
 go_wp2_with (refine wpList_load_row rfl 123 _ rfl w.heap.size rfl 123 _ (0, 0) _ hx1 Tryz.underlying123 rfl (by kernel_rfl) ?_)
 with_reducible refine H1.out.mono ?_
 rintro e w2 ⟨r, rfl, hq⟩
 have HQ := Lib.hid hq
 clear hq H1
 go_wp2_with fail
 go_ret2
 exact ⟨r, rfl, HQ.out⟩
set_option maxRecDepth 100000 in
set_option maxHeartbeats 4000000 in
theorem do_pair (w : World) (A : Nat) (V : ByteArray) (h o : Int) (Q : Value → World → Prop) (h1 : ∀ w1, Below w.heap.size w w1 → Calls Tryz.prog 52 #[.pointer (some ⟨A, 0, none⟩), .agg #[.string V, .int .i64 h, .int .i64 o]] w1 fun e w' => ∃ r, e = .returned (.tuple #[r, .int .i64 0]) ∧ Q r w') :
  Calls Tryz.prog 24 #[.pointer (some ⟨A, 0, none⟩), .iface 126 (.agg #[.string V, .int .i64 h, .int .i64 o])] w fun e w' => ∃ r, e = .returned (.tuple #[r, .int .i64 0]) ∧ Q r w' := by
 have t0 := tcPairCreate V h o
 have t1 := tcPairOpen V h o
 have t2 := tcPairAdd V h o
 have t3 := tcPairTick V h o
 have t4 := tcPairQuery V h o
 have t5 := tcPairPair V h o
 have hb1 : Below w.heap.size w (w.alloc (.cells #[.string V, .int .i64 h, .int .i64 o] 126)) := (Below.refl _ w).alloc (Nat.le_refl _) _
 have hx1 := Blk.new w 126 #[.string V, .int .i64 h, .int .i64 o]
 have H1 := Lib.hid (h1 _ hb1)
 clear h1 hb1
 go_enter Tryz.func24, Tryz.ntmps24
 go_wp2_with (refine wpList_load_row rfl 126 _ rfl w.heap.size rfl 126 _ (0, 0) _ hx1 Tryz.underlying126 rfl (by kernel_rfl) ?_)
 with_reducible refine H1.out.mono ?_
 rintro e w2 ⟨r, rfl, hq⟩
 have HQ := Lib.hid hq
 clear hq H1
 go_wp2_with fail
 go_ret2
 exact ⟨r, rfl, HQ.out⟩
set_option maxRecDepth 100000 in
set_option maxHeartbeats 4000000 in
theorem do_create (w : World) (A : Nat) (b r d m s : Int) (Q : Value → World → Prop) (N : Nat → World → Prop) (h1 : ∀ w1, Below w.heap.size w w1 → Calls Tryz.prog 36 #[.agg #[.int .i64 b, .int .i64 r, .int .i64 d, .int .i64 m, .int .u64 s]] w1 fun e w' => ∃ S, e = .returned (.tuple #[.pointer (some ⟨S, 0, none⟩), .int .i64 0]) ∧ N S w')
  (h2 : ∀ S w2, N S w2 → Calls Tryz.prog 47 #[.pointer (some ⟨A, 0, none⟩), .agg #[.pointer (some ⟨S, 0, none⟩), .pointer none], .int .i64 0] w2 fun e w' => ∃ r, e = .returned (.tuple #[r, .int .i64 0]) ∧ Q r w') :
  Calls Tryz.prog 24 #[.pointer (some ⟨A, 0, none⟩), .iface 110 (.agg #[.int .i64 b, .int .i64 r, .int .i64 d, .int .i64 m, .int .u64 s])] w fun e w' => ∃ r, e = .returned (.tuple #[r, .int .i64 0]) ∧ Q r w' := by
 have t0 := tcCreateCreate b r d m s
 have hb1 : Below w.heap.size w (w.alloc (.cells #[.int .i64 b, .int .i64 r, .int .i64 d, .int .i64 m, .int .u64 s] 110)) := (Below.refl _ w).alloc (Nat.le_refl _) _
 have hx1 := Blk.new w 110 #[.int .i64 b, .int .i64 r, .int .i64 d, .int .i64 m, .int .u64 s]
 have H1 := Lib.hid (h1 _ hb1)
 have H2 := Lib.hid h2
 clear h1 h2 hb1
 go_enter Tryz.func24, Tryz.ntmps24
 go_wp2_with (refine wpList_load_row rfl 24 _ rfl w.heap.size rfl 110 _ (0, 0) _ hx1 Tryz.underlying24 rfl (by kernel_rfl) ?_)
 with_reducible refine H1.out.mono ?_
 rintro e w2 ⟨S, rfl, hq⟩
 have H3 := Lib.hid (H2.out S _ hq)
 clear hq H1 H2
 go_wp2_with fail
 with_reducible refine H3.out.mono ?_
 rintro e w3 ⟨r, rfl, hq⟩
 have HQ := Lib.hid hq
 clear hq H3
 go_wp2_with fail
 go_ret2
 exact ⟨r, rfl, HQ.out⟩
end Go.Proofs.YtfeficdndjiijaaGreatDoor


namespace Go.Proofs.YtfeficdndjiijaaGreatDoor
open Go.RowKit
set_option linter.unusedVariables false
set_option linter.unusedSimpArgs false

theorem LevIs.frame {w w' : World} {x : Value} {A G C : Nat} {b r d m s l : Int} {zs : List Int} (h : LevIs w x A G C b r d m s l zs) (hA : w'.heap[A]? = w.heap[A]?) (hG : w'.heap[G]? = w.heap[G]?) (hC : w'.heap[C]? = w.heap[C]?) : LevIs w' x A G C b r d m s l zs := by
  have hg : ∀ {R W : Nat}, GridIs w G C R W zs → GridIs w' G C R W zs := fun g => by
    obtain ⟨cap, h1, h2⟩ := g.fields
    obtain ⟨cur, h3, h4⟩ := g.cells
    exact ⟨⟨cap, hG.trans h1, h2⟩, g.len, ⟨cur, hC.trans h3, h4⟩, g.rows, g.width, g.fit⟩
  rcases h with ⟨h1, h2, h3, h4⟩ | ⟨h1, h2, h3⟩
  · exact .inl ⟨h1, h2, hA.trans h3, hg h4⟩
  · exact .inr ⟨h1, h2, ⟨hA.trans h3.box, hg h3.grid⟩⟩
theorem StIs.frame {w w' : World} {base S L : Nat} {b r d m s : Int} {X : Nat → Value} {A G C : Nat → Nat} {Z : Nat → List Int} (h : StIs w base S L b r d m s X A G C Z) (hS : w'.heap[S]? = w.heap[S]?) (hL : w'.heap[L]? = w.heap[L]?)
    (hk : ∀ n, n ≤ b.toNat → w'.heap[A n]? = w.heap[A n]? ∧ w'.heap[G n]? = w.heap[G n]? ∧ w'.heap[C n]? = w.heap[C n]?) : StIs w' base S L b r d m s X A G C Z := by
  obtain ⟨cap, h1, h2⟩ := h.box
  obtain ⟨cur, h3, h4⟩ := h.row
  exact ⟨⟨cap, hS.trans h1, h2⟩, h.right, ⟨cur, hL.trans h3, h4⟩, fun n hn => (h.lev n hn).frame (hk n hn).1 (hk n hn).2.1 (hk n hn).2.2, h.apart, h.low⟩
theorem StIs.under {w : World} {base S L : Nat} {b r d m s : Int} {X : Nat → Value} {A G C : Nat → Nat} {Z : Nat → List Int} (h : StIs w base S L b r d m s X A G C Z) : S < w.heap.size ∧ L < w.heap.size ∧ ∀ n, n ≤ b.toNat → A n < w.heap.size ∧ G n < w.heap.size ∧ C n < w.heap.size := by
  obtain ⟨cap, h1, h2⟩ := h.box
  obtain ⟨cur, h3, h4⟩ := h.row
  refine ⟨h1.lt, h3.lt, fun n hn => ?_⟩
  rcases h.lev n hn with ⟨-, -, k1, k2⟩ | ⟨-, -, k3⟩
  · exact ⟨k1.lt, k2.ltG, k2.ltC⟩
  · exact ⟨k3.box.lt, k3.grid.ltG, k3.grid.ltC⟩
def Onl (F : Nat → Prop) (w w' : World) : Prop := w'.os = w.os ∧ w'.tape = w.tape ∧ w'.output = w.output ∧ w.heap.size ≤ w'.heap.size ∧ ∀ k, k < w.heap.size → ¬ F k → w'.heap[k]? = w.heap[k]?
theorem Onl.below {F : Nat → Prop} {w w' : World} (h : Below w.heap.size w w') : Onl F w w' := ⟨h.os, h.tape, h.output, h.size, fun k hk _ => h.block k hk⟩
theorem Onl.trans {F : Nat → Prop} {w w1 w2 : World} (h : Onl F w w1) (k : Onl F w1 w2) : Onl F w w2 :=
  ⟨k.1.trans h.1, k.2.1.trans h.2.1, k.2.2.1.trans h.2.2.1, Nat.le_trans h.2.2.2.1 k.2.2.2.1, fun x hx hn => (k.2.2.2.2 x (Nat.lt_of_lt_of_le hx h.2.2.2.1) hn).trans (h.2.2.2.2 x hx hn)⟩
theorem Onl.mono {F F' : Nat → Prop} {w w' : World} (h : Onl F w w') (hl : ∀ k, F k → F' k ∨ w.heap.size ≤ k) : Onl F' w w' := ⟨h.1, h.2.1, h.2.2.1, h.2.2.2.1, fun k hk hn => h.2.2.2.2 k hk (fun hm => by rcases hl k hm with h1 | h1; exact hn h1; omega)⟩
theorem Onl.of_chg {l : List Nat} {w w' : World} (h : Chg l w w') : Onl (fun k => k ∈ l) w w' := h
theorem Onl.of_rgr {C : Nat → Nat} {q : Nat} {w w' : World} (h : RGr w w' C q) : Onl (fun k => ∃ n, n < q ∧ k = C n) w w' := ⟨h.os, h.tape, h.output, h.size, fun k hk hn => h.block k hk (fun n hq e => hn ⟨n, hq, e⟩)⟩
theorem Onl.of_gr {g : Nat} {w w' : World} (h : w.grownBy w' (some g)) : Onl (fun k => k = g) w w' := ⟨h.os, h.tape, h.output, h.size, fun k hk hn => h.block k hk (fun e => hn (Option.some.inj e))⟩
theorem Onl.to_below {F : Nat → Prop} {w w' : World} {B : Nat} (h : Onl F w w') (hB : B ≤ w.heap.size) (hF : ∀ k, F k → B ≤ k) : Below B w w' := ⟨h.1, h.2.1, h.2.2.1, h.2.2.2.1, fun k hk => h.2.2.2.2 k (by omega) (fun hf => by have := hF k hf; omega)⟩
def NoSt (w : World) (k : Nat) : Prop := ∀ t cs, Blk w k t cs → t ≠ 2 ∧ t ≠ 337 ∧ t ≠ 284 ∧ t ≠ 288 ∧ t ≠ 174 ∧ t ≠ 172
theorem blk_one {w : World} {k : Nat} {t t' : TypeId} {cs cs' : Array Value} (h : Blk w k t cs) (h' : Blk w k t' cs') : t = t' := by
  have := (show w.heap[k]? = _ from h).symm.trans h'
  simp at this
  exact this.2
theorem StIs.onl {F : Nat → Prop} {w w' : World} {base S L : Nat} {b r d m s : Int} {X : Nat → Value} {A G C : Nat → Nat} {Z : Nat → List Int} (h : StIs w base S L b r d m s X A G C Z) (ho : Onl F w w')
  (hF : ∀ k, F k → NoSt w k ∨ ((∃ cs, Blk w k 2 cs) ∧ ∀ n, n ≤ b.toNat → k ≠ C n)) : StIs w' base S L b r d m s X A G C Z := by
 have keep : ∀ (k : Nat) (t : TypeId) (cs : Array Value), Blk w k t cs → (t = 2 → ∃ n, n ≤ b.toNat ∧ k = C n) → (t = 2 ∨ t = 337 ∨ t = 284 ∨ t = 288 ∨ t = 174 ∨ t = 172) → w'.heap[k]? = w.heap[k]? := by
  intro k t cs hk hi ht
  refine ho.2.2.2.2 k hk.lt (fun hf => ?_)
  rcases hF k hf with h1 | ⟨⟨cs', h1⟩, h2⟩
  ·have := h1 t cs hk
   rcases ht with e | e | e | e | e | e
   ·exact this.1 e
   ·exact this.2.1 e
   ·exact this.2.2.1 e
   ·exact this.2.2.2.1 e
   ·exact this.2.2.2.2.1 e
   ·exact this.2.2.2.2.2 e
  ·obtain ⟨n, hn, e⟩ := hi (blk_one hk h1)
   exact h2 n hn e
 obtain ⟨cap, h1, -⟩ := h.box
 obtain ⟨cur, h3, -⟩ := h.row
 refine h.frame (keep S _ _ h1 (fun e => absurd e (by decide)) (by simp)) (keep L _ _ h3 (fun e => absurd e (by decide)) (by simp)) (fun n hn => ?_)
 rcases h.lev n hn with ⟨-, -, k1, k2⟩ | ⟨-, -, k3⟩
 ·obtain ⟨c1, f1, -⟩ := k2.fields
  obtain ⟨cu, f2, -⟩ := k2.cells
  exact ⟨keep _ _ _ k1 (fun e => absurd e (by decide)) (by simp), keep _ _ _ f1 (fun e => absurd e (by decide)) (by simp), keep _ _ _ f2 (fun _ => ⟨n, hn, rfl⟩) (by simp)⟩
 ·obtain ⟨c1, f1, -⟩ := k3.grid.fields
  obtain ⟨cu, f2, -⟩ := k3.grid.cells
  exact ⟨keep _ _ _ k3.box (fun e => absurd e (by decide)) (by simp), keep _ _ _ f1 (fun e => absurd e (by decide)) (by simp), keep _ _ _ f2 (fun _ => ⟨n, hn, rfl⟩) (by simp)⟩
structure AggSt (w : World) (base A bm n : Nat) (b r d m s : Int) (S L : Nat → Nat) (X : Nat → Nat → Value) (Ar G C : Nat → Nat → Nat) (Z : Nat → Nat → List Int) : Prop where
  agg : ∃ T, AggIs w A bm n T ∧ ∀ i, 1 ≤ i → i ≤ n → T i = (some (S i), none)
  st : ∀ i, 1 ≤ i → i ≤ n → StIs w base (S i) (L i) b r d m s (X i) (Ar i) (G i) (C i) (Z i)
  apart : ∀ i j p q, 1 ≤ i → i ≤ n → 1 ≤ j → j ≤ n → i ≠ j → p ≤ b.toNat → q ≤ b.toNat → C i p ≠ C j q
  lo : base ≤ A ∧ base ≤ bm
  tab : Tab w
theorem AggSt.kept {w w' : World} {base A bm n : Nat} {b r d m s : Int} {S L : Nat → Nat} {X : Nat → Nat → Value} {Ar G C : Nat → Nat → Nat} {Z : Nat → Nat → List Int} (h : AggSt w base A bm n b r d m s S L X Ar G C Z) (hb : Below w.heap.size w w') : AggSt w' base A bm n b r d m s S L X Ar G C Z := by
  obtain ⟨T, h1, h2⟩ := h.agg
  exact ⟨⟨T, h1.kept hb, h2⟩, fun i h3 h4 => (h.st i h3 h4).kept hb, h.apart, h.lo, h.tab.kept hb⟩
theorem AggIs.noSt {w : World} {A bm n : Nat} {T : Nat → Option Nat × Option Nat} (h : AggIs w A bm n T) : NoSt w A ∧ NoSt w bm := by
  obtain ⟨h1, D, ⟨es, clock, h2, -⟩, -⟩ := h
  refine ⟨fun t cs hk => ?_, fun t cs hk => ?_⟩
  · have := blk_one hk h1
    subst this
    exact ⟨by decide, by decide, by decide, by decide, by decide, by decide⟩
  · rw [show w.heap[bm]? = _ from hk] at h2
    cases h2
def AOnl (base A bm : Nat) (w w' : World) : Prop := Onl (fun k => k = A ∨ k = bm ∨ (base ≤ k ∧ ∃ cs, Blk w k 2 cs)) w w'
theorem AOnl.below {base A bm : Nat} {w w' : World} (h : Below w.heap.size w w') : AOnl base A bm w w' := Onl.below h
theorem AOnl.of {F : Nat → Prop} {base A bm : Nat} {w w' : World} (h : Onl F w w') (hF : ∀ k, k < w.heap.size → F k → k = A ∨ k = bm ∨ (base ≤ k ∧ ∃ cs, Blk w k 2 cs)) : AOnl base A bm w w' :=
  ⟨h.1, h.2.1, h.2.2.1, h.2.2.2.1, fun k hk hn => h.2.2.2.2 k hk (fun hf => hn (hF k hk hf))⟩
theorem AOnl.trans {base A bm : Nat} {w w1 w2 : World} (h : AOnl base A bm w w1) (k : AOnl base A bm w1 w2) : AOnl base A bm w w2 :=
  ⟨k.1.trans h.1, k.2.1.trans h.2.1, k.2.2.1.trans h.2.2.1, Nat.le_trans h.2.2.2.1 k.2.2.2.1, fun x hx hn => by
    have e := h.2.2.2.2 x hx hn
    refine (k.2.2.2.2 x (Nat.lt_of_lt_of_le hx h.2.2.2.1) (fun hf => hn ?_)).trans e
    rcases hf with h1 | h1 | ⟨h1, cs, h2⟩
    · exact .inl h1
    · exact .inr (.inl h1)
    · exact .inr (.inr ⟨h1, cs, by rw [show Blk w x 2 cs ↔ w.heap[x]? = some (.cells cs 2 (0, 0)) from Iff.rfl, ← e]; exact h2⟩)⟩
theorem AOnl.to_below {base A bm : Nat} {w w' : World} (h : AOnl base A bm w w') (hs : base ≤ w.heap.size) (hA : base ≤ A) (hB : base ≤ bm) : Below base w w' :=
  Onl.to_below h hs (fun k hk => by rcases hk with h1 | h1 | ⟨h1, -⟩ <;> omega)
theorem AOnl.blk {base A bm : Nat} {w w' : World} (h : AOnl base A bm w w') {k : Nat} {t : TypeId} {cs : Array Value} (hk : Blk w k t cs) (h1 : k ≠ A) (h2 : k ≠ bm) (h3 : t ≠ 2) : Blk w' k t cs := by
  refine (h.2.2.2.2 k hk.lt ?_).trans hk
  rintro (e | e | ⟨-, cs', e⟩)
  · exact h1 e
  · exact h2 e
  · exact h3 (blk_one hk e)
end Go.Proofs.YtfeficdndjiijaaGreatDoor

