import Derived.Test.YtfeficdndjiijaaGreatDoorQxh
/-
  Contracts of the functions that TopFits reaches, and the plain laws that it leans on. Conditions: none beyond those stated at each theorem.
-/
namespace Go.Proofs.YtfeficdndjiijaaGreatDoor
open Go.RowKit Go.Maps
set_option linter.unusedVariables false
set_option linter.unusedSimpArgs false

set_option maxRecDepth 100000 in
set_option maxHeartbeats 4000000 in
theorem agg_range (w : World) (A b n : Nat) (T : Nat → Option Nat × Option Nat) (x0 x1 x2 : Int) (S g : Nat) (lo hi m : Int) (hlo : IntKind.u64.wrap x1 = lo) (hhi : IntKind.u64.wrap x2 = hi) (hA : AggIs w A b n T) (h1 : 1 ≤ x0) (h2 : x0 ≤ (n : Int)) (hn : n ≤ 100) (hT : T x0.toNat = (some S, none)) (hg : w.rowIs g 2 3 (fun j => .int .i64 (cellD [x0, x1, x2] j)))
  (hU : ∀ w1, Below w.heap.size w w1 → Calls Tryz.prog 95 #[.pointer (some ⟨S, 0, none⟩), .int .u64 lo, .int .u64 hi] w1 fun e w' => e = .returned (.tuple #[.int .i64 m, .int .i64 0]) ∧ Below w1.heap.size w1 w') :
  Calls Tryz.prog 51 #[.pointer (some ⟨A, 0, none⟩), .agg #[.string (sB [114, 97, 110, 103, 101]), .int .i64 x0, .slice (some ⟨g, 1, none⟩) 2 2]] w fun e w' => e = .returned (.tuple #[.iface 137 (.agg #[.int .i64 m]), .int .i64 0]) ∧ Below w.heap.size w w' := by
 have HA := Lib.hid hA
 have HH := Lib.hid (And.intro h1 (And.intro h2 hn))
 have HT := Lib.hid hT
 have HU := Lib.hid hU
 have PN := Lib.hid num_ok
 have PS := Lib.hid (thstackP S)
 have hvl := sB_list [114, 97, 110, 103, 101]
 obtain ⟨V, hV⟩ : ∃ V, V = sB [114, 97, 110, 103, 101] := ⟨_, rfl⟩
 rw [← hV] at hvl ⊢
 have hb1 : Below w.heap.size w (w.alloc (.cells #[.string V, .int .i64 x0, .slice (some ⟨g, 1, none⟩) 2 2] 123)) := (Below.refl _ w).alloc (Nat.le_refl _) _
 have HX1 := Lib.hid (Blk.new w 123 #[.string V, .int .i64 x0, .slice (some ⟨g, 1, none⟩) 2 2])
 have HA1 := Lib.hid (hA.kept hb1)
 have HB1 := Lib.hid hb1
 have HG := Lib.hid hg
 clear hA h1 h2 hn hT hU hb1 hV hg
 go_enter Tryz.func51, Tryz.ntmps51
 go_wp2_with fail
 generalize (w.alloc (.cells #[.string V, .int .i64 x0, .slice (some ⟨g, 1, none⟩) 2 2] 123)) = w1 at *
 generalize hX : w.heap.size = X at *
 have HXX := Lib.hid hX
 clear hX
 have HXW : Hid (X ≤ w1.heap.size) := Lib.hid (Nat.le_of_lt HX1.out.lt)
 refine wp_region_held_drew (S := fun w' => Below w1.heap.size w1 w') (by kernel_rfl) (by exact below_drewN (Below.refl _ _) 1) (fun hHeld => ?_)
 refine tkH (i := 0) (v := ?_) rfl (by kernel_rfl) (fun _ _ _ h => h) (Or.inl ⟨by rfl, ?_⟩) (by assumption) ?_
 rotate_left
 ·intro w hSw
  try dsimp only at hSw
  go_simp
  try with_reducible rfl
 simp only [Act.put, z1, z2, z3, z4, z5, z6]
 refine tkH (i := 1) (v := ?_) rfl (by kernel_rfl) (fun _ _ _ h => h) (Or.inl ⟨by rfl, ?_⟩) (by assumption) ?_
 rotate_left
 ·intro w hSw
  try dsimp only at hSw
  go_simp
  try with_reducible rfl
 simp only [Act.put, z1, z2, z3, z4, z5, z6]
 refine tkH (i := 2) (v := ?_) rfl (by kernel_rfl) (fun _ _ _ h => h) (Or.inl ⟨by rfl, ?_⟩) (by assumption) ?_
 rotate_left
 ·intro w hSw
  try dsimp only at hSw
  go_simp
  try with_reducible rfl
 simp only [Act.put, z1, z2, z3, z4, z5, z6]
 refine tkH (i := 3) (v := ?_) rfl (by kernel_rfl) (fun _ _ _ h => h) (Or.inl ⟨by rfl, ?_⟩) (by assumption) ?_
 rotate_left
 ·intro w hSw
  have q0 := (HA1.out.kept hSw).1.cell 0
  have q1 := (HX1.out.kept hSw).cell 1
  have hlk := (HA1.out.kept hSw).look x0 HH.out.1 HH.out.2.1 HH.out.2.2
  rw [HT.out] at hlk
  simp at q0 q1
  go_simp
  try with_reducible rfl
 simp only [Act.put, z1, z2, z3, z4, z5, z6]
 refine tkH (i := 4) (v := ?_) rfl (by kernel_rfl) (fun _ _ _ h => h) (Or.inl ⟨by rfl, ?_⟩) (by assumption) ?_
 rotate_left
 ·intro w hSw
  try dsimp only at hSw
  go_simp
  try with_reducible rfl
 simp only [Act.put, z1, z2, z3, z4, z5, z6]
 refine tkH (i := 5) (v := ?_) rfl (by kernel_rfl) (fun _ _ _ h => h) (Or.inl ⟨by rfl, ?_⟩) (by assumption) ?_
 rotate_left
 ·intro w hSw
  have q0 := (HA1.out.kept hSw).1.cell 0
  have q1 := (HX1.out.kept hSw).cell 1
  have hlk := (HA1.out.kept hSw).look x0 HH.out.1 HH.out.2.1 HH.out.2.2
  rw [HT.out] at hlk
  simp at q0 q1
  go_simp
  try with_reducible rfl
 simp only [Act.put, z1, z2, z3, z4, z5, z6]
 refine tkH (i := 6) (v := ?_) rfl (by kernel_rfl) (fun _ _ _ h => h) (Or.inl ⟨by rfl, ?_⟩) (by assumption) ?_
 rotate_left
 ·intro w hSw
  have q0 := (HA1.out.kept hSw).1.cell 0
  have q1 := (HX1.out.kept hSw).cell 1
  have hlk := (HA1.out.kept hSw).look x0 HH.out.1 HH.out.2.1 HH.out.2.2
  rw [HT.out] at hlk
  simp at q0 q1
  go_simp
  try with_reducible rfl
 simp only [Act.put, z1, z2, z3, z4, z5, z6]
 refine tkH (i := 7) (v := ?_) rfl (by kernel_rfl) (fun _ _ _ h => h) (Or.inl ⟨by rfl, ?_⟩) (by assumption) ?_
 rotate_left
 ·intro w hSw
  try dsimp only at hSw
  go_simp
  try with_reducible rfl
 simp only [Act.put, z1, z2, z3, z4, z5, z6]
 refine tkH (i := 8) (v := ?_) rfl (by kernel_rfl) (fun _ _ _ h => h) (Or.inl ⟨by rfl, ?_⟩) (by assumption) ?_
 rotate_left
 ·intro w hSw
  try dsimp only at hSw
  go_simp
  try with_reducible rfl
 simp only [Act.put, z1, z2, z3, z4, z5, z6]
 refine tkH (i := 9) (v := ?_) rfl (by kernel_rfl) (fun _ _ _ h => h) (Or.inl ⟨by rfl, ?_⟩) (by assumption) ?_
 rotate_left
 ·intro w hSw
  try dsimp only at hSw
  go_simp
  try with_reducible rfl
 simp only [Act.put, z1, z2, z3, z4, z5, z6]
 refine wpAnyH_ready (rs := [10]) (by kernel_rfl) (by simp) ?_
 refine AllReadyH.cons rfl (fun Kc hKc => ?_) AllReadyH.nil
 go_simp
 have hPrev := Lib.hid hHeld.size
 refine hKc.out _ _ ?_ (fun hHeld => ?_)
 ·first | assumption | exact hHeld | exact hHeld.alloc hHeld.size _ | exact below_setRow hHeld hPrev.out _
 clear hKc Kc
 first | have HAQ := Lib.hid (freshOf hHeld) | have HAQ := Lib.hid (freshDrew hHeld)
 refine wpAnyH_ready (rs := [11]) (by kernel_rfl) (by simp) ?_
 refine AllReadyH.cons rfl (fun Kc hKc => ?_) AllReadyH.nil
 have HAR := Lib.hid (blkRowNew (cs' := #[thPtr (some S), thPtr none]) HAQ.out); refine wp_store_row 84 _ _ rfl _ #[thPtr (some S), thPtr none] rfl (by rfl) 84 _ HAQ.out (by kernel_rfl) rfl (by simp [Value.oneCell', thPtr]) ?_
 refine hKc.out _ _ ?_ (fun hHeld => ?_)
 ·first | assumption | exact hHeld | exact hHeld.alloc hHeld.size _ | exact below_setRow hHeld hPrev.out _
 clear hKc Kc
 refine tkH (i := 12) (v := ?_) rfl (by kernel_rfl) (fun _ _ _ h => h) (Or.inl ⟨by rfl, ?_⟩) (by assumption) ?_
 rotate_left
 ·intro w hSw
  try dsimp only at hSw
  go_simp
  try with_reducible rfl
 simp only [Act.put, z1, z2, z3, z4, z5, z6]
 refine wpAnyH_done (by kernel_rfl) ?_ _
 generalize ((w1.alloc (.cells #[.pointer none, .pointer none] 84)).drew.setRow w1.heap.size #[thPtr (some S), thPtr none]) = wz at *
 have hx := HX1.out.kept hHeld
 have HXZ := Lib.hid hx
 have hr := HAR.out
 have x_0 := hx.cell 0
 have x_2 := hx.cell 2
 simp at x_0 x_2
 have HB9 : Hid (Below X w wz) := Lib.hid (HB1.out.trans (hHeld.mono HXW.out))
 clear hHeld hx HAR HAQ
 go_wp2_with (refine wpList_load_row rfl 84 _ rfl w1.heap.size rfl 84 _ (0, 0) _ hr Tryz.underlying84 rfl (by kernel_rfl) ?_)
 with_reducible refine (PS.out _).mono ?_
 rintro e wy ⟨rfl, hb⟩
 have HBY : Hid (Below X w wy) := Lib.hid (HB9.out.trans (hb.mono (by have := HB9.out.size; have := HXW.out; have := HXZ.out.lt; omega)))
 have hxy := HXZ.out.kept hb
 have HXY := Lib.hid hxy
 have x_0 := hxy.cell 0
 have x_2 := hxy.cell 2
 simp at x_0 x_2
 have HXL : Hid (X ≤ wy.heap.size) := Lib.hid (by have := HXY.out.lt; omega)
 have hg := HG.out.of_block (HBY.out.block g (by have := HG.out.lt; have := HXX.out; omega))
 have HGY := Lib.hid hg
 have y1 : wy.cell? ⟨g, 1, none⟩ = some (.int .i64 x1) := hg.cell (by decide)
 have y2 : wy.cell? ⟨g, 2, none⟩ = some (.int .i64 x2) := hg.cell (by decide)
 clear hg
 clear hr hb hxy
 go_wp2_with fail
 refine wp_region_held_drew (S := fun w' => Below wy.heap.size wy w') (by kernel_rfl) (by exact below_drewN (Below.refl _ _) 1) (fun hHeld => ?_)
 refine tkH (i := 0) (v := ?_) rfl (by kernel_rfl) (fun _ _ _ h => h) (Or.inl ⟨by rfl, ?_⟩) (by assumption) ?_
 rotate_left
 ·intro w hSw
  try dsimp only at hSw
  go_simp
  try with_reducible rfl
 simp only [Act.put, z1, z2, z3, z4, z5, z6]
 refine tkH (i := 1) (v := ?_) rfl (by kernel_rfl) (fun _ _ _ h => h) (Or.inl ⟨by rfl, ?_⟩) (by assumption) ?_
 rotate_left
 ·intro w hSw
  try dsimp only at hSw
  go_simp
  try with_reducible rfl
 simp only [Act.put, z1, z2, z3, z4, z5, z6]
 refine tkH (i := 2) (v := ?_) rfl (by kernel_rfl) (fun _ _ _ h => h) (Or.inl ⟨by rfl, ?_⟩) (by assumption) ?_
 rotate_left
 ·intro w hSw
  have q1 := (HXY.out.kept hSw).cell 2
  have q2 : w.cell? ⟨g, 1, none⟩ = some (.int .i64 x1) := (HGY.out.of_block (hSw.block g HGY.out.lt)).cell (by decide)
  have q3 : w.cell? ⟨g, 2, none⟩ = some (.int .i64 x2) := (HGY.out.of_block (hSw.block g HGY.out.lt)).cell (by decide)
  simp at q1
  go_simp
  try with_reducible rfl
 simp only [Act.put, z1, z2, z3, z4, z5, z6]
 refine tkH (i := 3) (v := ?_) rfl (by kernel_rfl) (fun _ _ _ h => h) (Or.inl ⟨by rfl, ?_⟩) (by assumption) ?_
 rotate_left
 ·intro w hSw
  try dsimp only at hSw
  go_simp
  try with_reducible rfl
 simp only [Act.put, z1, z2, z3, z4, z5, z6]
 refine tkH (i := 4) (v := ?_) rfl (by kernel_rfl) (fun _ _ _ h => h) (Or.inl ⟨by rfl, ?_⟩) (by assumption) ?_
 rotate_left
 ·intro w hSw
  have q1 := (HXY.out.kept hSw).cell 2
  have q2 : w.cell? ⟨g, 1, none⟩ = some (.int .i64 x1) := (HGY.out.of_block (hSw.block g HGY.out.lt)).cell (by decide)
  have q3 : w.cell? ⟨g, 2, none⟩ = some (.int .i64 x2) := (HGY.out.of_block (hSw.block g HGY.out.lt)).cell (by decide)
  simp at q1
  go_simp
  try with_reducible rfl
 simp only [Act.put, z1, z2, z3, z4, z5, z6]
 refine tkH (i := 5) (v := ?_) rfl (by kernel_rfl) (fun _ _ _ h => h) (Or.inl ⟨by rfl, ?_⟩) (by assumption) ?_
 rotate_left
 ·intro w hSw
  try dsimp only at hSw
  go_simp
  try with_reducible rfl
 simp only [Act.put, z1, z2, z3, z4, z5, z6]
 refine tkH (i := 6) (v := ?_) rfl (by kernel_rfl) (fun _ _ _ h => h) (Or.inl ⟨by rfl, ?_⟩) (by assumption) ?_
 rotate_left
 ·intro w hSw
  try dsimp only at hSw
  go_simp
  try with_reducible rfl
 simp only [Act.put, z1, z2, z3, z4, z5, z6]
 refine tkH (i := 7) (v := ?_) rfl (by kernel_rfl) (fun _ _ _ h => h) (Or.inl ⟨by rfl, ?_⟩) (by assumption) ?_
 rotate_left
 ·intro w hSw
  have q1 := (HXY.out.kept hSw).cell 2
  have q2 : w.cell? ⟨g, 1, none⟩ = some (.int .i64 x1) := (HGY.out.of_block (hSw.block g HGY.out.lt)).cell (by decide)
  have q3 : w.cell? ⟨g, 2, none⟩ = some (.int .i64 x2) := (HGY.out.of_block (hSw.block g HGY.out.lt)).cell (by decide)
  simp at q1
  go_simp
  try with_reducible rfl
 simp only [Act.put, z1, z2, z3, z4, z5, z6]
 refine tkH (i := 8) (v := ?_) rfl (by kernel_rfl) (fun _ _ _ h => h) (Or.inl ⟨by rfl, ?_⟩) (by assumption) ?_
 rotate_left
 ·intro w hSw
  try dsimp only at hSw
  go_simp
  try with_reducible rfl
 simp only [Act.put, z1, z2, z3, z4, z5, z6]
 refine tkH (i := 9) (v := ?_) rfl (by kernel_rfl) (fun _ _ _ h => h) (Or.inl ⟨by rfl, ?_⟩) (by assumption) ?_
 rotate_left
 ·intro w hSw
  have q1 := (HXY.out.kept hSw).cell 2
  have q2 : w.cell? ⟨g, 1, none⟩ = some (.int .i64 x1) := (HGY.out.of_block (hSw.block g HGY.out.lt)).cell (by decide)
  have q3 : w.cell? ⟨g, 2, none⟩ = some (.int .i64 x2) := (HGY.out.of_block (hSw.block g HGY.out.lt)).cell (by decide)
  simp at q1
  go_simp
  try with_reducible rfl
 simp only [Act.put, z1, z2, z3, z4, z5, z6]
 refine tkH (i := 10) (v := ?_) rfl (by kernel_rfl) (fun _ _ _ h => h) (Or.inl ⟨by rfl, ?_⟩) (by assumption) ?_
 rotate_left
 ·intro w hSw
  try dsimp only at hSw
  go_simp
  try with_reducible rfl
 simp only [Act.put, z1, z2, z3, z4, z5, z6]
 refine wpAnyH_ready (rs := [11]) (by kernel_rfl) (by simp) ?_
 refine AllReadyH.cons rfl (fun Kc hKc => ?_) AllReadyH.nil
 go_simp
 go_wp2_with (first | (with_reducible refine (HU.out _ (HBY.out.trans (hHeld.mono HXL.out))).mono ?_; rintro e wq ⟨rfl, hb'⟩) | (with_reducible refine (PN.out _ _).mono ?_; rintro e wq ⟨rfl, hw'⟩; subst hw'))
 refine hKc.out _ _ ?_ (fun hHeld => ?_)
 ·first | assumption | exact hHeld | exact btr hHeld hb'
 clear hKc Kc
 refine tkH (i := 12) (v := ?_) rfl (by kernel_rfl) (fun _ _ _ h => h) (Or.inl ⟨by rfl, ?_⟩) (by assumption) ?_
 rotate_left
 ·intro w hSw
  try dsimp only at hSw
  go_simp
  try with_reducible rfl
 simp only [Act.put, z1, z2, z3, z4, z5, z6]
 refine tkH (i := 13) (v := ?_) rfl (by kernel_rfl) (fun _ _ _ h => h) (Or.inl ⟨by rfl, ?_⟩) (by assumption) ?_
 rotate_left
 ·intro w hSw
  try dsimp only at hSw
  go_simp
  try with_reducible rfl
 simp only [Act.put, z1, z2, z3, z4, z5, z6]
 refine wpAnyH_ready (rs := [14]) (by kernel_rfl) (by simp) ?_
 refine AllReadyH.cons rfl (fun Kc hKc => ?_) AllReadyH.nil
 go_simp
 go_wp2_with (first | (with_reducible refine (HU.out _ (HBY.out.trans (hHeld.mono HXL.out))).mono ?_; rintro e wq ⟨rfl, hb'⟩) | (with_reducible refine (PN.out _ _).mono ?_; rintro e wq ⟨rfl, hw'⟩; subst hw'))
 refine hKc.out _ _ ?_ (fun hHeld => ?_)
 ·first | assumption | exact hHeld | exact btr hHeld hb'
 clear hKc Kc
 refine tkH (i := 15) (v := ?_) rfl (by kernel_rfl) (fun _ _ _ h => h) (Or.inl ⟨by rfl, ?_⟩) (by assumption) ?_
 rotate_left
 ·intro w hSw
  try dsimp only at hSw
  go_simp
  try with_reducible rfl
 simp only [Act.put, z1, z2, z3, z4, z5, z6]
 refine tkH (i := 16) (v := ?_) rfl (by kernel_rfl) (fun _ _ _ h => h) (Or.inl ⟨by rfl, ?_⟩) (by assumption) ?_
 rotate_left
 ·intro w hSw
  try dsimp only at hSw
  go_simp
  try with_reducible rfl
 simp only [Act.put, z1, z2, z3, z4, z5, z6]
 refine tkH (i := 17) (v := ?_) rfl (by kernel_rfl) (fun _ _ _ h => h) (Or.inl ⟨by rfl, ?_⟩) (by assumption) ?_
 rotate_left
 ·intro w hSw
  try dsimp only at hSw
  go_simp
  try with_reducible rfl
 simp only [Act.put, z1, z2, z3, z4, z5, z6]
 refine tkH (i := 18) (v := ?_) rfl (by kernel_rfl) (fun _ _ _ h => h) (Or.inl ⟨by rfl, ?_⟩) (by assumption) ?_
 rotate_left
 ·intro w hSw
  try dsimp only at hSw
  go_simp
  try with_reducible rfl
 simp only [Act.put, z1, z2, z3, z4, z5, z6]
 refine wpAnyH_done (by kernel_rfl) ?_ _
 have HBF : Hid (Below w.heap.size w wq) := Lib.hid (by rw [HXX.out]; exact HBY.out.trans (hHeld.mono HXL.out))
 clear hHeld
 go_wp2_with fail
 go_ret2
 exact ⟨rfl, HBF.out⟩
set_option maxRecDepth 100000 in
set_option maxHeartbeats 4000000 in
theorem agg_quantile (w : World) (A b n : Nat) (T : Nat → Option Nat × Option Nat) (x0 x1 : Int) (S g : Nat) (m : Int) (hA : AggIs w A b n T) (h1 : 1 ≤ x0) (h2 : x0 ≤ (n : Int)) (hn : n ≤ 100) (hT : T x0.toNat = (some S, none)) (hg : w.rowIs g 2 2 (fun j => .int .i64 (cellD [x0, x1] j)))
  (hU : ∀ w1, Below w.heap.size w w1 → Calls Tryz.prog 96 #[.pointer (some ⟨S, 0, none⟩), .int .i64 x1] w1 fun e w' => e = .returned (.tuple #[.int .u64 m, .int .i64 0]) ∧ Below w1.heap.size w1 w') :
  Calls Tryz.prog 51 #[.pointer (some ⟨A, 0, none⟩), .agg #[.string (sB [113, 117, 97, 110, 116, 105, 108, 101]), .int .i64 x0, .slice (some ⟨g, 1, none⟩) 1 1]] w fun e w' => e = .returned (.tuple #[.iface 140 (.agg #[.int .u64 m]), .int .i64 0]) ∧ Below w.heap.size w w' := by
 have HA := Lib.hid hA
 have HH := Lib.hid (And.intro h1 (And.intro h2 hn))
 have HT := Lib.hid hT
 have HU := Lib.hid hU
 have PN := Lib.hid num_ok
 have PS := Lib.hid (thstackP S)
 have hvl := sB_list [113, 117, 97, 110, 116, 105, 108, 101]
 obtain ⟨V, hV⟩ : ∃ V, V = sB [113, 117, 97, 110, 116, 105, 108, 101] := ⟨_, rfl⟩
 rw [← hV] at hvl ⊢
 have hb1 : Below w.heap.size w (w.alloc (.cells #[.string V, .int .i64 x0, .slice (some ⟨g, 1, none⟩) 1 1] 123)) := (Below.refl _ w).alloc (Nat.le_refl _) _
 have HX1 := Lib.hid (Blk.new w 123 #[.string V, .int .i64 x0, .slice (some ⟨g, 1, none⟩) 1 1])
 have HA1 := Lib.hid (hA.kept hb1)
 have HB1 := Lib.hid hb1
 have HG := Lib.hid hg
 clear hA h1 h2 hn hT hU hb1 hV hg
 go_enter Tryz.func51, Tryz.ntmps51
 go_wp2_with fail
 generalize (w.alloc (.cells #[.string V, .int .i64 x0, .slice (some ⟨g, 1, none⟩) 1 1] 123)) = w1 at *
 generalize hX : w.heap.size = X at *
 have HXX := Lib.hid hX
 clear hX
 have HXW : Hid (X ≤ w1.heap.size) := Lib.hid (Nat.le_of_lt HX1.out.lt)
 refine wp_region_held_drew (S := fun w' => Below w1.heap.size w1 w') (by kernel_rfl) (by exact below_drewN (Below.refl _ _) 1) (fun hHeld => ?_)
 refine tkH (i := 0) (v := ?_) rfl (by kernel_rfl) (fun _ _ _ h => h) (Or.inl ⟨by rfl, ?_⟩) (by assumption) ?_
 rotate_left
 ·intro w hSw
  try dsimp only at hSw
  go_simp
  try with_reducible rfl
 simp only [Act.put, z1, z2, z3, z4, z5, z6]
 refine tkH (i := 1) (v := ?_) rfl (by kernel_rfl) (fun _ _ _ h => h) (Or.inl ⟨by rfl, ?_⟩) (by assumption) ?_
 rotate_left
 ·intro w hSw
  try dsimp only at hSw
  go_simp
  try with_reducible rfl
 simp only [Act.put, z1, z2, z3, z4, z5, z6]
 refine tkH (i := 2) (v := ?_) rfl (by kernel_rfl) (fun _ _ _ h => h) (Or.inl ⟨by rfl, ?_⟩) (by assumption) ?_
 rotate_left
 ·intro w hSw
  try dsimp only at hSw
  go_simp
  try with_reducible rfl
 simp only [Act.put, z1, z2, z3, z4, z5, z6]
 refine tkH (i := 3) (v := ?_) rfl (by kernel_rfl) (fun _ _ _ h => h) (Or.inl ⟨by rfl, ?_⟩) (by assumption) ?_
 rotate_left
 ·intro w hSw
  have q0 := (HA1.out.kept hSw).1.cell 0
  have q1 := (HX1.out.kept hSw).cell 1
  have hlk := (HA1.out.kept hSw).look x0 HH.out.1 HH.out.2.1 HH.out.2.2
  rw [HT.out] at hlk
  simp at q0 q1
  go_simp
  try with_reducible rfl
 simp only [Act.put, z1, z2, z3, z4, z5, z6]
 refine tkH (i := 4) (v := ?_) rfl (by kernel_rfl) (fun _ _ _ h => h) (Or.inl ⟨by rfl, ?_⟩) (by assumption) ?_
 rotate_left
 ·intro w hSw
  try dsimp only at hSw
  go_simp
  try with_reducible rfl
 simp only [Act.put, z1, z2, z3, z4, z5, z6]
 refine tkH (i := 5) (v := ?_) rfl (by kernel_rfl) (fun _ _ _ h => h) (Or.inl ⟨by rfl, ?_⟩) (by assumption) ?_
 rotate_left
 ·intro w hSw
  have q0 := (HA1.out.kept hSw).1.cell 0
  have q1 := (HX1.out.kept hSw).cell 1
  have hlk := (HA1.out.kept hSw).look x0 HH.out.1 HH.out.2.1 HH.out.2.2
  rw [HT.out] at hlk
  simp at q0 q1
  go_simp
  try with_reducible rfl
 simp only [Act.put, z1, z2, z3, z4, z5, z6]
 refine tkH (i := 6) (v := ?_) rfl (by kernel_rfl) (fun _ _ _ h => h) (Or.inl ⟨by rfl, ?_⟩) (by assumption) ?_
 rotate_left
 ·intro w hSw
  have q0 := (HA1.out.kept hSw).1.cell 0
  have q1 := (HX1.out.kept hSw).cell 1
  have hlk := (HA1.out.kept hSw).look x0 HH.out.1 HH.out.2.1 HH.out.2.2
  rw [HT.out] at hlk
  simp at q0 q1
  go_simp
  try with_reducible rfl
 simp only [Act.put, z1, z2, z3, z4, z5, z6]
 refine tkH (i := 7) (v := ?_) rfl (by kernel_rfl) (fun _ _ _ h => h) (Or.inl ⟨by rfl, ?_⟩) (by assumption) ?_
 rotate_left
 ·intro w hSw
  try dsimp only at hSw
  go_simp
  try with_reducible rfl
 simp only [Act.put, z1, z2, z3, z4, z5, z6]
 refine tkH (i := 8) (v := ?_) rfl (by kernel_rfl) (fun _ _ _ h => h) (Or.inl ⟨by rfl, ?_⟩) (by assumption) ?_
 rotate_left
 ·intro w hSw
  try dsimp only at hSw
  go_simp
  try with_reducible rfl
 simp only [Act.put, z1, z2, z3, z4, z5, z6]
 refine tkH (i := 9) (v := ?_) rfl (by kernel_rfl) (fun _ _ _ h => h) (Or.inl ⟨by rfl, ?_⟩) (by assumption) ?_
 rotate_left
 ·intro w hSw
  try dsimp only at hSw
  go_simp
  try with_reducible rfl
 simp only [Act.put, z1, z2, z3, z4, z5, z6]
 refine wpAnyH_ready (rs := [10]) (by kernel_rfl) (by simp) ?_
 refine AllReadyH.cons rfl (fun Kc hKc => ?_) AllReadyH.nil
 go_simp
 have hPrev := Lib.hid hHeld.size
 refine hKc.out _ _ ?_ (fun hHeld => ?_)
 ·first | assumption | exact hHeld | exact hHeld.alloc hHeld.size _ | exact below_setRow hHeld hPrev.out _
 clear hKc Kc
 first | have HAQ := Lib.hid (freshOf hHeld) | have HAQ := Lib.hid (freshDrew hHeld)
 refine wpAnyH_ready (rs := [11]) (by kernel_rfl) (by simp) ?_
 refine AllReadyH.cons rfl (fun Kc hKc => ?_) AllReadyH.nil
 have HAR := Lib.hid (blkRowNew (cs' := #[thPtr (some S), thPtr none]) HAQ.out); refine wp_store_row 84 _ _ rfl _ #[thPtr (some S), thPtr none] rfl (by rfl) 84 _ HAQ.out (by kernel_rfl) rfl (by simp [Value.oneCell', thPtr]) ?_
 refine hKc.out _ _ ?_ (fun hHeld => ?_)
 ·first | assumption | exact hHeld | exact hHeld.alloc hHeld.size _ | exact below_setRow hHeld hPrev.out _
 clear hKc Kc
 refine tkH (i := 12) (v := ?_) rfl (by kernel_rfl) (fun _ _ _ h => h) (Or.inl ⟨by rfl, ?_⟩) (by assumption) ?_
 rotate_left
 ·intro w hSw
  try dsimp only at hSw
  go_simp
  try with_reducible rfl
 simp only [Act.put, z1, z2, z3, z4, z5, z6]
 refine wpAnyH_done (by kernel_rfl) ?_ _
 generalize ((w1.alloc (.cells #[.pointer none, .pointer none] 84)).drew.setRow w1.heap.size #[thPtr (some S), thPtr none]) = wz at *
 have hx := HX1.out.kept hHeld
 have HXZ := Lib.hid hx
 have hr := HAR.out
 have x_0 := hx.cell 0
 have x_2 := hx.cell 2
 simp at x_0 x_2
 have HB9 : Hid (Below X w wz) := Lib.hid (HB1.out.trans (hHeld.mono HXW.out))
 clear hHeld hx HAR HAQ
 go_wp2_with (refine wpList_load_row rfl 84 _ rfl w1.heap.size rfl 84 _ (0, 0) _ hr Tryz.underlying84 rfl (by kernel_rfl) ?_)
 with_reducible refine (PS.out _).mono ?_
 rintro e wy ⟨rfl, hb⟩
 have HBY : Hid (Below X w wy) := Lib.hid (HB9.out.trans (hb.mono (by have := HB9.out.size; have := HXW.out; have := HXZ.out.lt; omega)))
 have hxy := HXZ.out.kept hb
 have HXY := Lib.hid hxy
 have x_0 := hxy.cell 0
 have x_2 := hxy.cell 2
 simp at x_0 x_2
 have HXL : Hid (X ≤ wy.heap.size) := Lib.hid (by have := HXY.out.lt; omega)
 have hg := HG.out.of_block (HBY.out.block g (by have := HG.out.lt; have := HXX.out; omega))
 have HGY := Lib.hid hg
 have y1 : wy.cell? ⟨g, 1, none⟩ = some (.int .i64 x1) := hg.cell (by decide)
 clear hg
 clear hr hb hxy
 go_wp2_with fail
 with_reducible refine (HU.out _ HBY.out).mono ?_
 rintro e wq ⟨rfl, hb⟩
 have HBF : Hid (Below w.heap.size w wq) := Lib.hid (by rw [HXX.out]; exact HBY.out.trans (hb.mono HXL.out))
 clear hb
 go_wp2_with fail
 go_ret2
 exact ⟨rfl, HBF.out⟩
set_option maxRecDepth 100000 in
set_option maxHeartbeats 4000000 in
theorem agg_heavy (w : World) (A b n : Nat) (T : Nat → Option Nat × Option Nat) (x0 x1 x2 : Int) (S g : Nat) (QB : Value → World → Prop) (hA : AggIs w A b n T) (h1 : 1 ≤ x0) (h2 : x0 ≤ (n : Int)) (hn : n ≤ 100) (hT : T x0.toNat = (some S, none)) (hg : w.rowIs g 2 3 (fun j => .int .i64 (cellD [x0, x1, x2] j)))
  (hU : ∀ w1, Below w.heap.size w w1 → Calls Tryz.prog 97 #[.pointer (some ⟨S, 0, none⟩), .int .i64 x1, .int .i64 x2] w1 fun e w' => (∃ ao k cp, e = .returned (.tuple #[.slice ao k cp, .int .i64 0]) ∧ QB (.slice ao k cp) w') ∧ Below w1.heap.size w1 w') :
  Calls Tryz.prog 51 #[.pointer (some ⟨A, 0, none⟩), .agg #[.string (sB [104, 101, 97, 118, 121]), .int .i64 x0, .slice (some ⟨g, 1, none⟩) 2 2]] w fun e w' => (∃ ao k cp, e = .returned (.tuple #[.iface 149 (.agg #[.slice ao k cp]), .int .i64 0]) ∧ QB (.slice ao k cp) w') ∧ Below w.heap.size w w' := by
 have HA := Lib.hid hA
 have HH := Lib.hid (And.intro h1 (And.intro h2 hn))
 have HT := Lib.hid hT
 have HU := Lib.hid hU
 have PN := Lib.hid num_ok
 have PS := Lib.hid (thstackP S)
 have hvl := sB_list [104, 101, 97, 118, 121]
 obtain ⟨V, hV⟩ : ∃ V, V = sB [104, 101, 97, 118, 121] := ⟨_, rfl⟩
 rw [← hV] at hvl ⊢
 have hb1 : Below w.heap.size w (w.alloc (.cells #[.string V, .int .i64 x0, .slice (some ⟨g, 1, none⟩) 2 2] 123)) := (Below.refl _ w).alloc (Nat.le_refl _) _
 have HX1 := Lib.hid (Blk.new w 123 #[.string V, .int .i64 x0, .slice (some ⟨g, 1, none⟩) 2 2])
 have HA1 := Lib.hid (hA.kept hb1)
 have HB1 := Lib.hid hb1
 have HG := Lib.hid hg
 clear hA h1 h2 hn hT hU hb1 hV hg
 go_enter Tryz.func51, Tryz.ntmps51
 go_wp2_with fail
 generalize (w.alloc (.cells #[.string V, .int .i64 x0, .slice (some ⟨g, 1, none⟩) 2 2] 123)) = w1 at *
 generalize hX : w.heap.size = X at *
 have HXX := Lib.hid hX
 clear hX
 have HXW : Hid (X ≤ w1.heap.size) := Lib.hid (Nat.le_of_lt HX1.out.lt)
 refine wp_region_held_drew (S := fun w' => Below w1.heap.size w1 w') (by kernel_rfl) (by exact below_drewN (Below.refl _ _) 1) (fun hHeld => ?_)
 refine tkH (i := 0) (v := ?_) rfl (by kernel_rfl) (fun _ _ _ h => h) (Or.inl ⟨by rfl, ?_⟩) (by assumption) ?_
 rotate_left
 ·intro w hSw
  try dsimp only at hSw
  go_simp
  try with_reducible rfl
 simp only [Act.put, z1, z2, z3, z4, z5, z6]
 refine tkH (i := 1) (v := ?_) rfl (by kernel_rfl) (fun _ _ _ h => h) (Or.inl ⟨by rfl, ?_⟩) (by assumption) ?_
 rotate_left
 ·intro w hSw
  try dsimp only at hSw
  go_simp
  try with_reducible rfl
 simp only [Act.put, z1, z2, z3, z4, z5, z6]
 refine tkH (i := 2) (v := ?_) rfl (by kernel_rfl) (fun _ _ _ h => h) (Or.inl ⟨by rfl, ?_⟩) (by assumption) ?_
 rotate_left
 ·intro w hSw
  try dsimp only at hSw
  go_simp
  try with_reducible rfl
 simp only [Act.put, z1, z2, z3, z4, z5, z6]
 refine tkH (i := 3) (v := ?_) rfl (by kernel_rfl) (fun _ _ _ h => h) (Or.inl ⟨by rfl, ?_⟩) (by assumption) ?_
 rotate_left
 ·intro w hSw
  have q0 := (HA1.out.kept hSw).1.cell 0
  have q1 := (HX1.out.kept hSw).cell 1
  have hlk := (HA1.out.kept hSw).look x0 HH.out.1 HH.out.2.1 HH.out.2.2
  rw [HT.out] at hlk
  simp at q0 q1
  go_simp
  try with_reducible rfl
 simp only [Act.put, z1, z2, z3, z4, z5, z6]
 refine tkH (i := 4) (v := ?_) rfl (by kernel_rfl) (fun _ _ _ h => h) (Or.inl ⟨by rfl, ?_⟩) (by assumption) ?_
 rotate_left
 ·intro w hSw
  try dsimp only at hSw
  go_simp
  try with_reducible rfl
 simp only [Act.put, z1, z2, z3, z4, z5, z6]
 refine tkH (i := 5) (v := ?_) rfl (by kernel_rfl) (fun _ _ _ h => h) (Or.inl ⟨by rfl, ?_⟩) (by assumption) ?_
 rotate_left
 ·intro w hSw
  have q0 := (HA1.out.kept hSw).1.cell 0
  have q1 := (HX1.out.kept hSw).cell 1
  have hlk := (HA1.out.kept hSw).look x0 HH.out.1 HH.out.2.1 HH.out.2.2
  rw [HT.out] at hlk
  simp at q0 q1
  go_simp
  try with_reducible rfl
 simp only [Act.put, z1, z2, z3, z4, z5, z6]
 refine tkH (i := 6) (v := ?_) rfl (by kernel_rfl) (fun _ _ _ h => h) (Or.inl ⟨by rfl, ?_⟩) (by assumption) ?_
 rotate_left
 ·intro w hSw
  have q0 := (HA1.out.kept hSw).1.cell 0
  have q1 := (HX1.out.kept hSw).cell 1
  have hlk := (HA1.out.kept hSw).look x0 HH.out.1 HH.out.2.1 HH.out.2.2
  rw [HT.out] at hlk
  simp at q0 q1
  go_simp
  try with_reducible rfl
 simp only [Act.put, z1, z2, z3, z4, z5, z6]
 refine tkH (i := 7) (v := ?_) rfl (by kernel_rfl) (fun _ _ _ h => h) (Or.inl ⟨by rfl, ?_⟩) (by assumption) ?_
 rotate_left
 ·intro w hSw
  try dsimp only at hSw
  go_simp
  try with_reducible rfl
 simp only [Act.put, z1, z2, z3, z4, z5, z6]
 refine tkH (i := 8) (v := ?_) rfl (by kernel_rfl) (fun _ _ _ h => h) (Or.inl ⟨by rfl, ?_⟩) (by assumption) ?_
 rotate_left
 ·intro w hSw
  try dsimp only at hSw
  go_simp
  try with_reducible rfl
 simp only [Act.put, z1, z2, z3, z4, z5, z6]
 refine tkH (i := 9) (v := ?_) rfl (by kernel_rfl) (fun _ _ _ h => h) (Or.inl ⟨by rfl, ?_⟩) (by assumption) ?_
 rotate_left
 ·intro w hSw
  try dsimp only at hSw
  go_simp
  try with_reducible rfl
 simp only [Act.put, z1, z2, z3, z4, z5, z6]
 refine wpAnyH_ready (rs := [10]) (by kernel_rfl) (by simp) ?_
 refine AllReadyH.cons rfl (fun Kc hKc => ?_) AllReadyH.nil
 go_simp
 have hPrev := Lib.hid hHeld.size
 refine hKc.out _ _ ?_ (fun hHeld => ?_)
 ·first | assumption | exact hHeld | exact hHeld.alloc hHeld.size _ | exact below_setRow hHeld hPrev.out _
 clear hKc Kc
 first | have HAQ := Lib.hid (freshOf hHeld) | have HAQ := Lib.hid (freshDrew hHeld)
 refine wpAnyH_ready (rs := [11]) (by kernel_rfl) (by simp) ?_
 refine AllReadyH.cons rfl (fun Kc hKc => ?_) AllReadyH.nil
 have HAR := Lib.hid (blkRowNew (cs' := #[thPtr (some S), thPtr none]) HAQ.out); refine wp_store_row 84 _ _ rfl _ #[thPtr (some S), thPtr none] rfl (by rfl) 84 _ HAQ.out (by kernel_rfl) rfl (by simp [Value.oneCell', thPtr]) ?_
 refine hKc.out _ _ ?_ (fun hHeld => ?_)
 ·first | assumption | exact hHeld | exact hHeld.alloc hHeld.size _ | exact below_setRow hHeld hPrev.out _
 clear hKc Kc
 refine tkH (i := 12) (v := ?_) rfl (by kernel_rfl) (fun _ _ _ h => h) (Or.inl ⟨by rfl, ?_⟩) (by assumption) ?_
 rotate_left
 ·intro w hSw
  try dsimp only at hSw
  go_simp
  try with_reducible rfl
 simp only [Act.put, z1, z2, z3, z4, z5, z6]
 refine wpAnyH_done (by kernel_rfl) ?_ _
 generalize ((w1.alloc (.cells #[.pointer none, .pointer none] 84)).drew.setRow w1.heap.size #[thPtr (some S), thPtr none]) = wz at *
 have hx := HX1.out.kept hHeld
 have HXZ := Lib.hid hx
 have hr := HAR.out
 have x_0 := hx.cell 0
 have x_2 := hx.cell 2
 simp at x_0 x_2
 have HB9 : Hid (Below X w wz) := Lib.hid (HB1.out.trans (hHeld.mono HXW.out))
 clear hHeld hx HAR HAQ
 go_wp2_with (refine wpList_load_row rfl 84 _ rfl w1.heap.size rfl 84 _ (0, 0) _ hr Tryz.underlying84 rfl (by kernel_rfl) ?_)
 with_reducible refine (PS.out _).mono ?_
 rintro e wy ⟨rfl, hb⟩
 have HBY : Hid (Below X w wy) := Lib.hid (HB9.out.trans (hb.mono (by have := HB9.out.size; have := HXW.out; have := HXZ.out.lt; omega)))
 have hxy := HXZ.out.kept hb
 have HXY := Lib.hid hxy
 have x_0 := hxy.cell 0
 have x_2 := hxy.cell 2
 simp at x_0 x_2
 have HXL : Hid (X ≤ wy.heap.size) := Lib.hid (by have := HXY.out.lt; omega)
 have hg := HG.out.of_block (HBY.out.block g (by have := HG.out.lt; have := HXX.out; omega))
 have HGY := Lib.hid hg
 have y1 : wy.cell? ⟨g, 1, none⟩ = some (.int .i64 x1) := hg.cell (by decide)
 have y2 : wy.cell? ⟨g, 2, none⟩ = some (.int .i64 x2) := hg.cell (by decide)
 clear hg
 clear hr hb hxy
 go_wp2_with fail
 refine wp_region_held_drew (S := fun w' => Below wy.heap.size wy w') (by kernel_rfl) (by exact below_drewN (Below.refl _ _) 1) (fun hHeld => ?_)
 refine tkH (i := 0) (v := ?_) rfl (by kernel_rfl) (fun _ _ _ h => h) (Or.inl ⟨by rfl, ?_⟩) (by assumption) ?_
 rotate_left
 ·intro w hSw
  try dsimp only at hSw
  go_simp
  try with_reducible rfl
 simp only [Act.put, z1, z2, z3, z4, z5, z6]
 refine tkH (i := 1) (v := ?_) rfl (by kernel_rfl) (fun _ _ _ h => h) (Or.inl ⟨by rfl, ?_⟩) (by assumption) ?_
 rotate_left
 ·intro w hSw
  try dsimp only at hSw
  go_simp
  try with_reducible rfl
 simp only [Act.put, z1, z2, z3, z4, z5, z6]
 refine tkH (i := 2) (v := ?_) rfl (by kernel_rfl) (fun _ _ _ h => h) (Or.inl ⟨by rfl, ?_⟩) (by assumption) ?_
 rotate_left
 ·intro w hSw
  have q1 := (HXY.out.kept hSw).cell 2
  have q2 : w.cell? ⟨g, 1, none⟩ = some (.int .i64 x1) := (HGY.out.of_block (hSw.block g HGY.out.lt)).cell (by decide)
  have q3 : w.cell? ⟨g, 2, none⟩ = some (.int .i64 x2) := (HGY.out.of_block (hSw.block g HGY.out.lt)).cell (by decide)
  simp at q1
  go_simp
  try with_reducible rfl
 simp only [Act.put, z1, z2, z3, z4, z5, z6]
 refine tkH (i := 3) (v := ?_) rfl (by kernel_rfl) (fun _ _ _ h => h) (Or.inl ⟨by rfl, ?_⟩) (by assumption) ?_
 rotate_left
 ·intro w hSw
  try dsimp only at hSw
  go_simp
  try with_reducible rfl
 simp only [Act.put, z1, z2, z3, z4, z5, z6]
 refine tkH (i := 4) (v := ?_) rfl (by kernel_rfl) (fun _ _ _ h => h) (Or.inl ⟨by rfl, ?_⟩) (by assumption) ?_
 rotate_left
 ·intro w hSw
  have q1 := (HXY.out.kept hSw).cell 2
  have q2 : w.cell? ⟨g, 1, none⟩ = some (.int .i64 x1) := (HGY.out.of_block (hSw.block g HGY.out.lt)).cell (by decide)
  have q3 : w.cell? ⟨g, 2, none⟩ = some (.int .i64 x2) := (HGY.out.of_block (hSw.block g HGY.out.lt)).cell (by decide)
  simp at q1
  go_simp
  try with_reducible rfl
 simp only [Act.put, z1, z2, z3, z4, z5, z6]
 refine tkH (i := 5) (v := ?_) rfl (by kernel_rfl) (fun _ _ _ h => h) (Or.inl ⟨by rfl, ?_⟩) (by assumption) ?_
 rotate_left
 ·intro w hSw
  try dsimp only at hSw
  go_simp
  try with_reducible rfl
 simp only [Act.put, z1, z2, z3, z4, z5, z6]
 refine tkH (i := 6) (v := ?_) rfl (by kernel_rfl) (fun _ _ _ h => h) (Or.inl ⟨by rfl, ?_⟩) (by assumption) ?_
 rotate_left
 ·intro w hSw
  have q1 := (HXY.out.kept hSw).cell 2
  have q2 : w.cell? ⟨g, 1, none⟩ = some (.int .i64 x1) := (HGY.out.of_block (hSw.block g HGY.out.lt)).cell (by decide)
  have q3 : w.cell? ⟨g, 2, none⟩ = some (.int .i64 x2) := (HGY.out.of_block (hSw.block g HGY.out.lt)).cell (by decide)
  simp at q1
  go_simp
  try with_reducible rfl
 simp only [Act.put, z1, z2, z3, z4, z5, z6]
 refine tkH (i := 7) (v := ?_) rfl (by kernel_rfl) (fun _ _ _ h => h) (Or.inl ⟨by rfl, ?_⟩) (by assumption) ?_
 rotate_left
 ·intro w hSw
  try dsimp only at hSw
  go_simp
  try with_reducible rfl
 simp only [Act.put, z1, z2, z3, z4, z5, z6]
 refine tkH (i := 8) (v := ?_) rfl (by kernel_rfl) (fun _ _ _ h => h) (Or.inl ⟨by rfl, ?_⟩) (by assumption) ?_
 rotate_left
 ·intro w hSw
  have q1 := (HXY.out.kept hSw).cell 2
  have q2 : w.cell? ⟨g, 1, none⟩ = some (.int .i64 x1) := (HGY.out.of_block (hSw.block g HGY.out.lt)).cell (by decide)
  have q3 : w.cell? ⟨g, 2, none⟩ = some (.int .i64 x2) := (HGY.out.of_block (hSw.block g HGY.out.lt)).cell (by decide)
  simp at q1
  go_simp
  try with_reducible rfl
 simp only [Act.put, z1, z2, z3, z4, z5, z6]
 refine wpAnyH_ready (rs := [9]) (by kernel_rfl) (by simp) ?_
 refine AllReadyH.cons rfl (fun Kc hKc => ?_) AllReadyH.nil
 go_simp
 go_wp2_with (first | (with_reducible refine (HU.out _ (HBY.out.trans (hHeld.mono HXL.out))).mono ?_; rintro e wq ⟨⟨ao, k, cp, rfl, hq⟩, hb'⟩; have HQ := Lib.hid hq; clear hq))
 refine hKc.out _ _ ?_ (fun hHeld => ?_)
 ·first | assumption | exact hHeld | exact btr hHeld hb'
 clear hKc Kc
 refine tkH (i := 10) (v := ?_) rfl (by kernel_rfl) (fun _ _ _ h => h) (Or.inl ⟨by rfl, ?_⟩) (by assumption) ?_
 rotate_left
 ·intro w hSw
  try dsimp only at hSw
  go_simp
  try with_reducible rfl
 simp only [Act.put, z1, z2, z3, z4, z5, z6]
 refine tkH (i := 11) (v := ?_) rfl (by kernel_rfl) (fun _ _ _ h => h) (Or.inl ⟨by rfl, ?_⟩) (by assumption) ?_
 rotate_left
 ·intro w hSw
  try dsimp only at hSw
  go_simp
  try with_reducible rfl
 simp only [Act.put, z1, z2, z3, z4, z5, z6]
 refine tkH (i := 12) (v := ?_) rfl (by kernel_rfl) (fun _ _ _ h => h) (Or.inl ⟨by rfl, ?_⟩) (by assumption) ?_
 rotate_left
 ·intro w hSw
  try dsimp only at hSw
  go_simp
  try with_reducible rfl
 simp only [Act.put, z1, z2, z3, z4, z5, z6]
 refine tkH (i := 13) (v := ?_) rfl (by kernel_rfl) (fun _ _ _ h => h) (Or.inl ⟨by rfl, ?_⟩) (by assumption) ?_
 rotate_left
 ·intro w hSw
  try dsimp only at hSw
  go_simp
  try with_reducible rfl
 simp only [Act.put, z1, z2, z3, z4, z5, z6]
 refine tkH (i := 14) (v := ?_) rfl (by kernel_rfl) (fun _ _ _ h => h) (Or.inl ⟨by rfl, ?_⟩) (by assumption) ?_
 rotate_left
 ·intro w hSw
  try dsimp only at hSw
  go_simp
  try with_reducible rfl
 simp only [Act.put, z1, z2, z3, z4, z5, z6]
 refine wpAnyH_done (by kernel_rfl) ?_ _
 have HBF : Hid (Below w.heap.size w wq) := Lib.hid (by rw [HXX.out]; exact HBY.out.trans (hHeld.mono HXL.out))
 clear hHeld
 go_wp2_with fail
 go_ret2
 exact ⟨⟨ao, k, cp, rfl, HQ.out⟩, HBF.out⟩
end Go.Proofs.YtfeficdndjiijaaGreatDoor


namespace Go.Proofs.YtfeficdndjiijaaGreatDoor
open Go.RowKit Go.Maps
set_option linter.unusedVariables false
set_option linter.unusedSimpArgs false

set_option maxRecDepth 100000 in
set_option maxHeartbeats 4000000 in
theorem agg_inner (w : World) (A b n : Nat) (T : Nat → Option Nat × Option Nat) (x0 x1 : Int) (S1 S2 : Nat) (hi lo : Int) (hA : AggIs w A b n T) (h1 : 1 ≤ x0) (h2 : x0 ≤ (n : Int)) (h3 : 1 ≤ x1) (h4 : x1 ≤ (n : Int)) (hn : n ≤ 100) (hT1 : T x0.toNat = (some S1, none)) (hT2 : T x1.toNat = (some S2, none))
  (hU : ∀ w1, Below w.heap.size w w1 → Calls Tryz.prog 98 #[.pointer (some ⟨S1, 0, none⟩), .pointer (some ⟨S2, 0, none⟩)] w1 fun e w' => e = .returned (.tuple #[.agg #[.int .i64 hi, .int .u64 lo], .int .i64 0]) ∧ Below w1.heap.size w1 w') :
  Calls Tryz.prog 52 #[.pointer (some ⟨A, 0, none⟩), .agg #[.string (sB [105, 110, 110, 101, 114]), .int .i64 x0, .int .i64 x1]] w fun e w' => e = .returned (.tuple #[.iface 145 (.agg #[.int .i64 hi, .int .u64 lo]), .int .i64 0]) ∧ Below w.heap.size w w' := by
 have HA := Lib.hid hA
 have HH := Lib.hid (And.intro h1 (And.intro h2 (And.intro h3 (And.intro h4 hn))))
 have HT1 := Lib.hid hT1
 have HT2 := Lib.hid hT2
 have HU := Lib.hid hU
 have PD := Lib.hid done_ok
 have PS1 := Lib.hid (thstackP S1)
 have PS := Lib.hid (thstackP S2)
 have hvl := sB_list [105, 110, 110, 101, 114]
 obtain ⟨V, hV⟩ : ∃ V, V = sB [105, 110, 110, 101, 114] := ⟨_, rfl⟩
 rw [← hV] at hvl ⊢
 have hb1 : Below w.heap.size w (w.alloc (.cells #[.string V, .int .i64 x0, .int .i64 x1] 126)) := (Below.refl _ w).alloc (Nat.le_refl _) _
 have HX_w1 := Lib.hid (Blk.new w 126 #[.string V, .int .i64 x0, .int .i64 x1])
 have HA_w1 := Lib.hid (hA.kept hb1)
 have HB1 := Lib.hid hb1
 clear hA h1 h2 h3 h4 hn hT1 hT2 hU hb1 hV
 go_enter Tryz.func52, Tryz.ntmps52
 go_wp2_with fail
 generalize (w.alloc (.cells #[.string V, .int .i64 x0, .int .i64 x1] 126)) = w1 at *
 generalize hX : w.heap.size = X at *
 have HXX := Lib.hid hX
 clear hX
 have HXW : Hid (X ≤ w1.heap.size) := Lib.hid (Nat.le_of_lt HX_w1.out.lt)
 refine wp_region_held_drew (S := fun w' => Below w1.heap.size w1 w') (by kernel_rfl) (by exact below_drewN (Below.refl _ _) 1) (fun hHeld => ?_)
 refine tkH (i := 0) (v := ?_) rfl (by kernel_rfl) (fun _ _ _ h => h) (Or.inl ⟨by rfl, ?_⟩) (by assumption) ?_
 rotate_left
 ·intro w hSw
  try dsimp only at hSw
  go_simp
  try with_reducible rfl
 simp only [Act.put, z1, z2, z3, z4, z5, z6]
 refine tkH (i := 1) (v := ?_) rfl (by kernel_rfl) (fun _ _ _ h => h) (Or.inl ⟨by rfl, ?_⟩) (by assumption) ?_
 rotate_left
 ·intro w hSw
  try dsimp only at hSw
  go_simp
  try with_reducible rfl
 simp only [Act.put, z1, z2, z3, z4, z5, z6]
 refine tkH (i := 2) (v := ?_) rfl (by kernel_rfl) (fun _ _ _ h => h) (Or.inl ⟨by rfl, ?_⟩) (by assumption) ?_
 rotate_left
 ·intro w hSw
  try dsimp only at hSw
  go_simp
  try with_reducible rfl
 simp only [Act.put, z1, z2, z3, z4, z5, z6]
 refine tkH (i := 3) (v := ?_) rfl (by kernel_rfl) (fun _ _ _ h => h) (Or.inl ⟨by rfl, ?_⟩) (by assumption) ?_
 rotate_left
 ·intro w hSw
  have q0 := (HA_w1.out.kept hSw).1.cell 0
  have q1 := (HX_w1.out.kept hSw).cell 1
  have hlk := (HA_w1.out.kept hSw).look x0 HH.out.1 HH.out.2.1 HH.out.2.2.2.2
  rw [HT1.out] at hlk
  simp at q0 q1
  go_simp
  try with_reducible rfl
 simp only [Act.put, z1, z2, z3, z4, z5, z6]
 refine tkH (i := 4) (v := ?_) rfl (by kernel_rfl) (fun _ _ _ h => h) (Or.inl ⟨by rfl, ?_⟩) (by assumption) ?_
 rotate_left
 ·intro w hSw
  try dsimp only at hSw
  go_simp
  try with_reducible rfl
 simp only [Act.put, z1, z2, z3, z4, z5, z6]
 refine tkH (i := 5) (v := ?_) rfl (by kernel_rfl) (fun _ _ _ h => h) (Or.inl ⟨by rfl, ?_⟩) (by assumption) ?_
 rotate_left
 ·intro w hSw
  have q0 := (HA_w1.out.kept hSw).1.cell 0
  have q1 := (HX_w1.out.kept hSw).cell 1
  have hlk := (HA_w1.out.kept hSw).look x0 HH.out.1 HH.out.2.1 HH.out.2.2.2.2
  rw [HT1.out] at hlk
  simp at q0 q1
  go_simp
  try with_reducible rfl
 simp only [Act.put, z1, z2, z3, z4, z5, z6]
 refine tkH (i := 6) (v := ?_) rfl (by kernel_rfl) (fun _ _ _ h => h) (Or.inl ⟨by rfl, ?_⟩) (by assumption) ?_
 rotate_left
 ·intro w hSw
  have q0 := (HA_w1.out.kept hSw).1.cell 0
  have q1 := (HX_w1.out.kept hSw).cell 1
  have hlk := (HA_w1.out.kept hSw).look x0 HH.out.1 HH.out.2.1 HH.out.2.2.2.2
  rw [HT1.out] at hlk
  simp at q0 q1
  go_simp
  try with_reducible rfl
 simp only [Act.put, z1, z2, z3, z4, z5, z6]
 refine tkH (i := 7) (v := ?_) rfl (by kernel_rfl) (fun _ _ _ h => h) (Or.inl ⟨by rfl, ?_⟩) (by assumption) ?_
 rotate_left
 ·intro w hSw
  try dsimp only at hSw
  go_simp
  try with_reducible rfl
 simp only [Act.put, z1, z2, z3, z4, z5, z6]
 refine tkH (i := 8) (v := ?_) rfl (by kernel_rfl) (fun _ _ _ h => h) (Or.inl ⟨by rfl, ?_⟩) (by assumption) ?_
 rotate_left
 ·intro w hSw
  try dsimp only at hSw
  go_simp
  try with_reducible rfl
 simp only [Act.put, z1, z2, z3, z4, z5, z6]
 refine tkH (i := 9) (v := ?_) rfl (by kernel_rfl) (fun _ _ _ h => h) (Or.inl ⟨by rfl, ?_⟩) (by assumption) ?_
 rotate_left
 ·intro w hSw
  try dsimp only at hSw
  go_simp
  try with_reducible rfl
 simp only [Act.put, z1, z2, z3, z4, z5, z6]
 refine wpAnyH_ready (rs := [10]) (by kernel_rfl) (by simp) ?_
 refine AllReadyH.cons rfl (fun Kc hKc => ?_) AllReadyH.nil
 go_simp
 have hPrev := Lib.hid hHeld.size
 refine hKc.out _ _ ?_ (fun hHeld => ?_)
 ·first | assumption | exact hHeld | exact hHeld.alloc hHeld.size _ | exact below_setRow hHeld hPrev.out _
 clear hKc Kc
 first | have HAQ := Lib.hid (freshOf hHeld) | have HAQ := Lib.hid (freshDrew hHeld)
 refine wpAnyH_ready (rs := [11]) (by kernel_rfl) (by simp) ?_
 refine AllReadyH.cons rfl (fun Kc hKc => ?_) AllReadyH.nil
 have HAR := Lib.hid (blkRowNew (cs' := #[thPtr (some S1), thPtr none]) HAQ.out); refine wp_store_row 84 _ _ rfl _ #[thPtr (some S1), thPtr none] rfl (by rfl) 84 _ HAQ.out (by kernel_rfl) rfl (by simp [Value.oneCell', thPtr]) ?_
 refine hKc.out _ _ ?_ (fun hHeld => ?_)
 ·first | assumption | exact hHeld | exact hHeld.alloc hHeld.size _ | exact below_setRow hHeld hPrev.out _
 clear hKc Kc
 refine tkH (i := 12) (v := ?_) rfl (by kernel_rfl) (fun _ _ _ h => h) (Or.inl ⟨by rfl, ?_⟩) (by assumption) ?_
 rotate_left
 ·intro w hSw
  try dsimp only at hSw
  go_simp
  try with_reducible rfl
 simp only [Act.put, z1, z2, z3, z4, z5, z6]
 refine wpAnyH_done (by kernel_rfl) ?_ _
 generalize ((w1.alloc (.cells #[.pointer none, .pointer none] 84)).drew.setRow w1.heap.size #[thPtr (some S1), thPtr none]) = w2 at *
 have HA_w2 := Lib.hid (HA_w1.out.kept hHeld)
 have HX_w2 := Lib.hid (HX_w1.out.kept hHeld)
 have HB2 : Hid (Below X w w2) := Lib.hid (HB1.out.trans (hHeld.mono HXW.out))
 have HTB_2 := Lib.hid HAR.out
 have HW12 := Lib.hid (And.intro hHeld.size HAR.out.lt)
 generalize w1.heap.size = tB at *
 clear hHeld HAR HAQ HA_w1 HX_w1 HB1 HXW hPrev
 go_wp2_with fail
 refine wp_region_held_drew (S := fun w' => Below w2.heap.size w2 w') (by kernel_rfl) (by exact below_drewN (Below.refl _ _) 1) (fun hHeld => ?_)
 refine tkH (i := 0) (v := ?_) rfl (by kernel_rfl) (fun _ _ _ h => h) (Or.inl ⟨by rfl, ?_⟩) (by assumption) ?_
 rotate_left
 ·intro w hSw
  try dsimp only at hSw
  go_simp
  try with_reducible rfl
 simp only [Act.put, z1, z2, z3, z4, z5, z6]
 refine tkH (i := 1) (v := ?_) rfl (by kernel_rfl) (fun _ _ _ h => h) (Or.inl ⟨by rfl, ?_⟩) (by assumption) ?_
 rotate_left
 ·intro w hSw
  try dsimp only at hSw
  go_simp
  try with_reducible rfl
 simp only [Act.put, z1, z2, z3, z4, z5, z6]
 refine tkH (i := 2) (v := ?_) rfl (by kernel_rfl) (fun _ _ _ h => h) (Or.inl ⟨by rfl, ?_⟩) (by assumption) ?_
 rotate_left
 ·intro w hSw
  try dsimp only at hSw
  go_simp
  try with_reducible rfl
 simp only [Act.put, z1, z2, z3, z4, z5, z6]
 refine tkH (i := 3) (v := ?_) rfl (by kernel_rfl) (fun _ _ _ h => h) (Or.inl ⟨by rfl, ?_⟩) (by assumption) ?_
 rotate_left
 ·intro w hSw
  have q0 := (HA_w2.out.kept hSw).1.cell 0
  have q1 := (HX_w2.out.kept hSw).cell 2
  have hlk := (HA_w2.out.kept hSw).look x1 HH.out.2.2.1 HH.out.2.2.2.1 HH.out.2.2.2.2
  rw [HT2.out] at hlk
  simp at q0 q1
  go_simp
  try with_reducible rfl
 simp only [Act.put, z1, z2, z3, z4, z5, z6]
 refine tkH (i := 4) (v := ?_) rfl (by kernel_rfl) (fun _ _ _ h => h) (Or.inl ⟨by rfl, ?_⟩) (by assumption) ?_
 rotate_left
 ·intro w hSw
  try dsimp only at hSw
  go_simp
  try with_reducible rfl
 simp only [Act.put, z1, z2, z3, z4, z5, z6]
 refine tkH (i := 5) (v := ?_) rfl (by kernel_rfl) (fun _ _ _ h => h) (Or.inl ⟨by rfl, ?_⟩) (by assumption) ?_
 rotate_left
 ·intro w hSw
  have q0 := (HA_w2.out.kept hSw).1.cell 0
  have q1 := (HX_w2.out.kept hSw).cell 2
  have hlk := (HA_w2.out.kept hSw).look x1 HH.out.2.2.1 HH.out.2.2.2.1 HH.out.2.2.2.2
  rw [HT2.out] at hlk
  simp at q0 q1
  go_simp
  try with_reducible rfl
 simp only [Act.put, z1, z2, z3, z4, z5, z6]
 refine tkH (i := 6) (v := ?_) rfl (by kernel_rfl) (fun _ _ _ h => h) (Or.inl ⟨by rfl, ?_⟩) (by assumption) ?_
 rotate_left
 ·intro w hSw
  have q0 := (HA_w2.out.kept hSw).1.cell 0
  have q1 := (HX_w2.out.kept hSw).cell 2
  have hlk := (HA_w2.out.kept hSw).look x1 HH.out.2.2.1 HH.out.2.2.2.1 HH.out.2.2.2.2
  rw [HT2.out] at hlk
  simp at q0 q1
  go_simp
  try with_reducible rfl
 simp only [Act.put, z1, z2, z3, z4, z5, z6]
 refine tkH (i := 7) (v := ?_) rfl (by kernel_rfl) (fun _ _ _ h => h) (Or.inl ⟨by rfl, ?_⟩) (by assumption) ?_
 rotate_left
 ·intro w hSw
  try dsimp only at hSw
  go_simp
  try with_reducible rfl
 simp only [Act.put, z1, z2, z3, z4, z5, z6]
 refine tkH (i := 8) (v := ?_) rfl (by kernel_rfl) (fun _ _ _ h => h) (Or.inl ⟨by rfl, ?_⟩) (by assumption) ?_
 rotate_left
 ·intro w hSw
  try dsimp only at hSw
  go_simp
  try with_reducible rfl
 simp only [Act.put, z1, z2, z3, z4, z5, z6]
 refine tkH (i := 9) (v := ?_) rfl (by kernel_rfl) (fun _ _ _ h => h) (Or.inl ⟨by rfl, ?_⟩) (by assumption) ?_
 rotate_left
 ·intro w hSw
  try dsimp only at hSw
  go_simp
  try with_reducible rfl
 simp only [Act.put, z1, z2, z3, z4, z5, z6]
 refine wpAnyH_ready (rs := [10]) (by kernel_rfl) (by simp) ?_
 refine AllReadyH.cons rfl (fun Kc hKc => ?_) AllReadyH.nil
 go_simp
 have hPrev := Lib.hid hHeld.size
 refine hKc.out _ _ ?_ (fun hHeld => ?_)
 ·first | assumption | exact hHeld | exact hHeld.alloc hHeld.size _ | exact below_setRow hHeld hPrev.out _
 clear hKc Kc
 first | have HAQ := Lib.hid (freshOf hHeld) | have HAQ := Lib.hid (freshDrew hHeld)
 refine wpAnyH_ready (rs := [11]) (by kernel_rfl) (by simp) ?_
 refine AllReadyH.cons rfl (fun Kc hKc => ?_) AllReadyH.nil
 have HAR := Lib.hid (blkRowNew (cs' := #[thPtr (some S2), thPtr none]) HAQ.out); refine wp_store_row 84 _ _ rfl _ #[thPtr (some S2), thPtr none] rfl (by rfl) 84 _ HAQ.out (by kernel_rfl) rfl (by simp [Value.oneCell', thPtr]) ?_
 refine hKc.out _ _ ?_ (fun hHeld => ?_)
 ·first | assumption | exact hHeld | exact hHeld.alloc hHeld.size _ | exact below_setRow hHeld hPrev.out _
 clear hKc Kc
 refine tkH (i := 12) (v := ?_) rfl (by kernel_rfl) (fun _ _ _ h => h) (Or.inl ⟨by rfl, ?_⟩) (by assumption) ?_
 rotate_left
 ·intro w hSw
  try dsimp only at hSw
  go_simp
  try with_reducible rfl
 simp only [Act.put, z1, z2, z3, z4, z5, z6]
 refine wpAnyH_done (by kernel_rfl) ?_ _
 generalize ((w2.alloc (.cells #[.pointer none, .pointer none] 84)).drew.setRow w2.heap.size #[thPtr (some S2), thPtr none]) = w3 at *
 have HX_w3 := Lib.hid (HX_w2.out.kept hHeld)
 have HB3 : Hid (Below X w w3) := Lib.hid (HB2.out.trans (hHeld.mono (by have := HX_w2.out.lt; omega)))
 have HTB := Lib.hid (HTB_2.out.kept hHeld)
 have HUB := Lib.hid HAR.out
 have HX3 : Hid (X ≤ w3.heap.size) := Lib.hid (by have := HX_w3.out.lt; omega)
 have x_0 := HX_w3.out.cell 0
 have t_0 := HTB.out.cell 0
 have t_1 := HTB.out.cell 1
 simp [thPtr] at x_0 t_0 t_1
 generalize w2.heap.size = uB at *
 clear hHeld HAR HAQ HA_w2 HX_w2 HTB_2 hPrev HW12
 go_wp2_with fail
 refine wp_region_held_drew (S := fun w' => Below w3.heap.size w3 w') (by kernel_rfl) (by exact below_drewN (Below.refl _ _) 1) (fun hHeld => ?_)
 refine tkH (i := 0) (v := ?_) rfl (by kernel_rfl) (fun _ _ _ h => h) (Or.inl ⟨by rfl, ?_⟩) (by assumption) ?_
 rotate_left
 ·intro w hSw
  have q1 := HTB.out.kept hSw
  have q2 := HUB.out.kept hSw
  try (refine (exec_load_row 84 _ rfl tB rfl 84 _ (0, 0) _ q1 Tryz.underlying84 rfl (by kernel_rfl)).trans ?_)
  try (refine (exec_load_row 84 _ rfl uB rfl 84 _ (0, 0) _ q2 Tryz.underlying84 rfl (by kernel_rfl)).trans ?_)
  go_simp
  try with_reducible rfl
 simp only [Act.put, z1, z2, z3, z4, z5, z6]
 refine tkH (i := 2) (v := ?_) rfl (by kernel_rfl) (fun _ _ _ h => h) (Or.inl ⟨by rfl, ?_⟩) (by assumption) ?_
 rotate_left
 ·intro w hSw
  have q1 := HTB.out.kept hSw
  have q2 := HUB.out.kept hSw
  try (refine (exec_load_row 84 _ rfl tB rfl 84 _ (0, 0) _ q1 Tryz.underlying84 rfl (by kernel_rfl)).trans ?_)
  try (refine (exec_load_row 84 _ rfl uB rfl 84 _ (0, 0) _ q2 Tryz.underlying84 rfl (by kernel_rfl)).trans ?_)
  go_simp
  try with_reducible rfl
 simp only [Act.put, z1, z2, z3, z4, z5, z6]
 refine wpAnyH_ready (rs := [1, 8]) (by kernel_rfl) (by simp) ?_
 refine AllReadyH.cons rfl (fun Kc hKc => ?_) (AllReadyH.cons rfl (fun Kc hKc => ?_) AllReadyH.nil)
 ·go_simp
  go_wp2_with (first | (with_reducible refine (PS1.out _).mono ?_; rintro e wq ⟨rfl, hb'⟩; try have HAQ := Lib.hid (HAQ.out.kept hb')) | (with_reducible refine (PS.out _).mono ?_; rintro e wq ⟨rfl, hb'⟩; try have HAQ := Lib.hid (HAQ.out.kept hb')) | (with_reducible refine (HU.out _ (HB3.out.trans (hHeld.mono HX3.out))).mono ?_; rintro e wq ⟨rfl, hb'⟩; try have HAQ := Lib.hid (HAQ.out.kept hb')))
  refine hKc.out _ _ ?_ (fun hHeld => ?_)
  ·first | assumption | exact hHeld | exact btr hHeld hb' | exact hHeld.alloc hHeld.size _ | exact below_setRow hHeld hPrev.out _
  clear hKc Kc
  refine wpAnyH_ready (rs := [3, 8]) (by kernel_rfl) (by simp) ?_
  refine AllReadyH.cons rfl (fun Kc hKc => ?_) (AllReadyH.cons rfl (fun Kc hKc => ?_) AllReadyH.nil)
  ·go_simp
   go_wp2_with (first | (with_reducible refine (PS1.out _).mono ?_; rintro e wq ⟨rfl, hb'⟩; try have HAQ := Lib.hid (HAQ.out.kept hb')) | (with_reducible refine (PS.out _).mono ?_; rintro e wq ⟨rfl, hb'⟩; try have HAQ := Lib.hid (HAQ.out.kept hb')) | (with_reducible refine (HU.out _ (HB3.out.trans (hHeld.mono HX3.out))).mono ?_; rintro e wq ⟨rfl, hb'⟩; try have HAQ := Lib.hid (HAQ.out.kept hb')))
   refine hKc.out _ _ ?_ (fun hHeld => ?_)
   ·first | assumption | exact hHeld | exact btr hHeld hb' | exact hHeld.alloc hHeld.size _ | exact below_setRow hHeld hPrev.out _
   clear hKc Kc
   refine wpAnyH_ready (rs := [4, 8]) (by kernel_rfl) (by simp) ?_
   refine AllReadyH.cons rfl (fun Kc hKc => ?_) (AllReadyH.cons rfl (fun Kc hKc => ?_) AllReadyH.nil)
   ·go_simp
    go_wp2_with (first | (with_reducible refine (PS1.out _).mono ?_; rintro e wq ⟨rfl, hb'⟩; try have HAQ := Lib.hid (HAQ.out.kept hb')) | (with_reducible refine (PS.out _).mono ?_; rintro e wq ⟨rfl, hb'⟩; try have HAQ := Lib.hid (HAQ.out.kept hb')) | (with_reducible refine (HU.out _ (HB3.out.trans (hHeld.mono HX3.out))).mono ?_; rintro e wq ⟨rfl, hb'⟩; try have HAQ := Lib.hid (HAQ.out.kept hb')))
    refine hKc.out _ _ ?_ (fun hHeld => ?_)
    ·first | assumption | exact hHeld | exact btr hHeld hb' | exact hHeld.alloc hHeld.size _ | exact below_setRow hHeld hPrev.out _
    clear hKc Kc
    refine tkH (i := 5) (v := ?_) rfl (by kernel_rfl) (fun _ _ _ h => h) (Or.inl ⟨by rfl, ?_⟩) (by assumption) ?_
    rotate_left
    ·intro w hSw
     try dsimp only at hSw
     go_simp
     try with_reducible rfl
    simp only [Act.put, z1, z2, z3, z4, z5, z6]
    refine tkH (i := 6) (v := ?_) rfl (by kernel_rfl) (fun _ _ _ h => h) (Or.inl ⟨by rfl, ?_⟩) (by assumption) ?_
    rotate_left
    ·intro w hSw
     try dsimp only at hSw
     go_simp
     try with_reducible rfl
    simp only [Act.put, z1, z2, z3, z4, z5, z6]
    refine tkH (i := 7) (v := ?_) rfl (by kernel_rfl) (fun _ _ _ h => h) (Or.inl ⟨by rfl, ?_⟩) (by assumption) ?_
    rotate_left
    ·intro w hSw
     try dsimp only at hSw
     go_simp
     try with_reducible rfl
    simp only [Act.put, z1, z2, z3, z4, z5, z6]
    refine wpAnyH_ready (rs := [8]) (by kernel_rfl) (by simp) ?_
    refine AllReadyH.cons rfl (fun Kc hKc => ?_) AllReadyH.nil
    go_simp
    have hPrev := Lib.hid hHeld.size
    refine hKc.out _ _ ?_ (fun hHeld => ?_)
    ·first | assumption | exact hHeld | exact btr hHeld hb' | exact hHeld.alloc hHeld.size _ | exact below_setRow hHeld hPrev.out _
    clear hKc Kc
    first | have HAQ := Lib.hid (freshOf hHeld) | have HAQ := Lib.hid (freshDrew hHeld)
    refine wpAnyH_ready (rs := [9]) (by kernel_rfl) (by simp) ?_
    refine AllReadyH.cons rfl (fun Kc hKc => ?_) AllReadyH.nil
    have HAR := Lib.hid (blkRowNew (cs' := #[.int .i64 hi, .int .u64 lo]) HAQ.out); refine wp_store_row 143 _ _ rfl _ #[.int .i64 hi, .int .u64 lo] rfl (by rfl) 143 _ HAQ.out (by kernel_rfl) rfl (by simp [Value.oneCell']) ?_
    refine hKc.out _ _ ?_ (fun hHeld => ?_)
    ·first | assumption | exact hHeld | exact btr hHeld hb' | exact hHeld.alloc hHeld.size _ | exact below_setRow hHeld hPrev.out _
    clear hKc Kc
    refine tkH (i := 10) (v := ?_) rfl (by kernel_rfl) (fun _ _ _ h => h) (Or.inl ⟨by rfl, ?_⟩) (by assumption) ?_
    rotate_left
    ·intro w hSw
     try dsimp only at hSw
     go_simp
     try with_reducible rfl
    simp only [Act.put, z1, z2, z3, z4, z5, z6]
    refine wpAnyH_done (by kernel_rfl) ?_ _
    have HBZ := Lib.hid (HB3.out.trans (hHeld.mono HX3.out))
    have har := HAR.out
    clear hHeld
    go_wp2_with (refine wpList_load_row rfl 143 _ rfl _ rfl 143 _ (0, 0) _ har Tryz.underlying143 rfl (by kernel_rfl) ?_)
    go_ret2
    exact ⟨rfl, by rw [HXX.out]; exact HBZ.out⟩
   ·go_simp
    have hPrev := Lib.hid hHeld.size
    refine hKc.out _ _ ?_ (fun hHeld => ?_)
    ·first | assumption | exact hHeld | exact btr hHeld hb' | exact hHeld.alloc hHeld.size _ | exact below_setRow hHeld hPrev.out _
    clear hKc Kc
    first | have HAQ := Lib.hid (freshOf hHeld) | have HAQ := Lib.hid (freshDrew hHeld)
    refine wpAnyH_ready (rs := [4]) (by kernel_rfl) (by simp) ?_
    refine AllReadyH.cons rfl (fun Kc hKc => ?_) AllReadyH.nil
    go_simp
    go_wp2_with (first | (with_reducible refine (PS1.out _).mono ?_; rintro e wq ⟨rfl, hb'⟩; try have HAQ := Lib.hid (HAQ.out.kept hb')) | (with_reducible refine (PS.out _).mono ?_; rintro e wq ⟨rfl, hb'⟩; try have HAQ := Lib.hid (HAQ.out.kept hb')) | (with_reducible refine (HU.out _ (HB3.out.trans (hHeld.mono HX3.out))).mono ?_; rintro e wq ⟨rfl, hb'⟩; try have HAQ := Lib.hid (HAQ.out.kept hb')))
    refine hKc.out _ _ ?_ (fun hHeld => ?_)
    ·first | assumption | exact hHeld | exact btr hHeld hb' | exact hHeld.alloc hHeld.size _ | exact below_setRow hHeld hPrev.out _
    clear hKc Kc
    refine tkH (i := 5) (v := ?_) rfl (by kernel_rfl) (fun _ _ _ h => h) (Or.inl ⟨by rfl, ?_⟩) (by assumption) ?_
    rotate_left
    ·intro w hSw
     try dsimp only at hSw
     go_simp
     try with_reducible rfl
    simp only [Act.put, z1, z2, z3, z4, z5, z6]
    refine tkH (i := 6) (v := ?_) rfl (by kernel_rfl) (fun _ _ _ h => h) (Or.inl ⟨by rfl, ?_⟩) (by assumption) ?_
    rotate_left
    ·intro w hSw
     try dsimp only at hSw
     go_simp
     try with_reducible rfl
    simp only [Act.put, z1, z2, z3, z4, z5, z6]
    refine tkH (i := 7) (v := ?_) rfl (by kernel_rfl) (fun _ _ _ h => h) (Or.inl ⟨by rfl, ?_⟩) (by assumption) ?_
    rotate_left
    ·intro w hSw
     try dsimp only at hSw
     go_simp
     try with_reducible rfl
    simp only [Act.put, z1, z2, z3, z4, z5, z6]
    refine wpAnyH_ready (rs := [9]) (by kernel_rfl) (by simp) ?_
    refine AllReadyH.cons rfl (fun Kc hKc => ?_) AllReadyH.nil
    have HAR := Lib.hid (blkRowNew (cs' := #[.int .i64 hi, .int .u64 lo]) HAQ.out); refine wp_store_row 143 _ _ rfl _ #[.int .i64 hi, .int .u64 lo] rfl (by rfl) 143 _ HAQ.out (by kernel_rfl) rfl (by simp [Value.oneCell']) ?_
    refine hKc.out _ _ ?_ (fun hHeld => ?_)
    ·first | assumption | exact hHeld | exact btr hHeld hb' | exact hHeld.alloc hHeld.size _ | exact below_setRow hHeld hPrev.out _
    clear hKc Kc
    refine tkH (i := 10) (v := ?_) rfl (by kernel_rfl) (fun _ _ _ h => h) (Or.inl ⟨by rfl, ?_⟩) (by assumption) ?_
    rotate_left
    ·intro w hSw
     try dsimp only at hSw
     go_simp
     try with_reducible rfl
    simp only [Act.put, z1, z2, z3, z4, z5, z6]
    refine wpAnyH_done (by kernel_rfl) ?_ _
    have HBZ := Lib.hid (HB3.out.trans (hHeld.mono HX3.out))
    have har := HAR.out
    clear hHeld
    go_wp2_with (refine wpList_load_row rfl 143 _ rfl _ rfl 143 _ (0, 0) _ har Tryz.underlying143 rfl (by kernel_rfl) ?_)
    go_ret2
    exact ⟨rfl, by rw [HXX.out]; exact HBZ.out⟩
  ·go_simp
   have hPrev := Lib.hid hHeld.size
   refine hKc.out _ _ ?_ (fun hHeld => ?_)
   ·first | assumption | exact hHeld | exact btr hHeld hb' | exact hHeld.alloc hHeld.size _ | exact below_setRow hHeld hPrev.out _
   clear hKc Kc
   first | have HAQ := Lib.hid (freshOf hHeld) | have HAQ := Lib.hid (freshDrew hHeld)
   refine wpAnyH_ready (rs := [3]) (by kernel_rfl) (by simp) ?_
   refine AllReadyH.cons rfl (fun Kc hKc => ?_) AllReadyH.nil
   go_simp
   go_wp2_with (first | (with_reducible refine (PS1.out _).mono ?_; rintro e wq ⟨rfl, hb'⟩; try have HAQ := Lib.hid (HAQ.out.kept hb')) | (with_reducible refine (PS.out _).mono ?_; rintro e wq ⟨rfl, hb'⟩; try have HAQ := Lib.hid (HAQ.out.kept hb')) | (with_reducible refine (HU.out _ (HB3.out.trans (hHeld.mono HX3.out))).mono ?_; rintro e wq ⟨rfl, hb'⟩; try have HAQ := Lib.hid (HAQ.out.kept hb')))
   refine hKc.out _ _ ?_ (fun hHeld => ?_)
   ·first | assumption | exact hHeld | exact btr hHeld hb' | exact hHeld.alloc hHeld.size _ | exact below_setRow hHeld hPrev.out _
   clear hKc Kc
   refine wpAnyH_ready (rs := [4]) (by kernel_rfl) (by simp) ?_
   refine AllReadyH.cons rfl (fun Kc hKc => ?_) AllReadyH.nil
   go_simp
   go_wp2_with (first | (with_reducible refine (PS1.out _).mono ?_; rintro e wq ⟨rfl, hb'⟩; try have HAQ := Lib.hid (HAQ.out.kept hb')) | (with_reducible refine (PS.out _).mono ?_; rintro e wq ⟨rfl, hb'⟩; try have HAQ := Lib.hid (HAQ.out.kept hb')) | (with_reducible refine (HU.out _ (HB3.out.trans (hHeld.mono HX3.out))).mono ?_; rintro e wq ⟨rfl, hb'⟩; try have HAQ := Lib.hid (HAQ.out.kept hb')))
   refine hKc.out _ _ ?_ (fun hHeld => ?_)
   ·first | assumption | exact hHeld | exact btr hHeld hb' | exact hHeld.alloc hHeld.size _ | exact below_setRow hHeld hPrev.out _
   clear hKc Kc
   refine tkH (i := 5) (v := ?_) rfl (by kernel_rfl) (fun _ _ _ h => h) (Or.inl ⟨by rfl, ?_⟩) (by assumption) ?_
   rotate_left
   ·intro w hSw
    try dsimp only at hSw
    go_simp
    try with_reducible rfl
   simp only [Act.put, z1, z2, z3, z4, z5, z6]
   refine tkH (i := 6) (v := ?_) rfl (by kernel_rfl) (fun _ _ _ h => h) (Or.inl ⟨by rfl, ?_⟩) (by assumption) ?_
   rotate_left
   ·intro w hSw
    try dsimp only at hSw
    go_simp
    try with_reducible rfl
   simp only [Act.put, z1, z2, z3, z4, z5, z6]
   refine tkH (i := 7) (v := ?_) rfl (by kernel_rfl) (fun _ _ _ h => h) (Or.inl ⟨by rfl, ?_⟩) (by assumption) ?_
   rotate_left
   ·intro w hSw
    try dsimp only at hSw
    go_simp
    try with_reducible rfl
   simp only [Act.put, z1, z2, z3, z4, z5, z6]
   refine wpAnyH_ready (rs := [9]) (by kernel_rfl) (by simp) ?_
   refine AllReadyH.cons rfl (fun Kc hKc => ?_) AllReadyH.nil
   have HAR := Lib.hid (blkRowNew (cs' := #[.int .i64 hi, .int .u64 lo]) HAQ.out); refine wp_store_row 143 _ _ rfl _ #[.int .i64 hi, .int .u64 lo] rfl (by rfl) 143 _ HAQ.out (by kernel_rfl) rfl (by simp [Value.oneCell']) ?_
   refine hKc.out _ _ ?_ (fun hHeld => ?_)
   ·first | assumption | exact hHeld | exact btr hHeld hb' | exact hHeld.alloc hHeld.size _ | exact below_setRow hHeld hPrev.out _
   clear hKc Kc
   refine tkH (i := 10) (v := ?_) rfl (by kernel_rfl) (fun _ _ _ h => h) (Or.inl ⟨by rfl, ?_⟩) (by assumption) ?_
   rotate_left
   ·intro w hSw
    try dsimp only at hSw
    go_simp
    try with_reducible rfl
   simp only [Act.put, z1, z2, z3, z4, z5, z6]
   refine wpAnyH_done (by kernel_rfl) ?_ _
   have HBZ := Lib.hid (HB3.out.trans (hHeld.mono HX3.out))
   have har := HAR.out
   clear hHeld
   go_wp2_with (refine wpList_load_row rfl 143 _ rfl _ rfl 143 _ (0, 0) _ har Tryz.underlying143 rfl (by kernel_rfl) ?_)
   go_ret2
   exact ⟨rfl, by rw [HXX.out]; exact HBZ.out⟩
 ·go_simp
  have hPrev := Lib.hid hHeld.size
  refine hKc.out _ _ ?_ (fun hHeld => ?_)
  ·first | assumption | exact hHeld | exact btr hHeld hb' | exact hHeld.alloc hHeld.size _ | exact below_setRow hHeld hPrev.out _
  clear hKc Kc
  first | have HAQ := Lib.hid (freshOf hHeld) | have HAQ := Lib.hid (freshDrew hHeld)
  refine wpAnyH_ready (rs := [1]) (by kernel_rfl) (by simp) ?_
  refine AllReadyH.cons rfl (fun Kc hKc => ?_) AllReadyH.nil
  go_simp
  go_wp2_with (first | (with_reducible refine (PS1.out _).mono ?_; rintro e wq ⟨rfl, hb'⟩; try have HAQ := Lib.hid (HAQ.out.kept hb')) | (with_reducible refine (PS.out _).mono ?_; rintro e wq ⟨rfl, hb'⟩; try have HAQ := Lib.hid (HAQ.out.kept hb')) | (with_reducible refine (HU.out _ (HB3.out.trans (hHeld.mono HX3.out))).mono ?_; rintro e wq ⟨rfl, hb'⟩; try have HAQ := Lib.hid (HAQ.out.kept hb')))
  refine hKc.out _ _ ?_ (fun hHeld => ?_)
  ·first | assumption | exact hHeld | exact btr hHeld hb' | exact hHeld.alloc hHeld.size _ | exact below_setRow hHeld hPrev.out _
  clear hKc Kc
  refine wpAnyH_ready (rs := [3]) (by kernel_rfl) (by simp) ?_
  refine AllReadyH.cons rfl (fun Kc hKc => ?_) AllReadyH.nil
  go_simp
  go_wp2_with (first | (with_reducible refine (PS1.out _).mono ?_; rintro e wq ⟨rfl, hb'⟩; try have HAQ := Lib.hid (HAQ.out.kept hb')) | (with_reducible refine (PS.out _).mono ?_; rintro e wq ⟨rfl, hb'⟩; try have HAQ := Lib.hid (HAQ.out.kept hb')) | (with_reducible refine (HU.out _ (HB3.out.trans (hHeld.mono HX3.out))).mono ?_; rintro e wq ⟨rfl, hb'⟩; try have HAQ := Lib.hid (HAQ.out.kept hb')))
  refine hKc.out _ _ ?_ (fun hHeld => ?_)
  ·first | assumption | exact hHeld | exact btr hHeld hb' | exact hHeld.alloc hHeld.size _ | exact below_setRow hHeld hPrev.out _
  clear hKc Kc
  refine wpAnyH_ready (rs := [4]) (by kernel_rfl) (by simp) ?_
  refine AllReadyH.cons rfl (fun Kc hKc => ?_) AllReadyH.nil
  go_simp
  go_wp2_with (first | (with_reducible refine (PS1.out _).mono ?_; rintro e wq ⟨rfl, hb'⟩; try have HAQ := Lib.hid (HAQ.out.kept hb')) | (with_reducible refine (PS.out _).mono ?_; rintro e wq ⟨rfl, hb'⟩; try have HAQ := Lib.hid (HAQ.out.kept hb')) | (with_reducible refine (HU.out _ (HB3.out.trans (hHeld.mono HX3.out))).mono ?_; rintro e wq ⟨rfl, hb'⟩; try have HAQ := Lib.hid (HAQ.out.kept hb')))
  refine hKc.out _ _ ?_ (fun hHeld => ?_)
  ·first | assumption | exact hHeld | exact btr hHeld hb' | exact hHeld.alloc hHeld.size _ | exact below_setRow hHeld hPrev.out _
  clear hKc Kc
  refine tkH (i := 5) (v := ?_) rfl (by kernel_rfl) (fun _ _ _ h => h) (Or.inl ⟨by rfl, ?_⟩) (by assumption) ?_
  rotate_left
  ·intro w hSw
   try dsimp only at hSw
   go_simp
   try with_reducible rfl
  simp only [Act.put, z1, z2, z3, z4, z5, z6]
  refine tkH (i := 6) (v := ?_) rfl (by kernel_rfl) (fun _ _ _ h => h) (Or.inl ⟨by rfl, ?_⟩) (by assumption) ?_
  rotate_left
  ·intro w hSw
   try dsimp only at hSw
   go_simp
   try with_reducible rfl
  simp only [Act.put, z1, z2, z3, z4, z5, z6]
  refine tkH (i := 7) (v := ?_) rfl (by kernel_rfl) (fun _ _ _ h => h) (Or.inl ⟨by rfl, ?_⟩) (by assumption) ?_
  rotate_left
  ·intro w hSw
   try dsimp only at hSw
   go_simp
   try with_reducible rfl
  simp only [Act.put, z1, z2, z3, z4, z5, z6]
  refine wpAnyH_ready (rs := [9]) (by kernel_rfl) (by simp) ?_
  refine AllReadyH.cons rfl (fun Kc hKc => ?_) AllReadyH.nil
  have HAR := Lib.hid (blkRowNew (cs' := #[.int .i64 hi, .int .u64 lo]) HAQ.out); refine wp_store_row 143 _ _ rfl _ #[.int .i64 hi, .int .u64 lo] rfl (by rfl) 143 _ HAQ.out (by kernel_rfl) rfl (by simp [Value.oneCell']) ?_
  refine hKc.out _ _ ?_ (fun hHeld => ?_)
  ·first | assumption | exact hHeld | exact btr hHeld hb' | exact hHeld.alloc hHeld.size _ | exact below_setRow hHeld hPrev.out _
  clear hKc Kc
  refine tkH (i := 10) (v := ?_) rfl (by kernel_rfl) (fun _ _ _ h => h) (Or.inl ⟨by rfl, ?_⟩) (by assumption) ?_
  rotate_left
  ·intro w hSw
   try dsimp only at hSw
   go_simp
   try with_reducible rfl
  simp only [Act.put, z1, z2, z3, z4, z5, z6]
  refine wpAnyH_done (by kernel_rfl) ?_ _
  have HBZ := Lib.hid (HB3.out.trans (hHeld.mono HX3.out))
  have har := HAR.out
  clear hHeld
  go_wp2_with (refine wpList_load_row rfl 143 _ rfl _ rfl 143 _ (0, 0) _ har Tryz.underlying143 rfl (by kernel_rfl) ?_)
  go_ret2
  exact ⟨rfl, by rw [HXX.out]; exact HBZ.out⟩
end Go.Proofs.YtfeficdndjiijaaGreatDoor

