import Derived.Test.YtfeficdndjiijaaGreatDoorQzk
import Derived.Test.YtfeficdndjiijaaGreatDoorQzc
import Derived.Test.YtfeficdndjiijaaGreatDoorQzf
import Derived.Test.YtfeficdndjiijaaGreatDoorQzi
import Derived.Test.YtfeficdndjiijaaGreatDoorQzj
import Derived.Test.YtfeficdndjiijaaGreatDoorQzb
import Derived.Test.YtfeficdndjiijaaGreatDoorQzd
import Derived.Test.YtfeficdndjiijaaGreatDoorQzg
import Derived.Test.YtfeficdndjiijaaGreatDoorQzh
import Derived.Laws.EntriesVeiled
import Derived.WalkLawsBesides
import Derived.Defers
import Derived.Recover
/-
  Contracts of the functions that TopWindow reaches, and the plain laws that it leans on. Conditions: none beyond those stated at each theorem.
-/
namespace Go.Proofs.YtfeficdndjiijaaGreatDoor
open Go.RowKit
set_option linter.unusedVariables false
set_option linter.unusedSimpArgs false

set_option maxRecDepth 100000 in
set_option maxHeartbeats 4000000 in
theorem skalike_yes (w : World) (A G C B H D : Nat) (b r d m s l : Int) (zs hs : List Int) (ha : SkIs w A G C b r d m s l zs) (hb : SkIs w B H D b r d m s l hs) :
  Calls Tryz.prog 224 #[.pointer (some ⟨A, 0, none⟩), .pointer (some ⟨B, 0, none⟩)] w fun e w' => e = .returned (.bool true) ∧ Below w.heap.size w w' := by
 have hgd : Tryz.prog.eqGuardType Tryz.prog.depth 24 = false := by kernel_rfl
 have EQ := eqCfg b r d m s b r d m s
 have hq : cfgEq b r d m s b r d m s = true := by simp [cfgEq]
 rw [hq] at EQ
 have HA := Lib.hid ha
 have HB := Lib.hid hb
 clear ha hb hq
 go_enter Tryz.func224, Tryz.ntmps224
 go_wp2_with fail
 refine wp_region_held_drew (S := fun w' => Blk w' A 288 #[.pointer (some ⟨G, 0, none⟩), .int .i64 b, .int .i64 r, .int .i64 d, .int .i64 m, .int .u64 s, .int .i64 l] ∧ Blk w' B 288 #[.pointer (some ⟨H, 0, none⟩), .int .i64 b, .int .i64 r, .int .i64 d, .int .i64 m, .int .u64 s, .int .i64 l] ∧ Below w.heap.size w w') (by kernel_rfl) (by exact ⟨HA.out.box.drewN 1, HB.out.box.drewN 1, below_drewN (Below.refl _ _) 1⟩) (fun hHeld => ?_)
 refine tkH (i := 0) (v := ?_) rfl (by kernel_rfl) (fun _ _ _ h => h) (Or.inl ⟨by rfl, ?_⟩) (by assumption) ?_
 rotate_left
 ·intro w hSw
  try dsimp only at hSw
  go_simp
  try with_reducible rfl
 simp only [Act.put, z1, z2, z3, z4, z5, z6]
 refine tkH (i := 1) (v := ?_) rfl (by kernel_rfl) (fun _ _ _ h => h) (Or.inl ⟨by rfl, ?_⟩) (by assumption) ?_
 rotate_left
 ·intro w hSw
  try dsimp only at hSw
  go_simp
  try with_reducible rfl
 simp only [Act.put, z1, z2, z3, z4, z5, z6]
 refine tkH (i := 2) (v := ?_) rfl (by kernel_rfl) (fun _ _ _ h => h) (Or.inl ⟨by rfl, ?_⟩) (by assumption) ?_
 rotate_left
 ·intro w hSw
  try dsimp only at hSw
  go_simp
  try with_reducible rfl
 simp only [Act.put, z1, z2, z3, z4, z5, z6]
 refine tkH (i := 3) (v := ?_) rfl (by kernel_rfl) (fun _ _ _ h => h) (Or.inl ⟨by rfl, ?_⟩) (by assumption) ?_
 rotate_left
 ·intro w hSw
  try dsimp only at hSw
  go_simp
  try with_reducible rfl
 simp only [Act.put, z1, z2, z3, z4, z5, z6]
 refine tkH (i := 4) (v := ?_) rfl (by kernel_rfl) (fun _ _ _ h => h) (Or.inl ⟨by rfl, ?_⟩) (by assumption) ?_
 rotate_left
 ·intro w hSw
  try dsimp only at hSw
  go_simp
  try with_reducible rfl
 simp only [Act.put, z1, z2, z3, z4, z5, z6]
 refine tkH (i := 5) (v := ?_) rfl (by kernel_rfl) (fun _ _ _ h => h) (Or.inl ⟨by rfl, ?_⟩) (by assumption) ?_
 rotate_left
 ·intro w hSw
  try dsimp only at hSw
  go_simp
  try with_reducible rfl
 simp only [Act.put, z1, z2, z3, z4, z5, z6]
 refine tkH (i := 6) (v := ?_) rfl (by kernel_rfl) (fun _ _ _ h => h) (Or.inl ⟨by rfl, ?_⟩) (by assumption) ?_
 rotate_left
 ·intro w hSw
  have q0 := hSw.1.cell 0
  have q1 := hSw.1.cell 1
  have q2 := hSw.1.cell 2
  have q3 := hSw.1.cell 3
  have q4 := hSw.1.cell 4
  have q5 := hSw.1.cell 5
  have q6 := hSw.1.cell 6
  have p0 := hSw.2.1.cell 0
  have p1 := hSw.2.1.cell 1
  have p2 := hSw.2.1.cell 2
  have p3 := hSw.2.1.cell 3
  have p4 := hSw.2.1.cell 4
  have p5 := hSw.2.1.cell 5
  have p6 := hSw.2.1.cell 6
  simp at q0 q1 q2 q3 q4 q5 q6 p0 p1 p2 p3 p4 p5 p6
  go_simp
  try with_reducible rfl
 simp only [Act.put, z1, z2, z3, z4, z5, z6]
 refine tkH (i := 7) (v := ?_) rfl (by kernel_rfl) (fun _ _ _ h => h) (Or.inl ⟨by rfl, ?_⟩) (by assumption) ?_
 rotate_left
 ·intro w hSw
  try dsimp only at hSw
  go_simp
  try with_reducible rfl
 simp only [Act.put, z1, z2, z3, z4, z5, z6]
 refine tkH (i := 8) (v := ?_) rfl (by kernel_rfl) (fun _ _ _ h => h) (Or.inl ⟨by rfl, ?_⟩) (by assumption) ?_
 rotate_left
 ·intro w hSw
  try dsimp only at hSw
  go_simp
  try with_reducible rfl
 simp only [Act.put, z1, z2, z3, z4, z5, z6]
 refine tkH (i := 9) (v := ?_) rfl (by kernel_rfl) (fun _ _ _ h => h) (Or.inl ⟨by rfl, ?_⟩) (by assumption) ?_
 rotate_left
 ·intro w hSw
  try dsimp only at hSw
  go_simp
  try with_reducible rfl
 simp only [Act.put, z1, z2, z3, z4, z5, z6]
 refine tkH (i := 10) (v := ?_) rfl (by kernel_rfl) (fun _ _ _ h => h) (Or.inl ⟨by rfl, ?_⟩) (by assumption) ?_
 rotate_left
 ·intro w hSw
  have q0 := hSw.1.cell 0
  have q1 := hSw.1.cell 1
  have q2 := hSw.1.cell 2
  have q3 := hSw.1.cell 3
  have q4 := hSw.1.cell 4
  have q5 := hSw.1.cell 5
  have q6 := hSw.1.cell 6
  have p0 := hSw.2.1.cell 0
  have p1 := hSw.2.1.cell 1
  have p2 := hSw.2.1.cell 2
  have p3 := hSw.2.1.cell 3
  have p4 := hSw.2.1.cell 4
  have p5 := hSw.2.1.cell 5
  have p6 := hSw.2.1.cell 6
  simp at q0 q1 q2 q3 q4 q5 q6 p0 p1 p2 p3 p4 p5 p6
  go_simp
  try with_reducible rfl
 simp only [Act.put, z1, z2, z3, z4, z5, z6]
 refine tkH (i := 11) (v := ?_) rfl (by kernel_rfl) (fun _ _ _ h => h) (Or.inl ⟨by rfl, ?_⟩) (by assumption) ?_
 rotate_left
 ·intro w hSw
  try dsimp only at hSw
  go_simp
  try with_reducible rfl
 simp only [Act.put, z1, z2, z3, z4, z5, z6]
 refine tkH (i := 12) (v := ?_) rfl (by kernel_rfl) (fun _ _ _ h => h) (Or.inl ⟨by rfl, ?_⟩) (by assumption) ?_
 rotate_left
 ·intro w hSw
  try dsimp only at hSw
  go_simp
  try with_reducible rfl
 simp only [Act.put, z1, z2, z3, z4, z5, z6]
 refine tkH (i := 13) (v := ?_) rfl (by kernel_rfl) (fun _ _ _ h => h) (Or.inl ⟨by rfl, ?_⟩) (by assumption) ?_
 rotate_left
 ·intro w hSw
  try dsimp only at hSw
  go_simp
  try with_reducible rfl
 simp only [Act.put, z1, z2, z3, z4, z5, z6]
 refine tkH (i := 14) (v := ?_) rfl (by kernel_rfl) (fun _ _ _ h => h) (Or.inl ⟨by rfl, ?_⟩) (by assumption) ?_
 rotate_left
 ·intro w hSw
  try dsimp only at hSw
  go_simp
  try with_reducible rfl
 simp only [Act.put, z1, z2, z3, z4, z5, z6]
 refine tkH (i := 15) (v := ?_) rfl (by kernel_rfl) (fun _ _ _ h => h) (Or.inl ⟨by rfl, ?_⟩) (by assumption) ?_
 rotate_left
 ·intro w hSw
  try dsimp only at hSw
  go_simp
  try with_reducible rfl
 simp only [Act.put, z1, z2, z3, z4, z5, z6]
 refine tkH (i := 16) (v := ?_) rfl (by kernel_rfl) (fun _ _ _ h => h) (Or.inl ⟨by rfl, ?_⟩) (by assumption) ?_
 rotate_left
 ·intro w hSw
  try dsimp only at hSw
  go_simp
  try with_reducible rfl
 simp only [Act.put, z1, z2, z3, z4, z5, z6]
 refine tkH (i := 17) (v := ?_) rfl (by kernel_rfl) (fun _ _ _ h => h) (Or.inl ⟨by rfl, ?_⟩) (by assumption) ?_
 rotate_left
 ·intro w hSw
  have q0 := hSw.1.cell 0
  have q1 := hSw.1.cell 1
  have q2 := hSw.1.cell 2
  have q3 := hSw.1.cell 3
  have q4 := hSw.1.cell 4
  have q5 := hSw.1.cell 5
  have q6 := hSw.1.cell 6
  have p0 := hSw.2.1.cell 0
  have p1 := hSw.2.1.cell 1
  have p2 := hSw.2.1.cell 2
  have p3 := hSw.2.1.cell 3
  have p4 := hSw.2.1.cell 4
  have p5 := hSw.2.1.cell 5
  have p6 := hSw.2.1.cell 6
  simp at q0 q1 q2 q3 q4 q5 q6 p0 p1 p2 p3 p4 p5 p6
  go_simp
  try with_reducible rfl
 simp only [Act.put, z1, z2, z3, z4, z5, z6]
 refine tkH (i := 18) (v := ?_) rfl (by kernel_rfl) (fun _ _ _ h => h) (Or.inl ⟨by rfl, ?_⟩) (by assumption) ?_
 rotate_left
 ·intro w hSw
  try dsimp only at hSw
  go_simp
  try with_reducible rfl
 simp only [Act.put, z1, z2, z3, z4, z5, z6]
 refine tkH (i := 19) (v := ?_) rfl (by kernel_rfl) (fun _ _ _ h => h) (Or.inl ⟨by rfl, ?_⟩) (by assumption) ?_
 rotate_left
 ·intro w hSw
  try dsimp only at hSw
  go_simp
  try with_reducible rfl
 simp only [Act.put, z1, z2, z3, z4, z5, z6]
 refine tkH (i := 20) (v := ?_) rfl (by kernel_rfl) (fun _ _ _ h => h) (Or.inl ⟨by rfl, ?_⟩) (by assumption) ?_
 rotate_left
 ·intro w hSw
  try dsimp only at hSw
  go_simp
  try with_reducible rfl
 simp only [Act.put, z1, z2, z3, z4, z5, z6]
 refine tkH (i := 21) (v := ?_) rfl (by kernel_rfl) (fun _ _ _ h => h) (Or.inl ⟨by rfl, ?_⟩) (by assumption) ?_
 rotate_left
 ·intro w hSw
  have q0 := hSw.1.cell 0
  have q1 := hSw.1.cell 1
  have q2 := hSw.1.cell 2
  have q3 := hSw.1.cell 3
  have q4 := hSw.1.cell 4
  have q5 := hSw.1.cell 5
  have q6 := hSw.1.cell 6
  have p0 := hSw.2.1.cell 0
  have p1 := hSw.2.1.cell 1
  have p2 := hSw.2.1.cell 2
  have p3 := hSw.2.1.cell 3
  have p4 := hSw.2.1.cell 4
  have p5 := hSw.2.1.cell 5
  have p6 := hSw.2.1.cell 6
  simp at q0 q1 q2 q3 q4 q5 q6 p0 p1 p2 p3 p4 p5 p6
  go_simp
  try with_reducible rfl
 simp only [Act.put, z1, z2, z3, z4, z5, z6]
 refine tkH (i := 22) (v := ?_) rfl (by kernel_rfl) (fun _ _ _ h => h) (Or.inl ⟨by rfl, ?_⟩) (by assumption) ?_
 rotate_left
 ·intro w hSw
  try dsimp only at hSw
  go_simp
  try with_reducible rfl
 simp only [Act.put, z1, z2, z3, z4, z5, z6]
 refine tkH (i := 23) (v := ?_) rfl (by kernel_rfl) (fun _ _ _ h => h) (Or.inl ⟨by rfl, ?_⟩) (by assumption) ?_
 rotate_left
 ·intro w hSw
  try dsimp only at hSw
  go_simp
  try with_reducible rfl
 simp only [Act.put, z1, z2, z3, z4, z5, z6]
 refine tkH (i := 24) (v := ?_) rfl (by kernel_rfl) (fun _ _ _ h => h) (Or.inl ⟨by rfl, ?_⟩) (by assumption) ?_
 rotate_left
 ·intro w hSw
  try dsimp only at hSw
  go_simp
  try with_reducible rfl
 simp only [Act.put, z1, z2, z3, z4, z5, z6]
 refine wpAnyH_done (by kernel_rfl) ?_ _
 go_wp2
 go_ret
 exact ⟨rfl, hHeld.2.2⟩
set_option maxRecDepth 100000 in
set_option maxHeartbeats 4000000 in
theorem sksub (w : World) (A G C B H D : Nat) (b r d m s l : Int) (zs hs : List Int) (hm : m ≠ 2) (ha : SkIs w A G C b r d m s l zs) (hb : SkIs w B H D b r d m s l hs) (hfit : Fit (List.zipWith (fun a b => a - b) zs hs)) :
  Calls Tryz.prog 192 #[.pointer (some ⟨A, 0, none⟩), .pointer (some ⟨B, 0, none⟩)] w fun e w' => e = .returned (.int .i64 0) ∧ SkIs w' A G C b r d m s l (List.zipWith (fun a b => a - b) zs hs) ∧ w.grownBy w' (some C) := by
 have PA := Lib.hid (skalike_yes w A G C B H D b r d m s l zs hs ha hb)
 have P := Lib.hid (fun (w : World) (hg : GridIs w G C r.toNat d.toNat zs) (hh : GridIs w H D r.toNat d.toNat hs) => gminus_yes w G C H D r.toNat d.toNat zs hs hg hh hfit)
 have HA := Lib.hid ha
 have HB := Lib.hid hb
 have HBC : Hid (B ≠ C) := by
  obtain ⟨cur, hc, _⟩ := ha.grid.cells
  exact hb.box.ne_ hc (by decide)
 clear ha hb hfit
 go_enter Tryz.func192, Tryz.ntmps192
 go_wp2_with fail
 with_reducible refine PA.out.mono ?_
 rintro e w1 ⟨rfl, hb1⟩
 have HA1 := Lib.hid (HA.out.kept hb1)
 have HB1 := Lib.hid (HB.out.kept hb1)
 have HBB := Lib.hid hb1
 clear hb1 PA HA HB
 have c4 := HA1.out.box.cell 4
 simp at c4
 go_wp2_with fail
 refine wp_region_held_drew (S := fun w' => Blk w' A 288 #[.pointer (some ⟨G, 0, none⟩), .int .i64 b, .int .i64 r, .int .i64 d, .int .i64 m, .int .u64 s, .int .i64 l] ∧ Blk w' B 288 #[.pointer (some ⟨H, 0, none⟩), .int .i64 b, .int .i64 r, .int .i64 d, .int .i64 m, .int .u64 s, .int .i64 l]) (by kernel_rfl) (by exact ⟨HA1.out.box.drewN 1, HB1.out.box.drewN 1⟩) (fun hHeld => ?_)
 refine tkH (i := 0) (v := ?_) rfl (by kernel_rfl) (fun _ _ _ h => h) (Or.inl ⟨by rfl, ?_⟩) (by assumption) ?_
 rotate_left
 ·intro w hSw
  try dsimp only at hSw
  go_simp
  try with_reducible rfl
 simp only [Act.put, z1, z2, z3, z4, z5, z6]
 refine tkH (i := 1) (v := ?_) rfl (by kernel_rfl) (fun _ _ _ h => h) (Or.inl ⟨by rfl, ?_⟩) (by assumption) ?_
 rotate_left
 ·intro w hSw
  try dsimp only at hSw
  go_simp
  try with_reducible rfl
 simp only [Act.put, z1, z2, z3, z4, z5, z6]
 refine tkH (i := 2) (v := ?_) rfl (by kernel_rfl) (fun _ _ _ h => h) (Or.inl ⟨by rfl, ?_⟩) (by assumption) ?_
 rotate_left
 ·intro w hSw
  try dsimp only at hSw
  go_simp
  try with_reducible rfl
 simp only [Act.put, z1, z2, z3, z4, z5, z6]
 refine tkH (i := 3) (v := ?_) rfl (by kernel_rfl) (fun _ _ _ h => h) (Or.inl ⟨by rfl, ?_⟩) (by assumption) ?_
 rotate_left
 ·intro w hSw
  try dsimp only at hSw
  go_simp
  try with_reducible rfl
 simp only [Act.put, z1, z2, z3, z4, z5, z6]
 refine tkH (i := 4) (v := ?_) rfl (by kernel_rfl) (fun _ _ _ h => h) (Or.inl ⟨by rfl, ?_⟩) (by assumption) ?_
 rotate_left
 ·intro w hSw
  have q0 := hSw.1.cell 0
  have p0 := hSw.2.cell 0
  simp at q0 p0
  go_simp
  try with_reducible rfl
 simp only [Act.put, z1, z2, z3, z4, z5, z6]
 refine tkH (i := 5) (v := ?_) rfl (by kernel_rfl) (fun _ _ _ h => h) (Or.inl ⟨by rfl, ?_⟩) (by assumption) ?_
 rotate_left
 ·intro w hSw
  try dsimp only at hSw
  go_simp
  try with_reducible rfl
 simp only [Act.put, z1, z2, z3, z4, z5, z6]
 refine tkH (i := 6) (v := ?_) rfl (by kernel_rfl) (fun _ _ _ h => h) (Or.inl ⟨by rfl, ?_⟩) (by assumption) ?_
 rotate_left
 ·intro w hSw
  try dsimp only at hSw
  go_simp
  try with_reducible rfl
 simp only [Act.put, z1, z2, z3, z4, z5, z6]
 refine tkH (i := 7) (v := ?_) rfl (by kernel_rfl) (fun _ _ _ h => h) (Or.inl ⟨by rfl, ?_⟩) (by assumption) ?_
 rotate_left
 ·intro w hSw
  try dsimp only at hSw
  go_simp
  try with_reducible rfl
 simp only [Act.put, z1, z2, z3, z4, z5, z6]
 refine tkH (i := 8) (v := ?_) rfl (by kernel_rfl) (fun _ _ _ h => h) (Or.inl ⟨by rfl, ?_⟩) (by assumption) ?_
 rotate_left
 ·intro w hSw
  try dsimp only at hSw
  go_simp
  try with_reducible rfl
 simp only [Act.put, z1, z2, z3, z4, z5, z6]
 refine tkH (i := 9) (v := ?_) rfl (by kernel_rfl) (fun _ _ _ h => h) (Or.inl ⟨by rfl, ?_⟩) (by assumption) ?_
 rotate_left
 ·intro w hSw
  have q0 := hSw.1.cell 0
  have p0 := hSw.2.cell 0
  simp at q0 p0
  go_simp
  try with_reducible rfl
 simp only [Act.put, z1, z2, z3, z4, z5, z6]
 refine wpAnyH_ready (rs := [10]) (by kernel_rfl) (by simp) ?_
 refine AllReadyH.cons rfl (fun Kc hKc => ?_) AllReadyH.nil
 go_simp
 go_wp2_with ((go_at_call 227; refine (P.out _ (HA1.out.grid.drewN 1) (HB1.out.grid.drewN 1)).mono ?_; rintro e w5 ⟨rfl, hg5, hgr5⟩; have HG5 := Lib.hid hg5; have HGR := Lib.hid hgr5; clear hg5 hgr5))
 refine hKc.out _ _ ?_ (fun hHeld => ?_)
 ·first | exact hHeld | exact ⟨hHeld.1.grown HGR.out (by simpa using HA1.out.neA), hHeld.2.grown HGR.out (by simpa using (show B ≠ C from HBC.out))⟩
 clear hKc Kc
 refine tkH (i := 11) (v := ?_) rfl (by kernel_rfl) (fun _ _ _ h => h) (Or.inl ⟨by rfl, ?_⟩) (by assumption) ?_
 rotate_left
 ·intro w hSw
  try dsimp only at hSw
  go_simp
  try with_reducible rfl
 simp only [Act.put, z1, z2, z3, z4, z5, z6]
 refine wpAnyH_done (by kernel_rfl) ?_ _
 have HXA := Lib.hid hHeld.1
 clear hHeld
 go_wp2
 go_ret
 exact ⟨rfl, ⟨HXA.out, HG5.out⟩, gr_trans (below_gr (below_drewN HBB.out 1)) HGR.out⟩
set_option maxRecDepth 100000 in
set_option maxHeartbeats 4000000 in
theorem lvsub (w : World) (x y : Value) (A G C B H D : Nat) (b r d m s l : Int) (zs hs : List Int) (hm : m ≠ 2) (hx : LevIs w x A G C b r d m s l zs) (hy : LevIs w y B H D b r d m s l hs) (hfit : Fit (List.zipWith (fun a b => a - b) zs hs)) :
  Calls Tryz.prog 144 #[x, y] w fun e w' => e = .returned (.int .i64 0) ∧ LevIs w' x A G C b r d m s l (List.zipWith (fun a b => a - b) zs hs) ∧ w.grownBy w' (some C) := by
 rcases hx with ⟨h1, rfl, ha⟩ | ⟨h1, rfl, ha⟩
 ·rcases hy with ⟨h2, rfl, hb⟩ | ⟨h2, rfl, hb⟩
  ·have P0 := Lib.hid (fun w => sketches_ex (.iface 232 (.pointer (some ⟨A, 0, none⟩))) ⟨B, 0, none⟩ w)
   have P1 := Lib.hid (fun w => arrays_ex ⟨A, 0, none⟩ ⟨B, 0, none⟩ w)
   have PM := Lib.hid (exsub_yes w A G C B H D b r d m s l _ zs hs hm ha hb hfit)
   have HE := Lib.hid h1
   clear ha hb h1 h2 hfit
   go_enter Tryz.func144, Tryz.ntmps144
   go_wp2_with fail
   with_reducible refine (P0.out _).mono ?_
   rintro e w2 ⟨rfl, hw⟩
   subst hw
   go_wp2_with fail
   with_reducible refine (P1.out _).mono ?_
   rintro e w2 ⟨rfl, hw⟩
   subst hw
   go_wp2_with fail
   with_reducible refine PM.out.mono ?_
   rintro e w2 ⟨rfl, hl, hg⟩
   have HL := Lib.hid (And.intro hl hg)
   clear hl hg PM
   go_wp2_with fail
   go_ret
   exact ⟨rfl, .inl ⟨HE.out, rfl, HL.out.1⟩, HL.out.2⟩
  ·rw [h1] at h2; cases h2
 ·rcases hy with ⟨h2, rfl, hb⟩ | ⟨h2, rfl, hb⟩
  ·rw [h1] at h2; cases h2
  ·have P0 := Lib.hid (fun w => sketches_sk ⟨A, 0, none⟩ ⟨B, 0, none⟩ w)
   have PM := Lib.hid (sksub w A G C B H D b r d m s l zs hs hm ha hb hfit)
   have HE := Lib.hid h1
   clear ha hb h1 h2 hfit
   go_enter Tryz.func144, Tryz.ntmps144
   go_wp2_with fail
   with_reducible refine (P0.out _).mono ?_
   rintro e w2 ⟨rfl, hw⟩
   subst hw
   go_wp2_with fail
   with_reducible refine PM.out.mono ?_
   rintro e w2 ⟨rfl, hl, hg⟩
   have HL := Lib.hid (And.intro hl hg)
   clear hl hg PM
   go_wp2_with fail
   go_ret
   exact ⟨rfl, .inr ⟨HE.out, rfl, HL.out.1⟩, HL.out.2⟩
end Go.Proofs.YtfeficdndjiijaaGreatDoor


namespace Go.Proofs.YtfeficdndjiijaaGreatDoor
open Go.RowKit
set_option linter.unusedVariables false
set_option linter.unusedSimpArgs false

structure BtAt (w : World) (g : Nat) (l : List Int) : Prop where
  lt : g < w.heap.size
  nofr : ∀ o, w.frozen? ⟨g, o, none⟩ = false
  at_ : ∀ i u, l[i]? = some u → w.cell? ⟨g, i, none⟩ = some (.int .u8 u)
theorem BtAt.of_block {w w' : World} {g : Nat} {l : List Int} (h : BtAt w g l) (e : w'.heap[g]? = w.heap[g]?) : BtAt w' g l := by
  refine ⟨?_, fun o => ?_, fun t p hp => ?_⟩
  · have h1 := h.lt
    rcases Nat.lt_or_ge g w'.heap.size with h2 | h2
    · exact h2
    · rw [Array.getElem?_eq_none h2, Array.getElem?_eq_getElem h1] at e
      cases e
  · rw [World.frozen?_of_block (by exact e)]
    exact h.nofr o
  · rw [World.cell?_of_block (by exact e)]
    exact h.at_ t p hp
theorem BtAt.set {w : World} {g : Nat} {l : List Int} (h : BtAt w g l) {i : Nat} (hi : i < l.length) (x : Int) : BtAt (w.setCell ⟨g, i, none⟩ (.int .u8 x)) g (l.set i x) := by
  refine ⟨by simpa [World.setCell] using h.lt, fun o => ?_, fun t p hp => ?_⟩
  · rw [World.frozen?_setCell]; exact h.nofr o
  · rw [List.getElem?_set] at hp
    by_cases e : i = t
    · subst e
      rw [if_pos rfl, if_pos hi] at hp
      cases hp
      exact World.cell?_setCell_same _ _ _ (h.at_ i _ (List.getElem?_eq_getElem hi))
    · rw [if_neg e] at hp
      rw [World.cell?_setCell_other _ _ _ _ (fun e2 => by simp_all)]
      exact h.at_ t p hp
theorem BtAt.drew {w1 : World} {g : Nat} {l : List Int} (h : BtAt w1 g l) : BtAt { heap := w1.heap, tape := w1.tape, drawn := w1.drawn + 1, os := w1.os, output := w1.output } g l := h.of_block rfl
set_option maxRecDepth 100000 in
set_option maxHeartbeats 8000000 in
theorem btrev (g cap : Nat) (l : List Int) (hlen : l.length ≤ 100000) (w : World) (h : BtAt w g l) :
  Calls Tryz.prog 146 #[.slice (some ⟨g, 0, none⟩) l.length cap] w fun e w' => e = .returned (.tuple #[]) ∧ BtAt w' g l.reverse ∧ w.grownBy w' (some g) := by
 obtain ⟨L, hL⟩ : ∃ L, L = l.length := ⟨_, rfl⟩
 have HL := Lib.hid hL
 rw [← hL] at hlen ⊢
 have HF := Lib.hid h
 clear h hL
 have hL1 : IntKind.i64.wrap ((L : Int) - 1) = (L : Int) - 1 := wrapI_of _ (by omega) (by omega)
 go_enter Tryz.func146, Tryz.ntmps146
 go_wp2_with fail
 go_loopw [2, 3] (fun i j wr => ∃ (k : Nat) (jv : Int) (y : List Int), i = .int .i64 (k : Int) ∧ j = .int .i64 jv ∧ jv = (L : Int) - 1 - (k : Int) ∧ 2 * k ≤ L + 1 ∧ BtAt wr g y ∧ w.grownBy wr (some g) ∧ IsRv l y k) (fun i _ _ => L + 1 - (intOf i).toNat)
 case atStart => exact ⟨0, (L : Int) - 1, l, rfl, rfl, by omega, by omega, HF.out, grRefl _ _, IsRv.zero _⟩
 case round =>
  obtain ⟨k, jv, y, rfl, rfl, hjv, hk, hf, hg, hs⟩ := hrel
  have HFY := Lib.hid hf
  have HG := Lib.hid hg
  have HS := Lib.hid hs
  clear hf hg hs
  by_cases hkn : (k : Int) < jv
  ·obtain ⟨q, hq⟩ : ∃ q : Nat, jv = (q : Int) := ⟨jv.toNat, by omega⟩
   subst hq
   have hkL : (k : Int) < (L : Int) := by omega
   have hqL : (q : Int) < (L : Int) := by omega
   have hk0 : (0 : Int) ≤ (k : Int) := by omega
   have hq0 : (0 : Int) ≤ (q : Int) := by omega
   have hyl : y.length = L := by rw [HS.out.1, HL.out]
   obtain ⟨u, hu⟩ : ∃ u, y[k]? = some u := ⟨_, List.getElem?_eq_getElem (by omega)⟩
   obtain ⟨v, hv⟩ : ∃ v, y[q]? = some v := ⟨_, List.getElem?_eq_getElem (by omega)⟩
   have HPQ : Hid (q = L - 1 - k ∧ k < q ∧ y.length = L ∧ y[k]? = some u ∧ y[q]? = some v) := Lib.hid ⟨by omega, by omega, hyl, hu, hv⟩
   have HJ := Lib.hid hjv
   clear hyl hu hv hjv
   go_wp2_with fail
   have HFD := Lib.hid HFY.out.drew
   have HGD := Lib.hid (grDrew HG.out)
   refine wp_region_any (by kernel_rfl) ?_
   generalize ({ heap := wr.heap, tape := wr.tape, drawn := wr.drawn + 1, os := wr.os, output := wr.output } : World) = wd at *
   have hlp := HFD.out.at_ k u HPQ.out.2.2.2.1
   have hlq := HFD.out.at_ q v HPQ.out.2.2.2.2
   have f0 := HFD.out.nofr k
   have f1 := HFD.out.nofr q
   refine tkA (i := 2) (v := ?_) rfl (by kernel_rfl) (fun _ _ _ h => h) (Or.inl ⟨by rfl, ?_⟩) ?_
   rotate_left
   ·intro w
    go_simp
    try with_reducible rfl
   simp only [Act.put, z1, z2, z3, z4, z5, z6]
   refine tkA (i := 3) (v := ?_) rfl (by kernel_rfl) (fun _ _ _ h => h) (Or.inl ⟨by rfl, ?_⟩) ?_
   rotate_left
   ·intro w
    go_simp
    try with_reducible rfl
   simp only [Act.put, z1, z2, z3, z4, z5, z6]
   refine wpAny_still_tail [true, true, false, false, true, true, true, true, true, true, true, true, true] [2, 3] _ (by kernel_rfl) (by kernel_rfl) ?_
   simp only [dropAt, List.length_cons, List.length_nil, List.drop_succ_cons, List.drop_zero]
   repeat (first | still_step)
   refine wpStill_nil ?_
   try simp only [Act.put, z1, z2, z3, z4, z5, z6]
   have hf2 := HFD.out.set (i := k) (by have := HPQ.out.2.2.1; omega) v
   have hc2 := hf2.at_ q v (by have := HPQ.out; rw [List.getElem?_set, if_neg (by omega)]; exact this.2.2.2.2)
   have ff2 := hf2.nofr q
   have HF3 := Lib.hid (hf2.set (i := q) (by have := HPQ.out.2.2.1; simp; omega) u)
   have HG3 := Lib.hid (gr_setC (gr_setC HGD.out k (.int .u8 v)) q (.int .u8 u))
   have HS3 : Hid (IsRv l ((y.set k v).set q u) (k + 1)) := Lib.hid (HS.out.next (by rw [← HL.out]; exact HPQ.out.1) HPQ.out.2.1 HPQ.out.2.2.2.1 HPQ.out.2.2.2.2)
   clear hf2
   go_wp2_with fail
   go_roundw
   case rel => exact ⟨k + 1, (q : Int) - 1, _, by go_num, by go_num, by have := HJ.out; omega, by have := HJ.out; have := HPQ.out.2.1; omega, HF3.out, HG3.out, HS3.out⟩
   case measure => simp [intOf]; omega
  ·have HR : Hid (BtAt wr g l.reverse) := Lib.hid (by rw [← HS.out.done (by rw [← HL.out]; omega)]; exact HFY.out)
   go_wp2_with fail
   go_end0
   exact ⟨rfl, HR.out, HG.out⟩
theorem div10 (lo : Nat) (h : lo < 18446744073709551616) (w : World) : Calls Tryz.prog 103 #[.int .u64 0, .int .u64 (lo : Int), .int .u64 10] w fun e w' => e = .returned (.tuple #[.int .u64 ((lo / 10 : Nat) : Int), .int .u64 ((lo % 10 : Nat) : Int)]) ∧ Below w.heap.size w w' := by
  have h1 : (0 : Int) ≤ (lo : Int) := by omega
  have h2 : (lo : Int) ≤ 18446744073709551615 := by omega
  have e1 : ((lo / 10 : Nat) : Int) = (lo : Int) / 10 := by omega
  have e2 : ((lo % 10 : Nat) : Int) = (lo : Int) % 10 := by omega
  rw [e1, e2]
  clear e1 e2 h
  go_enter Tryz.func103, Tryz.ntmps103
  go_wp2_with fail
  go_quiet (fail)
  go_wp2_with fail
  go_ret2
  exact ⟨rfl, below_drewN (Below.refl _ _) nq⟩
theorem wsize (lo : Int) (h0 : 0 ≤ lo) (h1 : lo ≤ 18446744073709551615) (w : World) : Calls Tryz.prog 102 #[.agg #[.int .i64 0, .int .u64 lo]] w fun e w' => e = .returned (.tuple #[.int .u64 0, .int .u64 lo]) ∧ Below w.heap.size w w' := by
 have hx := Blk.new w 143 #[.int .i64 0, .int .u64 lo]
 have HX := Lib.hid hx
 have HB1 : Hid (Below w.heap.size w (w.alloc (.cells #[.int .i64 0, .int .u64 lo] 143))) := Lib.hid ((Below.refl _ w).alloc (Nat.le_refl _) _)
 clear hx
 go_enter Tryz.func102, Tryz.ntmps102
 go_wp2_with fail
 generalize (w.alloc (.cells #[.int .i64 0, .int .u64 lo] 143)) = w1 at *
 refine wp_region_held_drew (S := fun w' => Blk w' w.heap.size 143 #[.int .i64 0, .int .u64 lo] ∧ Below w.heap.size w w') (by kernel_rfl) (by exact ⟨HX.out.kept (below_drewN (Below.refl _ _) 1), below_drewN HB1.out 1⟩) (fun hHeld => ?_)
 refine tkH (i := 0) (v := ?_) rfl (by kernel_rfl) (fun _ _ _ h => h) (Or.inl ⟨by rfl, ?_⟩) (by assumption) ?_
 rotate_left
 ·intro w hSw
  try dsimp only at hSw
  go_simp
  try with_reducible rfl
 simp only [Act.put, z1, z2, z3, z4, z5, z6]
 refine tkH (i := 1) (v := ?_) rfl (by kernel_rfl) (fun _ _ _ h => h) (Or.inl ⟨by rfl, ?_⟩) (by assumption) ?_
 rotate_left
 ·intro w hSw
  have q0 := hSw.1.cell 0
  have q1 := hSw.1.cell 1
  simp at q0 q1
  go_simp
  try with_reducible rfl
 simp only [Act.put, z1, z2, z3, z4, z5, z6]
 refine tkH (i := 2) (v := ?_) rfl (by kernel_rfl) (fun _ _ _ h => h) (Or.inl ⟨by rfl, ?_⟩) (by assumption) ?_
 rotate_left
 ·intro w hSw
  try dsimp only at hSw
  go_simp
  try with_reducible rfl
 simp only [Act.put, z1, z2, z3, z4, z5, z6]
 refine tkH (i := 3) (v := ?_) rfl (by kernel_rfl) (fun _ _ _ h => h) (Or.inl ⟨by rfl, ?_⟩) (by assumption) ?_
 rotate_left
 ·intro w hSw
  try dsimp only at hSw
  go_simp
  try with_reducible rfl
 simp only [Act.put, z1, z2, z3, z4, z5, z6]
 refine tkH (i := 4) (v := ?_) rfl (by kernel_rfl) (fun _ _ _ h => h) (Or.inl ⟨by rfl, ?_⟩) (by assumption) ?_
 rotate_left
 ·intro w hSw
  have q0 := hSw.1.cell 0
  have q1 := hSw.1.cell 1
  simp at q0 q1
  go_simp
  try with_reducible rfl
 simp only [Act.put, z1, z2, z3, z4, z5, z6]
 refine tkH (i := 5) (v := ?_) rfl (by kernel_rfl) (fun _ _ _ h => h) (Or.inl ⟨by rfl, ?_⟩) (by assumption) ?_
 rotate_left
 ·intro w hSw
  try dsimp only at hSw
  go_simp
  try with_reducible rfl
 simp only [Act.put, z1, z2, z3, z4, z5, z6]
 refine tkH (i := 6) (v := ?_) rfl (by kernel_rfl) (fun _ _ _ h => h) (Or.inl ⟨by rfl, ?_⟩) (by assumption) ?_
 rotate_left
 ·intro w hSw
  try dsimp only at hSw
  go_simp
  try with_reducible rfl
 simp only [Act.put, z1, z2, z3, z4, z5, z6]
 refine wpAnyH_done (by kernel_rfl) ?_ _
 have q0 := hHeld.1.cell 0
 simp at q0
 have HBZ := Lib.hid hHeld.2
 clear hHeld
 go_wp2_with fail
 go_ret2
 exact ⟨rfl, HBZ.out⟩
def u8s (bs : List Int) : List UInt8 := bs.map fun n => UInt8.ofNat n.toNat
theorem strB_u8s (bs : List Int) : strB bs = sB (u8s bs) := rfl
theorem BtAt.of_own {w : World} {base : Nat} {ao : Option Addr} {cap : Nat} {bs : List Int} (h : OwnB w base (.slice ao bs.length cap) bs) (hn : 0 < bs.length) : ∃ g, ao = some ⟨g, 0, none⟩ ∧ base ≤ g ∧ BtAt w g bs ∧ bs.length ≤ cap ∧ cap ≤ maxLen := by
  rcases h.2 with ⟨e, h0⟩ | ⟨g, cap', cur, e, hg, hblk, hcap, hm, hsz, htk⟩
  · omega
  · simp only [Value.slice.injEq] at e
    obtain ⟨rfl, -, rfl⟩ := e
    have hb : Blk w g 5 cur := hblk
    refine ⟨g, rfl, hg, ⟨hb.lt, fun o => hb.frozen o, fun i u hu => ?_⟩, hcap, hm⟩
    rw [hb.cell i]
    have h1 : (bs.map (Value.int .u8))[i]? = some (.int .u8 u) := by rw [List.getElem?_map, hu]; rfl
    rw [← htk, List.getElem?_take] at h1
    split at h1
    · simpa using h1
    · cases h1
theorem BtAt.bytes {w : World} {g cap : Nat} {bs : List Int} (h : BtAt w g bs) (h1 : bs.length ≤ cap) (h2 : cap ≤ maxLen) : BytesAt w (.slice (some ⟨g, 0, none⟩) bs.length cap) bs :=
  ⟨_, cap, rfl, h1, h2, .inr ⟨g, 0, rfl, h.lt, fun i u hu => by rw [Nat.zero_add]; exact h.at_ i u hu⟩⟩
theorem reversed_any (w : World) (base : Nat) (v : Value) (bs : List Int) (h : OwnB w base v bs) (hn : 0 < bs.length) (hl : bs.length ≤ 1000) :
  Calls Tryz.prog 104 #[v] w fun e w' => e = .returned (.string (sB (u8s bs.reverse))) ∧ (∀ B, B ≤ base → B ≤ w.heap.size → Below B w w') := by
 obtain ⟨ao, cap, rfl, -, -⟩ := h.open_
 obtain ⟨g, rfl, hg, hb, hc1, hc2⟩ := BtAt.of_own h hn
 have PR := Lib.hid (btrev g cap bs (by omega) w hb)
 have HG := Lib.hid hg
 have hlr : bs.reverse.length = bs.length := List.length_reverse
 have HC : Hid (∀ w', BtAt w' g bs.reverse → (convert 41 9 (.slice (some ⟨g, 0, none⟩) bs.length cap)).run Tryz.prog w' = .ok (.string (sB (u8s bs.reverse))) w') := Lib.hid (fun w' hw => by
  have := strB_conv (P := Tryz.prog) (hw.bytes (cap := cap) (by rw [hlr]; exact hc1) hc2) 41 5 9 Tryz.underlying41 Tryz.underlying5 Tryz.underlying9
  rw [hlr, strB_u8s] at this
  exact this)
 generalize bs.length = n at *
 clear h hn hb hc1 hc2 hlr hg
 go_enter Tryz.func104, Tryz.ntmps104
 go_wp2_with fail
 with_reducible refine PR.out.mono ?_
 rintro e w1 ⟨rfl, hb, hgr⟩
 have hcv := HC.out _ hb
 have HGR := Lib.hid hgr
 clear hb hgr PR
 go_wp2_with fail
 go_ret
 refine ⟨rfl, fun B h1 h2 => ?_⟩
 exact (Below.refl B w).grown HGR.out h2 (fun k e => by have := HG.out; simp at e; omega)
end Go.Proofs.YtfeficdndjiijaaGreatDoor


namespace Go.Proofs.YtfeficdndjiijaaGreatDoor
open Go.RowKit
set_option linter.unusedVariables false
set_option linter.unusedSimpArgs false

def PlainW (a : List UInt8) : Prop := GoodW a ∧ Asc a ∧ a.length ≤ 5000
theorem num_plain (n : Int) (h0 : -9223372036854775808 ≤ n) (h1 : n ≤ 9223372036854775807) : PlainW (Lib.itoa n) := by
  refine ⟨⟨itoa_ne n, itoa_head n, fun x hx e => ?_⟩, fun x hx => ?_, ?_⟩
  · have := itoa_chars n x hx
    subst e
    revert this
    decide
  · rcases itoa_chars n x hx with h | h <;> omega
  · have := Lib.itoa_length_le n h0 h1
    omega
theorem asc_join : ∀ (ws : List (List UInt8)), (∀ a ∈ ws, Asc a) → Asc (joinW ws)
  | [], _ => fun x hx => by simp [joinW] at hx
  | a :: r, h => fun x hx => by
    rw [joinW_cons] at hx
    rcases List.mem_append.1 hx with h1 | h1
    · exact h a (by simp) x h1
    · split at h1
      · simp at h1
      · rcases List.mem_cons.1 h1 with h2 | h2
        · subst h2; decide
        · exact asc_join r (fun b hb => h b (by simp [hb])) x h2
theorem len_join (k : Nat) : ∀ (ws : List (List UInt8)), (∀ a ∈ ws, a.length ≤ k) → (joinW ws).length ≤ ws.length * (k + 1)
  | [], _ => by simp [joinW]
  | a :: r, h => by
    rw [joinW_cons, List.length_append]
    have h1 := h a (by simp)
    have h2 := len_join k r (fun b hb => h b (by simp [hb]))
    rw [List.length_cons, Nat.add_mul, Nat.one_mul]
    split
    · simp; omega
    · simp; omega
theorem parse_ws (PC : Value → World → Prop) (hPC : Stays PC) (ws : List (List UInt8)) (hg : ∀ a ∈ ws, PlainW a) (hlen : ws.length ≤ 12) (hws : ws ≠ []) (w : World) (ht : Tab w)
    (hcmd : ∀ (w1 : World) (R : Nat) (v : Value) (en : Int), w.heap.size ≤ w1.heap.size → Rd w1 R v 0 en → WdAt w1 v ws → Tab w1 →
      Calls Tryz.prog 44 #[.pointer (some ⟨R, 0, none⟩)] w1 fun e w' => ∃ c, e = .returned c ∧ PC c w' ∧ Rd w' R v (ws.length : Int) en ∧ w1.grownBy w' (some R)) :
    Calls Tryz.prog 21 #[.string (sB (joinW ws))] w fun e w' => ∃ c, e = .returned (.tuple #[c, .int .i64 0, .int .i64 0]) ∧ PC c w' ∧ Below w.heap.size w w' := by
  have hl := len_join 5000 ws (fun a ha => (hg a ha).2.2)
  have h12 : ws.length * 5001 ≤ 12 * 5001 := Nat.mul_le_mul_right _ hlen
  exact parse_of PC hPC _ ws rfl (fun a ha => (hg a ha).1) (asc_join ws (fun a ha => (hg a ha).2.1)) (by omega) (by omega) hws w ht hcmd
theorem stays_eq (c0 : Value) : Stays (fun c _ => c = c0) := fun c w w' h _ => h
theorem AggSt.zero {w : World} {A bm base : Nat} {b r d m s : Int} {S L : Nat → Nat} {X : Nat → Nat → Value} {Ar G C : Nat → Nat → Nat} {Z : Nat → Nat → List Int} {T : Nat → Option Nat × Option Nat} (h : AggIs w A bm 0 T) (h1 : base ≤ A) (h2 : base ≤ bm) (ht : Tab w) : AggSt w base A bm 0 b r d m s S L X Ar G C Z :=
  ⟨⟨T, h, fun i h3 h4 => by omega⟩, fun i h3 h4 => by omega, fun i j p q h3 h4 => by omega, ⟨h1, h2⟩, ht⟩
theorem Tab.onl {F : Nat → Prop} {w w' : World} (h : Tab w) (ho : Onl F w w') (hF : ∀ k, F k → k ≠ 4) : Tab w' := by
  unfold Tab Lib.TabIs World.var? at h ⊢
  rw [Tryz.tabNum] at h ⊢
  simp only [Option.bind_some] at h ⊢
  have hlt : 4 < w.heap.size := by
    cases hx : w.heap[4]? with
    | none => rw [hx] at h; simp at h
    | some o => exact (Array.getElem?_eq_some_iff.1 hx).1
  rw [ho.2.2.2.2 _ hlt (fun hf => hF _ hf rfl)]
  exact h
theorem Tab.lt {w : World} (h : Tab w) : 4 < w.heap.size := by
  unfold Tab Lib.TabIs World.var? at h
  rw [Tryz.tabNum] at h
  simp only [Option.bind_some] at h
  cases hx : w.heap[4]? with
  | none => rw [hx] at h; simp at h
  | some o => exact (Array.getElem?_eq_some_iff.1 hx).1
theorem AggSt.push {w1 w2 : World} {base A bm n : Nat} {b r d m s : Int} {S L : Nat → Nat} {X : Nat → Nat → Value} {Ar G C : Nat → Nat → Nat} {Z : Nat → Nat → List Int} {T : Nat → Option Nat × Option Nat} {S' L' lo : Nat} {X' : Nat → Value} {A' G' C' : Nat → Nat} {Z' : Nat → List Int} (h : AggSt w1 base A bm n b r d m s S L X Ar G C Z) (hT : ∀ i, 1 ≤ i → i ≤ n → T i = (some (S i), none)) (hbase : 4 < base) (hlo0 : base ≤ lo)
  (hlo : ∀ i p, 1 ≤ i → i ≤ n → p ≤ b.toNat → C i p < lo) (hst : StIs w1 lo S' L' b r d m s X' A' G' C' Z') (ha : AggIs w2 A bm (n + 1) (upT T (n + 1) (some S') none)) (hc : Chg [A, bm] w1 w2) (hns : NoSt w1 A ∧ NoSt w1 bm) :
  AggSt w2 base A bm (n + 1) b r d m s (upN S (n + 1) S') (upN L (n + 1) L') (upN X (n + 1) X') (upN Ar (n + 1) A') (upN G (n + 1) G') (upN C (n + 1) C') (upN Z (n + 1) Z') := by
 have ho := Onl.of_chg hc
 have hF : ∀ (CC : Nat → Nat), ∀ k, k ∈ [A, bm] → NoSt w1 k ∨ ((∃ cs, Blk w1 k 2 cs) ∧ ∀ n, n ≤ b.toNat → k ≠ CC n) := fun CC k hk => by
  simp at hk
  rcases hk with rfl | rfl
  ·exact .inl hns.1
  ·exact .inl hns.2
 refine ⟨⟨_, ha, fun i h1 h2 => ?_⟩, fun i h1 h2 => ?_, fun i j p q h1 h2 h3 h4 hne h5 h6 => ?_, h.lo, h.tab.onl ho (fun k hk => by simp at hk; have := h.lo; rcases hk with rfl | rfl <;> omega)⟩
 ·by_cases e : i = n + 1
  ·subst e; simp [upT, upN_same]
  ·rw [upN_other _ _ e]
   simp only [upT, if_neg e]
   exact hT i h1 (by omega)
 ·by_cases e : i = n + 1
  ·subst e
   simp only [upN_same]
   exact (hst.low_ hlo0).onl ho (hF _)
  ·simp only [upN_other _ _ e]
   exact (h.st i h1 (by omega)).onl ho (hF _)
 ·by_cases e1 : i = n + 1
  ·subst e1
   rw [upN_same, upN_other _ _ (Ne.symm hne)]
   have h7 := hst.low p h5
   have h8 := hlo j q h3 (by omega) h6
   omega
  ·rw [upN_other _ _ e1]
   by_cases e2 : j = n + 1
   ·subst e2
    rw [upN_same]
    have h7 := hst.low q h6
    have h8 := hlo i p h1 (by omega) h5
    omega
   ·rw [upN_other _ _ e2]
    exact h.apart i j p q h1 (by omega) h3 (by omega) hne h5 h6
end Go.Proofs.YtfeficdndjiijaaGreatDoor


namespace Go.Proofs.YtfeficdndjiijaaGreatDoor
open Go.RowKit
set_option linter.unusedVariables false
set_option linter.unusedSimpArgs false

def wCreate : List UInt8 := [99, 114, 101, 97, 116, 101]
def wAdd : List UInt8 := [97, 100, 100]
theorem plainLit (a : List UInt8) (h : (a != [] && a.head? != some 34 && a.all (fun x => x != 32 && decide (x.toNat < 128)) && decide (a.length ≤ 5000)) = true) : PlainW a := by
  simp only [Bool.and_eq_true, bne_iff_ne, ne_eq, List.all_eq_true, decide_eq_true_eq] at h
  obtain ⟨⟨⟨h1, h2⟩, h3⟩, h4⟩ := h
  exact ⟨⟨h1, h2, fun x hx => (h3 x hx).1⟩, fun x hx => (h3 x hx).2, h4⟩
theorem AggSt.base_le {w : World} {base A bm n : Nat} {b r d m s : Int} {S L : Nat → Nat} {X : Nat → Nat → Value} {Ar G C : Nat → Nat → Nat} {Z : Nat → Nat → List Int} (h : AggSt w base A bm n b r d m s S L X Ar G C Z) : base ≤ w.heap.size ∧ A < w.heap.size ∧ bm < w.heap.size := by
  obtain ⟨T, h1, h2⟩ := h.agg
  have := h1.lt
  have := h.lo
  omega
theorem AggSt.ltC {w : World} {base A bm n : Nat} {b r d m s : Int} {S L : Nat → Nat} {X : Nat → Nat → Value} {Ar G C : Nat → Nat → Nat} {Z : Nat → Nat → List Int} (h : AggSt w base A bm n b r d m s S L X Ar G C Z) (i p : Nat) (h1 : 1 ≤ i) (h2 : i ≤ n) (h3 : p ≤ b.toNat) : C i p < w.heap.size := ((h.st i h1 h2).under.2.2 p h3).2.2
theorem line_create (w : World) (base A bm n : Nat) (b r d m s x4 : Int) (S L : Nat → Nat) (X : Nat → Nat → Value) (Ar G C : Nat → Nat → Nat) (Z : Nat → Nat → List Int) (h : AggSt w base A bm n b r d m s S L X Ar G C Z) (hg : 4 < base) (hn : n < 32) (hr : rightB b r d m = true) (hx4 : In64 x4) (hs : IntKind.u64.wrap x4 = s) :
  Calls Tryz.prog 8 #[.pointer (some ⟨A, 0, none⟩), .string (sB (joinW [wCreate, Lib.itoa b, Lib.itoa r, Lib.itoa d, Lib.itoa m, Lib.itoa x4]))] w fun e w' => ∃ t, e = .returned (.tuple #[.string t, .bool true]) ∧ t = sB ([104, 97, 110, 100, 108, 101, 32] ++ Lib.itoa ((n : Int) + 1)) ∧
   ∃ S' L' X' A' G' C', AggSt w' base A bm (n + 1) b r d m s (upN S (n + 1) S') (upN L (n + 1) L') (upN X (n + 1) X') (upN Ar (n + 1) A') (upN G (n + 1) G') (upN C (n + 1) C') (upN Z (n + 1) (zeroZ b r d m)) ∧ AOnl base A bm w w' := by
 have hR := right_of hr
 have i64 : ∀ x : Int, 0 ≤ x → x ≤ 1000 → In64 x := fun x h0 h1 => by unfold In64; omega
 have hb := i64 b (by omega) (by omega)
 have hrr := i64 r (by omega) (by omega)
 have hd := i64 d (by omega) (by omega)
 have hm := i64 m (by omega) (by omega)
 obtain ⟨T, hT1, hT2⟩ := h.agg
 have hsz := h.base_le
 refine line_of A _ w (fun c _ => c = .iface 110 (.agg #[.int .i64 b, .int .i64 r, .int .i64 d, .int .i64 m, .int .u64 s]))
  (fun rr w2 => rr = .iface 135 (.agg #[.int .i64 ((n : Int) + 1)]) ∧ ∃ S' L' X' A' G' C', AggSt w2 base A bm (n + 1) b r d m s (upN S (n + 1) S') (upN L (n + 1) L') (upN X (n + 1) X') (upN Ar (n + 1) A') (upN G (n + 1) G') (upN C (n + 1) C') (upN Z (n + 1) (zeroZ b r d m)) ∧ AOnl base A bm w w2)
  _ (fun c _ hc => ⟨_, _, hc⟩) ?_ ?_ ?_
 ·refine parse_ws _ (stays_eq _) _ (fun a ha => ?_) (by simp) (by simp) w h.tab (fun w1 R v en hle hr1 hv ht1 => ?_)
  ·simp only [List.mem_cons, List.mem_nil_iff, or_false] at ha
   rcases ha with rfl | rfl | rfl | rfl | rfl | rfl
   ·exact plainLit _ (by decide)
   ·exact num_plain _ hb.1 hb.2
   ·exact num_plain _ hrr.1 hrr.2
   ·exact num_plain _ hd.1 hd.2
   ·exact num_plain _ hm.1 hm.2
   ·exact num_plain _ hx4.1 hx4.2
  ·refine (cmd_create w1 R v _ en b r d m x4 hr1 hv rfl (by simp) rfl rfl rfl rfl rfl hb hrr hd hm hx4 ht1 s hs).mono ?_
   rintro e w' ⟨rfl, h2, h3⟩
   exact ⟨_, rfl, rfl, h2, h3⟩
 ·rintro c w1 hb1 rfl
  refine do_create w1 A b r d m s _ (fun S' w2 => ∃ lo L' X' A' G' C', w.heap.size ≤ lo ∧ StIs w2 lo S' L' b r d m s X' A' G' C' (zeroZ b r d m) ∧ Below w.heap.size w w2) ?_ ?_
  ·intro w2 hb2
   refine (stnew_yes b r d m s hr w2).mono ?_
   rintro e w3 ⟨S', L', X', A', G', C', rfl, -, hst, hb3⟩
   have h12 := btr hb1 hb2
   exact ⟨S', rfl, _, L', X', A', G', C', h12.size, hst, btr h12 hb3⟩
  ·rintro S' w2 ⟨lo, L', X', A', G', C', hlo, hst, hb2⟩
   have hk := h.kept hb2
   have ha2 := hT1.kept hb2
   refine (aggmade w2 A bm n T (some S') none ha2 hn).mono ?_
   rintro e w3 ⟨rfl, ha3, hc⟩
   refine ⟨_, rfl, rfl, S', L', X', A', G', C', hk.push hT2 hg (by omega) (fun i p h1 h2 h3 => Nat.lt_of_lt_of_le (h.ltC i p h1 h2 h3) hlo) hst ha3 hc ha2.noSt, ?_⟩
   exact (AOnl.below hb2).trans (AOnl.of (Onl.of_chg hc) (fun k _ hk => by simp at hk; rcases hk with e | e; exact .inl e; exact .inr (.inl e)))
 ·rintro rr w2 ⟨rfl, S', L', X', A', G', C', hA, hB⟩
  refine (text_handle _ (by omega) (by omega) w2 hA.tab).mono ?_
  rintro e w3 ⟨rfl, hb3⟩
  exact ⟨_, rfl, rfl, S', L', X', A', G', C', hA.kept hb3, hB.trans (AOnl.below hb3)⟩
theorem AggIs.onl {F : Nat → Prop} {w w' : World} {A bm n : Nat} {T : Nat → Option Nat × Option Nat} (h : AggIs w A bm n T) (ho : Onl F w w') (hA : ¬ F A) (hB : ¬ F bm) : AggIs w' A bm n T := by
  have hlt := h.lt
  obtain ⟨h1, D, ⟨es, clock, h2, h4⟩, h3⟩ := h
  exact ⟨(ho.2.2.2.2 A hlt.1 hA).trans h1, D, ⟨es, clock, (ho.2.2.2.2 bm hlt.2 hB).trans h2, h4⟩, h3⟩
theorem AggSt.upd {w1 w2 : World} {base A bm n : Nat} {b r d m s : Int} {S L : Nat → Nat} {X : Nat → Nat → Value} {Ar G C : Nat → Nat → Nat} {Z : Nat → Nat → List Int} (h : AggSt w1 base A bm n b r d m s S L X Ar G C Z) (hbase : 4 < base) {i : Nat} (h1 : 1 ≤ i) (h2 : i ≤ n) {Z' : Nat → List Int}
  (hst : StIs w2 base (S i) (L i) b r d m s (X i) (Ar i) (G i) (C i) Z') (hg : RGr w1 w2 (C i) (b.toNat + 1)) : AggSt w2 base A bm n b r d m s S L X Ar G C (upN Z i Z') ∧ AOnl base A bm w1 w2 := by
 have ho := Onl.of_rgr hg
 have hsi := h.st i h1 h2
 have hblk : ∀ p, p ≤ b.toNat → ∃ cs, Blk w1 (C i p) 2 cs := fun p hp => (hsi.lev p hp).cells
 obtain ⟨T, hT1, hT2⟩ := h.agg
 refine ⟨⟨⟨T, hT1.onl ho ?_ ?_, hT2⟩, fun j h3 h4 => ?_, h.apart, h.lo, h.tab.onl ho ?_⟩, AOnl.of ho ?_⟩
 ·rintro ⟨p, hp, e⟩
  obtain ⟨cs, hc⟩ := hblk p (by omega)
  rw [← e] at hc
  exact (hT1.noSt.1 _ _ hc).1 rfl
 ·rintro ⟨p, hp, e⟩
  obtain ⟨cs, hc⟩ := hblk p (by omega)
  rw [← e] at hc
  exact (hT1.noSt.2 _ _ hc).1 rfl
 ·by_cases e : j = i
  ·subst e; rw [upN_same]; exact hst
  ·rw [upN_other _ _ e]
   refine (h.st j h3 h4).onl ho ?_
   rintro k ⟨p, hp, rfl⟩
   exact .inr ⟨hblk p (by omega), fun q hq => h.apart i j p q h1 h2 h3 h4 (Ne.symm e) (by omega) hq⟩
 ·rintro k ⟨p, hp, rfl⟩
  have := hsi.low p (by omega)
  omega
 ·rintro k - ⟨p, hp, rfl⟩
  exact .inr (.inr ⟨hsi.low p (by omega), hblk p (by omega)⟩)
theorem line_add (w : World) (base A bm n : Nat) (b r d m s : Int) (S L : Nat → Nat) (X : Nat → Nat → Value) (Ar G C : Nat → Nat → Nat) (Z : Nat → Nat → List Int) (h : AggSt w base A bm n b r d m s S L X Ar G C Z) (hg : 4 < base) (hn : n ≤ 32) (s0 : 0 ≤ s) (s1 : s ≤ 18446744073709551615)
  (i : Nat) (h1 : 1 ≤ i) (h2 : i ≤ n) (key : Nat) (hk : key ≤ 9223372036854775807) (x : Int) (hx : In64 x) (herr : stErr b r d m s (Z i) key x = 0) :
  Calls Tryz.prog 8 #[.pointer (some ⟨A, 0, none⟩), .string (sB (joinW [wAdd, Lib.itoa (i : Int), Lib.itoa (key : Int), Lib.itoa x]))] w fun e w' => ∃ t, e = .returned (.tuple #[.string t, .bool true]) ∧ t = sB [100, 111, 110, 101] ∧
   AggSt w' base A bm n b r d m s S L X Ar G C (upN Z i (stUpd b r d m s (Z i) key x)) ∧ AOnl base A bm w w' := by
 obtain ⟨T, hT1, hT2⟩ := h.agg
 have hsz := h.base_le
 have hi64 : In64 (i : Int) := by unfold In64; omega
 refine line_of A _ w (fun c _ => c = .iface 117 (.agg #[.int .i64 (i : Int), .bool false, .string ⟨#[]⟩, .int .u64 (key : Int), .int .i64 x]))
  (fun rr w2 => rr = .iface 133 (.agg #[]) ∧ AggSt w2 base A bm n b r d m s S L X Ar G C (upN Z i (stUpd b r d m s (Z i) key x)) ∧ AOnl base A bm w w2)
  _ (fun c _ hc => ⟨_, _, hc⟩) ?_ ?_ ?_
 ·refine parse_ws _ (stays_eq _) _ (fun a ha => ?_) (by simp) (by simp) w h.tab (fun w1 R v en hle hr1 hv ht1 => ?_)
  ·simp only [List.mem_cons, List.mem_nil_iff, or_false] at ha
   rcases ha with rfl | rfl | rfl | rfl
   ·exact plainLit _ (by decide)
   ·exact num_plain _ hi64.1 hi64.2
   ·exact num_plain _ (by omega) (by omega)
   ·exact num_plain _ hx.1 hx.2
  ·refine (cmd_add w1 R v _ en i key x hr1 hv rfl (by simp) rfl rfl rfl hi64 (by omega) (by omega) hx ht1).mono ?_
   rintro e w' ⟨rfl, h2, h3⟩
   exact ⟨_, rfl, rfl, h2, h3⟩
 ·rintro c w1 hb1 rfl
  refine do_add w1 A i key x _ (fun w2 hb2 => ?_)
  have hk2 := hT1.kept (btr hb1 hb2)
  refine (aggadd w2 A bm n T i key x (S i) hk2 (by omega) (by omega) (by omega) (by rw [Int.toNat_natCast]; exact hT2 i h1 h2) (fun w3 w4 => Below w2.heap.size w2 w3 → AggSt w4 base A bm n b r d m s S L X Ar G C (upN Z i (stUpd b r d m s (Z i) key x)) ∧ AOnl base A bm w w4) (fun w3 hb3 => ?_)).mono ?_
  ·have hb13 := btr (btr hb1 hb2) hb3
   have h3 := h.kept hb13
   refine (stupdate w3 base (S i) (L i) b r d m s (X i) (Ar i) (G i) (C i) (Z i) (h3.st i h1 h2) s0 s1 key (by omega) x hx).mono ?_
   rintro e w4 ⟨rfl, hst, hgr⟩
   rw [herr]
   refine ⟨rfl, fun _ => ?_⟩
   have hu := h3.upd hg h1 h2 hst hgr
   exact ⟨hu.1, (AOnl.below hb13).trans hu.2⟩
  ·rintro e w4 ⟨rfl, w3, hb3, hu⟩
   exact ⟨_, rfl, rfl, hu hb3⟩
 ·rintro rr w2 ⟨rfl, hA, hB⟩
  refine (text_done w2).mono ?_
  rintro e w3 ⟨rfl, hb3⟩
  exact ⟨_, rfl, rfl, hA.kept hb3, hB.trans (AOnl.below hb3)⟩
end Go.Proofs.YtfeficdndjiijaaGreatDoor


namespace Go.Proofs.YtfeficdndjiijaaGreatDoor
open Go.RowKit Go.Shelf
set_option linter.unusedVariables false
set_option linter.unusedSimpArgs false

theorem own_ints {w : World} {base g n cap : Nat} {xs : List Int} (h : w.ownsRow base 2 1 (.slice (some ⟨g, 0, none⟩) n cap) n (numsV xs)) (hn : n = xs.length) : g < w.heap.size ∧ ∀ i u, xs[i]? = some u → w.cell? ⟨g, i, none⟩ = some (.int .i64 u) := by
  rcases h.2 with ⟨e, h0⟩ | ⟨g', cap', cur, e, hb, hg, hnc, hcm, hsz, htake⟩
  · cases e
  · simp only [Value.slice.injEq, Option.some.injEq, Addr.mk.injEq] at e
    obtain ⟨⟨rfl, -⟩, -, rfl⟩ := e
    have hg' : Blk w g 2 cur := hg
    refine ⟨hg'.lt, fun i u hu => ?_⟩
    rw [hg'.cell i]
    have hlt := (List.getElem?_eq_some_iff.1 hu).1
    have h1 : (numsV xs)[i]? = some (.int .i64 u) := by rw [numsV, List.getElem?_map, hu]; rfl
    rw [← htake, List.getElem?_take, if_pos (by omega)] at h1
    simpa using h1
set_option maxRecDepth 100000 in
set_option maxHeartbeats 8000000 in
theorem range_any (w : World) (base S L : Nat) (b r d m s : Int) (X : Nat → Value) (A G C : Nat → Nat) (Z : Nat → List Int) (h : StIs w base S L b r d m s X A G C Z) (s0 : 0 ≤ s) (s1 : s ≤ 18446744073709551615) (nb l0 h0 : Nat) (hbn : b = (nb : Int)) (hb1 : 1 ≤ nb) (hb : nb ≤ 59) (hlh : l0 ≤ h0) (hhi : h0 < 2 ^ nb) (hne : covR (nb + 1) 0 l0 h0 ≠ [])
  (hks : ∀ p ∈ covO (nb + 1) 0 l0 h0 ++ (covR (nb + 1) 0 l0 h0).reverse, p.1 ≤ nb ∧ p.2 < 18446744073709551616 ∧ (p.2 : Int) < keysI b r d m (p.1 : Int))
  (hz : ∀ x ∈ ptsL b r d m s Z (covO (nb + 1) 0 l0 h0 ++ (covR (nb + 1) 0 l0 h0).reverse), -9223372036854775808 ≤ x ∧ x ≤ 9223372036854775807) (x : Int) (hx : x = sumL (ptsL b r d m s Z (covO (nb + 1) 0 l0 h0 ++ (covR (nb + 1) 0 l0 h0).reverse))) (x0 : -9223372036854775808 ≤ x) (x1 : x ≤ 9223372036854775807) :
  Calls Tryz.prog 95 #[.pointer (some ⟨S, 0, none⟩), .int .u64 (l0 : Int), .int .u64 (h0 : Int)] w fun e w' => e = .returned (.tuple #[.int .i64 x, .int .i64 0]) ∧ Below w.heap.size w w' := by
 have PP := Lib.hid (parts_any w base S L b r d m s X A G C Z h s0 s1 nb l0 h0 hbn hb1 hb hlh hhi hne hks)
 have hln : (covO (nb + 1) 0 l0 h0 ++ (covR (nb + 1) 0 l0 h0).reverse).length ≤ 180 := by have := cov_len (nb + 1) 0 l0 h0; simp; omega
 have hpn : 0 < (covO (nb + 1) 0 l0 h0 ++ (covR (nb + 1) 0 l0 h0).reverse).length := by have := List.length_pos_iff.2 hne; simp; omega
 obtain ⟨PL, hPL⟩ : ∃ PL, PL = covO (nb + 1) 0 l0 h0 ++ (covR (nb + 1) 0 l0 h0).reverse := ⟨_, rfl⟩
 rw [← hPL] at PP hz hx hln hpn
 obtain ⟨zs, hzs⟩ : ∃ zs, zs = ptsL b r d m s Z PL := ⟨_, rfl⟩
 have hzl : zs.length = PL.length := by rw [hzs, ptsL, List.length_map]
 rw [← hzs] at PP hz hx
 rw [← hzl] at PP hln hpn
 have PS := Lib.hid (fun C cap w hC hCw => sum_yes zs C cap (by omega) hz w hC hCw x hx x0 x1)
 have HPN := Lib.hid hpn
 clear h hks hz hx hPL hzs hzl hln hpn hne
 go_enter Tryz.func95, Tryz.ntmps95
 go_wp2_with fail
 with_reducible refine PP.out.mono ?_
 rintro e w2 ⟨v, rfl, hown, hb2⟩
 obtain ⟨ao, cap, hv⟩ := own_form hown
 subst hv
 have HB2 := Lib.hid hb2
 have ⟨g, hao, hgl, hgc⟩ : ∃ g, ao = some ⟨g, 0, none⟩ ∧ g < w2.heap.size ∧ ∀ i u, zs[i]? = some u → w2.cell? ⟨g, i, none⟩ = some (.int .i64 u) := by
  rcases hown.2 with ⟨e, h0⟩ | ⟨g, cap', cur, e, -⟩
  ·exact absurd h0 (by have := HPN.out; omega)
  ·simp only [Value.slice.injEq] at e
   obtain ⟨rfl, -, -⟩ := e
   exact ⟨g, rfl, own_ints hown rfl⟩
 subst hao
 have PS := Lib.hid (PS.out g cap w2 hgc hgl)
 clear hown hb2 PP hgl hgc
 go_wp2_with fail
 with_reducible refine PS.out.mono ?_
 rintro e w3 ⟨rfl, hb3⟩
 have HB3 := Lib.hid (btr HB2.out hb3)
 clear hb3 PS
 go_wp2_with fail
 go_ret2
 exact ⟨rfl, HB3.out⟩
end Go.Proofs.YtfeficdndjiijaaGreatDoor


namespace Go.Proofs.YtfeficdndjiijaaGreatDoor
open Go.RowKit
set_option linter.unusedVariables false
set_option linter.unusedSimpArgs false

def wRange : List UInt8 := [114, 97, 110, 103, 101]
def QryIs (V : ByteArray) (x0 x1 x2 : Int) (lo : Nat) (c : Value) (w : World) : Prop :=
  ∃ g, lo ≤ g ∧ c = .iface 123 (.agg #[.string V, .int .i64 x0, .slice (some ⟨g, 1, none⟩) 2 2]) ∧ w.rowIs g 2 3 (fun j => .int .i64 (cellD [x0, x1, x2] j))
theorem qry_stays (V : ByteArray) (x0 x1 x2 : Int) (lo : Nat) : Stays (QryIs V x0 x1 x2 lo) := fun c w w' h hb => by
  obtain ⟨g, h0, h1, h2⟩ := h
  exact ⟨g, h0, h1, h2.of_block (hb.block g h2.lt)⟩
theorem line_range (w : World) (base A bm n : Nat) (nb : Nat) (r d m s : Int) (S L : Nat → Nat) (X : Nat → Nat → Value) (Ar G C : Nat → Nat → Nat) (Z : Nat → Nat → List Int) (h : AggSt w base A bm n (nb : Int) r d m s S L X Ar G C Z) (hn : n ≤ 32) (s0 : 0 ≤ s) (s1 : s ≤ 18446744073709551615)
  (i : Nat) (h1 : 1 ≤ i) (h2 : i ≤ n) (l0 h0 : Nat) (hb1 : 1 ≤ nb) (hb : nb ≤ 59) (hlh : l0 ≤ h0) (hhi : h0 < 2 ^ nb) (hne : covR (nb + 1) 0 l0 h0 ≠ [])
  (hks : ∀ p ∈ covO (nb + 1) 0 l0 h0 ++ (covR (nb + 1) 0 l0 h0).reverse, p.1 ≤ nb ∧ p.2 < 18446744073709551616 ∧ (p.2 : Int) < keysI (nb : Int) r d m (p.1 : Int))
  (hz : ∀ x ∈ ptsL (nb : Int) r d m s (Z i) (covO (nb + 1) 0 l0 h0 ++ (covR (nb + 1) 0 l0 h0).reverse), -9223372036854775808 ≤ x ∧ x ≤ 9223372036854775807) (x : Int) (hx : x = sumL (ptsL (nb : Int) r d m s (Z i) (covO (nb + 1) 0 l0 h0 ++ (covR (nb + 1) 0 l0 h0).reverse))) (x0 : -9223372036854775808 ≤ x) (x1 : x ≤ 9223372036854775807) :
  Calls Tryz.prog 8 #[.pointer (some ⟨A, 0, none⟩), .string (sB (joinW [wRange, Lib.itoa (i : Int), Lib.itoa (l0 : Int), Lib.itoa (h0 : Int)]))] w fun e w' => ∃ t, e = .returned (.tuple #[.string t, .bool true]) ∧ t = sB ([110, 117, 109, 98, 101, 114, 32] ++ Lib.itoa x) ∧
   AggSt w' base A bm n (nb : Int) r d m s S L X Ar G C Z ∧ Below w.heap.size w w' := by
 obtain ⟨T, hT1, hT2⟩ := h.agg
 have hsz := h.base_le
 have h60 : 2 ^ nb ≤ 2 ^ 59 := Nat.pow_le_pow_right (by decide) hb
 have h59 : (2 : Nat) ^ 59 = 576460752303423488 := by decide
 have hi64 : In64 (i : Int) := by unfold In64; omega
 have hl64 : In64 (l0 : Int) := by unfold In64; omega
 have hh64 : In64 (h0 : Int) := by unfold In64; omega
 refine line_of A _ w (QryIs (sB wRange) (i : Int) (l0 : Int) (h0 : Int) 0)
  (fun rr w2 => rr = .iface 137 (.agg #[.int .i64 x]) ∧ AggSt w2 base A bm n (nb : Int) r d m s S L X Ar G C Z ∧ Below w.heap.size w w2)
  _ (fun c _ hc => by obtain ⟨g, -, hc, -⟩ := hc; exact ⟨_, _, hc⟩) ?_ ?_ ?_
 ·refine parse_ws _ (qry_stays _ _ _ _ _) _ (fun a ha => ?_) (by simp) (by simp) w h.tab (fun w1 R v en hle hr1 hv ht1 => ?_)
  ·simp only [List.mem_cons, List.mem_nil_iff, or_false] at ha
   rcases ha with rfl | rfl | rfl | rfl
   ·exact plainLit _ (by decide)
   ·exact num_plain _ hi64.1 hi64.2
   ·exact num_plain _ hl64.1 hl64.2
   ·exact num_plain _ hh64.1 hh64.2
  ·refine (cmd_range w1 R v _ en i l0 h0 hr1 hv rfl (by simp) rfl rfl rfl hi64 hl64 hh64 ht1).mono ?_
   rintro e w' ⟨⟨g, rfl, hg, hrow⟩, h2, h3⟩
   exact ⟨_, rfl, ⟨g, Nat.zero_le _, rfl, hrow⟩, h2, h3⟩
 ·rintro c w1 hb1' ⟨g, -, rfl, hrow⟩
  refine do_query w1 A (sB wRange) (i : Int) (some ⟨g, 1, none⟩) 2 2 _ (fun w2 hb2 => ?_)
  have hb12 := btr hb1' hb2
  have hk2 := hT1.kept hb12
  refine (agg_range w2 A bm n T i l0 h0 (S i) g l0 h0 x (by rw [wrapU_mod]; omega) (by rw [wrapU_mod]; omega) hk2 (by omega) (by omega) (by omega) (by rw [Int.toNat_natCast]; exact hT2 i h1 h2) (hrow.of_block (hb2.block g hrow.lt)) (fun w3 hb3 => ?_)).mono ?_
  ·have h3 := h.kept (btr hb12 hb3)
   exact range_any w3 base (S i) (L i) (nb : Int) r d m s (X i) (Ar i) (G i) (C i) (Z i) (h3.st i h1 h2) s0 s1 nb l0 h0 rfl hb1 hb hlh hhi hne hks hz x hx x0 x1
  ·rintro e w4 ⟨rfl, hb4⟩
   exact ⟨_, rfl, rfl, h.kept (btr hb12 hb4), btr hb12 hb4⟩
 ·rintro rr w2 ⟨rfl, hA, hB⟩
  refine (text_number x x0 x1 w2 hA.tab).mono ?_
  rintro e w3 ⟨rfl, hb3⟩
  exact ⟨_, rfl, rfl, hA.kept hb3, btr hB hb3⟩
end Go.Proofs.YtfeficdndjiijaaGreatDoor


namespace Go.Proofs.YtfeficdndjiijaaGreatDoor
open Go.RowKit
set_option linter.unusedVariables false
set_option linter.unusedSimpArgs false

theorem keys_topQ {b r d m : Int} (hr : rightB b r d m = true) : keysI b r d m b = 1 := by
  have := right_of hr
  rw [keysI_yes hr (by omega) (by omega), show (b - b).toNat = 0 by omega]; rfl
theorem exact_topQ {b r d m : Int} (hr : rightB b r d m = true) : exactB b r d m b = true := by
  have := right_of hr
  exact decide_eq_true ⟨by rw [keys_topQ hr]; omega, by rw [keys_topQ hr]; omega⟩
set_option maxRecDepth 100000 in
set_option maxHeartbeats 8000000 in
theorem sttotal (w : World) (base S L : Nat) (nb : Nat) (r d m s : Int) (X : Nat → Value) (A G C : Nat → Nat) (Z : Nat → List Int) (h : StIs w base S L (nb : Int) r d m s X A G C Z) (s0 : 0 ≤ s) (s1 : s ≤ 18446744073709551615) :
  Calls Tryz.prog 91 #[.pointer (some ⟨S, 0, none⟩)] w fun e w' => e = .returned (.int .i64 (lvPt (nb : Int) r d m s (nb : Int) (Z nb) 0)) ∧ Below w.heap.size w w' := by
 have hl := h.lev nb (by simp)
 have hrt := h.right
 have hR := right_of hrt
 obtain ⟨cap, hbx, hcap⟩ := h.box
 obtain ⟨cur, hrow, hcur⟩ := h.row
 rw [Int.toNat_natCast] at hbx hcap hcur
 have cx := hcur nb (Nat.le_refl _)
 have hkt := keys_topQ hrt
 have i0 : (0 : Int) ≤ (nb : Int) := by omega
 have i1 : (nb : Int) < (nb : Int) + 1 := by omega
 have hnb : nb ≤ 59 := by omega
 clear h hcap hcur hR
 rcases hl with ⟨h1, h2, h3⟩ | ⟨h1, h2, h3⟩
 ·rw [h2] at cx
  have HV : Hid (lvPt (nb : Int) r d m s (nb : Int) (Z nb) 0 = cellD (Z nb) 0) := Lib.hid (by unfold lvPt; rw [if_pos h1])
  have PC := Lib.hid (fun wq hq => expoint_yes wq (A nb) (G nb) (C nb) (nb : Int) r d m s (nb : Int) (keysI (nb : Int) r d m (nb : Int)).toNat 0 (Z nb) hq (by rw [hkt]; decide))
  have hm := Tryz.mExPoint
  have H3 := Lib.hid h3
  clear h1 h2 h3 hkt hrt
  go_enter Tryz.func91, Tryz.ntmps91
  go_wp2_with fail
  refine wp_region_held_drew (S := fun w' => Blk w' S 172 #[.int .i64 (nb : Int), .int .i64 r, .int .i64 d, .int .i64 m, .int .u64 s, .slice (some ⟨L, 0, none⟩) (nb + 1) cap] ∧ Blk w' L 174 cur ∧ ArrIs w' (A nb) (G nb) (C nb) (nb : Int) r d m s (nb : Int) (keysI (nb : Int) r d m (nb : Int)).toNat (Z nb) ∧ Below w.heap.size w w') (by kernel_rfl) (by exact ⟨hbx.kept (below_drewN (Below.refl _ _) 1), hrow.kept (below_drewN (Below.refl _ _) 1), H3.out.kept (below_drewN (Below.refl _ _) 1), below_drewN (Below.refl _ _) 1⟩) (fun hHeld => ?_)
  refine tkH (i := 0) (v := ?_) rfl (by kernel_rfl) (fun _ _ _ h => h) (Or.inl ⟨by rfl, ?_⟩) (by assumption) ?_
  rotate_left
  ·intro w hSw
   try dsimp only at hSw
   go_simp
   try with_reducible rfl
  simp only [Act.put, z1, z2, z3, z4, z5, z6]
  refine tkH (i := 1) (v := ?_) rfl (by kernel_rfl) (fun _ _ _ h => h) (Or.inl ⟨by rfl, ?_⟩) (by assumption) ?_
  rotate_left
  ·intro w hSw
   try dsimp only at hSw
   go_simp
   try with_reducible rfl
  simp only [Act.put, z1, z2, z3, z4, z5, z6]
  refine tkH (i := 2) (v := ?_) rfl (by kernel_rfl) (fun _ _ _ h => h) (Or.inl ⟨by rfl, ?_⟩) (by assumption) ?_
  rotate_left
  ·intro w hSw
   try dsimp only at hSw
   go_simp
   try with_reducible rfl
  simp only [Act.put, z1, z2, z3, z4, z5, z6]
  refine tkH (i := 3) (v := ?_) rfl (by kernel_rfl) (fun _ _ _ h => h) (Or.inl ⟨by rfl, ?_⟩) (by assumption) ?_
  rotate_left
  ·intro w hSw
   have q0 := hSw.1.cell 0; have q5 := hSw.1.cell 5; have qx := (hSw.2.1.cell nb).trans cx; simp at q0 q5
   go_simp
   try with_reducible rfl
  simp only [Act.put, z1, z2, z3, z4, z5, z6]
  refine tkH (i := 4) (v := ?_) rfl (by kernel_rfl) (fun _ _ _ h => h) (Or.inl ⟨by rfl, ?_⟩) (by assumption) ?_
  rotate_left
  ·intro w hSw
   try dsimp only at hSw
   go_simp
   try with_reducible rfl
  simp only [Act.put, z1, z2, z3, z4, z5, z6]
  refine tkH (i := 5) (v := ?_) rfl (by kernel_rfl) (fun _ _ _ h => h) (Or.inl ⟨by rfl, ?_⟩) (by assumption) ?_
  rotate_left
  ·intro w hSw
   try dsimp only at hSw
   go_simp
   try with_reducible rfl
  simp only [Act.put, z1, z2, z3, z4, z5, z6]
  refine tkH (i := 6) (v := ?_) rfl (by kernel_rfl) (fun _ _ _ h => h) (Or.inl ⟨by rfl, ?_⟩) (by assumption) ?_
  rotate_left
  ·intro w hSw
   try dsimp only at hSw
   go_simp
   try with_reducible rfl
  simp only [Act.put, z1, z2, z3, z4, z5, z6]
  refine tkH (i := 7) (v := ?_) rfl (by kernel_rfl) (fun _ _ _ h => h) (Or.inl ⟨by rfl, ?_⟩) (by assumption) ?_
  rotate_left
  ·intro w hSw
   try dsimp only at hSw
   go_simp
   try with_reducible rfl
  simp only [Act.put, z1, z2, z3, z4, z5, z6]
  refine tkH (i := 8) (v := ?_) rfl (by kernel_rfl) (fun _ _ _ h => h) (Or.inl ⟨by rfl, ?_⟩) (by assumption) ?_
  rotate_left
  ·intro w hSw
   have q0 := hSw.1.cell 0; have q5 := hSw.1.cell 5; have qx := (hSw.2.1.cell nb).trans cx; simp at q0 q5
   go_simp
   try with_reducible rfl
  simp only [Act.put, z1, z2, z3, z4, z5, z6]
  refine tkH (i := 9) (v := ?_) rfl (by kernel_rfl) (fun _ _ _ h => h) (Or.inl ⟨by rfl, ?_⟩) (by assumption) ?_
  rotate_left
  ·intro w hSw
   try dsimp only at hSw
   go_simp
   try with_reducible rfl
  simp only [Act.put, z1, z2, z3, z4, z5, z6]
  refine tkH (i := 10) (v := ?_) rfl (by kernel_rfl) (fun _ _ _ h => h) (Or.inl ⟨by rfl, ?_⟩) (by assumption) ?_
  rotate_left
  ·intro w hSw
   have q0 := hSw.1.cell 0; have q5 := hSw.1.cell 5; have qx := (hSw.2.1.cell nb).trans cx; simp at q0 q5
   go_simp
   try with_reducible rfl
  simp only [Act.put, z1, z2, z3, z4, z5, z6]
  refine wpAnyH_ready (rs := [11]) (by kernel_rfl) (by simp) ?_
  refine AllReadyH.cons rfl (fun Kc hKc => ?_) AllReadyH.nil
  go_simp
  go_wp2_with ((have P0 := PC.out _ hHeld.2.2.1; rw [show ((0 : Nat) : Int) = 0 from rfl] at P0; with_reducible refine P0.mono ?_; rintro e w2 ⟨rfl, hw2⟩; subst hw2))
  refine hKc.out _ _ ?_ (fun hHeld => ?_)
  ·assumption
  clear hKc Kc
  refine tkH (i := 12) (v := ?_) rfl (by kernel_rfl) (fun _ _ _ h => h) (Or.inl ⟨by rfl, ?_⟩) (by assumption) ?_
  rotate_left
  ·intro w hSw
   try dsimp only at hSw
   go_simp
   try with_reducible rfl
  simp only [Act.put, z1, z2, z3, z4, z5, z6]
  refine tkH (i := 13) (v := ?_) rfl (by kernel_rfl) (fun _ _ _ h => h) (Or.inl ⟨by rfl, ?_⟩) (by assumption) ?_
  rotate_left
  ·intro w hSw
   try dsimp only at hSw
   go_simp
   try with_reducible rfl
  simp only [Act.put, z1, z2, z3, z4, z5, z6]
  refine tkH (i := 14) (v := ?_) rfl (by kernel_rfl) (fun _ _ _ h => h) (Or.inl ⟨by rfl, ?_⟩) (by assumption) ?_
  rotate_left
  ·intro w hSw
   try dsimp only at hSw
   go_simp
   try with_reducible rfl
  simp only [Act.put, z1, z2, z3, z4, z5, z6]
  refine tkH (i := 15) (v := ?_) rfl (by kernel_rfl) (fun _ _ _ h => h) (Or.inl ⟨by rfl, ?_⟩) (by assumption) ?_
  rotate_left
  ·intro w hSw
   try dsimp only at hSw
   go_simp
   try with_reducible rfl
  simp only [Act.put, z1, z2, z3, z4, z5, z6]
  refine tkH (i := 16) (v := ?_) rfl (by kernel_rfl) (fun _ _ _ h => h) (Or.inl ⟨by rfl, ?_⟩) (by assumption) ?_
  rotate_left
  ·intro w hSw
   try dsimp only at hSw
   go_simp
   try with_reducible rfl
  simp only [Act.put, z1, z2, z3, z4, z5, z6]
  refine wpAnyH_done (by kernel_rfl) ?_ _
  have HB2 := Lib.hid hHeld.2.2.2
  clear hHeld
  go_wp2
  go_ret
  exact ⟨by rw [HV.out]; rfl, HB2.out⟩
 ·exact absurd h1 (by rw [exact_topQ hrt]; decide)
end Go.Proofs.YtfeficdndjiijaaGreatDoor


namespace Go.Proofs.YtfeficdndjiijaaGreatDoor
open Go.RowKit
set_option linter.unusedVariables false
set_option linter.unusedSimpArgs false

section
variable {F : Fence} {n : Nat} {P : Program} {w : World}
def StrBox (W : World) (B : Nat) (t : TypeId) : Prop := ∃ s, W.heap[B]? = some (.cells #[.string s] t (0, 0))
def BoxFree (B : Nat) (t : TypeId) (J : Nat → World → Prop) : Prop := ∀ (j : Nat) (A : World) (s : ByteArray), J j A → StrBox A B t → J j (A.setCell ⟨B, 0, none⟩ (.string s))
def ordPost (B : Nat) (Kp : World → World → Prop) (I : Nat → World → Prop) (j : Nat) (W : World) : Exit → Act → World → Prop
  | .normal, _, W' => KeepsFrom B W W' ∧ Kp W W' ∧ I j W'
  | _, _, _ => False
theorem wpIn_rangeFunc_ord {g : Operand} {ps : Array Tmp} {assign body : Code} {Q : Exit → Act → World → Prop} {a : Act}
  (hro : F.round = none) (h1 : 1 ≤ n) {gf : Nat} {lb : Array Value} (hg : a.eval g = .func (.func gf) #[] lb) (hFg : F.fn gf) (eg : ∀ args w, (callFunc gf args).run P w = .ok (.enter gf args) w)
  (encs : Nat → Array Value) (N Bx : Nat) (tx : TypeId) (Kp : World → World → Prop) (hBx : Bx < w.heap.size)
  (hseq : ∀ (l : Nat) (J : Nat → World → Prop) (W : World), Below w.heap.size w W → BoxFree Bx tx J →
   (∀ j W1, j < N → J j W1 → YieldAt F (n - 1 - 1) P l (encs j) W1 fun e W' => e = .returned (.bool true) ∧ J (j + 1) W' ∧ Kp W1 W') → J 0 W →
   CallsIn F (n - 1) P gf (#[.func (.yield l) #[] #[]] ++ lb) W fun e W' => (∃ v, e = .returned v) ∧ J N W')
  (hKt : ∀ {A B C : World}, Kp A B → Kp B C → Kp A C) (hKb : ∀ (W : World) (l : Nat) (o o' : Obj), w.heap.size ≤ l → W.heap[l]? = some o → o.isCells = false → Kp W (W.putObj l o')) (hps : ∀ j, (encs j).size = ps.size)
  (I : Nat → World → Prop) (hI : OwnFrom w.heap.size I) (hIb : BoxFree Bx tx I) (h0 : I 0 w) (a₁ : Nat → Act)
  (hassign : ∀ (l j : Nat) (W : World) (K : Act → World → Prop), K (a₁ j) W → assign.wpIn (F.inRound l) (n - 1 - 1) P (Exit.then K (fun _ _ _ => False)) { tmps := (ps.zip (encs j)).foldl (fun t (p, v) => t.setIfInBounds p v) a.tmps, defers := [] } W)
  (hbody : ∀ (l j : Nat) (W : World), w.heap.size ≤ l → j < N → I j W → body.wpIn (F.inRound l) (n - 1 - 1) P (ordPost w.heap.size Kp I (j + 1) W) (a₁ j) W)
  (hdone : ∀ (D : Nat) (W : World), w.heap.size ≤ D → I N W → W.heap[D]? = some (.deferred (some [])) → Q .normal { a with defers := { target := .collected D, args := #[] } :: a.defers } W) :
  (Code.rangeFunc g ps assign body).wpIn F n P Q a w := by
 refine wpIn_rangeFunc ?_
 intro fn hfn
 rw [hro]
 obtain ⟨rec, hrec⟩ : ∃ rec : LoopState → Loop, rec = fun st => { state := st, pending := none, fn, tmps := a.tmps, params := ps, assign, body, defers := w.heap.size } := ⟨_, rfl⟩
 obtain ⟨W1, hW1⟩ : ∃ W1, (w.alloc (.deferred (some []))).alloc (.loop (rec .ready)) = W1 := ⟨_, rfl⟩
 have hL1 : W1.heap[w.heap.size + 1]? = some (.loop (rec .ready)) := by
  rw [← hW1]; have := World.alloc_heap_new (w.alloc (.deferred (some []))) (.loop (rec .ready)); rwa [World.size_alloc] at this
 have hK1 : W1.heap[w.heap.size]? = some (.deferred (some [])) := by
  rw [← hW1]; exact (Below.heap_alloc _ _ _ (by simp)).trans (World.alloc_heap_new w _)
 have hI1 : I 0 W1 := by rw [← hW1]; exact hI.alloc _ (hI.alloc _ h0)
 have hb1 : Below w.heap.size w W1 := by
  rw [← hW1]; exact ((Below.refl _ w).alloc (Nat.le_refl _) _).alloc (by simp) _
 refine ⟨w.heap.size + 1, [{ target := .collected w.heap.size, args := #[] }], W1, { target := .fn (.func gf) lb, args := #[.func (.yield (w.heap.size + 1)) #[] #[]] }, W1, gf,
  #[.func (.yield (w.heap.size + 1)) #[] #[]] ++ lb, W1, ?_, ?_, ?_, ?_, fun _ => h1, ?_⟩
 ·rw [← hW1, hrec]; exact run_enterLoop_outer _ _ _ _ _
 ·simp only [resolve, hg]
  simp [go_sem]
 ·intro f' hf'; simp [Target.leads] at hf'; subst hf'; exact hFg
 ·simp [invoke, go_sem, eg]
 ·refine (hseq (w.heap.size + 1) (fun j W => I j W ∧ W.heap[w.heap.size + 1]? = some (.loop (rec .ready)) ∧ W.heap[w.heap.size]? = some (.deferred (some []))) W1 hb1 ?_ ?_ ⟨hI1, hL1, hK1⟩).mono ?_
  ·rintro j A s ⟨k1, k2, k3⟩ hx
   exact ⟨hIb j A s k1 hx, (Below.heap_setCell _ _ _ _ (by intro e; simp at e; omega)).trans k2, (Below.heap_setCell _ _ _ _ (by intro e; simp at e; omega)).trans k3⟩
  ·rintro j W hj ⟨hi, hl, hk⟩
   have hlt : w.heap.size + 1 < W.heap.size := (Array.getElem?_eq_some_iff.1 hl).1
   have hy := run_yield (P := P) (args := encs j) hl (by rw [hrec]; exact hps j)
   rw [hrec] at hy
   refine ⟨fn, _, assign, body, hy, roundIn_of_wpIn hfn (hassign _ j W _ ?_)⟩
   clear hy
   refine ⟨_, run_beginRound hl (by rw [hrec]), ?_⟩
   have hl2 : (W.putObj (w.heap.size + 1) (.loop { rec .ready with state := .busy })).heap[w.heap.size + 1]? = some (.loop { rec .ready with state := .busy }) := World.putObj_heap_same hlt
   have hk2 : (W.putObj (w.heap.size + 1) (.loop { rec .ready with state := .busy })).heap[w.heap.size]? = some (.deferred (some [])) := (World.putObj_heap_other (by omega)).trans hk
   have hw2 : Kp W (W.putObj (w.heap.size + 1) (.loop { rec .ready with state := .busy })) := hKb _ _ _ _ (by omega) hl rfl
   refine wpIn_mono (hbody _ j _ (by omega) hj (hI.putObj _ hi (by omega) hl rfl)) ?_
   rintro e a3 W3 hp
   cases e with
   | normal =>
    obtain ⟨hk3, hkp3, hi3⟩ := hp
    have hl3 := hk3.same _ _ (by omega) hl2 rfl
    have hr := run_endRound (P := P) none hl3
    rw [hrec] at hr hl3 ⊢
    refine ⟨_, _, hr, rfl, ⟨hI.putObj _ hi3 (by omega) hl3 rfl, ?_, (World.putObj_heap_other (by omega)).trans (hk3.same _ _ (Nat.le_refl _) hk2 rfl)⟩, hKt (hKt hw2 hkp3) (hKb _ _ _ _ (by omega) hl3 rfl)⟩
    exact World.putObj_heap_same (Array.getElem?_eq_some_iff.1 hl3).1
   | ret => exact hp.elim
   | exit id => exact hp.elim
   | goto t => exact hp.elim
   | panic ch => exact hp.elim
   | outgrown => exact hp.elim
  ·rintro e W2 ⟨⟨v, rfl⟩, hi, hl, hk⟩
   exact ⟨none, _, by have := run_endLoop (P := P) hl (by rw [hrec]; simp); rw [hrec] at this; exact this, hdone _ _ (Nat.le_refl _) (hI.putObj _ hi (by omega) hl rfl) ((World.putObj_heap_other (by omega)).trans hk)⟩
end
end Go.Proofs.YtfeficdndjiijaaGreatDoor


namespace Go.Proofs.YtfeficdndjiijaaGreatDoor
open Go.RowKit Go.Shelf
set_option linter.unusedVariables false
set_option linter.unusedSimpArgs false
attribute [local go_sem] Oper.semAt_some

def joinN : List (List UInt8) → List UInt8
  | [] => []
  | [a] => a
  | a :: b :: r => a ++ 10 :: joinN (b :: r)
theorem idx_no : ∀ (a : List UInt8), (∀ x ∈ a, x ≠ 10) → Lib.indexByte a 10 = -1
  | [], _ => rfl
  | x :: r, h => by
    have h1 := h x (by simp)
    have h2 := idx_no r (fun y hy => h y (by simp [hy]))
    simp [Lib.indexByte, h1, h2]
theorem idx_at : ∀ (a r : List UInt8), (∀ x ∈ a, x ≠ 10) → Lib.indexByte (a ++ 10 :: r) 10 = (a.length : Int)
  | [], r, _ => by simp [Lib.indexByte]
  | x :: q, r, h => by
    have h1 := h x (by simp)
    have h2 := idx_at q r (fun y hy => h y (by simp [hy]))
    have h3 : ¬ ((q.length : Int) = -1) := by omega
    simp [Lib.indexByte, h1, h2, h3]
theorem splitseq (T S : ByteArray) (w : World) :
    Calls Tryz.prog 41 #[.string T, .string S] w fun e w' => e = .returned (.func (.func 117) #[] #[.pointer (some ⟨w.heap.size + 1, 0, none⟩), .pointer (some ⟨w.heap.size, 0, none⟩), .pointer (some ⟨w.heap.size + 1 + 1, 0, none⟩)]) ∧
      w' = ((w.alloc (.cells #[.string T] 9)).alloc (.cells #[.string S] 9)).alloc (.cells #[.int .i64 0] 3) := by
  have P : Hid (Calls Tryz.prog 74 #[.string T, .string S, .int .i64 0] w fun e w' => e = .returned (.func (.func 117) #[] #[.pointer (some ⟨w.heap.size + 1, 0, none⟩), .pointer (some ⟨w.heap.size, 0, none⟩), .pointer (some ⟨w.heap.size + 1 + 1, 0, none⟩)]) ∧
      w' = ((w.alloc (.cells #[.string T] 9)).alloc (.cells #[.string S] 9)).alloc (.cells #[.int .i64 0] 3)) := Lib.hid (by
    go_enter Tryz.func74, Tryz.ntmps74
    go_wp2
    go_ret
    exact ⟨rfl, rfl⟩)
  go_enter Tryz.func41, Tryz.ntmps41
  go_wp2_with fail
  with_reducible refine P.out.mono ?_
  rintro e w1 ⟨rfl, hw⟩
  subst hw
  go_wp2_with fail
  go_ret
  exact ⟨rfl, rfl⟩
def strN (W : World) (B : Nat) : Nat := match W.cell? ⟨B, 0, none⟩ with | some (.string s) => s.size | _ => 0
set_option maxRecDepth 100000 in
set_option maxHeartbeats 4000000 in
theorem split1 (n : Nat) (hn : 1 ≤ n) (l B0 B1 B2 : Nat) (L : List (List UInt8)) (hL : L ≠ []) (hno : ∀ a ∈ L, ∀ x ∈ a, x ≠ 10) (hlen : (joinN L).length ≤ 1000000) (J : Nat → World → Prop) (hJ : BoxFree B0 9 J)
  (hY : ∀ j W, j < L.length → J j W → YieldAt Fence.wide (n - 1) Tryz.prog l #[.string (sB (L.getD j []))] W fun e W' => e = .returned (.bool true) ∧ J (j + 1) W' ∧ KpB [B0, B1, B2] W W')
  (W : World) (h0 : Blk W B0 9 #[.string (sB (joinN L))]) (hne : B0 ≠ B1) (h1 : Blk W B1 9 #[.string ⟨#[10]⟩]) (h2 : Blk W B2 3 #[.int .i64 0]) (hJ0 : J 0 W) :
  CallsIn Fence.wide n Tryz.prog 117 #[.func (.yield l) #[] #[], .pointer (some ⟨B1, 0, none⟩), .pointer (some ⟨B0, 0, none⟩), .pointer (some ⟨B2, 0, none⟩)] W fun e W' => (∃ v, e = .returned v) ∧ J L.length W' := by
 have HY := Lib.hid hY
 have HJ := Lib.hid hJ
 have HNO := Lib.hid hno
 have HNE : Hid (B0 ≠ B1 ∧ B0 ≠ B2) := Lib.hid ⟨hne, h0.ne_ h2 (by decide)⟩
 have HB0 := Lib.hid h0
 have HB1 := Lib.hid h1
 have HB2 := Lib.hid h2
 have c0 := h0.cell 0
 have c1 := h1.cell 0
 have c2 := h2.cell 0
 simp at c0 c1 c2
 clear hY hJ hno h0 h1 h2 hne
 refine callsIn_of_wp Tryz.func117 rfl trivial ?_ rfl
 simp only [Tryz.ntmps117, List.size_toArray, List.length_cons, List.length_nil, Nat.reduceAdd, Nat.reduceSub, Array.replicate_succ, Array.replicate_zero, List.push_toArray, List.append_toArray, List.nil_append, List.cons_append]
 obtain ⟨N, hN⟩ : ∃ N, N = L.length := ⟨_, rfl⟩
 have HN := Lib.hid hN
 have hN0 : 0 < N := by rw [hN]; exact List.length_pos_iff.2 hL
 rw [← hN]
 gi_wp2
 gi_loopw [7] (fun _ wr => ∃ j : Nat, j < N ∧ Blk wr B0 9 #[.string (sB (joinN (L.drop j)))] ∧ Blk wr B1 9 #[.string ⟨#[10]⟩] ∧ Blk wr B2 3 #[.int .i64 0] ∧ J j wr) (fun _ wr => strN wr B0)
 case atStart => exact ⟨0, hN0, HB0.out, HB1.out, HB2.out, hJ0⟩
 case round =>
  obtain ⟨j, hj, b0, b1, b2, hJs⟩ := hrel
  have HB0 := Lib.hid b0
  have HB1 := Lib.hid b1
  have HB2 := Lib.hid b2
  have HJS := Lib.hid hJs
  have c0 := b0.cell 0
  have c1 := b1.cell 0
  have c2 := b2.cell 0
  simp at c0 c1 c2
  clear b0 b1 b2 hJs
  have hjl : j < L.length := by have := HN.out; omega
  obtain ⟨a, ha⟩ : ∃ a, L[j]? = some a := ⟨_, List.getElem?_eq_getElem hjl⟩
  have had : L.getD j [] = a := by rw [List.getD_eq_getElem?_getD, ha]; rfl
  have hdr : L.drop j = a :: L.drop (j + 1) := by
   rw [List.drop_eq_getElem_cons hjl]
   congr 1
   rw [List.getElem?_eq_getElem hjl] at ha
   exact Option.some.inj ha
  have hna := HNO.out a (List.mem_of_getElem? ha)
  obtain ⟨fn, tmps, assign, body, hy, hR⟩ := HY.out j wr (by have := HN.out; omega) HJS.out
  rw [had] at hy
  by_cases hlast : j + 1 < N
  ·have hjl1 : j + 1 < L.length := by have := HN.out; omega
   have hR' : joinN (L.drop j) = a ++ 10 :: joinN (L.drop (j + 1)) := by
    rw [hdr, List.drop_eq_getElem_cons hjl1]
    rfl
   obtain ⟨R, hRR⟩ : ∃ R, R = joinN (L.drop (j + 1)) := ⟨_, rfl⟩
   have HRR := Lib.hid hRR
   have hlenT : (joinN (L.drop j)).length ≤ 1000000 := by
    have : ∀ (M : List (List UInt8)) (i : Nat), (joinN (M.drop i)).length ≤ (joinN M).length := by
     intro M
     induction M with
     | nil => intro i; simp
     | cons x M ih =>
      intro i
      cases i with
      | zero => exact Nat.le_refl _
      | succ i =>
       refine Nat.le_trans (ih i) ?_
       cases M with
       | nil => simp [joinN]
       | cons y M => simp [joinN]; omega
    exact Nat.le_trans (this L j) hlen
   rw [hR', ← hRR] at hlenT
   rw [hR', ← hRR] at c0
   have HRX : Hid (sB (joinN (L.drop j)) = sB (a ++ 10 :: R)) := Lib.hid (by rw [hR', ← hRR])
   have PI := Tryz.strings_Index_one (sB (a ++ 10 :: R)) 10 wr
   rw [sB_data, idx_at a R hna] at PI
   have x1 := sB_extract (a ++ 10 :: R) 0 a.length
   have x2 := sB_extract (a ++ 10 :: R) (a.length + 1) R.length
   simp only [List.drop_zero, Nat.zero_add, List.take_left] at x1
   have e2 : ((a ++ 10 :: R).drop (a.length + 1)).take R.length = R := by
    rw [show a ++ 10 :: R = (a ++ [10]) ++ R by simp, List.drop_left' (by simp)]
    exact List.take_length
   rw [e2] at x2
   have hsz : (sB (a ++ 10 :: R)).size = a.length + 1 + R.length := by rw [sB_size]; simp; omega
   simp at hlenT
   clear hR' hRR hdr ha had hjl hjl1 e2 hna
   generalize sB (a ++ 10 :: R) = TT at *
   obtain ⟨k, hk⟩ : ∃ k, k = a.length := ⟨_, rfl⟩
   rw [← hk] at PI x1 x2 hsz hlenT
   obtain ⟨q, hq⟩ : ∃ q, q = R.length := ⟨_, rfl⟩
   rw [← hq] at x2 hsz hlenT
   have HQR : Hid ((sB R).size = q) := Lib.hid (by rw [sB_size, hq])
   clear hk hq
   have PI := Lib.hid (callsIn_wide (n := n - 1) |>.2 PI)
   have k0 : (0 : Int) ≤ (k : Int) := by omega
   have k1 : (k : Int) ≤ (TT.size : Int) := by omega
   have k2 : (k : Int) + 1 ≤ (TT.size : Int) := by omega
   gi_wp2_with fail
   refine ⟨trivial, ?_⟩
   with_reducible refine PI.out.mono ?_
   rintro e w2 ⟨rfl, hw⟩
   subst hw
   gi_wp2_with fail
   refine hR.mono ?_
   rintro e W3 ⟨rfl, hJ3, hk3⟩
   have b0 := hk3.blk (by simp) HB0.out
   have b1 := hk3.blk (by simp) HB1.out
   have b2 := hk3.blk (by simp) HB2.out
   have HJ3 := Lib.hid hJ3
   have C0 := Lib.hid b0
   have C1 := Lib.hid b1
   have C2 := Lib.hid b2
   have d0 := b0.cell 0
   have d1 := b1.cell 0
   have f0 := b0.frozen 0
   simp at d0 d1
   rw [HRX.out] at d0
   clear b0 b1 b2 hk3 hJ3 c0 c1 c2 hy hR PI
   rw [← hsz] at x2
   have HSZ := Lib.hid hsz
   clear hsz
   gi_wp2_with fail
   have HJ4 : Hid (J (j + 1) (W3.setCell ⟨B0, 0, none⟩ (.string (sB R)))) := Lib.hid (HJ.out _ _ _ HJ3.out ⟨_, C0.out⟩)
   have E0 : Hid (Blk (W3.setCell ⟨B0, 0, none⟩ (.string (sB R))) B0 9 #[.string (sB R)]) := Lib.hid (by simpa using C0.out.set_ 0 (.string (sB R)))
   have hgs : W3.grownBy (W3.setCell ⟨B0, 0, none⟩ (.string (sB R))) (some B0) := gr_setC (World.grownBy.refl _ _) 0 _
   have E1 := Lib.hid (C1.out.grown hgs (by simpa using HNE.out.1.symm))
   have E2 := Lib.hid (C2.out.grown hgs (by simpa using HNE.out.2.symm))
   have c9 := E0.out.cell 0
   simp at c9
   go_roundw
   case rel => exact ⟨j + 1, hlast, by rw [← HRR.out]; exact E0.out, E1.out, E2.out, HJ4.out⟩
   case measure =>
    have q0 := HB0.out.cell 0
    simp at q0
    simp only [strN, q0, c9]
    rw [HRX.out, HSZ.out, HQR.out]
    omega
  ·have hdr2 : L.drop (j + 1) = [] := List.drop_eq_nil_of_le (by have := HN.out; omega)
   have hT : joinN (L.drop j) = a := by rw [hdr, hdr2]; rfl
   rw [hT] at c0
   have PI := Tryz.strings_Index_one (sB a) 10 wr
   rw [sB_data, idx_no a hna] at PI
   have PI := Lib.hid (callsIn_wide (n := n - 1) |>.2 PI)
   have hjN : j + 1 = N := by omega
   clear hT hdr2 hdr had ha hna hjl
   gi_wp2_with fail
   refine ⟨trivial, ?_⟩
   with_reducible refine PI.out.mono ?_
   rintro e w2 ⟨rfl, hw⟩
   subst hw
   gi_wp2_with fail
   refine hR.mono ?_
   rintro e W3 ⟨rfl, hJ3, hk3⟩
   have HJ3 := Lib.hid hJ3
   clear hJ3 hk3 hR hy c0 c1 c2
   gi_wp2_with fail
   go_end0
   exact ⟨⟨_, rfl⟩, by rw [← hjN]; exact HJ3.out⟩
end Go.Proofs.YtfeficdndjiijaaGreatDoor


namespace Go.Proofs.YtfeficdndjiijaaGreatDoor
open Go.RowKit
set_option linter.unusedVariables false
set_option linter.unusedSimpArgs false

def TRow (bs : List Int) (n : Nat) (zs : List Int) (at' : Nat) : Prop := zs.length = n ∧ Fit zs ∧ at' = (rowB zs).length ∧ ∃ r, bs = rowB zs ++ r
theorem Fit.nil : Fit [] := fun u hu => by cases hu
theorem Fit.snoc {zs : List Int} (h : Fit zs) {z : Int} (hz : -9223372036854775808 ≤ z ∧ z ≤ 9223372036854775807) : Fit (zs ++ [z]) := fun u hu => by
  rcases List.mem_append.1 hu with hu | hu
  · exact h u hu
  · rw [List.mem_singleton.1 hu]; exact hz
theorem TRow.zero (bs : List Int) : TRow bs 0 [] 0 := ⟨rfl, Fit.nil, rfl, bs, rfl⟩
theorem TRow.rest {bs : List Int} {n : Nat} {zs : List Int} {a : Nat} (h : TRow bs n zs a) : bs = rowB zs ++ bs.drop a ∧ a ≤ bs.length := by
  obtain ⟨-, -, rfl, r, rfl⟩ := h
  exact ⟨by rw [List.drop_left], by simp⟩
theorem TRow.le {bs : List Int} {n : Nat} {zs : List Int} {a : Nat} (h : TRow bs n zs a) : n ≤ a ∧ a ≤ 10 * n := by
  obtain ⟨rfl, h2, rfl, -⟩ := h
  exact ⟨rowB_ge zs, rowB_le zs h2⟩
theorem TRow.next {bs : List Int} {n : Nat} {zs : List Int} {a u m : Nat} (h : TRow bs n zs a) (k : TakeS (bs.drop a) u m) : TRow bs (n + 1) (zs ++ [zagI u]) (a + m) := by
  obtain ⟨h1, h2, h3, r, h4⟩ := h
  obtain ⟨k1, k2, s, k3⟩ := k
  refine ⟨by simp [h1], h2.snoc (zag_fit k1), ?_, s, ?_⟩
  · rw [rowB_snoc, zig_zag, List.length_append, h3, k2]
  · rw [rowB_snoc, zig_zag, List.append_assoc, ← k3, h3, h4, List.drop_left]
theorem row_same {zs ys : List Int} {r s : List Int} (h : rowB zs ++ r = rowB ys ++ s) (hl : zs.length = ys.length) : zs = ys := by
  induction zs generalizing ys with
  | nil => exact (List.eq_nil_of_length_eq_zero hl.symm).symm
  | cons z zs ih =>
    cases ys with
    | nil => simp at hl
    | cons y ys =>
      rw [rowB_cons, rowB_cons, List.append_assoc, List.append_assoc] at h
      have e2 := putN_inj (VL_prefix (putN_VL _) (putN_VL _) h)
      have e3 : z = y := by rw [← zag_zig z, e2, zag_zig]
      subst e3
      rw [ih (List.append_cancel_left h) (by simpa using hl)]
theorem TRow.unique {bs : List Int} {n : Nat} {zs ys : List Int} {a b : Nat} (h : TRow bs n zs a) (k : TRow bs n ys b) : zs = ys ∧ a = b := by
  obtain ⟨h1, -, h3, r, h4⟩ := h
  obtain ⟨k1, -, k3, s, k4⟩ := k
  have := row_same (h4.symm.trans k4) (by omega)
  subst this
  exact ⟨rfl, by omega⟩
def OwnZ (w : World) (base : Nat) (v : Value) (zs : List Int) : Prop := w.ownsRow base 2 1 v zs.length (zs.map (Value.int .i64))
theorem OwnZ.ints {w : World} {base : Nat} {v : Value} {zs : List Int} (h : OwnZ w base v zs) : IntsAt w v zs := IntsAt.of_own h rfl
theorem OwnZ.kept {w w' : World} {base : Nat} {v : Value} {zs : List Int} (h : OwnZ w base v zs) (hb : Below w.heap.size w w') : OwnZ w' base v zs := World.ownsRow.kept h (below_gr (row := none) hb) (by cases v.ownBlock <;> simp)
theorem OwnZ.lt {w : World} {base : Nat} {v : Value} {zs : List Int} (h : OwnZ w base v zs) : ∀ k, v.ownBlock = some k → base ≤ k ∧ k < w.heap.size := World.ownsRow.lt h
end Go.Proofs.YtfeficdndjiijaaGreatDoor


namespace Go.Proofs.YtfeficdndjiijaaGreatDoor
open Go.RowKit
set_option linter.unusedVariables false
set_option linter.unusedSimpArgs false

def sizeUp (b r d m : Int) : Nat → Nat
  | 0 => 0
  | j + 1 => sizeUp b r d m j + cellsN b r d m (j : Int)
theorem sizeUp_le {b r d m : Int} (hr : rightB b r d m = true) (j : Nat) : sizeUp b r d m j ≤ 1024 * j := by
  induction j with
  | zero => simp [sizeUp]
  | succ j ih => rw [sizeUp]; have := cellsN_le (l := (j : Int)) hr; omega
end Go.Proofs.YtfeficdndjiijaaGreatDoor


namespace Go.Proofs.YtfeficdndjiijaaGreatDoor
open Go.RowKit
set_option linter.unusedVariables false
set_option linter.unusedSimpArgs false

theorem putN_head {u v : Nat} {r s : List Int} (h : putN u ++ r = putN v ++ s) : u = v ∧ r = s := by
  have e := VL_prefix (putN_VL u) (putN_VL v) h
  have e2 := putN_inj e
  subst e2
  exact ⟨rfl, List.append_cancel_left h⟩
def leV : List Int → Int
  | [] => 0
  | x :: l => x + 256 * leV l
theorem leB_cons (u : Int) (n : Nat) : leB u (n + 1) = (u % 256) :: leB (u / 256) n := by
  unfold leB
  rw [List.range_succ_eq_map, List.map_cons, List.map_map]
  congr 1
  · simp
  · apply List.map_congr_left
    intro i _
    simp only [Function.comp_apply, Nat.succ_eq_add_one]
    rw [Int.pow_succ, Int.mul_comm (256 ^ i) 256, ← Int.ediv_ediv_of_nonneg (by decide)]
theorem leV_leB (n : Nat) (u : Int) (h0 : 0 ≤ u) (h1 : u < 256 ^ n) : leV (leB u n) = u := by
  induction n generalizing u with
  | zero => simp [leB, leV] at h1 ⊢; omega
  | succ n ih =>
    rw [leB_cons, leV, ih (u / 256) (by omega) (by rw [Int.pow_succ] at h1; omega)]
    omega
theorem leB_head {s t : Int} {n : Nat} {r q : List Int} (hs : 0 ≤ s) (ht : 0 ≤ t) (hs1 : s < 256 ^ n) (ht1 : t < 256 ^ n) (h : leB s n ++ r = leB t n ++ q) : s = t ∧ r = q := by
  have e := List.append_inj h (by rw [leB_len, leB_len])
  refine ⟨?_, e.2⟩
  rw [← leV_leB n s hs hs1, e.1, leV_leB n t ht ht1]
theorem p256 : (256 : Int) ^ 8 = 18446744073709551616 := by decide
def CfgS (bs : List Int) (b r d m s : Int) (rest : List Int) : Prop :=
  rightB b r d m = true ∧ 0 ≤ s ∧ s < 18446744073709551616 ∧ bs = putN b.toNat ++ (putN r.toNat ++ (putN d.toNat ++ (putN m.toNat ++ (leB s 8 ++ rest))))
theorem CfgS.unique {bs : List Int} {b r d m s b' r' d' m' s' : Int} {q q' : List Int} (h : CfgS bs b r d m s q) (k : CfgS bs b' r' d' m' s' q') : b = b' ∧ r = r' ∧ d = d' ∧ m = m' ∧ s = s' ∧ q = q' := by
  obtain ⟨h1, h2, h3, h4⟩ := h
  obtain ⟨k1, k2, k3, k4⟩ := k
  have hr := right_of h1
  have kr := right_of k1
  rw [h4] at k4
  obtain ⟨e1, k4⟩ := putN_head k4
  obtain ⟨e2, k4⟩ := putN_head k4
  obtain ⟨e3, k4⟩ := putN_head k4
  obtain ⟨e4, k4⟩ := putN_head k4
  obtain ⟨e5, e6⟩ := leB_head h2 k2 (by rw [p256]; exact h3) (by rw [p256]; exact k3) k4
  exact ⟨by omega, by omega, by omega, by omega, e5, e6⟩
def rowsB (Z : Nat → List Int) : Nat → List Int
  | 0 => []
  | j + 1 => rowsB Z j ++ rowB (Z j)
def allZ (Z : Nat → List Int) : Nat → List Int
  | 0 => []
  | j + 1 => allZ Z j ++ Z j
theorem rowsB_all (Z : Nat → List Int) (j : Nat) : rowsB Z j = rowB (allZ Z j) := by
  induction j with
  | zero => rfl
  | succ j ih => rw [rowsB, allZ, rowB_append, ih]
theorem rowsB_byts (Z : Nat → List Int) (j : Nat) : Byts (rowsB Z j) := by rw [rowsB_all]; exact rowB_byts _
def Shaped (b r d m : Int) (Z : Nat → List Int) (j : Nat) : Prop := ∀ n, n < j → (Z n).length = cellsN b r d m (n : Int) ∧ Fit (Z n)
theorem allZ_len {b r d m : Int} {Z : Nat → List Int} {j : Nat} (h : Shaped b r d m Z j) : (allZ Z j).length = sizeUp b r d m j := by
  induction j with
  | zero => rfl
  | succ j ih => rw [allZ, sizeUp, List.length_append, ih (fun n hn => h n (by omega)), (h j (by omega)).1]
theorem allZ_fit {b r d m : Int} {Z : Nat → List Int} {j : Nat} (h : Shaped b r d m Z j) : Fit (allZ Z j) := by
  induction j with
  | zero => exact Fit.nil
  | succ j ih =>
    intro u hu
    rw [allZ] at hu
    rcases List.mem_append.1 hu with hu | hu
    · exact ih (fun n hn => h n (by omega)) u hu
    · exact (h j (by omega)).2 u hu
theorem rowsB_le {b r d m : Int} {Z : Nat → List Int} {j : Nat} (h : Shaped b r d m Z j) : sizeUp b r d m j ≤ (rowsB Z j).length ∧ (rowsB Z j).length ≤ 10 * sizeUp b r d m j := by
  rw [rowsB_all, ← allZ_len h]
  exact ⟨rowB_ge _, rowB_le _ (allZ_fit h)⟩
theorem rowsB_inj {b r d m : Int} {Z Y : Nat → List Int} {j : Nat} {p q : List Int} (hz : Shaped b r d m Z j) (hy : Shaped b r d m Y j) (h : rowsB Z j ++ p = rowsB Y j ++ q) : (∀ n, n < j → Z n = Y n) ∧ p = q := by
  induction j generalizing p q with
  | zero => exact ⟨fun n hn => by omega, by simpa [rowsB] using h⟩
  | succ j ih =>
    rw [rowsB, rowsB, List.append_assoc, List.append_assoc] at h
    obtain ⟨h1, h2⟩ := ih (fun n hn => hz n (by omega)) (fun n hn => hy n (by omega)) h
    have e := row_same h2 (by rw [(hz j (by omega)).1, (hy j (by omega)).1])
    refine ⟨fun n hn => ?_, ?_⟩
    · by_cases e2 : n = j
      · subst e2; exact e
      · exact h1 n (by omega)
    · rw [e] at h2; exact List.append_cancel_left h2
def headB (b r d m s : Int) : List Int := [71, 65] ++ (putN b.toNat ++ (putN r.toNat ++ (putN d.toNat ++ (putN m.toNat ++ leB s 8))))
theorem headB_byts (b r d m s : Int) : Byts (headB b r d m s) := by
  unfold headB
  refine Byts.append (fun u hu => ?_) ((putN_byts _).append ((putN_byts _).append ((putN_byts _).append ((putN_byts _).append (leB_byts _ _)))))
  simp at hu
  omega
def encB (b r d m s : Int) (Z : Nat → List Int) : List Int := signB (headB b r d m s ++ rowsB Z (b.toNat + 1))
def DecS (bs : List Int) (b r d m s : Int) (Z : Nat → List Int) : Prop :=
  rightB b r d m = true ∧ 0 ≤ s ∧ s < 18446744073709551616 ∧ Shaped b r d m Z (b.toNat + 1) ∧ bs = encB b r d m s Z
theorem signB_inj {a c : List Int} (h : signB a = signB c) : a = c := (List.append_inj h (by have := congrArg List.length h; rw [signB_len, signB_len] at this; omega)).1
theorem headB_cfg (b r d m s : Int) (q : List Int) : headB b r d m s ++ q = [71, 65] ++ (putN b.toNat ++ (putN r.toNat ++ (putN d.toNat ++ (putN m.toNat ++ (leB s 8 ++ q))))) := by simp [headB]
theorem DecS.unique {bs : List Int} {b r d m s b' r' d' m' s' : Int} {Z Z' : Nat → List Int} (h : DecS bs b r d m s Z) (k : DecS bs b' r' d' m' s' Z') : b = b' ∧ r = r' ∧ d = d' ∧ m = m' ∧ s = s' ∧ ∀ n, n ≤ b.toNat → Z n = Z' n := by
  obtain ⟨h1, h2, h3, h4, h5⟩ := h
  obtain ⟨k1, k2, k3, k4, k5⟩ := k
  have e := signB_inj (h5.symm.trans k5)
  rw [headB_cfg, headB_cfg] at e
  have e := List.append_cancel_left e
  obtain ⟨rfl, rfl, rfl, rfl, rfl, e6⟩ := CfgS.unique (bs := putN b.toNat ++ (putN r.toNat ++ (putN d.toNat ++ (putN m.toNat ++ (leB s 8 ++ rowsB Z (b.toNat + 1)))))) ⟨h1, h2, h3, rfl⟩ ⟨k1, k2, k3, e⟩
  refine ⟨rfl, rfl, rfl, rfl, rfl, ?_⟩
  have := rowsB_inj (p := []) (q := []) h4 k4 (by rw [List.append_nil, List.append_nil]; exact e6)
  exact fun n hn => this.1 n (by omega)
end Go.Proofs.YtfeficdndjiijaaGreatDoor


namespace Go.Proofs.YtfeficdndjiijaaGreatDoor
open Go.RowKit
set_option linter.unusedVariables false
set_option linter.unusedSimpArgs false

theorem BytesAt.gr {w w' : World} {v : Value} {bs : List Int} {R : Nat} (h : BytesAt w v bs) (hg : w.grownBy w' (some R)) (hne : ∀ g off n c, v = .slice (some ⟨g, off, none⟩) n c → g ≠ R) : BytesAt w' v bs := by
  obtain ⟨ao, cap, e, h1, h2, h3⟩ := h
  refine ⟨ao, cap, e, h1, h2, ?_⟩
  rcases h3 with h3 | ⟨g, off, e2, hgl, hc⟩
  · exact .inl h3
  · have hn := hne g off bs.length cap (by rw [e, e2])
    exact .inr ⟨g, off, e2, Nat.lt_of_lt_of_le hgl hg.size, fun i u hu => hg.cell (hc i u hu) (by simpa using hn)⟩
def RdIs (w : World) (N R : Nat) (bs : List Int) : Prop :=
  ∃ g off cap, Blk w R 89 #[.slice (some ⟨g, off, none⟩) bs.length cap] ∧ BytesAt w (.slice (some ⟨g, off, none⟩) bs.length cap) bs ∧ g < N ∧ N ≤ R
theorem RdIs.kept {w w' : World} {N R : Nat} {bs : List Int} (h : RdIs w N R bs) (hb : Below w.heap.size w w') : RdIs w' N R bs := by
  obtain ⟨g, off, cap, h1, h2, h3⟩ := h
  exact ⟨g, off, cap, h1.kept hb, h2.kept hb, h3⟩
theorem RdIs.gr {w w' : World} {N R C : Nat} {bs : List Int} (h : RdIs w N R bs) (hg : w.grownBy w' (some C)) (hC : N ≤ C) (hne : R ≠ C) : RdIs w' N R bs := by
  obtain ⟨g, off, cap, h1, h2, h3, h4⟩ := h
  exact ⟨g, off, cap, h1.grown hg (by simpa using hne), h2.gr hg (fun g2 off2 n2 c2 e => by cases e; omega), h3, h4⟩
theorem RdIs.lt {w : World} {N R : Nat} {bs : List Int} (h : RdIs w N R bs) : R < w.heap.size := by
  obtain ⟨g, off, cap, h1, h2, h3⟩ := h
  exact h1.lt
end Go.Proofs.YtfeficdndjiijaaGreatDoor


namespace Go.Proofs.YtfeficdndjiijaaGreatDoor
open Go.RowKit
set_option linter.unusedVariables false
set_option linter.unusedSimpArgs false

theorem Byts.tail {a b : List Int} (h : Byts (a ++ b)) : Byts b := fun u hu => h u (by simp [hu])
end Go.Proofs.YtfeficdndjiijaaGreatDoor


namespace Go.Proofs.YtfeficdndjiijaaGreatDoor
open Go.RowKit
set_option linter.unusedVariables false
set_option linter.unusedSimpArgs false

theorem u32_u64 (x : Int) (h0 : 0 ≤ x) (h1 : x ≤ 4294967295) : IntKind.u64.wrap x = x := by rw [wrapU_mod]; omega
theorem RdIs.blk {w : World} {N R : Nat} {bs : List Int} (h : RdIs w N R bs) : ∃ cs, Blk w R 89 cs := by
  obtain ⟨g, off, cap, h1, -⟩ := h
  exact ⟨_, h1⟩
end Go.Proofs.YtfeficdndjiijaaGreatDoor


namespace Go.Proofs.YtfeficdndjiijaaGreatDoor
open Go.RowKit
set_option linter.unusedVariables false
set_option linter.unusedSimpArgs false

end Go.Proofs.YtfeficdndjiijaaGreatDoor

