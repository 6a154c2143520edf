import Derived.Test.YtfeficdndjiijaaGreatDoorQxh
import Derived.Test.YtfeficdndjiijaaGreatDoorQxd
import Derived.Test.YtfeficdndjiijaaGreatDoorQxe
import Derived.Test.YtfeficdndjiijaaGreatDoorQxc
import Derived.RangeFuncNested
import Derived.RangeFuncBound
import Derived.RangeFuncCalls
import Derived.RangeFuncLeaves
import Derived.RangeFuncWrites
import Derived.Shelf.Abstract
import Derived.Shelf.RegionOpen
import Derived.WalkKit
import Derived.OwnWalkIn
import Derived.TacticsInMore
import Derived.LoopNIn
import Derived.LoopIn
import Derived.Deep.RegionHeld3
import Derived.StillTailTactics
import Derived.Test.YtfeficdndjiijaaGreatDoorQxa
/-
  Contracts of the functions that TopFits reaches, and the plain laws that it leans on. Conditions: none beyond those stated at each theorem.
-/
namespace Go.Proofs.YtfeficdndjiijaaGreatDoor
open Go.RowKit
set_option linter.unusedVariables false
set_option linter.unusedSimpArgs false

def SkCopyPost (w : World) (b r d m s l : Int) (zs : List Int) (e : Ending) (w' : World) : Prop :=
  ∃ A G C, e = .returned (.pointer (some ⟨A, 0, none⟩)) ∧ w.heap.size ≤ A ∧ w.heap.size ≤ G ∧ w.heap.size ≤ C ∧ SkIs w' A G C b r d m s l zs ∧ Below w.heap.size w w'
set_option maxRecDepth 100000 in
set_option maxHeartbeats 4000000 in
theorem skcopy (w : World) (A G C : Nat) (b r d m s l : Int) (zs : List Int) (h : SkIs w A G C b r d m s l zs) :
  Calls Tryz.prog 210 #[.pointer (some ⟨A, 0, none⟩)] w (SkCopyPost w b r d m s l zs) := by
 have P := Lib.hid (copy_any (w.drewN 1) G C r.toNat d.toNat zs (h.grid.drewN 1))
 have HA := Lib.hid h
 clear h
 go_enter Tryz.func210, Tryz.ntmps210
 go_wp2_with fail
 refine wp_region_held_drew (S := fun w' => Blk w' A 288 #[.pointer (some ⟨G, 0, none⟩), .int .i64 b, .int .i64 r, .int .i64 d, .int .i64 m, .int .u64 s, .int .i64 l]) (by kernel_rfl) (by exact HA.out.box.drewN 1) (fun hHeld => ?_)
 refine tkH (i := 0) (v := ?_) rfl (by kernel_rfl) (fun _ _ _ h => h) (Or.inl ⟨by rfl, ?_⟩) (by assumption) ?_
 rotate_left
 ·intro w hSw
  try dsimp only at hSw
  go_simp
  try with_reducible rfl
 simp only [Act.put, z1, z2, z3, z4, z5, z6]
 refine tkH (i := 1) (v := ?_) rfl (by kernel_rfl) (fun _ _ _ h => h) (Or.inl ⟨by rfl, ?_⟩) (by assumption) ?_
 rotate_left
 ·intro w hSw
  try dsimp only at hSw
  go_simp
  try with_reducible rfl
 simp only [Act.put, z1, z2, z3, z4, z5, z6]
 refine tkH (i := 2) (v := ?_) rfl (by kernel_rfl) (fun _ _ _ h => h) (Or.inl ⟨by rfl, ?_⟩) (by assumption) ?_
 rotate_left
 ·intro w hSw
  try dsimp only at hSw
  go_simp
  try with_reducible rfl
 simp only [Act.put, z1, z2, z3, z4, z5, z6]
 refine tkH (i := 3) (v := ?_) rfl (by kernel_rfl) (fun _ _ _ h => h) (Or.inl ⟨by rfl, ?_⟩) (by assumption) ?_
 rotate_left
 ·intro w hSw
  try dsimp only at hSw
  go_simp
  try with_reducible rfl
 simp only [Act.put, z1, z2, z3, z4, z5, z6]
 refine tkH (i := 4) (v := ?_) rfl (by kernel_rfl) (fun _ _ _ h => h) (Or.inl ⟨by rfl, ?_⟩) (by assumption) ?_
 rotate_left
 ·intro w hSw
  have q0 := hSw.cell 0
  have q1 := hSw.cell 1
  have q2 := hSw.cell 2
  have q3 := hSw.cell 3
  have q4 := hSw.cell 4
  have q5 := hSw.cell 5
  have q6 := hSw.cell 6
  simp at q0 q1 q2 q3 q4 q5 q6
  go_simp
  try with_reducible rfl
 simp only [Act.put, z1, z2, z3, z4, z5, z6]
 refine tkH (i := 7) (v := ?_) rfl (by kernel_rfl) (fun _ _ _ h => h) (Or.inl ⟨by rfl, ?_⟩) (by assumption) ?_
 rotate_left
 ·intro w hSw
  try dsimp only at hSw
  go_simp
  try with_reducible rfl
 simp only [Act.put, z1, z2, z3, z4, z5, z6]
 refine tkH (i := 8) (v := ?_) rfl (by kernel_rfl) (fun _ _ _ h => h) (Or.inl ⟨by rfl, ?_⟩) (by assumption) ?_
 rotate_left
 ·intro w hSw
  try dsimp only at hSw
  go_simp
  try with_reducible rfl
 simp only [Act.put, z1, z2, z3, z4, z5, z6]
 refine tkH (i := 9) (v := ?_) rfl (by kernel_rfl) (fun _ _ _ h => h) (Or.inl ⟨by rfl, ?_⟩) (by assumption) ?_
 rotate_left
 ·intro w hSw
  try dsimp only at hSw
  go_simp
  try with_reducible rfl
 simp only [Act.put, z1, z2, z3, z4, z5, z6]
 refine tkH (i := 10) (v := ?_) rfl (by kernel_rfl) (fun _ _ _ h => h) (Or.inl ⟨by rfl, ?_⟩) (by assumption) ?_
 rotate_left
 ·intro w hSw
  have q0 := hSw.cell 0
  have q1 := hSw.cell 1
  have q2 := hSw.cell 2
  have q3 := hSw.cell 3
  have q4 := hSw.cell 4
  have q5 := hSw.cell 5
  have q6 := hSw.cell 6
  simp at q0 q1 q2 q3 q4 q5 q6
  go_simp
  try with_reducible rfl
 simp only [Act.put, z1, z2, z3, z4, z5, z6]
 refine tkH (i := 11) (v := ?_) rfl (by kernel_rfl) (fun _ _ _ h => h) (Or.inl ⟨by rfl, ?_⟩) (by assumption) ?_
 rotate_left
 ·intro w hSw
  try dsimp only at hSw
  go_simp
  try with_reducible rfl
 simp only [Act.put, z1, z2, z3, z4, z5, z6]
 refine tkH (i := 12) (v := ?_) rfl (by kernel_rfl) (fun _ _ _ h => h) (Or.inl ⟨by rfl, ?_⟩) (by assumption) ?_
 rotate_left
 ·intro w hSw
  try dsimp only at hSw
  go_simp
  try with_reducible rfl
 simp only [Act.put, z1, z2, z3, z4, z5, z6]
 refine tkH (i := 13) (v := ?_) rfl (by kernel_rfl) (fun _ _ _ h => h) (Or.inl ⟨by rfl, ?_⟩) (by assumption) ?_
 rotate_left
 ·intro w hSw
  try dsimp only at hSw
  go_simp
  try with_reducible rfl
 simp only [Act.put, z1, z2, z3, z4, z5, z6]
 refine tkH (i := 14) (v := ?_) rfl (by kernel_rfl) (fun _ _ _ h => h) (Or.inl ⟨by rfl, ?_⟩) (by assumption) ?_
 rotate_left
 ·intro w hSw
  have q0 := hSw.cell 0
  have q1 := hSw.cell 1
  have q2 := hSw.cell 2
  have q3 := hSw.cell 3
  have q4 := hSw.cell 4
  have q5 := hSw.cell 5
  have q6 := hSw.cell 6
  simp at q0 q1 q2 q3 q4 q5 q6
  go_simp
  try with_reducible rfl
 simp only [Act.put, z1, z2, z3, z4, z5, z6]
 refine wpAnyH_ready (rs := [5]) (by kernel_rfl) (by simp) ?_
 refine AllReadyH.cons rfl (fun Kc hKc => ?_) AllReadyH.nil
 go_simp
 go_wp2_with ((go_at_call 235; refine P.out.mono ?_; rintro e w4 ⟨G', C', rfl, hG, hC, hg, hb'⟩; have HG4 := Lib.hid hg; have HB4 := Lib.hid hb'; have hGC : Hid (w.heap.size ≤ G' ∧ w.heap.size ≤ C') := ⟨hG, hC⟩; clear hg))
 refine hKc.out _ _ ?_ (fun hHeld => ?_)
 ·first | exact hHeld | exact hHeld.kept hb' | exact hHeld.alloc _
 clear hKc Kc
 refine tkH (i := 6) (v := ?_) rfl (by kernel_rfl) (fun _ _ _ h => h) (Or.inl ⟨by rfl, ?_⟩) (by assumption) ?_
 rotate_left
 ·intro w hSw
  try dsimp only at hSw
  go_simp
  try with_reducible rfl
 simp only [Act.put, z1, z2, z3, z4, z5, z6]
 refine tkH (i := 15) (v := ?_) rfl (by kernel_rfl) (fun _ _ _ h => h) (Or.inl ⟨by rfl, ?_⟩) (by assumption) ?_
 rotate_left
 ·intro w hSw
  try dsimp only at hSw
  go_simp
  try with_reducible rfl
 simp only [Act.put, z1, z2, z3, z4, z5, z6]
 refine wpAnyH_ready (rs := [16]) (by kernel_rfl) (by simp) ?_
 refine AllReadyH.cons rfl (fun Kc hKc => ?_) AllReadyH.nil
 go_simp
 refine hKc.out _ _ ?_ (fun hHeld => ?_)
 ·first | exact hHeld | exact hHeld.kept hb' | exact hHeld.alloc _
 clear hKc Kc
 refine tkH (i := 17) (v := ?_) rfl (by kernel_rfl) (fun _ _ _ h => h) (Or.inl ⟨by rfl, ?_⟩) (by assumption) ?_
 rotate_left
 ·intro w hSw
  try dsimp only at hSw
  go_simp
  try with_reducible rfl
 simp only [Act.put, z1, z2, z3, z4, z5, z6]
 refine wpAnyH_done (by kernel_rfl) ?_ _
 have HNEW := Lib.hid (Blk.new w4 288 #[.pointer (some ⟨G', 0, none⟩), .int .i64 b, .int .i64 r, .int .i64 d, .int .i64 m, .int .u64 s, .int .i64 l])
 have HAL : Hid (Below w4.heap.size w4 (w4.alloc (.cells #[.pointer (some ⟨G', 0, none⟩), .int .i64 b, .int .i64 r, .int .i64 d, .int .i64 m, .int .u64 s, .int .i64 l] 288))) := Lib.hid ((Below.refl _ _).alloc (Nat.le_refl _) _)
 have HG5 := Lib.hid (HG4.out.kept HAL.out)
 have HB5 : Hid (Below w.heap.size w _) := Lib.hid (((below_drewN (Below.refl w.heap.size w) 1).trans HB4.out).trans (HAL.out.mono HB4.out.size))
 clear hHeld
 go_wp2_with fail
 go_ret
 exact ⟨w4.heap.size, G', C', rfl, HB4.out.size, hGC.out.1, hGC.out.2, ⟨HNEW.out, HG5.out⟩, HB5.out⟩
def LvCopyPost (w : World) (b r d m s l : Int) (zs : List Int) (e : Ending) (w' : World) : Prop :=
  ∃ x A G C, e = .returned x ∧ w.heap.size ≤ A ∧ w.heap.size ≤ G ∧ w.heap.size ≤ C ∧ LevIs w' x A G C b r d m s l zs ∧ Below w.heap.size w w'
set_option maxRecDepth 100000 in
set_option maxHeartbeats 4000000 in
theorem lvcopy (w : World) (x : Value) (A G C : Nat) (b r d m s l : Int) (zs : List Int) (h : LevIs w x A G C b r d m s l zs) :
  Calls Tryz.prog 169 #[x] w (LvCopyPost w b r d m s l zs) := by
 rcases h with ⟨hx, rfl, ha⟩ | ⟨hx, rfl, ha⟩
 ·have t0 := taExEx ⟨A, 0, none⟩
  have P := Lib.hid (excopy w A G C b r d m s l _ zs ha)
  have HX := Lib.hid hx
  clear ha hx
  go_enter Tryz.func169, Tryz.ntmps169
  go_wp2_with fail
  with_reducible refine P.out.mono ?_
  rintro e w1 ⟨A', G', C', rfl, h1, h2, h3, h4, hb⟩
  have HP := Lib.hid (And.intro h1 (And.intro h2 (And.intro h3 (And.intro h4 hb))))
  clear h1 h2 h3 h4 hb P
  go_wp2_with fail
  go_ret
  exact ⟨_, A', G', C', rfl, HP.out.1, HP.out.2.1, HP.out.2.2.1, .inl ⟨HX.out, rfl, HP.out.2.2.2.1⟩, HP.out.2.2.2.2⟩
 ·have t0 := taSkEx ⟨A, 0, none⟩
  have t1 := taSkSk ⟨A, 0, none⟩
  have P := Lib.hid (skcopy w A G C b r d m s l zs ha)
  have HX := Lib.hid hx
  clear ha hx
  go_enter Tryz.func169, Tryz.ntmps169
  go_wp2_with fail
  with_reducible refine P.out.mono ?_
  rintro e w1 ⟨A', G', C', rfl, h1, h2, h3, h4, hb⟩
  have HP := Lib.hid (And.intro h1 (And.intro h2 (And.intro h3 (And.intro h4 hb))))
  clear h1 h2 h3 h4 hb P
  go_wp2_with fail
  go_ret
  exact ⟨_, A', G', C', rfl, HP.out.1, HP.out.2.1, HP.out.2.2.1, .inr ⟨HX.out, rfl, HP.out.2.2.2.1⟩, HP.out.2.2.2.2⟩
def StAtPost (w : World) (b r d m s l : Int) (zs : List Int) (e : Ending) (w' : World) : Prop :=
  ∃ x A G C, e = .returned (.tuple #[x, .bool true]) ∧ w.heap.size ≤ A ∧ w.heap.size ≤ G ∧ w.heap.size ≤ C ∧ LevIs w' x A G C b r d m s l zs ∧ Below w.heap.size w w'
set_option maxRecDepth 100000 in
set_option maxHeartbeats 4000000 in
theorem stAt (w : World) (base S L : Nat) (b r d m s : Int) (X : Nat → Value) (A G C : Nat → Nat) (Z : Nat → List Int) (h : StIs w base S L b r d m s X A G C Z) (n : Nat) (hn : n ≤ b.toNat) :
  Calls Tryz.prog 140 #[.pointer (some ⟨S, 0, none⟩), .int .i64 (n : Int)] w (StAtPost w b r d m s (n : Int) (Z n)) := by
 have PL := Lib.hid (stlevel w base S L b r d m s X A G C Z h n hn)
 have PC := Lib.hid (fun w' hb => lvcopy w' (X n) (A n) (G n) (C n) b r d m s n (Z n) ((h.kept hb).lev n hn))
 obtain ⟨t, hx⟩ := (h.lev n hn).open_
 clear h
 rw [hx] at PL PC
 go_enter Tryz.func140, Tryz.ntmps140
 go_wp2_with fail
 with_reducible refine PL.out.mono ?_
 rintro e w1 ⟨rfl, hw⟩
 subst hw
 have PC := Lib.hid (PC.out _ (Below.refl _ _))
 go_wp2_with fail
 with_reducible refine PC.out.mono ?_
 rintro e w2 ⟨x, A', G', C', rfl, h1, h2, h3, h4, hb⟩
 obtain ⟨t', hx'⟩ := h4.open_
 subst hx'
 have HP := Lib.hid (And.intro h1 (And.intro h2 (And.intro h3 (And.intro h4 hb))))
 clear h1 h2 h3 h4 hb PL
 go_wp2_with fail
 go_ret2
 exact ⟨_, A', G', C', rfl, HP.out.1, HP.out.2.1, HP.out.2.2.1, HP.out.2.2.2.1, HP.out.2.2.2.2⟩
set_option maxRecDepth 100000 in
set_option maxHeartbeats 4000000 in
theorem lvinner (w : World) (x y : Value) (A G C B H D : Nat) (b r d s l : Int) (zs hs : List Int) (K : Nat) (hK0 : K = (keysI b r d 1 l).toNat) (hx : LevIs w x A G C b r d 1 s l zs) (hy : LevIs w y B H D b r d 1 s l hs) (he : exactB b r d 1 l = true) (hz : ∀ x ∈ zs, 0 ≤ x ∧ x ≤ 1000000) (hh : ∀ x ∈ hs, 0 ≤ x ∧ x ≤ 1000000) :
  Calls Tryz.prog 141 #[x, y] w fun e w' => e = .returned (.tuple #[.agg #[.int .i64 0, .int .u64 ((dotN zs hs K : Nat) : Int)], .int .i64 0]) ∧ Below w.heap.size w w' := by
 have hx' := hx
 have hy' := hy
 obtain ⟨rfl, ha⟩ : x = .iface 232 (.pointer (some ⟨A, 0, none⟩)) ∧ ArrIs w A G C b r d 1 s l (keysI b r d 1 l).toNat zs := by
  rcases hx' with ⟨-, h1, h2⟩ | ⟨h0, -, -⟩
  ·exact ⟨h1, h2⟩
  ·rw [he] at h0; cases h0
 obtain ⟨rfl, hb⟩ : y = .iface 232 (.pointer (some ⟨B, 0, none⟩)) ∧ ArrIs w B H D b r d 1 s l (keysI b r d 1 l).toNat hs := by
  rcases hy' with ⟨-, h1, h2⟩ | ⟨h0, -, -⟩
  ·exact ⟨h1, h2⟩
  ·rw [he] at h0; cases h0
 clear hx hy hx' hy'
 obtain ⟨P, hP⟩ : ∃ P, P = ((dotN zs hs K : Nat) : Int) := ⟨_, rfl⟩
 rw [← hP]
 have HP := Lib.hid hP
 clear hP
 have hgd : Tryz.prog.eqGuardType Tryz.prog.depth 24 = false := by kernel_rfl
 have EQ := eqCfg b r d 1 s b r d 1 s
 have hq : cfgEq b r d 1 s b r d 1 s = true := by simp [cfgEq]
 rw [hq] at EQ
 have hb1 : Below w.heap.size w (w.alloc (.cells #[.int .i64 0, .int .u64 0] 143)) := (Below.refl _ w).alloc (Nat.le_refl _) _
 have HRS := Lib.hid (Blk.new w 143 #[.int .i64 0, .int .u64 0])
 have HA := Lib.hid (ha.kept hb1)
 have HB := Lib.hid (hb.kept hb1)
 have HB1 := Lib.hid hb1
 have P0 := Lib.hid (fun w => sketches_ex (.iface 232 (.pointer (some ⟨A, 0, none⟩))) ⟨B, 0, none⟩ w)
 have P1 := Lib.hid (fun w => arrays_ex ⟨A, 0, none⟩ ⟨B, 0, none⟩ w)
 have hlz : zs.length = (keysI b r d 1 l).toNat := by rw [ha.2.len, Nat.one_mul]
 have hlh : hs.length = (keysI b r d 1 l).toNat := by rw [hb.2.len, Nat.one_mul]
 have hK : (keysI b r d 1 l).toNat ≤ 1024 := by have h1 := ha.2.width; omega
 rw [← hK0] at hlz hlh hK ha hb HA HB
 clear hK0
 clear ha hb hb1 hq he
 have hfd : ∀ w : World, (Instr.field 24 (.agg #[.int .i64 b, .int .i64 r, .int .i64 d, .int .i64 1, .int .u64 s]) 3).run Tryz.prog w = .ok (.int .i64 1) w := fun _ => by kernel_rfl
 go_enter Tryz.func141, Tryz.ntmps141
 go_wp2_with fail
 generalize (w.alloc (.cells #[.int .i64 0, .int .u64 0] 143)) = w1 at *
 with_reducible refine (P0.out _).mono ?_
 rintro e w2 ⟨rfl, hw⟩
 subst hw
 go_wp2_with fail
 with_reducible refine (P1.out _).mono ?_
 rintro e w2 ⟨rfl, hw⟩
 subst hw
 have PC1 := Lib.hid (exconfig w1 A G C b r d 1 s l K zs HA.out)
 go_wp2_with fail
 with_reducible refine PC1.out.mono ?_
 rintro e w2 ⟨rfl, hb2⟩
 have HA2 := Lib.hid (HA.out.kept hb2)
 have HB2 := Lib.hid (HB.out.kept hb2)
 have HBL2 := Lib.hid (btr HB1.out hb2)
 have HRS2 := Lib.hid (HRS.out.kept hb2)
 have PC2 := Lib.hid (exconfig w2 B H D b r d 1 s l K hs HB2.out)
 clear hb2 HA HB HB1 HRS PC1
 go_wp2_with fail
 with_reducible refine PC2.out.mono ?_
 rintro e w3 ⟨rfl, hb3⟩
 have HA3 := Lib.hid (HA2.out.kept hb3)
 have HB3 := Lib.hid (HB2.out.kept hb3)
 have HBL3 := Lib.hid (btr HBL2.out hb3)
 have HRS3 := Lib.hid ((show Blk w2 w.heap.size 143 #[.int .i64 0, .int .u64 0] from HRS2.out).kept hb3)
 have PL1 := Lib.hid (exlevel w3 A G C b r d 1 s l K zs HA3.out)
 have PL2 := Lib.hid (exlevel w3 B H D b r d 1 s l K hs HB3.out)
 clear hb3 HA2 HB2 HBL2 HRS2 PC2
 go_wp2_with fail
 with_reducible refine PL1.out.mono ?_
 rintro e w4 ⟨rfl, hw⟩
 subst hw
 go_wp2_with fail
 with_reducible refine PL2.out.mono ?_
 rintro e w4 ⟨rfl, hw⟩
 subst hw
 have PC3 := Lib.hid (exconfig w3 A G C b r d 1 s l K zs HA3.out)
 go_wp2_with fail
 with_reducible refine PC3.out.mono ?_
 rintro e w4 ⟨rfl, hb4⟩
 have HA4 := Lib.hid (HA3.out.kept hb4)
 have HB4 := Lib.hid (HB3.out.kept hb4)
 have HBL4 := Lib.hid (btr HBL3.out hb4)
 have HRS4 := Lib.hid (HRS3.out.kept hb4)
 have PX := Lib.hid (excells w4 A G C b r d 1 s l K zs HA4.out)
 clear hb4 HA3 HB3 HBL3 HRS3 PC3 PL1 PL2
 go_wp2_with fail
 with_reducible refine PX.out.mono ?_
 rintro e w5 ⟨v, rfl, hown, hne, hb5⟩
 obtain ⟨gz, cz, rfl, -, -, curz, hbz, hcz⟩ := own_row hown hne
 have HZ5 := Lib.hid (And.intro hbz hcz)
 rw [hlz]
 have HB5 := Lib.hid (HB4.out.kept hb5)
 have HBL5 := Lib.hid (btr HBL4.out hb5)
 have HRS5 := Lib.hid (HRS4.out.kept hb5)
 have PY := Lib.hid (excells w5 B H D b r d 1 s l K hs HB5.out)
 clear hown hne hbz hcz hb5 HA4 HB4 HBL4 HRS4 PX
 go_wp2_with fail
 with_reducible refine PY.out.mono ?_
 rintro e w6 ⟨v, rfl, hown, hne, hb6⟩
 obtain ⟨gh, ch, rfl, -, -, curh, hbh, hch⟩ := own_row hown hne
 have hbz6 := HZ5.out.1.kept hb6
 have HBL6 := Lib.hid (btr HBL5.out hb6)
 have HRS6 := Lib.hid (HRS5.out.kept hb6)
 have PD := dot_small w6 gz gh cz ch K zs hs (by omega) hlz hlh hz hh (fun i u hu => (hbz6.cell i).trans (HZ5.out.2 i u hu)) (fun i u hu => (hbh.cell i).trans (hch i u hu)) hbz6.lt hbh.lt
 rw [hlh]
 rw [← HP.out] at PD
 have PD := Lib.hid PD
 clear hown hne hbh hch hb6 hbz6 HB5 HBL5 HRS5 PY HZ5 hz hh
 go_wp2_with fail
 with_reducible refine PD.out.mono ?_
 rintro e w7 ⟨rfl, hb7⟩
 have HBL7 := Lib.hid (btr HBL6.out hb7)
 have HRS7 := Lib.hid (HRS6.out.kept hb7)
 clear hb7 PD HBL6 HRS6
 go_wp2_with (refine wpList_store_row rfl 143 _ _ rfl w.heap.size #[.int .i64 0, .int .u64 P] rfl (by rfl) 143 _ (HRS7.out.kept ((Below.refl _ _).alloc (Nat.le_refl _) _)) (by kernel_rfl) rfl (by simp [Value.oneCell']) ?_)
 have HF := Lib.hid (blkRowNew (cs' := #[.int .i64 0, .int .u64 P]) (HRS7.out.kept ((Below.refl w7.heap.size w7).alloc (Nat.le_refl _) (.cells #[.int .i64 0, .int .u64 P] 143))))
 refine bodyPost_ret (results_row_tmp rfl _ _ w.heap.size 143 _ (0, 0) _ rfl HF.out Tryz.underlying143 rfl (by kernel_rfl)) rfl ?_
 exact ⟨rfl, below_setRow (HBL7.out.alloc HBL7.out.size _) (Nat.le_refl _) _⟩
end Go.Proofs.YtfeficdndjiijaaGreatDoor


namespace Go.Proofs.YtfeficdndjiijaaGreatDoor
open Go.RowKit
set_option linter.unusedVariables false
set_option linter.unusedSimpArgs false

set_option maxRecDepth 100000 in
set_option maxHeartbeats 4000000 in
theorem skalike_yes (w : World) (A G C B H D : Nat) (b r d m s l : Int) (zs hs : List Int) (ha : SkIs w A G C b r d m s l zs) (hb : SkIs w B H D b r d m s l hs) :
  Calls Tryz.prog 224 #[.pointer (some ⟨A, 0, none⟩), .pointer (some ⟨B, 0, none⟩)] w fun e w' => e = .returned (.bool true) ∧ Below w.heap.size w w' := by
 have hgd : Tryz.prog.eqGuardType Tryz.prog.depth 24 = false := by kernel_rfl
 have EQ := eqCfg b r d m s b r d m s
 have hq : cfgEq b r d m s b r d m s = true := by simp [cfgEq]
 rw [hq] at EQ
 have HA := Lib.hid ha
 have HB := Lib.hid hb
 clear ha hb hq
 go_enter Tryz.func224, Tryz.ntmps224
 go_wp2_with fail
 refine wp_region_held_drew (S := fun w' => Blk w' A 288 #[.pointer (some ⟨G, 0, none⟩), .int .i64 b, .int .i64 r, .int .i64 d, .int .i64 m, .int .u64 s, .int .i64 l] ∧ Blk w' B 288 #[.pointer (some ⟨H, 0, none⟩), .int .i64 b, .int .i64 r, .int .i64 d, .int .i64 m, .int .u64 s, .int .i64 l] ∧ Below w.heap.size w w') (by kernel_rfl) (by exact ⟨HA.out.box.drewN 1, HB.out.box.drewN 1, below_drewN (Below.refl _ _) 1⟩) (fun hHeld => ?_)
 refine tkH (i := 0) (v := ?_) rfl (by kernel_rfl) (fun _ _ _ h => h) (Or.inl ⟨by rfl, ?_⟩) (by assumption) ?_
 rotate_left
 ·intro w hSw
  try dsimp only at hSw
  go_simp
  try with_reducible rfl
 simp only [Act.put, z1, z2, z3, z4, z5, z6]
 refine tkH (i := 1) (v := ?_) rfl (by kernel_rfl) (fun _ _ _ h => h) (Or.inl ⟨by rfl, ?_⟩) (by assumption) ?_
 rotate_left
 ·intro w hSw
  try dsimp only at hSw
  go_simp
  try with_reducible rfl
 simp only [Act.put, z1, z2, z3, z4, z5, z6]
 refine tkH (i := 2) (v := ?_) rfl (by kernel_rfl) (fun _ _ _ h => h) (Or.inl ⟨by rfl, ?_⟩) (by assumption) ?_
 rotate_left
 ·intro w hSw
  try dsimp only at hSw
  go_simp
  try with_reducible rfl
 simp only [Act.put, z1, z2, z3, z4, z5, z6]
 refine tkH (i := 3) (v := ?_) rfl (by kernel_rfl) (fun _ _ _ h => h) (Or.inl ⟨by rfl, ?_⟩) (by assumption) ?_
 rotate_left
 ·intro w hSw
  try dsimp only at hSw
  go_simp
  try with_reducible rfl
 simp only [Act.put, z1, z2, z3, z4, z5, z6]
 refine tkH (i := 4) (v := ?_) rfl (by kernel_rfl) (fun _ _ _ h => h) (Or.inl ⟨by rfl, ?_⟩) (by assumption) ?_
 rotate_left
 ·intro w hSw
  try dsimp only at hSw
  go_simp
  try with_reducible rfl
 simp only [Act.put, z1, z2, z3, z4, z5, z6]
 refine tkH (i := 5) (v := ?_) rfl (by kernel_rfl) (fun _ _ _ h => h) (Or.inl ⟨by rfl, ?_⟩) (by assumption) ?_
 rotate_left
 ·intro w hSw
  try dsimp only at hSw
  go_simp
  try with_reducible rfl
 simp only [Act.put, z1, z2, z3, z4, z5, z6]
 refine tkH (i := 6) (v := ?_) rfl (by kernel_rfl) (fun _ _ _ h => h) (Or.inl ⟨by rfl, ?_⟩) (by assumption) ?_
 rotate_left
 ·intro w hSw
  have q0 := hSw.1.cell 0
  have q1 := hSw.1.cell 1
  have q2 := hSw.1.cell 2
  have q3 := hSw.1.cell 3
  have q4 := hSw.1.cell 4
  have q5 := hSw.1.cell 5
  have q6 := hSw.1.cell 6
  have p0 := hSw.2.1.cell 0
  have p1 := hSw.2.1.cell 1
  have p2 := hSw.2.1.cell 2
  have p3 := hSw.2.1.cell 3
  have p4 := hSw.2.1.cell 4
  have p5 := hSw.2.1.cell 5
  have p6 := hSw.2.1.cell 6
  simp at q0 q1 q2 q3 q4 q5 q6 p0 p1 p2 p3 p4 p5 p6
  go_simp
  try with_reducible rfl
 simp only [Act.put, z1, z2, z3, z4, z5, z6]
 refine tkH (i := 7) (v := ?_) rfl (by kernel_rfl) (fun _ _ _ h => h) (Or.inl ⟨by rfl, ?_⟩) (by assumption) ?_
 rotate_left
 ·intro w hSw
  try dsimp only at hSw
  go_simp
  try with_reducible rfl
 simp only [Act.put, z1, z2, z3, z4, z5, z6]
 refine tkH (i := 8) (v := ?_) rfl (by kernel_rfl) (fun _ _ _ h => h) (Or.inl ⟨by rfl, ?_⟩) (by assumption) ?_
 rotate_left
 ·intro w hSw
  try dsimp only at hSw
  go_simp
  try with_reducible rfl
 simp only [Act.put, z1, z2, z3, z4, z5, z6]
 refine tkH (i := 9) (v := ?_) rfl (by kernel_rfl) (fun _ _ _ h => h) (Or.inl ⟨by rfl, ?_⟩) (by assumption) ?_
 rotate_left
 ·intro w hSw
  try dsimp only at hSw
  go_simp
  try with_reducible rfl
 simp only [Act.put, z1, z2, z3, z4, z5, z6]
 refine tkH (i := 10) (v := ?_) rfl (by kernel_rfl) (fun _ _ _ h => h) (Or.inl ⟨by rfl, ?_⟩) (by assumption) ?_
 rotate_left
 ·intro w hSw
  have q0 := hSw.1.cell 0
  have q1 := hSw.1.cell 1
  have q2 := hSw.1.cell 2
  have q3 := hSw.1.cell 3
  have q4 := hSw.1.cell 4
  have q5 := hSw.1.cell 5
  have q6 := hSw.1.cell 6
  have p0 := hSw.2.1.cell 0
  have p1 := hSw.2.1.cell 1
  have p2 := hSw.2.1.cell 2
  have p3 := hSw.2.1.cell 3
  have p4 := hSw.2.1.cell 4
  have p5 := hSw.2.1.cell 5
  have p6 := hSw.2.1.cell 6
  simp at q0 q1 q2 q3 q4 q5 q6 p0 p1 p2 p3 p4 p5 p6
  go_simp
  try with_reducible rfl
 simp only [Act.put, z1, z2, z3, z4, z5, z6]
 refine tkH (i := 11) (v := ?_) rfl (by kernel_rfl) (fun _ _ _ h => h) (Or.inl ⟨by rfl, ?_⟩) (by assumption) ?_
 rotate_left
 ·intro w hSw
  try dsimp only at hSw
  go_simp
  try with_reducible rfl
 simp only [Act.put, z1, z2, z3, z4, z5, z6]
 refine tkH (i := 12) (v := ?_) rfl (by kernel_rfl) (fun _ _ _ h => h) (Or.inl ⟨by rfl, ?_⟩) (by assumption) ?_
 rotate_left
 ·intro w hSw
  try dsimp only at hSw
  go_simp
  try with_reducible rfl
 simp only [Act.put, z1, z2, z3, z4, z5, z6]
 refine tkH (i := 13) (v := ?_) rfl (by kernel_rfl) (fun _ _ _ h => h) (Or.inl ⟨by rfl, ?_⟩) (by assumption) ?_
 rotate_left
 ·intro w hSw
  try dsimp only at hSw
  go_simp
  try with_reducible rfl
 simp only [Act.put, z1, z2, z3, z4, z5, z6]
 refine tkH (i := 14) (v := ?_) rfl (by kernel_rfl) (fun _ _ _ h => h) (Or.inl ⟨by rfl, ?_⟩) (by assumption) ?_
 rotate_left
 ·intro w hSw
  try dsimp only at hSw
  go_simp
  try with_reducible rfl
 simp only [Act.put, z1, z2, z3, z4, z5, z6]
 refine tkH (i := 15) (v := ?_) rfl (by kernel_rfl) (fun _ _ _ h => h) (Or.inl ⟨by rfl, ?_⟩) (by assumption) ?_
 rotate_left
 ·intro w hSw
  try dsimp only at hSw
  go_simp
  try with_reducible rfl
 simp only [Act.put, z1, z2, z3, z4, z5, z6]
 refine tkH (i := 16) (v := ?_) rfl (by kernel_rfl) (fun _ _ _ h => h) (Or.inl ⟨by rfl, ?_⟩) (by assumption) ?_
 rotate_left
 ·intro w hSw
  try dsimp only at hSw
  go_simp
  try with_reducible rfl
 simp only [Act.put, z1, z2, z3, z4, z5, z6]
 refine tkH (i := 17) (v := ?_) rfl (by kernel_rfl) (fun _ _ _ h => h) (Or.inl ⟨by rfl, ?_⟩) (by assumption) ?_
 rotate_left
 ·intro w hSw
  have q0 := hSw.1.cell 0
  have q1 := hSw.1.cell 1
  have q2 := hSw.1.cell 2
  have q3 := hSw.1.cell 3
  have q4 := hSw.1.cell 4
  have q5 := hSw.1.cell 5
  have q6 := hSw.1.cell 6
  have p0 := hSw.2.1.cell 0
  have p1 := hSw.2.1.cell 1
  have p2 := hSw.2.1.cell 2
  have p3 := hSw.2.1.cell 3
  have p4 := hSw.2.1.cell 4
  have p5 := hSw.2.1.cell 5
  have p6 := hSw.2.1.cell 6
  simp at q0 q1 q2 q3 q4 q5 q6 p0 p1 p2 p3 p4 p5 p6
  go_simp
  try with_reducible rfl
 simp only [Act.put, z1, z2, z3, z4, z5, z6]
 refine tkH (i := 18) (v := ?_) rfl (by kernel_rfl) (fun _ _ _ h => h) (Or.inl ⟨by rfl, ?_⟩) (by assumption) ?_
 rotate_left
 ·intro w hSw
  try dsimp only at hSw
  go_simp
  try with_reducible rfl
 simp only [Act.put, z1, z2, z3, z4, z5, z6]
 refine tkH (i := 19) (v := ?_) rfl (by kernel_rfl) (fun _ _ _ h => h) (Or.inl ⟨by rfl, ?_⟩) (by assumption) ?_
 rotate_left
 ·intro w hSw
  try dsimp only at hSw
  go_simp
  try with_reducible rfl
 simp only [Act.put, z1, z2, z3, z4, z5, z6]
 refine tkH (i := 20) (v := ?_) rfl (by kernel_rfl) (fun _ _ _ h => h) (Or.inl ⟨by rfl, ?_⟩) (by assumption) ?_
 rotate_left
 ·intro w hSw
  try dsimp only at hSw
  go_simp
  try with_reducible rfl
 simp only [Act.put, z1, z2, z3, z4, z5, z6]
 refine tkH (i := 21) (v := ?_) rfl (by kernel_rfl) (fun _ _ _ h => h) (Or.inl ⟨by rfl, ?_⟩) (by assumption) ?_
 rotate_left
 ·intro w hSw
  have q0 := hSw.1.cell 0
  have q1 := hSw.1.cell 1
  have q2 := hSw.1.cell 2
  have q3 := hSw.1.cell 3
  have q4 := hSw.1.cell 4
  have q5 := hSw.1.cell 5
  have q6 := hSw.1.cell 6
  have p0 := hSw.2.1.cell 0
  have p1 := hSw.2.1.cell 1
  have p2 := hSw.2.1.cell 2
  have p3 := hSw.2.1.cell 3
  have p4 := hSw.2.1.cell 4
  have p5 := hSw.2.1.cell 5
  have p6 := hSw.2.1.cell 6
  simp at q0 q1 q2 q3 q4 q5 q6 p0 p1 p2 p3 p4 p5 p6
  go_simp
  try with_reducible rfl
 simp only [Act.put, z1, z2, z3, z4, z5, z6]
 refine tkH (i := 22) (v := ?_) rfl (by kernel_rfl) (fun _ _ _ h => h) (Or.inl ⟨by rfl, ?_⟩) (by assumption) ?_
 rotate_left
 ·intro w hSw
  try dsimp only at hSw
  go_simp
  try with_reducible rfl
 simp only [Act.put, z1, z2, z3, z4, z5, z6]
 refine tkH (i := 23) (v := ?_) rfl (by kernel_rfl) (fun _ _ _ h => h) (Or.inl ⟨by rfl, ?_⟩) (by assumption) ?_
 rotate_left
 ·intro w hSw
  try dsimp only at hSw
  go_simp
  try with_reducible rfl
 simp only [Act.put, z1, z2, z3, z4, z5, z6]
 refine tkH (i := 24) (v := ?_) rfl (by kernel_rfl) (fun _ _ _ h => h) (Or.inl ⟨by rfl, ?_⟩) (by assumption) ?_
 rotate_left
 ·intro w hSw
  try dsimp only at hSw
  go_simp
  try with_reducible rfl
 simp only [Act.put, z1, z2, z3, z4, z5, z6]
 refine wpAnyH_done (by kernel_rfl) ?_ _
 go_wp2
 go_ret
 exact ⟨rfl, hHeld.2.2⟩
set_option maxRecDepth 100000 in
set_option maxHeartbeats 4000000 in
theorem skmerge (w : World) (A G C B H D : Nat) (b r d m s l : Int) (zs hs : List Int) (ha : SkIs w A G C b r d m s l zs) (hb : SkIs w B H D b r d m s l hs) (hfit : Fit (List.zipWith (fun a b => a + b) zs hs)) :
  Calls Tryz.prog 190 #[.pointer (some ⟨A, 0, none⟩), .pointer (some ⟨B, 0, none⟩)] w fun e w' => e = .returned (.int .i64 0) ∧ SkIs w' A G C b r d m s l (List.zipWith (fun a b => a + b) zs hs) ∧ w.grownBy w' (some C) := by
 have PA := Lib.hid (skalike_yes w A G C B H D b r d m s l zs hs ha hb)
 have P := Lib.hid (fun (w : World) (hg : GridIs w G C r.toNat d.toNat zs) (hh : GridIs w H D r.toNat d.toNat hs) => gplus_yes w G C H D r.toNat d.toNat zs hs hg hh hfit)
 have HA := Lib.hid ha
 have HB := Lib.hid hb
 have HBC : Hid (B ≠ C) := by
  obtain ⟨cur, hc, _⟩ := ha.grid.cells
  exact hb.box.ne_ hc (by decide)
 clear ha hb hfit
 go_enter Tryz.func190, Tryz.ntmps190
 go_wp2_with fail
 with_reducible refine PA.out.mono ?_
 rintro e w1 ⟨rfl, hb1⟩
 have HA1 := Lib.hid (HA.out.kept hb1)
 have HB1 := Lib.hid (HB.out.kept hb1)
 have HBB := Lib.hid hb1
 clear hb1 PA HA HB
 go_wp2_with fail
 refine wp_region_held_drew (S := fun w' => Blk w' A 288 #[.pointer (some ⟨G, 0, none⟩), .int .i64 b, .int .i64 r, .int .i64 d, .int .i64 m, .int .u64 s, .int .i64 l] ∧ Blk w' B 288 #[.pointer (some ⟨H, 0, none⟩), .int .i64 b, .int .i64 r, .int .i64 d, .int .i64 m, .int .u64 s, .int .i64 l]) (by kernel_rfl) (by exact ⟨HA1.out.box.drewN 1, HB1.out.box.drewN 1⟩) (fun hHeld => ?_)
 refine tkH (i := 0) (v := ?_) rfl (by kernel_rfl) (fun _ _ _ h => h) (Or.inl ⟨by rfl, ?_⟩) (by assumption) ?_
 rotate_left
 ·intro w hSw
  try dsimp only at hSw
  go_simp
  try with_reducible rfl
 simp only [Act.put, z1, z2, z3, z4, z5, z6]
 refine tkH (i := 1) (v := ?_) rfl (by kernel_rfl) (fun _ _ _ h => h) (Or.inl ⟨by rfl, ?_⟩) (by assumption) ?_
 rotate_left
 ·intro w hSw
  try dsimp only at hSw
  go_simp
  try with_reducible rfl
 simp only [Act.put, z1, z2, z3, z4, z5, z6]
 refine tkH (i := 2) (v := ?_) rfl (by kernel_rfl) (fun _ _ _ h => h) (Or.inl ⟨by rfl, ?_⟩) (by assumption) ?_
 rotate_left
 ·intro w hSw
  try dsimp only at hSw
  go_simp
  try with_reducible rfl
 simp only [Act.put, z1, z2, z3, z4, z5, z6]
 refine tkH (i := 3) (v := ?_) rfl (by kernel_rfl) (fun _ _ _ h => h) (Or.inl ⟨by rfl, ?_⟩) (by assumption) ?_
 rotate_left
 ·intro w hSw
  try dsimp only at hSw
  go_simp
  try with_reducible rfl
 simp only [Act.put, z1, z2, z3, z4, z5, z6]
 refine tkH (i := 4) (v := ?_) rfl (by kernel_rfl) (fun _ _ _ h => h) (Or.inl ⟨by rfl, ?_⟩) (by assumption) ?_
 rotate_left
 ·intro w hSw
  have q0 := hSw.1.cell 0
  have p0 := hSw.2.cell 0
  simp at q0 p0
  go_simp
  try with_reducible rfl
 simp only [Act.put, z1, z2, z3, z4, z5, z6]
 refine tkH (i := 5) (v := ?_) rfl (by kernel_rfl) (fun _ _ _ h => h) (Or.inl ⟨by rfl, ?_⟩) (by assumption) ?_
 rotate_left
 ·intro w hSw
  try dsimp only at hSw
  go_simp
  try with_reducible rfl
 simp only [Act.put, z1, z2, z3, z4, z5, z6]
 refine tkH (i := 6) (v := ?_) rfl (by kernel_rfl) (fun _ _ _ h => h) (Or.inl ⟨by rfl, ?_⟩) (by assumption) ?_
 rotate_left
 ·intro w hSw
  try dsimp only at hSw
  go_simp
  try with_reducible rfl
 simp only [Act.put, z1, z2, z3, z4, z5, z6]
 refine tkH (i := 7) (v := ?_) rfl (by kernel_rfl) (fun _ _ _ h => h) (Or.inl ⟨by rfl, ?_⟩) (by assumption) ?_
 rotate_left
 ·intro w hSw
  try dsimp only at hSw
  go_simp
  try with_reducible rfl
 simp only [Act.put, z1, z2, z3, z4, z5, z6]
 refine tkH (i := 8) (v := ?_) rfl (by kernel_rfl) (fun _ _ _ h => h) (Or.inl ⟨by rfl, ?_⟩) (by assumption) ?_
 rotate_left
 ·intro w hSw
  try dsimp only at hSw
  go_simp
  try with_reducible rfl
 simp only [Act.put, z1, z2, z3, z4, z5, z6]
 refine tkH (i := 9) (v := ?_) rfl (by kernel_rfl) (fun _ _ _ h => h) (Or.inl ⟨by rfl, ?_⟩) (by assumption) ?_
 rotate_left
 ·intro w hSw
  have q0 := hSw.1.cell 0
  have p0 := hSw.2.cell 0
  simp at q0 p0
  go_simp
  try with_reducible rfl
 simp only [Act.put, z1, z2, z3, z4, z5, z6]
 refine wpAnyH_ready (rs := [10]) (by kernel_rfl) (by simp) ?_
 refine AllReadyH.cons rfl (fun Kc hKc => ?_) AllReadyH.nil
 go_simp
 go_wp2_with ((go_at_call 225; refine (P.out _ (HA1.out.grid.drewN 1) (HB1.out.grid.drewN 1)).mono ?_; rintro e w5 ⟨rfl, hg5, hgr5⟩; have HG5 := Lib.hid hg5; have HGR := Lib.hid hgr5; clear hg5 hgr5))
 refine hKc.out _ _ ?_ (fun hHeld => ?_)
 ·first | exact hHeld | exact ⟨hHeld.1.grown HGR.out (by simpa using HA1.out.neA), hHeld.2.grown HGR.out (by simpa using (show B ≠ C from HBC.out))⟩
 clear hKc Kc
 refine tkH (i := 11) (v := ?_) rfl (by kernel_rfl) (fun _ _ _ h => h) (Or.inl ⟨by rfl, ?_⟩) (by assumption) ?_
 rotate_left
 ·intro w hSw
  try dsimp only at hSw
  go_simp
  try with_reducible rfl
 simp only [Act.put, z1, z2, z3, z4, z5, z6]
 refine wpAnyH_done (by kernel_rfl) ?_ _
 have HXA := Lib.hid hHeld.1
 clear hHeld
 go_wp2
 go_ret
 exact ⟨rfl, ⟨HXA.out, HG5.out⟩, gr_trans (below_gr (below_drewN HBB.out 1)) HGR.out⟩
set_option maxRecDepth 100000 in
set_option maxHeartbeats 4000000 in
theorem sksub (w : World) (A G C B H D : Nat) (b r d m s l : Int) (zs hs : List Int) (hm : m ≠ 2) (ha : SkIs w A G C b r d m s l zs) (hb : SkIs w B H D b r d m s l hs) (hfit : Fit (List.zipWith (fun a b => a - b) zs hs)) :
  Calls Tryz.prog 192 #[.pointer (some ⟨A, 0, none⟩), .pointer (some ⟨B, 0, none⟩)] w fun e w' => e = .returned (.int .i64 0) ∧ SkIs w' A G C b r d m s l (List.zipWith (fun a b => a - b) zs hs) ∧ w.grownBy w' (some C) := by
 have PA := Lib.hid (skalike_yes w A G C B H D b r d m s l zs hs ha hb)
 have P := Lib.hid (fun (w : World) (hg : GridIs w G C r.toNat d.toNat zs) (hh : GridIs w H D r.toNat d.toNat hs) => gminus_yes w G C H D r.toNat d.toNat zs hs hg hh hfit)
 have HA := Lib.hid ha
 have HB := Lib.hid hb
 have HBC : Hid (B ≠ C) := by
  obtain ⟨cur, hc, _⟩ := ha.grid.cells
  exact hb.box.ne_ hc (by decide)
 clear ha hb hfit
 go_enter Tryz.func192, Tryz.ntmps192
 go_wp2_with fail
 with_reducible refine PA.out.mono ?_
 rintro e w1 ⟨rfl, hb1⟩
 have HA1 := Lib.hid (HA.out.kept hb1)
 have HB1 := Lib.hid (HB.out.kept hb1)
 have HBB := Lib.hid hb1
 clear hb1 PA HA HB
 have c4 := HA1.out.box.cell 4
 simp at c4
 go_wp2_with fail
 refine wp_region_held_drew (S := fun w' => Blk w' A 288 #[.pointer (some ⟨G, 0, none⟩), .int .i64 b, .int .i64 r, .int .i64 d, .int .i64 m, .int .u64 s, .int .i64 l] ∧ Blk w' B 288 #[.pointer (some ⟨H, 0, none⟩), .int .i64 b, .int .i64 r, .int .i64 d, .int .i64 m, .int .u64 s, .int .i64 l]) (by kernel_rfl) (by exact ⟨HA1.out.box.drewN 1, HB1.out.box.drewN 1⟩) (fun hHeld => ?_)
 refine tkH (i := 0) (v := ?_) rfl (by kernel_rfl) (fun _ _ _ h => h) (Or.inl ⟨by rfl, ?_⟩) (by assumption) ?_
 rotate_left
 ·intro w hSw
  try dsimp only at hSw
  go_simp
  try with_reducible rfl
 simp only [Act.put, z1, z2, z3, z4, z5, z6]
 refine tkH (i := 1) (v := ?_) rfl (by kernel_rfl) (fun _ _ _ h => h) (Or.inl ⟨by rfl, ?_⟩) (by assumption) ?_
 rotate_left
 ·intro w hSw
  try dsimp only at hSw
  go_simp
  try with_reducible rfl
 simp only [Act.put, z1, z2, z3, z4, z5, z6]
 refine tkH (i := 2) (v := ?_) rfl (by kernel_rfl) (fun _ _ _ h => h) (Or.inl ⟨by rfl, ?_⟩) (by assumption) ?_
 rotate_left
 ·intro w hSw
  try dsimp only at hSw
  go_simp
  try with_reducible rfl
 simp only [Act.put, z1, z2, z3, z4, z5, z6]
 refine tkH (i := 3) (v := ?_) rfl (by kernel_rfl) (fun _ _ _ h => h) (Or.inl ⟨by rfl, ?_⟩) (by assumption) ?_
 rotate_left
 ·intro w hSw
  try dsimp only at hSw
  go_simp
  try with_reducible rfl
 simp only [Act.put, z1, z2, z3, z4, z5, z6]
 refine tkH (i := 4) (v := ?_) rfl (by kernel_rfl) (fun _ _ _ h => h) (Or.inl ⟨by rfl, ?_⟩) (by assumption) ?_
 rotate_left
 ·intro w hSw
  have q0 := hSw.1.cell 0
  have p0 := hSw.2.cell 0
  simp at q0 p0
  go_simp
  try with_reducible rfl
 simp only [Act.put, z1, z2, z3, z4, z5, z6]
 refine tkH (i := 5) (v := ?_) rfl (by kernel_rfl) (fun _ _ _ h => h) (Or.inl ⟨by rfl, ?_⟩) (by assumption) ?_
 rotate_left
 ·intro w hSw
  try dsimp only at hSw
  go_simp
  try with_reducible rfl
 simp only [Act.put, z1, z2, z3, z4, z5, z6]
 refine tkH (i := 6) (v := ?_) rfl (by kernel_rfl) (fun _ _ _ h => h) (Or.inl ⟨by rfl, ?_⟩) (by assumption) ?_
 rotate_left
 ·intro w hSw
  try dsimp only at hSw
  go_simp
  try with_reducible rfl
 simp only [Act.put, z1, z2, z3, z4, z5, z6]
 refine tkH (i := 7) (v := ?_) rfl (by kernel_rfl) (fun _ _ _ h => h) (Or.inl ⟨by rfl, ?_⟩) (by assumption) ?_
 rotate_left
 ·intro w hSw
  try dsimp only at hSw
  go_simp
  try with_reducible rfl
 simp only [Act.put, z1, z2, z3, z4, z5, z6]
 refine tkH (i := 8) (v := ?_) rfl (by kernel_rfl) (fun _ _ _ h => h) (Or.inl ⟨by rfl, ?_⟩) (by assumption) ?_
 rotate_left
 ·intro w hSw
  try dsimp only at hSw
  go_simp
  try with_reducible rfl
 simp only [Act.put, z1, z2, z3, z4, z5, z6]
 refine tkH (i := 9) (v := ?_) rfl (by kernel_rfl) (fun _ _ _ h => h) (Or.inl ⟨by rfl, ?_⟩) (by assumption) ?_
 rotate_left
 ·intro w hSw
  have q0 := hSw.1.cell 0
  have p0 := hSw.2.cell 0
  simp at q0 p0
  go_simp
  try with_reducible rfl
 simp only [Act.put, z1, z2, z3, z4, z5, z6]
 refine wpAnyH_ready (rs := [10]) (by kernel_rfl) (by simp) ?_
 refine AllReadyH.cons rfl (fun Kc hKc => ?_) AllReadyH.nil
 go_simp
 go_wp2_with ((go_at_call 227; refine (P.out _ (HA1.out.grid.drewN 1) (HB1.out.grid.drewN 1)).mono ?_; rintro e w5 ⟨rfl, hg5, hgr5⟩; have HG5 := Lib.hid hg5; have HGR := Lib.hid hgr5; clear hg5 hgr5))
 refine hKc.out _ _ ?_ (fun hHeld => ?_)
 ·first | exact hHeld | exact ⟨hHeld.1.grown HGR.out (by simpa using HA1.out.neA), hHeld.2.grown HGR.out (by simpa using (show B ≠ C from HBC.out))⟩
 clear hKc Kc
 refine tkH (i := 11) (v := ?_) rfl (by kernel_rfl) (fun _ _ _ h => h) (Or.inl ⟨by rfl, ?_⟩) (by assumption) ?_
 rotate_left
 ·intro w hSw
  try dsimp only at hSw
  go_simp
  try with_reducible rfl
 simp only [Act.put, z1, z2, z3, z4, z5, z6]
 refine wpAnyH_done (by kernel_rfl) ?_ _
 have HXA := Lib.hid hHeld.1
 clear hHeld
 go_wp2
 go_ret
 exact ⟨rfl, ⟨HXA.out, HG5.out⟩, gr_trans (below_gr (below_drewN HBB.out 1)) HGR.out⟩
set_option maxRecDepth 100000 in
set_option maxHeartbeats 4000000 in
theorem lvmerge (w : World) (x y : Value) (A G C B H D : Nat) (b r d m s l : Int) (zs hs : List Int) (hx : LevIs w x A G C b r d m s l zs) (hy : LevIs w y B H D b r d m s l hs) (hfit : Fit (List.zipWith (fun a b => a + b) zs hs)) :
  Calls Tryz.prog 142 #[x, y] w fun e w' => e = .returned (.int .i64 0) ∧ LevIs w' x A G C b r d m s l (List.zipWith (fun a b => a + b) zs hs) ∧ w.grownBy w' (some C) := by
 rcases hx with ⟨h1, rfl, ha⟩ | ⟨h1, rfl, ha⟩
 ·rcases hy with ⟨h2, rfl, hb⟩ | ⟨h2, rfl, hb⟩
  ·have P0 := Lib.hid (fun w => sketches_ex (.iface 232 (.pointer (some ⟨A, 0, none⟩))) ⟨B, 0, none⟩ w)
   have P1 := Lib.hid (fun w => arrays_ex ⟨A, 0, none⟩ ⟨B, 0, none⟩ w)
   have PM := Lib.hid (exmerge_yes w A G C B H D b r d m s l _ zs hs ha hb hfit)
   have HE := Lib.hid h1
   clear ha hb h1 h2 hfit
   go_enter Tryz.func142, Tryz.ntmps142
   go_wp2_with fail
   with_reducible refine (P0.out _).mono ?_
   rintro e w2 ⟨rfl, hw⟩
   subst hw
   go_wp2_with fail
   with_reducible refine (P1.out _).mono ?_
   rintro e w2 ⟨rfl, hw⟩
   subst hw
   go_wp2_with fail
   with_reducible refine PM.out.mono ?_
   rintro e w2 ⟨rfl, hl, hg⟩
   have HL := Lib.hid (And.intro hl hg)
   clear hl hg PM
   go_wp2_with fail
   go_ret
   exact ⟨rfl, .inl ⟨HE.out, rfl, HL.out.1⟩, HL.out.2⟩
  ·rw [h1] at h2; cases h2
 ·rcases hy with ⟨h2, rfl, hb⟩ | ⟨h2, rfl, hb⟩
  ·rw [h1] at h2; cases h2
  ·have P0 := Lib.hid (fun w => sketches_sk ⟨A, 0, none⟩ ⟨B, 0, none⟩ w)
   have PM := Lib.hid (skmerge w A G C B H D b r d m s l zs hs ha hb hfit)
   have HE := Lib.hid h1
   clear ha hb h1 h2 hfit
   go_enter Tryz.func142, Tryz.ntmps142
   go_wp2_with fail
   with_reducible refine (P0.out _).mono ?_
   rintro e w2 ⟨rfl, hw⟩
   subst hw
   go_wp2_with fail
   with_reducible refine PM.out.mono ?_
   rintro e w2 ⟨rfl, hl, hg⟩
   have HL := Lib.hid (And.intro hl hg)
   clear hl hg PM
   go_wp2_with fail
   go_ret
   exact ⟨rfl, .inr ⟨HE.out, rfl, HL.out.1⟩, HL.out.2⟩
set_option maxRecDepth 100000 in
set_option maxHeartbeats 4000000 in
theorem lvsub (w : World) (x y : Value) (A G C B H D : Nat) (b r d m s l : Int) (zs hs : List Int) (hm : m ≠ 2) (hx : LevIs w x A G C b r d m s l zs) (hy : LevIs w y B H D b r d m s l hs) (hfit : Fit (List.zipWith (fun a b => a - b) zs hs)) :
  Calls Tryz.prog 144 #[x, y] w fun e w' => e = .returned (.int .i64 0) ∧ LevIs w' x A G C b r d m s l (List.zipWith (fun a b => a - b) zs hs) ∧ w.grownBy w' (some C) := by
 rcases hx with ⟨h1, rfl, ha⟩ | ⟨h1, rfl, ha⟩
 ·rcases hy with ⟨h2, rfl, hb⟩ | ⟨h2, rfl, hb⟩
  ·have P0 := Lib.hid (fun w => sketches_ex (.iface 232 (.pointer (some ⟨A, 0, none⟩))) ⟨B, 0, none⟩ w)
   have P1 := Lib.hid (fun w => arrays_ex ⟨A, 0, none⟩ ⟨B, 0, none⟩ w)
   have PM := Lib.hid (exsub_yes w A G C B H D b r d m s l _ zs hs hm ha hb hfit)
   have HE := Lib.hid h1
   clear ha hb h1 h2 hfit
   go_enter Tryz.func144, Tryz.ntmps144
   go_wp2_with fail
   with_reducible refine (P0.out _).mono ?_
   rintro e w2 ⟨rfl, hw⟩
   subst hw
   go_wp2_with fail
   with_reducible refine (P1.out _).mono ?_
   rintro e w2 ⟨rfl, hw⟩
   subst hw
   go_wp2_with fail
   with_reducible refine PM.out.mono ?_
   rintro e w2 ⟨rfl, hl, hg⟩
   have HL := Lib.hid (And.intro hl hg)
   clear hl hg PM
   go_wp2_with fail
   go_ret
   exact ⟨rfl, .inl ⟨HE.out, rfl, HL.out.1⟩, HL.out.2⟩
  ·rw [h1] at h2; cases h2
 ·rcases hy with ⟨h2, rfl, hb⟩ | ⟨h2, rfl, hb⟩
  ·rw [h1] at h2; cases h2
  ·have P0 := Lib.hid (fun w => sketches_sk ⟨A, 0, none⟩ ⟨B, 0, none⟩ w)
   have PM := Lib.hid (sksub w A G C B H D b r d m s l zs hs hm ha hb hfit)
   have HE := Lib.hid h1
   clear ha hb h1 h2 hfit
   go_enter Tryz.func144, Tryz.ntmps144
   go_wp2_with fail
   with_reducible refine (P0.out _).mono ?_
   rintro e w2 ⟨rfl, hw⟩
   subst hw
   go_wp2_with fail
   with_reducible refine PM.out.mono ?_
   rintro e w2 ⟨rfl, hl, hg⟩
   have HL := Lib.hid (And.intro hl hg)
   clear hl hg PM
   go_wp2_with fail
   go_ret
   exact ⟨rfl, .inr ⟨HE.out, rfl, HL.out.1⟩, HL.out.2⟩
end Go.Proofs.YtfeficdndjiijaaGreatDoor


namespace Go.Proofs.YtfeficdndjiijaaGreatDoor
open Go.RowKit
set_option linter.unusedVariables false
set_option linter.unusedSimpArgs false

section
variable {P : Program}
def noDefer (o : Oper) : Bool := match o.op with
  | .defer _ => false
  | _ => true
theorem noDefer_ne {o : Oper} (h : noDefer o = true) : ∀ c, o.op ≠ .defer c := fun c e => by
  unfold noDefer at h
  rw [e] at h
  cases h
theorem upon_round {l n : Nat} {o : Oper} {a : Act} {next next' : Act → World → Prop} {Q : Exit → Act → World → Prop} {r : Result Next} (hn : ∀ a w, next a w → next' a w) (h : o.upon P a next Q r) : o.uponIn (Fence.wide.inRound l) n P a next' Q r := by
  unfold Oper.upon at h
  split at h
  · exact hn _ _ h
  · exact hn _ _ h
  · exact hn _ _ h
  · refine ⟨(fun hh => by cases hh), CallsIn.inRound l (callsIn_wide.2 (h.mono ?_))⟩
    intro e w' hq
    cases e with
    | returned v => exact hn _ _ hq
    | panicked c => exact hq
    | outgrown => exact hq
  · refine ⟨(fun hh => by cases hh), fun c cs _ => ?_⟩
    obtain ⟨v, w', hr, hs⟩ := h c cs
    exact ⟨v, w', hn _ _ hr, stepsIn_wide.2 hs⟩
  · exact h
  · exact h.elim
theorem wpOps_round {l n : Nat} {ops : Array Oper} {Q : Exit → Act → World → Prop} (hno : ¬ LetsOut Q) (hd : ∀ (i : Nat) (o : Oper), ops[i]? = some o → noDefer o = true) :
    ∀ (is : List Nat) (a : Act) (w : World), wpOps P ops Q is a w → wpOpsIn (Fence.wide.inRound l) n P ops Q is a w := by
  intro is
  induction is with
  | nil => exact fun a w h => h
  | cons i is ih =>
    intro a w h
    simp only [wpOps] at h
    simp only [wpOpsIn]
    cases ho : ops[i]? with
    | none =>
      rw [ho] at h
      exact ih a w h
    | some o =>
      rw [ho] at h
      simp only [] at h ⊢
      by_cases hw : Region.wanted o (yielded ops a.tmps) = true
      · rw [if_pos hw] at h
        rw [if_pos hw]
        rcases h with h | ⟨_, h⟩
        · refine ⟨fun _ _ => trivial, ?_⟩
          show o.uponIn (Fence.wide.inRound l) n P a _ Q ((o.semAt (some l) a.eval).run P w)
          rw [Oper.semAt_some l a.eval o (noDefer_ne (hd i o ho))]
          exact upon_round ih h
        · exact absurd h hno
      · rw [if_neg hw] at h
        rw [if_neg hw]
        exact ⟨fun _ _ => trivial, ih _ _ h⟩
theorem wpIn_round_any {l n id : Nat} {ops : Array Oper} {Q : Exit → Act → World → Prop} {a : Act} {w : World} (hm : P.follows .mixedOrders = true) (hd : ops.all noDefer = true) (hno : ¬ LetsOut Q)
    (h : wpAny P .any ops Q ops.size (Array.replicate ops.size false) a w.drew) : (Code.region id ops true).wpIn (Fence.wide.inRound l) n P Q a w :=
  wpIn_region_draw fun t => by
    simp only [Region.schedule, hm, Bool.true_or, if_true]
    refine wpOps_round hno (fun i o ho => ?_) _ _ _ (wpAny_sound ops.size t _ a _ h)
    have := Array.all_eq_true.1 hd i (Array.getElem?_eq_some_iff.1 ho).1
    rwa [(Array.getElem?_eq_some_iff.1 ho).2] at this
end
def KpB (l : List Nat) (W W' : World) : Prop := W.heap.size ≤ W'.heap.size ∧ ∀ i ∈ l, W'.heap[i]? = W.heap[i]?
theorem KpB.trans {l : List Nat} {A B C : World} (h : KpB l A B) (k : KpB l B C) : KpB l A C := ⟨Nat.le_trans h.1 k.1, fun i hi => (k.2 i hi).trans (h.2 i hi)⟩
theorem KpB.put {l : List Nat} {w : World} (hl : ∀ i ∈ l, i < w.heap.size) (W : World) (k : Nat) (o o' : Obj) (hk : w.heap.size ≤ k) (_ : W.heap[k]? = some o) (_ : o.isCells = false) (_ : o.isWalk = false) : KpB l W (W.putObj k o') :=
  ⟨by simp, fun i hi => World.putObj_heap_other (by have := hl i hi; omega)⟩
theorem KpB.blk {l : List Nat} {W W' : World} (h : KpB l W W') {g : Nat} (hg : g ∈ l) {t : TypeId} {cs : Array Value} (hb : Blk W g t cs) : Blk W' g t cs := (h.2 g hg).trans hb
theorem KpB.of_below {l : List Nat} {n : Nat} {W W' : World} (h : Below n W W') (hl : ∀ i ∈ l, i < n) : KpB l W W' := ⟨h.size, fun i hi => h.block i (hl i hi)⟩
theorem KpB.of_grown {l : List Nat} {row : Option Nat} {W W' : World} (h : W.grownBy W' row) (hl : ∀ i ∈ l, i < W.heap.size ∧ some i ≠ row) : KpB l W W' := ⟨h.size, fun i hi => h.block i (hl i hi).1 (hl i hi).2⟩
theorem kept_others {W W' : World} {row : Option Nat} (h : W.grownBy W' row) (hr : ∀ g, row = some g → ∃ t cs, Blk W g t cs) : KeepsOthers W W' :=
  ⟨h.size, fun k o hk ho => (h.block k (Array.getElem?_eq_some_iff.1 hk).1 (fun e => by
    obtain ⟨t, cs, hb⟩ := hr k e.symm
    unfold Blk at hb
    rw [hb] at hk
    injection hk with hk
    subst hk
    cases ho)).trans hk⟩
theorem Blk.not_other {W : World} {g r : Nat} {t : TypeId} {cs : Array Value} {o : Obj} (h : Blk W g t cs) (hr : W.heap[r]? = some o) (ho : o.isCells = false) : g ≠ r := by
  rintro rfl
  unfold Blk at h
  rw [h] at hr
  injection hr with hr
  subst hr
  cases ho
theorem Blk.walked {W W' : World} {row : Option Nat} {g : Nat} {t : TypeId} {cs : Array Value} (h : Blk W g t cs) (hg : W.grownBy W' row) (hr : ∀ r, row = some r → ∃ o : Obj, W.heap[r]? = some o ∧ o.isCells = false) : Blk W' g t cs :=
  h.grown hg (fun e => by
    obtain ⟨o, ho, hc⟩ := hr g e.symm
    exact h.not_other ho hc rfl)
end Go.Proofs.YtfeficdndjiijaaGreatDoor


namespace Go.Proofs.YtfeficdndjiijaaGreatDoor
open Go.RowKit
set_option linter.unusedVariables false
set_option linter.unusedSimpArgs false

def SkUpPost (w : World) (A G C : Nat) (b r d m s l : Int) (zs : List Int) (k x : Int) (e : Ending) (w' : World) : Prop :=
  e = .returned (.int .i64 (skErr b r d m s l zs k x)) ∧ SkIs w' A G C b r d m s l (skUpd b r d m s l zs k x) ∧ w.grownBy w' (some C)
theorem skErr_ok {b r d m s l : Int} {zs : List Int} {k x : Int} (h : skErr b r d m s l zs k x = 0) : k < keysI b r d m l ∧ (m = 2 → 0 ≤ x ∧ In64 (kthL (readZ d.toNat zs (colsZ d s l k r.toNat)) 0 + x)) ∧ (m ≠ 2 → changeFits d.toNat zs (colsZ d s l k r.toNat) x) := by
  unfold skErr at h
  split at h
  · cases h
  · rename_i h1
    refine ⟨by omega, fun hm => ?_, fun hm => ?_⟩
    · rw [if_pos hm] at h
      split at h
      · cases h
      · split at h
        · rename_i h2 h3; exact ⟨by omega, h3⟩
        · cases h
    · rw [if_neg hm] at h
      split at h
      · assumption
      · cases h
set_option maxRecDepth 100000 in
set_option maxHeartbeats 8000000 in
theorem skupdate (w : World) (A G C : Nat) (b r d m s l : Int) (zs : List Int) (h : SkIs w A G C b r d m s l zs) (hr : rightB b r d m = true) (s0 : 0 ≤ s) (s1 : s ≤ 18446744073709551615) (k x : Int) (k0 : 0 ≤ k) (k1 : k ≤ 18446744073709551615) (hx : In64 x) :
  Calls Tryz.prog 287 #[.pointer (some ⟨A, 0, none⟩), .int .u64 k, .int .i64 x] w (SkUpPost w A G C b r d m s l zs k x) := by
 have PC := Lib.hid (skcheck w A G C b r d m s l zs h hr s0 s1 k x k0 k1 hx)
 have HA := Lib.hid h
 have HNE := Lib.hid h.neA
 by_cases h0 : skErr b r d m s l zs k x = 0
 ·obtain ⟨hk, hc2, hcn⟩ := skErr_ok h0
  obtain ⟨R, W, rfl, rfl, h1, h2, h3, h4⟩ := sk_nat (w := w) (A := A) (G := G) (C := C) (s := s) (l := l) (zs := zs) hr
  rw [h0] at PC
  have H0 := Lib.hid h0
  have PK := Lib.hid (fun w => cols_any b W m s l k R s0 s1 k0 k1 hk w)
  have HM : Hid (meetB R W (colsZ W s l k R) = true) := Lib.hid (by have := colsZ_meet (d := (W : Int)) (s := s) (l := l) (k := k) h1 (by omega); simpa using this)
  rw [Int.toNat_natCast, Int.toNat_natCast] at hc2 hcn
  clear h hk
  by_cases hm : m = 2
  ·have HC2 := Lib.hid (hc2 hm)
   have HU : Hid (skUpd b R W m s l zs k x = raiseZ W zs (colsZ W s l k R) (kthL (readZ W zs (colsZ W s l k R)) 0 + x)) := Lib.hid (by unfold skUpd; rw [if_pos h0, if_pos hm, Int.toNat_natCast, Int.toNat_natCast])
   clear h0 hc2 hcn
   subst hm
   go_enter Tryz.func287, Tryz.ntmps287
   go_wp2_with fail
   with_reducible refine PC.out.mono ?_
   rintro e w2 ⟨rfl, hb⟩
   have HA1 := Lib.hid (HA.out.kept hb)
   have HB1 := Lib.hid hb
   clear hb
   go_wp2_with fail
   refine wp_region_still_tail 9 (by kernel_rfl) (by kernel_rfl) ?_
   simp only [List.take_succ_cons, List.take_zero, List.drop_succ_cons, List.drop_zero]
   have HA2 : Hid (SkIs { heap := w2.heap, tape := w2.tape, drawn := w2.drawn + 1, os := w2.os, output := w2.output } A G C b R W _ s l zs) := Lib.hid (HA1.out.kept (below_drewN (Below.refl _ _) 1))
   have HB2 : Hid (Below w.heap.size w { heap := w2.heap, tape := w2.tape, drawn := w2.drawn + 1, os := w2.os, output := w2.output }) := Lib.hid (below_drewN HB1.out 1)
   generalize ({ heap := w2.heap, tape := w2.tape, drawn := w2.drawn + 1, os := w2.os, output := w2.output } : World) = wd at *
   have q1 := HA2.out.box.cell 1
   have q2 := HA2.out.box.cell 2
   have q3 := HA2.out.box.cell 3
   have q4 := HA2.out.box.cell 4
   have q5 := HA2.out.box.cell 5
   have q6 := HA2.out.box.cell 6
   simp at q1 q2 q3 q4 q5 q6
   repeat still_step
   refine wpStill_nil ?_
   go_wp2_with fail
   with_reducible refine (PK.out _).mono ?_
   intro e w3 hpost
   obtain ⟨gc, rfl, hgc, -, hints, hb⟩ := hpost.ints
   have HA3 := Lib.hid (HA2.out.kept hb)
   have HB3 := Lib.hid (btr HB2.out hb)
   have HGR : Hid (GridIs w3 G C R W zs) := Lib.hid (by
    have h1 := HA3.out.grid
    rw [Int.toNat_natCast, Int.toNat_natCast] at h1
    exact h1)
   have HIN := Lib.hid hints
   have hgC : gc ≠ C := by have := HA2.out.grid.ltC; omega
   have HGC : Hid ((Value.slice (some ⟨gc, 0, none⟩) R R).ownBlock ≠ some C) := Lib.hid (by simpa [Value.ownBlock] using hgC)
   clear hb hpost hints q1 q2 q3 q4 q5 q6 hgc hgC
   have q0 := HA3.out.box.cell 0
   have q4 := HA3.out.box.cell 4
   simp at q0 q4
   go_wp2_with fail
   have PR := Lib.hid (raise_yes w3 G C R W zs (colsZ W s l k R) x _ HGR.out HIN.out HM.out hx HGC.out)
   clear q0 q4
   with_reducible refine PR.out.mono ?_
   rintro e w4 ⟨u, hu, hpost⟩
   have hku := kthL_of hu
   obtain ⟨c0, c1⟩ := HC2.out
   rw [hku] at c1
   have hres : e = .returned (.int .i64 0) ∧ GridIs w4 G C R W (raiseZ W zs (colsZ W s l k R) (u + x)) ∧ w3.grownBy w4 (some C) := by
    rcases hpost with ⟨h1, -⟩ | ⟨-, h1, -⟩ | ⟨-, -, h1, h2, h3⟩
    ·omega
    ·exact absurd c1 h1
    ·exact ⟨h1, h2, h3⟩
   obtain ⟨rfl, hg, hgr⟩ := hres
   have HS4 : Hid (SkIs w4 A G C b R W 2 s l (skUpd b R W 2 s l zs k x)) := Lib.hid (by
    rw [HU.out, hku]
    exact ⟨HA3.out.box.grown hgr (by simpa using HNE.out), by rw [Int.toNat_natCast, Int.toNat_natCast]; exact hg⟩)
   have HG4 : Hid (w.grownBy w4 (some C)) := Lib.hid (gr_trans (below_gr HB3.out) hgr)
   clear hu hpost hku c0 c1 hg hgr
   go_wp2
   go_ret
   exact ⟨ret_err H0.out.symm, HS4.out, HG4.out⟩
  ·have HCN := Lib.hid (hcn hm)
   have HU : Hid (skUpd b R W m s l zs k x = changeZ W zs (colsZ W s l k R) x) := Lib.hid (by unfold skUpd; rw [if_pos h0, if_neg hm, Int.toNat_natCast, Int.toNat_natCast])
   have em : (m == 2) = false := by simp [hm]
   have em' : decide (m = 2) = false := by simp [hm]
   clear h0 hc2 hcn
   go_enter Tryz.func287, Tryz.ntmps287
   go_wp2_with fail
   with_reducible refine PC.out.mono ?_
   rintro e w2 ⟨rfl, hb⟩
   have HA1 := Lib.hid (HA.out.kept hb)
   have HB1 := Lib.hid hb
   clear hb
   go_wp2_with fail
   refine wp_region_still_tail 9 (by kernel_rfl) (by kernel_rfl) ?_
   simp only [List.take_succ_cons, List.take_zero, List.drop_succ_cons, List.drop_zero]
   have HA2 : Hid (SkIs { heap := w2.heap, tape := w2.tape, drawn := w2.drawn + 1, os := w2.os, output := w2.output } A G C b R W _ s l zs) := Lib.hid (HA1.out.kept (below_drewN (Below.refl _ _) 1))
   have HB2 : Hid (Below w.heap.size w { heap := w2.heap, tape := w2.tape, drawn := w2.drawn + 1, os := w2.os, output := w2.output }) := Lib.hid (below_drewN HB1.out 1)
   generalize ({ heap := w2.heap, tape := w2.tape, drawn := w2.drawn + 1, os := w2.os, output := w2.output } : World) = wd at *
   have q1 := HA2.out.box.cell 1
   have q2 := HA2.out.box.cell 2
   have q3 := HA2.out.box.cell 3
   have q4 := HA2.out.box.cell 4
   have q5 := HA2.out.box.cell 5
   have q6 := HA2.out.box.cell 6
   simp at q1 q2 q3 q4 q5 q6
   repeat still_step
   refine wpStill_nil ?_
   go_wp2_with fail
   with_reducible refine (PK.out _).mono ?_
   intro e w3 hpost
   obtain ⟨gc, rfl, hgc, -, hints, hb⟩ := hpost.ints
   have HA3 := Lib.hid (HA2.out.kept hb)
   have HB3 := Lib.hid (btr HB2.out hb)
   have HGR : Hid (GridIs w3 G C R W zs) := Lib.hid (by
    have h1 := HA3.out.grid
    rw [Int.toNat_natCast, Int.toNat_natCast] at h1
    exact h1)
   have HIN := Lib.hid hints
   have hgC : gc ≠ C := by have := HA2.out.grid.ltC; omega
   have HGC : Hid ((Value.slice (some ⟨gc, 0, none⟩) R R).ownBlock ≠ some C) := Lib.hid (by simpa [Value.ownBlock] using hgC)
   clear hb hpost hints q1 q2 q3 q4 q5 q6 hgc hgC
   have q0 := HA3.out.box.cell 0
   have q4 := HA3.out.box.cell 4
   simp at q0 q4
   go_wp2_with fail
   have PR := Lib.hid (change_yes w3 G C R W zs (colsZ W s l k R) x _ HGR.out HIN.out HM.out hx HGC.out)
   clear q0 q4
   with_reducible refine PR.out.mono ?_
   intro e w4 hpost
   have hres : e = .returned (.int .i64 0) ∧ GridIs w4 G C R W (changeZ W zs (colsZ W s l k R) x) ∧ w3.grownBy w4 (some C) := by
    rcases hpost with ⟨-, h1⟩ | ⟨h1, -⟩
    ·exact h1
    ·exact absurd HCN.out h1
   obtain ⟨rfl, hg, hgr⟩ := hres
   have HS4 : Hid (SkIs w4 A G C b R W m s l (skUpd b R W m s l zs k x)) := Lib.hid (by
    rw [HU.out]
    exact ⟨HA3.out.box.grown hgr (by simpa using HNE.out), by rw [Int.toNat_natCast, Int.toNat_natCast]; exact hg⟩)
   have HG4 : Hid (w.grownBy w4 (some C)) := Lib.hid (gr_trans (below_gr HB3.out) hgr)
   clear hpost hg hgr
   go_wp2
   go_ret
   exact ⟨ret_err H0.out.symm, HS4.out, HG4.out⟩
 ·have HU : Hid (skUpd b r d m s l zs k x = zs) := Lib.hid (by unfold skUpd; rw [if_neg h0])
  have e0 : (skErr b r d m s l zs k x != 0) = true := by simp [h0]
  unfold SkUpPost
  generalize skErr b r d m s l zs k x = q at *
  clear h h0
  go_enter Tryz.func287, Tryz.ntmps287
  go_wp2_with fail
  with_reducible refine PC.out.mono ?_
  rintro e w2 ⟨rfl, hb⟩
  have HA1 := Lib.hid (HA.out.kept hb)
  have HB1 := Lib.hid hb
  clear hb
  go_wp2
  go_ret
  exact ⟨rfl, by rw [HU.out]; exact HA1.out, below_gr HB1.out⟩
end Go.Proofs.YtfeficdndjiijaaGreatDoor


namespace Go.Proofs.YtfeficdndjiijaaGreatDoor
open Go.RowKit Go.Shelf
set_option linter.unusedVariables false
set_option linter.unusedSimpArgs false
attribute [local go_sem] Oper.semAt_some

theorem stat (S : Nat) (k : Int) (w : World) :
    Calls Tryz.prog 129 #[.pointer (some ⟨S, 0, none⟩), .int .u64 k] w fun e w' => e = .returned (.func (.func 170) #[] #[.pointer (some ⟨w.heap.size, 0, none⟩), .pointer (some ⟨w.heap.size + 1, 0, none⟩)]) ∧ w' = (w.alloc (.cells #[.pointer (some ⟨S, 0, none⟩)] 49)).alloc (.cells #[.int .u64 k] 22) := by
  go_enter Tryz.func129, Tryz.ntmps129
  go_wp2
  go_ret
  exact ⟨rfl, rfl⟩
abbrev LvN (q : Nat) := { n : Nat // n ≤ q }
def uptoN (q : Nat) : Nat → List (LvN q)
  | 0 => []
  | k + 1 => if h : k ≤ q then uptoN q k ++ [⟨k, h⟩] else uptoN q k
theorem uptoN_succ (q k : Nat) (hk : k ≤ q) : uptoN q (k + 1) = uptoN q k ++ [⟨k, hk⟩] := by
  rw [uptoN, dif_pos hk]
theorem uptoN_map (q k : Nat) (hk : k ≤ q + 1) : (uptoN q k).map (·.1) = List.range k := by
  induction k with
  | zero => rfl
  | succ k ih => rw [uptoN_succ q k (by omega), List.map_append, ih (by omega), List.range_succ]; rfl
theorem uptoN_len (q k : Nat) (hk : k ≤ q + 1) : (uptoN q k).length = k := by
  have := congrArg List.length (uptoN_map q k hk)
  simpa using this
set_option maxRecDepth 100000 in
set_option maxHeartbeats 4000000 in
theorem stat1 (n : Nat) (hn : 1 ≤ n) (l Bs Bk S L q cap k : Nat) (cs : Array Value) (X : Nat → Value) (hq : q ≤ 59) (J Jx : List (LvN q) → World → Prop)
  (hX : ∀ n, n ≤ q → ∃ t a, X n = .iface t (.pointer (some ⟨a, 0, none⟩)))
  (hY : ∀ pre x W, J pre W → pre.length < q + 1 → YieldAt Fence.wide (n - 1) Tryz.prog l #[X x.1, .int .u64 ((k / 2 ^ x.1 : Nat) : Int)] W fun e W' =>
   (e = .returned (.bool true) ∧ J (pre ++ [x]) W' ∧ KpB [Bs, Bk, S, L] W W') ∨ (e = .returned (.bool false) ∧ Jx (pre ++ [x]) W'))
  (W : World) (hBs : Blk W Bs 49 #[.pointer (some ⟨S, 0, none⟩)]) (hBk : Blk W Bk 22 #[.int .u64 (k : Int)]) (hS : ∃ b r d m s, Blk W S 172 #[b, r, d, m, s, .slice (some ⟨L, 0, none⟩) (q + 1) cap])
  (hL : Blk W L 174 cs) (hcs : ∀ n, n ≤ q → cs[n]? = some (X n)) (h0 : J [] W) :
  CallsIn Fence.wide n Tryz.prog 170 #[.func (.yield l) #[] #[], .pointer (some ⟨Bs, 0, none⟩), .pointer (some ⟨Bk, 0, none⟩)] W fun e W' => (∃ v, e = .returned v) ∧
   ((∃ ys, ys = uptoN q (q + 1) ∧ J ys W') ∨ (∃ pre, (∃ j, j ≤ q + 1 ∧ pre = uptoN q j) ∧ Jx pre W')) := by
 obtain ⟨vb, vr, vd, vm, vs, hS⟩ := hS
 have HX := Lib.hid hX
 have HY := Lib.hid hY
 have HCS := Lib.hid hcs
 have HBS := Lib.hid hBs
 have HBK := Lib.hid hBk
 have HL := Lib.hid hL
 have HLT : Hid (Bs < W.heap.size ∧ Bk < W.heap.size ∧ S < W.heap.size ∧ L < W.heap.size) := Lib.hid ⟨hBs.lt, hBk.lt, hS.lt, hL.lt⟩
 have c0 := hBs.cell 0
 have c5 := hS.cell 5
 simp at c0 c5
 clear hX hY hcs hBs hBk hS hL
 refine callsIn_of_wp Tryz.func170 rfl trivial ?_ rfl
 simp only [Tryz.ntmps170, List.size_toArray, List.length_cons, List.length_nil, Nat.reduceAdd, Nat.reduceSub, Array.replicate_succ, Array.replicate_zero, List.push_toArray, List.append_toArray, List.nil_append, List.cons_append]
 gi_wp2
 gi_loopw [11] (fun i wr => ∃ j : Nat, j ≤ q + 1 ∧ i = .int .i64 (j : Int) ∧ J (uptoN q j) wr ∧ KpB [Bs, Bk, S, L] W wr) (fun i _ => q + 1 - (intOf i).toNat)
 case atStart => exact ⟨0, by omega, rfl, by simpa [uptoN] using h0, Nat.le_refl _, fun _ _ => rfl⟩
 case round =>
  obtain ⟨j, hj, rfl, hJs, hkp⟩ := hrel
  clear c0 c5
  have HKP := Lib.hid hkp
  by_cases hlt : j < q + 1
  ·have hjq : j ≤ q := by omega
   have ck := (hkp.blk (by simp) HBK.out).cell 0
   have cx := ((hkp.blk (by simp) HL.out).cell j).trans (HCS.out j hjq)
   simp at ck
   have HSUC := Lib.hid (uptoN_succ q j hjq)
   obtain ⟨t, a, hx⟩ := HX.out j hjq
   rw [hx] at cx
   obtain ⟨fn, tmps, assign, body, hy, hR⟩ := HY.out _ ⟨j, hjq⟩ wr hJs (by rw [uptoN_len q j (by omega)]; exact hlt)
   dsimp only at hy
   rw [hx] at hy
   rw [HSUC.out.symm] at hR
   clear hkp hJs hx
   have i0 : (0 : Int) ≤ (j : Int) := by omega
   have i1 : (j : Int) < (q : Int) + 1 := by omega
   have ed : ((k / 2 ^ j : Nat) : Int) = (k : Int) / 2 ^ j := by rw [Int.natCast_ediv, Int.natCast_pow]; rfl
   rw [ed] at hy
   clear ed
   gi_wp2
   refine hR.mono ?_
   rintro e W3 (⟨rfl, hJ3, hk3⟩ | ⟨rfl, hJx3⟩)
   ·have HJ3 := Lib.hid hJ3
    have HK3 := Lib.hid (KpB.trans HKP.out hk3)
    clear hJ3 hk3 cx ck hy hR
    gi_wp2
    go_roundw
    case rel => exact ⟨j + 1, by omega, by simp, HJ3.out, HK3.out⟩
    case measure => simp [intOf]; omega
   ·have HJ3 := Lib.hid hJx3
    clear hJx3 cx ck hy hR
    gi_wp2
    refine bodyPost_ret (results_none rfl _ _ _) rfl ?_
    exact ⟨⟨_, rfl⟩, .inr ⟨_, ⟨j + 1, by omega, rfl⟩, HJ3.out⟩⟩
  ·obtain rfl : j = q + 1 := by omega
   have HJ := Lib.hid hJs
   clear hJs hkp
   gi_wp2
   go_end0
   exact ⟨⟨_, rfl⟩, .inl ⟨_, rfl, HJ.out⟩⟩
theorem st_stops (n : Nat) (hn : 1 ≤ n) (Bs Bk S L q cap k : Nat) (cs : Array Value) (X : Nat → Value) (hq : q ≤ 59) (w : World)
    (hX : ∀ n, n ≤ q → ∃ t a, X n = .iface t (.pointer (some ⟨a, 0, none⟩)))
    (hBs : Blk w Bs 49 #[.pointer (some ⟨S, 0, none⟩)]) (hBk : Blk w Bk 22 #[.int .u64 (k : Int)]) (hS : ∃ b r d m s, Blk w S 172 #[b, r, d, m, s, .slice (some ⟨L, 0, none⟩) (q + 1) cap])
    (hL : Blk w L 174 cs) (hcs : ∀ n, n ≤ q → cs[n]? = some (X n)) :
    SeqStopsK Fence.wide n Tryz.prog 170 #[.pointer (some ⟨Bs, 0, none⟩), .pointer (some ⟨Bk, 0, none⟩)] (fun x : LvN q => #[X x.1, .int .u64 ((k / 2 ^ x.1 : Nat) : Int)]) (KpB [Bs, Bk, S, L]) (fun ys => ys = uptoN q (q + 1)) (fun pre => ∃ j, j ≤ q + 1 ∧ pre = uptoN q j) (q + 1) w := fun l J Jx W hW _ _ hY h0 => by
  obtain ⟨vb, vr, vd, vm, vs, hS⟩ := hS
  exact stat1 n hn l Bs Bk S L q cap k cs X hq J Jx hX hY W (hBs.kept hW) (hBk.kept hW) ⟨vb, vr, vd, vm, vs, hS.kept hW⟩ (hL.kept hW) hcs h0
end Go.Proofs.YtfeficdndjiijaaGreatDoor


namespace Go.Proofs.YtfeficdndjiijaaGreatDoor
open Go.RowKit
set_option linter.unusedVariables false
set_option linter.unusedSimpArgs false

section
variable {W W' : World} {row : Option Nat}
theorem GridIs.walked {G C R V : Nat} {zs : List Int} (h : GridIs W G C R V zs) (hg : W.grownBy W' row) (hr : ∀ r, row = some r → ∃ o : Obj, W.heap[r]? = some o ∧ o.isCells = false) : GridIs W' G C R V zs := by
  obtain ⟨cap, hG, -⟩ := h.fields
  obtain ⟨cur, hC, -⟩ := h.cells
  have key : ∀ g t cs, Blk W g t cs → some g ≠ row := fun g t cs hb e => by
    obtain ⟨o, ho, hc⟩ := hr g e.symm
    exact hb.not_other ho hc rfl
  exact h.grown hg (key _ _ _ hG) (key _ _ _ hC)
theorem LevIs.walked {x : Value} {A G C : Nat} {b r d m s l : Int} {zs : List Int} (h : LevIs W x A G C b r d m s l zs) (hg : W.grownBy W' row) (hr : ∀ r, row = some r → ∃ o : Obj, W.heap[r]? = some o ∧ o.isCells = false) : LevIs W' x A G C b r d m s l zs := by
  rcases h with ⟨h1, h2, h3⟩ | ⟨h1, h2, h3⟩
  · exact .inl ⟨h1, h2, h3.1.walked hg hr, h3.2.walked hg hr⟩
  · exact .inr ⟨h1, h2, h3.box.walked hg hr, h3.grid.walked hg hr⟩
theorem StIs.walked {base S L : Nat} {b r d m s : Int} {X : Nat → Value} {A G C : Nat → Nat} {Z : Nat → List Int} (h : StIs W base S L b r d m s X A G C Z) (hg : W.grownBy W' row) (hr : ∀ r, row = some r → ∃ o : Obj, W.heap[r]? = some o ∧ o.isCells = false) : StIs W' base S L b r d m s X A G C Z := by
  obtain ⟨cap, h1, h2⟩ := h.box
  obtain ⟨cur, h3, h4⟩ := h.row
  exact ⟨⟨cap, h1.walked hg hr, h2⟩, h.right, ⟨cur, h3.walked hg hr, h4⟩, fun n hn => (h.lev n hn).walked hg hr, h.apart, h.low⟩
end
theorem Tryz.mExCheck (k : Nat) (a : Addr) (w : World) : (method (k + 1) 232 (.pointer (some a)) "Check").run Tryz.prog w = .ok (276, .pointer (some a)) w := by kernel_rfl
theorem Tryz.mSkCheck (k : Nat) (a : Addr) (w : World) : (method (k + 1) 235 (.pointer (some a)) "Check").run Tryz.prog w = .ok (284, .pointer (some a)) w := by kernel_rfl
theorem Tryz.mExUpdate (k : Nat) (a : Addr) (w : World) : (method (k + 1) 232 (.pointer (some a)) "Update").run Tryz.prog w = .ok (279, .pointer (some a)) w := by kernel_rfl
theorem Tryz.mSkUpdate (k : Nat) (a : Addr) (w : World) : (method (k + 1) 235 (.pointer (some a)) "Update").run Tryz.prog w = .ok (287, .pointer (some a)) w := by kernel_rfl
def HasM (x : Value) (A : Nat) (name : String) (f : FuncId) : Prop :=
  ∃ T, x = .iface T (.pointer (some ⟨A, 0, none⟩)) ∧ (∀ (j : Nat) (W : World), (method (j + 1) T (.pointer (some ⟨A, 0, none⟩)) name).run Tryz.prog W = .ok (f, .pointer (some ⟨A, 0, none⟩)) W) ∧
    ∀ (args : Array Value) (W : World), (callFunc f args).run Tryz.prog W = .ok (.enter f args) W
theorem lvcheck (w : World) (x : Value) (A G C : Nat) (b r d m s l : Int) (zs : List Int) (h : LevIs w x A G C b r d m s l zs) (hr : rightB b r d m = true) (s0 : 0 ≤ s) (s1 : s ≤ 18446744073709551615) (k : Nat) (hk : k < 18446744073709551616) (y : Int) (hy : In64 y) :
    ∃ f, HasM x A "Check" f ∧ Calls Tryz.prog f #[.pointer (some ⟨A, 0, none⟩), .int .u64 (k : Int), .int .i64 y] w fun e w' => e = .returned (.int .i64 (lvErr b r d m s l zs k y)) ∧ Below w.heap.size w w' := by
  rcases h with ⟨h1, h2, h3⟩ | ⟨h1, h2, h3⟩
  · refine ⟨_, ⟨_, h2, fun j W => Tryz.mExCheck j _ W, enters_of Tryz.func276 (by kernel_rfl) rfl⟩, ?_⟩
    have e : lvErr b r d m s l zs k y = chkI (keysI b r d m l).toNat m zs k y := by unfold lvErr; rw [if_pos h1]
    rw [e]
    exact excheck w A G C b r d m s l _ k zs y h3 hy hk
  · refine ⟨_, ⟨_, h2, fun j W => Tryz.mSkCheck j _ W, enters_of Tryz.func284 (by kernel_rfl) rfl⟩, ?_⟩
    have e : lvErr b r d m s l zs k y = skErr b r d m s l zs (k : Int) y := by unfold lvErr; rw [if_neg (by rw [h1]; decide)]
    rw [e]
    exact skcheck w A G C b r d m s l zs h3 hr s0 s1 (k : Int) y (by omega) (by omega) hy
def LvUpPost (w : World) (x : Value) (A G C : Nat) (b r d m s l : Int) (zs : List Int) (k : Nat) (y : Int) (e : Ending) (w' : World) : Prop :=
  e = .returned (.int .i64 (lvErr b r d m s l zs k y)) ∧ LevIs w' x A G C b r d m s l (lvUpd b r d m s l zs k y) ∧ w.grownBy w' (some C)
theorem lvupdate (w : World) (x : Value) (A G C : Nat) (b r d m s l : Int) (zs : List Int) (h : LevIs w x A G C b r d m s l zs) (hr : rightB b r d m = true) (s0 : 0 ≤ s) (s1 : s ≤ 18446744073709551615) (k : Nat) (hk : k < 18446744073709551616) (y : Int) (hy : In64 y) :
  ∃ f, HasM x A "Update" f ∧ Calls Tryz.prog f #[.pointer (some ⟨A, 0, none⟩), .int .u64 (k : Int), .int .i64 y] w (LvUpPost w x A G C b r d m s l zs k y) := by
 rcases h with ⟨h1, h2, h3⟩ | ⟨h1, h2, h3⟩
 ·refine ⟨_, ⟨_, h2, fun j W => Tryz.mExUpdate j _ W, enters_of Tryz.func279 (by kernel_rfl) rfl⟩, ?_⟩
  refine (exupdate w A G C b r d m s l _ k zs y h3 hy hk).mono ?_
  rintro e w' ⟨he, ha, hg⟩
  refine ⟨?_, .inl ⟨h1, h2, ?_⟩, hg⟩
  ·rw [he]; unfold lvErr; rw [if_pos h1]
  ·unfold lvUpd; rw [if_pos h1]; exact ha
 ·refine ⟨_, ⟨_, h2, fun j W => Tryz.mSkUpdate j _ W, enters_of Tryz.func287 (by kernel_rfl) rfl⟩, ?_⟩
  refine (skupdate w A G C b r d m s l zs h3 hr s0 s1 (k : Int) y (by omega) (by omega) hy).mono ?_
  rintro e w' ⟨he, ha, hg⟩
  refine ⟨?_, .inr ⟨h1, h2, ?_⟩, hg⟩
  ·rw [he]; unfold lvErr; rw [if_neg (by rw [h1]; decide)]
  ·unfold lvUpd; rw [if_neg (by rw [h1]; decide)]; exact ha
set_option maxRecDepth 100000 in
set_option maxHeartbeats 4000000 in
theorem first_any (g : Nat) (a c : Int) (w : World) (hb : Blk w g 50 #[.int .i64 a, .int .i64 c]) :
  Calls Tryz.prog 130 #[.slice (some ⟨g, 0, none⟩) 2 2] w fun e w' => e = .returned (.int .i64 (firstI a c)) ∧ w = w' := by
 have c0 := hb.cell 0
 have c1 := hb.cell 1
 simp at c0 c1
 have hq : ∃ q, q = firstI a c := ⟨_, rfl⟩
 obtain ⟨q, hq⟩ := hq
 rw [← hq]
 unfold firstI at hq
 have HQ := Lib.hid hq
 clear hb hq
 by_cases ha : a = 0
 ·subst ha
  have HQ : Hid (q = c) := Lib.hid (by rw [HQ.out, if_pos rfl])
  by_cases hc : c = 0
  ·subst hc
   go_enter Tryz.func130, Tryz.ntmps130
   go_wp2
   go_loop [8] (fun i => ∃ j : Nat, j ≤ 2 ∧ i = .int .i64 (j : Int)) (fun i => 2 - (intOf i).toNat)
   case atStart => exact ⟨0, by omega, rfl⟩
   case round =>
    obtain ⟨j, hj, rfl⟩ := hrel
    rcases (show j = 0 ∨ j = 1 ∨ j = 2 by omega) with rfl | rfl | rfl
    ·go_wp2
     go_round
     case rel => exact ⟨1, by omega, rfl⟩
     case measure => simp [intOf]
    ·go_wp2
     go_round
     case rel => exact ⟨2, by omega, rfl⟩
     case measure => simp [intOf]
    ·go_wp2
     go_ret
     exact ⟨ret_err HQ.out.symm, rfl⟩
  ·have n1 : (c != 0) = true := by simp [hc]
   clear hc
   go_enter Tryz.func130, Tryz.ntmps130
   go_wp2
   go_loop [8] (fun i => ∃ j : Nat, j ≤ 1 ∧ i = .int .i64 (j : Int)) (fun i => 2 - (intOf i).toNat)
   case atStart => exact ⟨0, by omega, rfl⟩
   case round =>
    obtain ⟨j, hj, rfl⟩ := hrel
    rcases (show j = 0 ∨ j = 1 by omega) with rfl | rfl
    ·go_wp2
     go_round
     case rel => exact ⟨1, by omega, rfl⟩
     case measure => simp [intOf]
    ·go_wp2
     go_ret
     exact ⟨ret_err HQ.out.symm, rfl⟩
 ·have HQ : Hid (q = a) := Lib.hid (by rw [HQ.out, if_neg ha])
  have n1 : (a != 0) = true := by simp [ha]
  clear ha
  go_enter Tryz.func130, Tryz.ntmps130
  go_wp2
  go_loop [8] (fun i => i = .int .i64 0) (fun i => 2 - (intOf i).toNat)
  case atStart => rfl
  case round =>
   subst hrel
   go_wp2
   go_ret
   exact ⟨ret_err HQ.out.symm, rfl⟩
end Go.Proofs.YtfeficdndjiijaaGreatDoor

