import Derived.Test.YtfeficdndjiijaaGreatDoorQwl
import Derived.Test.YtfeficdndjiijaaGreatDoorQwc
import Derived.Test.YtfeficdndjiijaaGreatDoorQwd
import Derived.Test.YtfeficdndjiijaaGreatDoorQwg
import Derived.Test.YtfeficdndjiijaaGreatDoorQwa
import Derived.Deep.MidRow
import Derived.Lib.LazyBuf
import Derived.Test.YtfeficdndjiijaaGreatDoorQwf
import Derived.Test.YtfeficdndjiijaaGreatDoorQwh
import Derived.Defers
import Derived.Recover
import Derived.Maps.AppendAt
import Derived.Test.YtfeficdndjiijaaGreatDoorQwj
/-
  Contracts of the functions that TopWire reaches, and the plain laws that it leans on. Conditions: none beyond those stated at each theorem.
-/
namespace Go.Proofs.YtfeficdndjiijaaGreatDoor
open Go.RowKit
set_option linter.unusedVariables false
set_option linter.unusedSimpArgs false

def SkCopyPost (w : World) (b r d m s l : Int) (zs : List Int) (e : Ending) (w' : World) : Prop :=
  ∃ A G C, e = .returned (.pointer (some ⟨A, 0, none⟩)) ∧ w.heap.size ≤ A ∧ w.heap.size ≤ G ∧ w.heap.size ≤ C ∧ SkIs w' A G C b r d m s l zs ∧ Below w.heap.size w w'
set_option maxRecDepth 100000 in
set_option maxHeartbeats 4000000 in
theorem skcopy (w : World) (A G C : Nat) (b r d m s l : Int) (zs : List Int) (h : SkIs w A G C b r d m s l zs) :
  Calls Tryz.prog 210 #[.pointer (some ⟨A, 0, none⟩)] w (SkCopyPost w b r d m s l zs) := by
 have P := Lib.hid (copy_any (w.drewN 1) G C r.toNat d.toNat zs (h.grid.drewN 1))
 have HA := Lib.hid h
 clear h
 go_enter Tryz.func210, Tryz.ntmps210
 go_wp2_with fail
 refine wp_region_held_drew (S := fun w' => Blk w' A 288 #[.pointer (some ⟨G, 0, none⟩), .int .i64 b, .int .i64 r, .int .i64 d, .int .i64 m, .int .u64 s, .int .i64 l]) (by kernel_rfl) (by exact HA.out.box.drewN 1) (fun hHeld => ?_)
 refine tkH (i := 0) (v := ?_) rfl (by kernel_rfl) (fun _ _ _ h => h) (Or.inl ⟨by rfl, ?_⟩) (by assumption) ?_
 rotate_left
 ·intro w hSw
  try dsimp only at hSw
  go_simp
  try with_reducible rfl
 simp only [Act.put, z1, z2, z3, z4, z5, z6]
 refine tkH (i := 1) (v := ?_) rfl (by kernel_rfl) (fun _ _ _ h => h) (Or.inl ⟨by rfl, ?_⟩) (by assumption) ?_
 rotate_left
 ·intro w hSw
  try dsimp only at hSw
  go_simp
  try with_reducible rfl
 simp only [Act.put, z1, z2, z3, z4, z5, z6]
 refine tkH (i := 2) (v := ?_) rfl (by kernel_rfl) (fun _ _ _ h => h) (Or.inl ⟨by rfl, ?_⟩) (by assumption) ?_
 rotate_left
 ·intro w hSw
  try dsimp only at hSw
  go_simp
  try with_reducible rfl
 simp only [Act.put, z1, z2, z3, z4, z5, z6]
 refine tkH (i := 3) (v := ?_) rfl (by kernel_rfl) (fun _ _ _ h => h) (Or.inl ⟨by rfl, ?_⟩) (by assumption) ?_
 rotate_left
 ·intro w hSw
  try dsimp only at hSw
  go_simp
  try with_reducible rfl
 simp only [Act.put, z1, z2, z3, z4, z5, z6]
 refine tkH (i := 4) (v := ?_) rfl (by kernel_rfl) (fun _ _ _ h => h) (Or.inl ⟨by rfl, ?_⟩) (by assumption) ?_
 rotate_left
 ·intro w hSw
  have q0 := hSw.cell 0
  have q1 := hSw.cell 1
  have q2 := hSw.cell 2
  have q3 := hSw.cell 3
  have q4 := hSw.cell 4
  have q5 := hSw.cell 5
  have q6 := hSw.cell 6
  simp at q0 q1 q2 q3 q4 q5 q6
  go_simp
  try with_reducible rfl
 simp only [Act.put, z1, z2, z3, z4, z5, z6]
 refine tkH (i := 7) (v := ?_) rfl (by kernel_rfl) (fun _ _ _ h => h) (Or.inl ⟨by rfl, ?_⟩) (by assumption) ?_
 rotate_left
 ·intro w hSw
  try dsimp only at hSw
  go_simp
  try with_reducible rfl
 simp only [Act.put, z1, z2, z3, z4, z5, z6]
 refine tkH (i := 8) (v := ?_) rfl (by kernel_rfl) (fun _ _ _ h => h) (Or.inl ⟨by rfl, ?_⟩) (by assumption) ?_
 rotate_left
 ·intro w hSw
  try dsimp only at hSw
  go_simp
  try with_reducible rfl
 simp only [Act.put, z1, z2, z3, z4, z5, z6]
 refine tkH (i := 9) (v := ?_) rfl (by kernel_rfl) (fun _ _ _ h => h) (Or.inl ⟨by rfl, ?_⟩) (by assumption) ?_
 rotate_left
 ·intro w hSw
  try dsimp only at hSw
  go_simp
  try with_reducible rfl
 simp only [Act.put, z1, z2, z3, z4, z5, z6]
 refine tkH (i := 10) (v := ?_) rfl (by kernel_rfl) (fun _ _ _ h => h) (Or.inl ⟨by rfl, ?_⟩) (by assumption) ?_
 rotate_left
 ·intro w hSw
  have q0 := hSw.cell 0
  have q1 := hSw.cell 1
  have q2 := hSw.cell 2
  have q3 := hSw.cell 3
  have q4 := hSw.cell 4
  have q5 := hSw.cell 5
  have q6 := hSw.cell 6
  simp at q0 q1 q2 q3 q4 q5 q6
  go_simp
  try with_reducible rfl
 simp only [Act.put, z1, z2, z3, z4, z5, z6]
 refine tkH (i := 11) (v := ?_) rfl (by kernel_rfl) (fun _ _ _ h => h) (Or.inl ⟨by rfl, ?_⟩) (by assumption) ?_
 rotate_left
 ·intro w hSw
  try dsimp only at hSw
  go_simp
  try with_reducible rfl
 simp only [Act.put, z1, z2, z3, z4, z5, z6]
 refine tkH (i := 12) (v := ?_) rfl (by kernel_rfl) (fun _ _ _ h => h) (Or.inl ⟨by rfl, ?_⟩) (by assumption) ?_
 rotate_left
 ·intro w hSw
  try dsimp only at hSw
  go_simp
  try with_reducible rfl
 simp only [Act.put, z1, z2, z3, z4, z5, z6]
 refine tkH (i := 13) (v := ?_) rfl (by kernel_rfl) (fun _ _ _ h => h) (Or.inl ⟨by rfl, ?_⟩) (by assumption) ?_
 rotate_left
 ·intro w hSw
  try dsimp only at hSw
  go_simp
  try with_reducible rfl
 simp only [Act.put, z1, z2, z3, z4, z5, z6]
 refine tkH (i := 14) (v := ?_) rfl (by kernel_rfl) (fun _ _ _ h => h) (Or.inl ⟨by rfl, ?_⟩) (by assumption) ?_
 rotate_left
 ·intro w hSw
  have q0 := hSw.cell 0
  have q1 := hSw.cell 1
  have q2 := hSw.cell 2
  have q3 := hSw.cell 3
  have q4 := hSw.cell 4
  have q5 := hSw.cell 5
  have q6 := hSw.cell 6
  simp at q0 q1 q2 q3 q4 q5 q6
  go_simp
  try with_reducible rfl
 simp only [Act.put, z1, z2, z3, z4, z5, z6]
 refine wpAnyH_ready (rs := [5]) (by kernel_rfl) (by simp) ?_
 refine AllReadyH.cons rfl (fun Kc hKc => ?_) AllReadyH.nil
 go_simp
 go_wp2_with ((go_at_call 235; refine P.out.mono ?_; rintro e w4 ⟨G', C', rfl, hG, hC, hg, hb'⟩; have HG4 := Lib.hid hg; have HB4 := Lib.hid hb'; have hGC : Hid (w.heap.size ≤ G' ∧ w.heap.size ≤ C') := ⟨hG, hC⟩; clear hg))
 refine hKc.out _ _ ?_ (fun hHeld => ?_)
 ·first | exact hHeld | exact hHeld.kept hb' | exact hHeld.alloc _
 clear hKc Kc
 refine tkH (i := 6) (v := ?_) rfl (by kernel_rfl) (fun _ _ _ h => h) (Or.inl ⟨by rfl, ?_⟩) (by assumption) ?_
 rotate_left
 ·intro w hSw
  try dsimp only at hSw
  go_simp
  try with_reducible rfl
 simp only [Act.put, z1, z2, z3, z4, z5, z6]
 refine tkH (i := 15) (v := ?_) rfl (by kernel_rfl) (fun _ _ _ h => h) (Or.inl ⟨by rfl, ?_⟩) (by assumption) ?_
 rotate_left
 ·intro w hSw
  try dsimp only at hSw
  go_simp
  try with_reducible rfl
 simp only [Act.put, z1, z2, z3, z4, z5, z6]
 refine wpAnyH_ready (rs := [16]) (by kernel_rfl) (by simp) ?_
 refine AllReadyH.cons rfl (fun Kc hKc => ?_) AllReadyH.nil
 go_simp
 refine hKc.out _ _ ?_ (fun hHeld => ?_)
 ·first | exact hHeld | exact hHeld.kept hb' | exact hHeld.alloc _
 clear hKc Kc
 refine tkH (i := 17) (v := ?_) rfl (by kernel_rfl) (fun _ _ _ h => h) (Or.inl ⟨by rfl, ?_⟩) (by assumption) ?_
 rotate_left
 ·intro w hSw
  try dsimp only at hSw
  go_simp
  try with_reducible rfl
 simp only [Act.put, z1, z2, z3, z4, z5, z6]
 refine wpAnyH_done (by kernel_rfl) ?_ _
 have HNEW := Lib.hid (Blk.new w4 288 #[.pointer (some ⟨G', 0, none⟩), .int .i64 b, .int .i64 r, .int .i64 d, .int .i64 m, .int .u64 s, .int .i64 l])
 have HAL : Hid (Below w4.heap.size w4 (w4.alloc (.cells #[.pointer (some ⟨G', 0, none⟩), .int .i64 b, .int .i64 r, .int .i64 d, .int .i64 m, .int .u64 s, .int .i64 l] 288))) := Lib.hid ((Below.refl _ _).alloc (Nat.le_refl _) _)
 have HG5 := Lib.hid (HG4.out.kept HAL.out)
 have HB5 : Hid (Below w.heap.size w _) := Lib.hid (((below_drewN (Below.refl w.heap.size w) 1).trans HB4.out).trans (HAL.out.mono HB4.out.size))
 clear hHeld
 go_wp2_with fail
 go_ret
 exact ⟨w4.heap.size, G', C', rfl, HB4.out.size, hGC.out.1, hGC.out.2, ⟨HNEW.out, HG5.out⟩, HB5.out⟩
def LvCopyPost (w : World) (b r d m s l : Int) (zs : List Int) (e : Ending) (w' : World) : Prop :=
  ∃ x A G C, e = .returned x ∧ w.heap.size ≤ A ∧ w.heap.size ≤ G ∧ w.heap.size ≤ C ∧ LevIs w' x A G C b r d m s l zs ∧ Below w.heap.size w w'
set_option maxRecDepth 100000 in
set_option maxHeartbeats 4000000 in
theorem lvcopy (w : World) (x : Value) (A G C : Nat) (b r d m s l : Int) (zs : List Int) (h : LevIs w x A G C b r d m s l zs) :
  Calls Tryz.prog 169 #[x] w (LvCopyPost w b r d m s l zs) := by
 rcases h with ⟨hx, rfl, ha⟩ | ⟨hx, rfl, ha⟩
 ·have t0 := taExEx ⟨A, 0, none⟩
  have P := Lib.hid (excopy w A G C b r d m s l _ zs ha)
  have HX := Lib.hid hx
  clear ha hx
  go_enter Tryz.func169, Tryz.ntmps169
  go_wp2_with fail
  with_reducible refine P.out.mono ?_
  rintro e w1 ⟨A', G', C', rfl, h1, h2, h3, h4, hb⟩
  have HP := Lib.hid (And.intro h1 (And.intro h2 (And.intro h3 (And.intro h4 hb))))
  clear h1 h2 h3 h4 hb P
  go_wp2_with fail
  go_ret
  exact ⟨_, A', G', C', rfl, HP.out.1, HP.out.2.1, HP.out.2.2.1, .inl ⟨HX.out, rfl, HP.out.2.2.2.1⟩, HP.out.2.2.2.2⟩
 ·have t0 := taSkEx ⟨A, 0, none⟩
  have t1 := taSkSk ⟨A, 0, none⟩
  have P := Lib.hid (skcopy w A G C b r d m s l zs ha)
  have HX := Lib.hid hx
  clear ha hx
  go_enter Tryz.func169, Tryz.ntmps169
  go_wp2_with fail
  with_reducible refine P.out.mono ?_
  rintro e w1 ⟨A', G', C', rfl, h1, h2, h3, h4, hb⟩
  have HP := Lib.hid (And.intro h1 (And.intro h2 (And.intro h3 (And.intro h4 hb))))
  clear h1 h2 h3 h4 hb P
  go_wp2_with fail
  go_ret
  exact ⟨_, A', G', C', rfl, HP.out.1, HP.out.2.1, HP.out.2.2.1, .inr ⟨HX.out, rfl, HP.out.2.2.2.1⟩, HP.out.2.2.2.2⟩
def StAtPost (w : World) (b r d m s l : Int) (zs : List Int) (e : Ending) (w' : World) : Prop :=
  ∃ x A G C, e = .returned (.tuple #[x, .bool true]) ∧ w.heap.size ≤ A ∧ w.heap.size ≤ G ∧ w.heap.size ≤ C ∧ LevIs w' x A G C b r d m s l zs ∧ Below w.heap.size w w'
set_option maxRecDepth 100000 in
set_option maxHeartbeats 4000000 in
theorem stAt (w : World) (base S L : Nat) (b r d m s : Int) (X : Nat → Value) (A G C : Nat → Nat) (Z : Nat → List Int) (h : StIs w base S L b r d m s X A G C Z) (n : Nat) (hn : n ≤ b.toNat) :
  Calls Tryz.prog 140 #[.pointer (some ⟨S, 0, none⟩), .int .i64 (n : Int)] w (StAtPost w b r d m s (n : Int) (Z n)) := by
 have PL := Lib.hid (stlevel w base S L b r d m s X A G C Z h n hn)
 have PC := Lib.hid (fun w' hb => lvcopy w' (X n) (A n) (G n) (C n) b r d m s n (Z n) ((h.kept hb).lev n hn))
 obtain ⟨t, hx⟩ := (h.lev n hn).open_
 clear h
 rw [hx] at PL PC
 go_enter Tryz.func140, Tryz.ntmps140
 go_wp2_with fail
 with_reducible refine PL.out.mono ?_
 rintro e w1 ⟨rfl, hw⟩
 subst hw
 have PC := Lib.hid (PC.out _ (Below.refl _ _))
 go_wp2_with fail
 with_reducible refine PC.out.mono ?_
 rintro e w2 ⟨x, A', G', C', rfl, h1, h2, h3, h4, hb⟩
 obtain ⟨t', hx'⟩ := h4.open_
 subst hx'
 have HP := Lib.hid (And.intro h1 (And.intro h2 (And.intro h3 (And.intro h4 hb))))
 clear h1 h2 h3 h4 hb PL
 go_wp2_with fail
 go_ret2
 exact ⟨_, A', G', C', rfl, HP.out.1, HP.out.2.1, HP.out.2.2.1, HP.out.2.2.2.1, HP.out.2.2.2.2⟩
set_option maxRecDepth 100000 in
set_option maxHeartbeats 4000000 in
theorem lvinner (w : World) (x y : Value) (A G C B H D : Nat) (b r d s l : Int) (zs hs : List Int) (K : Nat) (hK0 : K = (keysI b r d 1 l).toNat) (hx : LevIs w x A G C b r d 1 s l zs) (hy : LevIs w y B H D b r d 1 s l hs) (he : exactB b r d 1 l = true) (hz : ∀ x ∈ zs, 0 ≤ x ∧ x ≤ 1000000) (hh : ∀ x ∈ hs, 0 ≤ x ∧ x ≤ 1000000) :
  Calls Tryz.prog 141 #[x, y] w fun e w' => e = .returned (.tuple #[.agg #[.int .i64 0, .int .u64 ((dotN zs hs K : Nat) : Int)], .int .i64 0]) ∧ Below w.heap.size w w' := by
 have hx' := hx
 have hy' := hy
 obtain ⟨rfl, ha⟩ : x = .iface 232 (.pointer (some ⟨A, 0, none⟩)) ∧ ArrIs w A G C b r d 1 s l (keysI b r d 1 l).toNat zs := by
  rcases hx' with ⟨-, h1, h2⟩ | ⟨h0, -, -⟩
  ·exact ⟨h1, h2⟩
  ·rw [he] at h0; cases h0
 obtain ⟨rfl, hb⟩ : y = .iface 232 (.pointer (some ⟨B, 0, none⟩)) ∧ ArrIs w B H D b r d 1 s l (keysI b r d 1 l).toNat hs := by
  rcases hy' with ⟨-, h1, h2⟩ | ⟨h0, -, -⟩
  ·exact ⟨h1, h2⟩
  ·rw [he] at h0; cases h0
 clear hx hy hx' hy'
 obtain ⟨P, hP⟩ : ∃ P, P = ((dotN zs hs K : Nat) : Int) := ⟨_, rfl⟩
 rw [← hP]
 have HP := Lib.hid hP
 clear hP
 have hgd : Tryz.prog.eqGuardType Tryz.prog.depth 24 = false := by kernel_rfl
 have EQ := eqCfg b r d 1 s b r d 1 s
 have hq : cfgEq b r d 1 s b r d 1 s = true := by simp [cfgEq]
 rw [hq] at EQ
 have hb1 : Below w.heap.size w (w.alloc (.cells #[.int .i64 0, .int .u64 0] 143)) := (Below.refl _ w).alloc (Nat.le_refl _) _
 have HRS := Lib.hid (Blk.new w 143 #[.int .i64 0, .int .u64 0])
 have HA := Lib.hid (ha.kept hb1)
 have HB := Lib.hid (hb.kept hb1)
 have HB1 := Lib.hid hb1
 have P0 := Lib.hid (fun w => sketches_ex (.iface 232 (.pointer (some ⟨A, 0, none⟩))) ⟨B, 0, none⟩ w)
 have P1 := Lib.hid (fun w => arrays_ex ⟨A, 0, none⟩ ⟨B, 0, none⟩ w)
 have hlz : zs.length = (keysI b r d 1 l).toNat := by rw [ha.2.len, Nat.one_mul]
 have hlh : hs.length = (keysI b r d 1 l).toNat := by rw [hb.2.len, Nat.one_mul]
 have hK : (keysI b r d 1 l).toNat ≤ 1024 := by have h1 := ha.2.width; omega
 rw [← hK0] at hlz hlh hK ha hb HA HB
 clear hK0
 clear ha hb hb1 hq he
 have hfd : ∀ w : World, (Instr.field 24 (.agg #[.int .i64 b, .int .i64 r, .int .i64 d, .int .i64 1, .int .u64 s]) 3).run Tryz.prog w = .ok (.int .i64 1) w := fun _ => by kernel_rfl
 go_enter Tryz.func141, Tryz.ntmps141
 go_wp2_with fail
 generalize (w.alloc (.cells #[.int .i64 0, .int .u64 0] 143)) = w1 at *
 with_reducible refine (P0.out _).mono ?_
 rintro e w2 ⟨rfl, hw⟩
 subst hw
 go_wp2_with fail
 with_reducible refine (P1.out _).mono ?_
 rintro e w2 ⟨rfl, hw⟩
 subst hw
 have PC1 := Lib.hid (exconfig w1 A G C b r d 1 s l K zs HA.out)
 go_wp2_with fail
 with_reducible refine PC1.out.mono ?_
 rintro e w2 ⟨rfl, hb2⟩
 have HA2 := Lib.hid (HA.out.kept hb2)
 have HB2 := Lib.hid (HB.out.kept hb2)
 have HBL2 := Lib.hid (btr HB1.out hb2)
 have HRS2 := Lib.hid (HRS.out.kept hb2)
 have PC2 := Lib.hid (exconfig w2 B H D b r d 1 s l K hs HB2.out)
 clear hb2 HA HB HB1 HRS PC1
 go_wp2_with fail
 with_reducible refine PC2.out.mono ?_
 rintro e w3 ⟨rfl, hb3⟩
 have HA3 := Lib.hid (HA2.out.kept hb3)
 have HB3 := Lib.hid (HB2.out.kept hb3)
 have HBL3 := Lib.hid (btr HBL2.out hb3)
 have HRS3 := Lib.hid ((show Blk w2 w.heap.size 143 #[.int .i64 0, .int .u64 0] from HRS2.out).kept hb3)
 have PL1 := Lib.hid (exlevel w3 A G C b r d 1 s l K zs HA3.out)
 have PL2 := Lib.hid (exlevel w3 B H D b r d 1 s l K hs HB3.out)
 clear hb3 HA2 HB2 HBL2 HRS2 PC2
 go_wp2_with fail
 with_reducible refine PL1.out.mono ?_
 rintro e w4 ⟨rfl, hw⟩
 subst hw
 go_wp2_with fail
 with_reducible refine PL2.out.mono ?_
 rintro e w4 ⟨rfl, hw⟩
 subst hw
 have PC3 := Lib.hid (exconfig w3 A G C b r d 1 s l K zs HA3.out)
 go_wp2_with fail
 with_reducible refine PC3.out.mono ?_
 rintro e w4 ⟨rfl, hb4⟩
 have HA4 := Lib.hid (HA3.out.kept hb4)
 have HB4 := Lib.hid (HB3.out.kept hb4)
 have HBL4 := Lib.hid (btr HBL3.out hb4)
 have HRS4 := Lib.hid (HRS3.out.kept hb4)
 have PX := Lib.hid (excells w4 A G C b r d 1 s l K zs HA4.out)
 clear hb4 HA3 HB3 HBL3 HRS3 PC3 PL1 PL2
 go_wp2_with fail
 with_reducible refine PX.out.mono ?_
 rintro e w5 ⟨v, rfl, hown, hne, hb5⟩
 obtain ⟨gz, cz, rfl, -, -, curz, hbz, hcz⟩ := own_row hown hne
 have HZ5 := Lib.hid (And.intro hbz hcz)
 rw [hlz]
 have HB5 := Lib.hid (HB4.out.kept hb5)
 have HBL5 := Lib.hid (btr HBL4.out hb5)
 have HRS5 := Lib.hid (HRS4.out.kept hb5)
 have PY := Lib.hid (excells w5 B H D b r d 1 s l K hs HB5.out)
 clear hown hne hbz hcz hb5 HA4 HB4 HBL4 HRS4 PX
 go_wp2_with fail
 with_reducible refine PY.out.mono ?_
 rintro e w6 ⟨v, rfl, hown, hne, hb6⟩
 obtain ⟨gh, ch, rfl, -, -, curh, hbh, hch⟩ := own_row hown hne
 have hbz6 := HZ5.out.1.kept hb6
 have HBL6 := Lib.hid (btr HBL5.out hb6)
 have HRS6 := Lib.hid (HRS5.out.kept hb6)
 have PD := dot_small w6 gz gh cz ch K zs hs (by omega) hlz hlh hz hh (fun i u hu => (hbz6.cell i).trans (HZ5.out.2 i u hu)) (fun i u hu => (hbh.cell i).trans (hch i u hu)) hbz6.lt hbh.lt
 rw [hlh]
 rw [← HP.out] at PD
 have PD := Lib.hid PD
 clear hown hne hbh hch hb6 hbz6 HB5 HBL5 HRS5 PY HZ5 hz hh
 go_wp2_with fail
 with_reducible refine PD.out.mono ?_
 rintro e w7 ⟨rfl, hb7⟩
 have HBL7 := Lib.hid (btr HBL6.out hb7)
 have HRS7 := Lib.hid (HRS6.out.kept hb7)
 clear hb7 PD HBL6 HRS6
 go_wp2_with (refine wpList_store_row rfl 143 _ _ rfl w.heap.size #[.int .i64 0, .int .u64 P] rfl (by rfl) 143 _ (HRS7.out.kept ((Below.refl _ _).alloc (Nat.le_refl _) _)) (by kernel_rfl) rfl (by simp [Value.oneCell']) ?_)
 have HF := Lib.hid (blkRowNew (cs' := #[.int .i64 0, .int .u64 P]) (HRS7.out.kept ((Below.refl w7.heap.size w7).alloc (Nat.le_refl _) (.cells #[.int .i64 0, .int .u64 P] 143))))
 refine bodyPost_ret (results_row_tmp rfl _ _ w.heap.size 143 _ (0, 0) _ rfl HF.out Tryz.underlying143 rfl (by kernel_rfl)) rfl ?_
 exact ⟨rfl, below_setRow (HBL7.out.alloc HBL7.out.size _) (Nat.le_refl _) _⟩
end Go.Proofs.YtfeficdndjiijaaGreatDoor


namespace Go.Proofs.YtfeficdndjiijaaGreatDoor
open Go.RowKit
set_option linter.unusedVariables false
set_option linter.unusedSimpArgs false

def pc2 (p : Nat × Nat) : List Value := [.int .i64 (p.1 : Int), .int .u64 (p.2 : Int)]
structure PcAt (w : World) (g : Nat) (l : List (Nat × Nat)) : Prop where
  lt : g < w.heap.size
  nofr : ∀ o, w.frozen? ⟨g, o, none⟩ = false
  rng : ∀ t p, l[t]? = some p → w.rangeAt g (t * 2) (pc2 p)
theorem rangeBlock {w w' : World} {g o : Nat} {cs : List Value} (h : w.rangeAt g o cs) (e : w'.heap[g]? = w.heap[g]?) : w'.rangeAt g o cs := fun j v hv => by
  rw [World.cell?_of_block (by exact e)]
  exact h j v hv
theorem PcAt.of_block {w w' : World} {g : Nat} {l : List (Nat × Nat)} (h : PcAt w g l) (e : w'.heap[g]? = w.heap[g]?) : PcAt w' g l := by
  refine ⟨?_, fun o => ?_, fun t p hp => rangeBlock (h.rng t p hp) e⟩
  · have h1 := h.lt
    rcases Nat.lt_or_ge g w'.heap.size with h2 | h2
    · exact h2
    · rw [Array.getElem?_eq_none h2, Array.getElem?_eq_getElem h1] at e
      cases e
  · rw [World.frozen?_of_block (by exact e)]
    exact h.nofr o
theorem PcAt.kept {w w' : World} {g : Nat} {l : List (Nat × Nat)} (h : PcAt w g l) (hb : Below w.heap.size w w') : PcAt w' g l := h.of_block (hb.block g h.lt)
theorem PcAt.there {w : World} {g : Nat} {l : List (Nat × Nat)} (h : PcAt w g l) {t : Nat} (ht : t < l.length) : w.there g (t * 2) 2 := fun j hj =>
  ⟨(h.rng t _ (List.getElem?_eq_getElem ht)).isSome j (by simpa [pc2] using hj), h.nofr _⟩
theorem sizeSetC (g : Nat) : ∀ (vs : List Value) (o : Nat) (w : World), (w.setCells g o vs).heap.size = w.heap.size
  | [], _, _ => rfl
  | v :: vs, o, w => by
    show ((w.setCell ⟨g, o, none⟩ v).setCells g (o + 1) vs).heap.size = _
    rw [sizeSetC g vs]
    simp [World.setCell]
theorem PcAt.set {w : World} {g : Nat} {l : List (Nat × Nat)} (h : PcAt w g l) {i : Nat} (hi : i < l.length) (p : Nat × Nat) : PcAt (w.setCells g (i * 2) (pc2 p)) g (l.set i p) := by
  refine ⟨by rw [sizeSetC]; exact h.lt, fun o => by rw [World.frozen?_setCells]; exact h.nofr o, fun t q hq => ?_⟩
  rw [List.getElem?_set] at hq
  by_cases e : i = t
  · subst e
    rw [if_pos rfl, if_pos hi] at hq
    cases hq
    exact World.rangeAt_setCells_same _ _ _ _ (h.there hi)
  · rw [if_neg e] at hq
    exact World.rangeAt_setCells_apart (h.rng t q hq) _ _ _ (.inr (by simp [pc2]; omega))
theorem grownSetCells (w : World) (g : Nat) : ∀ (vs : List Value) (o : Nat) (w1 : World), w.grownBy w1 (some g) → w.grownBy (w1.setCells g o vs) (some g)
  | [], _, _, h => h
  | v :: vs, o, w1, h => grownSetCells w g vs (o + 1) _ ⟨h.os, h.tape, h.output, by have := h.size; simpa [World.setCell] using this, fun k hk hne => by
    rw [show (w1.setCell ⟨g, o, none⟩ v).heap[k]? = w1.heap[k]? from Below.heap_setCell _ _ _ _ (by intro e; exact hne (by rw [e]))]
    exact h.block k hk hne⟩
theorem grRefl (w : World) (r : Option Nat) : w.grownBy w r := ⟨rfl, rfl, rfl, Nat.le_refl _, fun _ _ _ => rfl⟩
theorem grDrew {w w1 : World} {r : Option Nat} (h : w.grownBy w1 r) : w.grownBy { heap := w1.heap, tape := w1.tape, drawn := w1.drawn + 1, os := w1.os, output := w1.output } r := ⟨h.os, h.tape, h.output, h.size, h.block⟩
theorem PcAt.drew {w1 : World} {g : Nat} {l : List (Nat × Nat)} (h : PcAt w1 g l) : PcAt { heap := w1.heap, tape := w1.tape, drawn := w1.drawn + 1, os := w1.os, output := w1.output } g l := h.of_block rfl
theorem pc2_info (p : Nat × Nat) : (Tryz.prog.info? 155).map (·.size) = some (pc2 p).toArray.size := by
  show _ = some 2
  kernel_rfl
theorem pc2_one (p : Nat × Nat) : (pc2 p).toArray.all (·.oneCell') = true := by simp [pc2, Value.oneCell']
def IsRv {α : Type} (l y : List α) (k : Nat) : Prop := y.length = l.length ∧ ∀ t, t < l.length → y[t]? = if t < k ∨ l.length ≤ t + k then l[l.length - 1 - t]? else l[t]?
theorem IsRv.zero {α : Type} (l : List α) : IsRv l l 0 := ⟨rfl, fun t ht => by rw [if_neg (by omega)]⟩
theorem IsRv.next {α : Type} {l y : List α} {k q : Nat} (h : IsRv l y k) (hq : q = l.length - 1 - k) (hk : k < q) {u v : α} (hu : y[k]? = some u) (hv : y[q]? = some v) : IsRv l ((y.set k v).set q u) (k + 1) := by
  refine ⟨by simp [h.1], fun t ht => ?_⟩
  have h1 := h.2 k (by omega)
  have h2 := h.2 q (by omega)
  rw [if_neg (by omega), hu] at h1
  rw [if_neg (by omega), hv] at h2
  rw [List.getElem?_set, List.getElem?_set]
  simp only [List.length_set, h.1]
  by_cases e : q = t
  · subst e
    rw [if_pos rfl, if_pos ht, if_pos (by omega), h1]
    congr 1
    omega
  · rw [if_neg e]
    by_cases e2 : k = t
    · subst e2
      rw [if_pos rfl, if_pos (by omega), if_pos (by omega), h2, hq]
    · rw [if_neg e2, h.2 t ht]
      have : (t < k ∨ l.length ≤ t + k) ↔ (t < k + 1 ∨ l.length ≤ t + (k + 1)) := by omega
      simp only [this]
theorem IsRv.done {α : Type} {l y : List α} {k : Nat} (h : IsRv l y k) (hk : l.length ≤ 2 * k + 1) : y = l.reverse := by
  apply List.ext_getElem?
  intro t
  by_cases ht : t < l.length
  · rw [h.2 t ht, List.getElem?_reverse ht]
    split
    · rfl
    · congr 1; omega
  · rw [List.getElem?_eq_none (by rw [h.1]; omega), List.getElem?_eq_none (by simp; omega)]
set_option maxRecDepth 100000 in
set_option maxHeartbeats 8000000 in
theorem pcrev (g cap : Nat) (l : List (Nat × Nat)) (hlen : l.length ≤ 100000) (w : World) (h : PcAt w g l) :
  Calls Tryz.prog 212 #[.slice (some ⟨g, 0, none⟩) l.length cap] w fun e w' => e = .returned (.tuple #[]) ∧ PcAt w' g l.reverse ∧ w.grownBy w' (some g) := by
 obtain ⟨L, hL⟩ : ∃ L, L = l.length := ⟨_, rfl⟩
 have HL := Lib.hid hL
 rw [← hL] at hlen ⊢
 have HF := Lib.hid h
 clear h hL
 have hL1 : IntKind.i64.wrap ((L : Int) - 1) = (L : Int) - 1 := wrapI_of _ (by omega) (by omega)
 go_enter Tryz.func212, Tryz.ntmps212
 go_wp2_with fail
 go_loopw [2, 3] (fun i j wr => ∃ (k : Nat) (jv : Int) (y : List (Nat × Nat)), i = .int .i64 (k : Int) ∧ j = .int .i64 jv ∧ jv = (L : Int) - 1 - (k : Int) ∧ 2 * k ≤ L + 1 ∧ PcAt wr g y ∧ w.grownBy wr (some g) ∧ IsRv l y k) (fun i _ _ => L + 1 - (intOf i).toNat)
 case atStart => exact ⟨0, (L : Int) - 1, l, rfl, rfl, by omega, by omega, HF.out, grRefl _ _, IsRv.zero _⟩
 case round =>
  obtain ⟨k, jv, y, rfl, rfl, hjv, hk, hf, hg, hs⟩ := hrel
  have HFY := Lib.hid hf
  have HG := Lib.hid hg
  have HS := Lib.hid hs
  clear hf hg hs
  by_cases hkn : (k : Int) < jv
  ·obtain ⟨q, hq⟩ : ∃ q : Nat, jv = (q : Int) := ⟨jv.toNat, by omega⟩
   subst hq
   have hkL : (k : Int) < (L : Int) := by omega
   have hqL : (q : Int) < (L : Int) := by omega
   have hk0 : (0 : Int) ≤ (k : Int) := by omega
   have hq0 : (0 : Int) ≤ (q : Int) := by omega
   have hyl : y.length = L := by rw [HS.out.1, HL.out]
   obtain ⟨u, hu⟩ : ∃ u, y[k]? = some u := ⟨_, List.getElem?_eq_getElem (by omega)⟩
   obtain ⟨v, hv⟩ : ∃ v, y[q]? = some v := ⟨_, List.getElem?_eq_getElem (by omega)⟩
   have HPQ : Hid (q = L - 1 - k ∧ k < q ∧ y.length = L ∧ y[k]? = some u ∧ y[q]? = some v) := Lib.hid ⟨by omega, by omega, hyl, hu, hv⟩
   have HJ := Lib.hid hjv
   clear hyl hu hv hjv
   go_wp2_with fail
   have HFD := Lib.hid HFY.out.drew
   have HGD := Lib.hid (grDrew HG.out)
   refine wp_region_any (by kernel_rfl) ?_
   generalize ({ heap := wr.heap, tape := wr.tape, drawn := wr.drawn + 1, os := wr.os, output := wr.output } : World) = wd at *
   have hlp := HFD.out.rng k u HPQ.out.2.2.2.1
   have hlq := HFD.out.rng q v HPQ.out.2.2.2.2
   refine tkA (i := 2) (v := ?_) rfl (by kernel_rfl) (fun _ _ _ h => h) (Or.inl ⟨by rfl, ?_⟩) ?_
   rotate_left
   ·intro w
    go_simp
    try with_reducible rfl
   simp only [Act.put, z1, z2, z3, z4, z5, z6]
   refine tkA (i := 3) (v := ?_) rfl (by kernel_rfl) (fun _ _ _ h => h) (Or.inl ⟨by rfl, ?_⟩) ?_
   rotate_left
   ·intro w
    go_simp
    try with_reducible rfl
   simp only [Act.put, z1, z2, z3, z4, z5, z6]
   refine wpAny_still_tail [true, true, false, false, true, true, true, true, true, true, true, true, true] [2, 3] _ (by kernel_rfl) (by kernel_rfl) ?_
   simp only [dropAt, List.length_cons, List.length_nil, List.drop_succ_cons, List.drop_zero]
   repeat (first | refine wpStill_load_mid (by rfl) 155 _ rfl g (k * 2) rfl (pc2 u) _ hlp Tryz.underlying155 rfl (by kernel_rfl) ?_ | refine wpStill_load_mid (by rfl) 155 _ rfl g (q * 2) rfl (pc2 v) _ hlq Tryz.underlying155 rfl (by kernel_rfl) ?_ | still_step)
   refine wpStill_nil ?_
   try simp only [Act.put, z1, z2, z3, z4, z5, z6]
   have ht1 := HFD.out.there (t := k) (by have := HPQ.out.2.2.1; omega)
   have hf2 := HFD.out.set (i := k) (by have := HPQ.out.2.2.1; omega) v
   have ht2 := hf2.there (t := q) (by have := HPQ.out.2.2.1; simp; omega)
   have HF3 : Hid (PcAt ((wd.setCells g (k * 2) (pc2 v).toArray.toList).setCells g (q * 2) (pc2 u).toArray.toList) g ((y.set k v).set q u)) := Lib.hid (hf2.set (i := q) (by have := HPQ.out.2.2.1; simp; omega) u)
   have HG3 : Hid (w.grownBy ((wd.setCells g (k * 2) (pc2 v).toArray.toList).setCells g (q * 2) (pc2 u).toArray.toList) (some g)) := Lib.hid (grownSetCells w g (pc2 u) (q * 2) _ (grownSetCells w g (pc2 v) (k * 2) _ HGD.out))
   have HS3 : Hid (IsRv l ((y.set k v).set q u) (k + 1)) := Lib.hid (HS.out.next (by rw [← HL.out]; exact HPQ.out.1) HPQ.out.2.1 HPQ.out.2.2.2.1 HPQ.out.2.2.2.2)
   have HT1 := Lib.hid ht1
   have HT2 := Lib.hid ht2
   clear hf2 hlp hlq ht1 ht2
   refine wpList_store_mid rfl 155 _ _ rfl g (k * 2) (pc2 v).toArray rfl (by rfl) HT1.out (pc2_info v) (pc2_one v) ?_
   iterate 3 go_step
   refine wpList_store_mid rfl 155 _ _ rfl g (q * 2) (pc2 u).toArray rfl (by rfl) HT2.out (pc2_info u) (pc2_one u) ?_
   generalize ((wd.setCells g (k * 2) (pc2 v).toArray.toList).setCells g (q * 2) (pc2 u).toArray.toList) = w3 at *
   go_wp2_with fail
   go_roundw
   case rel => exact ⟨k + 1, (q : Int) - 1, _, by go_num, by go_num, by have := HJ.out; omega, by have := HJ.out; have := HPQ.out.2.1; omega, HF3.out, HG3.out, HS3.out⟩
   case measure => simp [intOf]; omega
  ·have HR : Hid (PcAt wr g l.reverse) := Lib.hid (by rw [← HS.out.done (by rw [← HL.out]; omega)]; exact HFY.out)
   go_wp2_with fail
   go_end0
   exact ⟨rfl, HR.out, HG.out⟩
end Go.Proofs.YtfeficdndjiijaaGreatDoor


namespace Go.Proofs.YtfeficdndjiijaaGreatDoor
open Go.RowKit
set_option linter.unusedVariables false
set_option linter.unusedSimpArgs false

structure BtAt (w : World) (g : Nat) (l : List Int) : Prop where
  lt : g < w.heap.size
  nofr : ∀ o, w.frozen? ⟨g, o, none⟩ = false
  at_ : ∀ i u, l[i]? = some u → w.cell? ⟨g, i, none⟩ = some (.int .u8 u)
theorem BtAt.of_block {w w' : World} {g : Nat} {l : List Int} (h : BtAt w g l) (e : w'.heap[g]? = w.heap[g]?) : BtAt w' g l := by
  refine ⟨?_, fun o => ?_, fun t p hp => ?_⟩
  · have h1 := h.lt
    rcases Nat.lt_or_ge g w'.heap.size with h2 | h2
    · exact h2
    · rw [Array.getElem?_eq_none h2, Array.getElem?_eq_getElem h1] at e
      cases e
  · rw [World.frozen?_of_block (by exact e)]
    exact h.nofr o
  · rw [World.cell?_of_block (by exact e)]
    exact h.at_ t p hp
theorem BtAt.set {w : World} {g : Nat} {l : List Int} (h : BtAt w g l) {i : Nat} (hi : i < l.length) (x : Int) : BtAt (w.setCell ⟨g, i, none⟩ (.int .u8 x)) g (l.set i x) := by
  refine ⟨by simpa [World.setCell] using h.lt, fun o => ?_, fun t p hp => ?_⟩
  · rw [World.frozen?_setCell]; exact h.nofr o
  · rw [List.getElem?_set] at hp
    by_cases e : i = t
    · subst e
      rw [if_pos rfl, if_pos hi] at hp
      cases hp
      exact World.cell?_setCell_same _ _ _ (h.at_ i _ (List.getElem?_eq_getElem hi))
    · rw [if_neg e] at hp
      rw [World.cell?_setCell_other _ _ _ _ (fun e2 => by simp_all)]
      exact h.at_ t p hp
theorem BtAt.drew {w1 : World} {g : Nat} {l : List Int} (h : BtAt w1 g l) : BtAt { heap := w1.heap, tape := w1.tape, drawn := w1.drawn + 1, os := w1.os, output := w1.output } g l := h.of_block rfl
set_option maxRecDepth 100000 in
set_option maxHeartbeats 8000000 in
theorem btrev (g cap : Nat) (l : List Int) (hlen : l.length ≤ 100000) (w : World) (h : BtAt w g l) :
  Calls Tryz.prog 146 #[.slice (some ⟨g, 0, none⟩) l.length cap] w fun e w' => e = .returned (.tuple #[]) ∧ BtAt w' g l.reverse ∧ w.grownBy w' (some g) := by
 obtain ⟨L, hL⟩ : ∃ L, L = l.length := ⟨_, rfl⟩
 have HL := Lib.hid hL
 rw [← hL] at hlen ⊢
 have HF := Lib.hid h
 clear h hL
 have hL1 : IntKind.i64.wrap ((L : Int) - 1) = (L : Int) - 1 := wrapI_of _ (by omega) (by omega)
 go_enter Tryz.func146, Tryz.ntmps146
 go_wp2_with fail
 go_loopw [2, 3] (fun i j wr => ∃ (k : Nat) (jv : Int) (y : List Int), i = .int .i64 (k : Int) ∧ j = .int .i64 jv ∧ jv = (L : Int) - 1 - (k : Int) ∧ 2 * k ≤ L + 1 ∧ BtAt wr g y ∧ w.grownBy wr (some g) ∧ IsRv l y k) (fun i _ _ => L + 1 - (intOf i).toNat)
 case atStart => exact ⟨0, (L : Int) - 1, l, rfl, rfl, by omega, by omega, HF.out, grRefl _ _, IsRv.zero _⟩
 case round =>
  obtain ⟨k, jv, y, rfl, rfl, hjv, hk, hf, hg, hs⟩ := hrel
  have HFY := Lib.hid hf
  have HG := Lib.hid hg
  have HS := Lib.hid hs
  clear hf hg hs
  by_cases hkn : (k : Int) < jv
  ·obtain ⟨q, hq⟩ : ∃ q : Nat, jv = (q : Int) := ⟨jv.toNat, by omega⟩
   subst hq
   have hkL : (k : Int) < (L : Int) := by omega
   have hqL : (q : Int) < (L : Int) := by omega
   have hk0 : (0 : Int) ≤ (k : Int) := by omega
   have hq0 : (0 : Int) ≤ (q : Int) := by omega
   have hyl : y.length = L := by rw [HS.out.1, HL.out]
   obtain ⟨u, hu⟩ : ∃ u, y[k]? = some u := ⟨_, List.getElem?_eq_getElem (by omega)⟩
   obtain ⟨v, hv⟩ : ∃ v, y[q]? = some v := ⟨_, List.getElem?_eq_getElem (by omega)⟩
   have HPQ : Hid (q = L - 1 - k ∧ k < q ∧ y.length = L ∧ y[k]? = some u ∧ y[q]? = some v) := Lib.hid ⟨by omega, by omega, hyl, hu, hv⟩
   have HJ := Lib.hid hjv
   clear hyl hu hv hjv
   go_wp2_with fail
   have HFD := Lib.hid HFY.out.drew
   have HGD := Lib.hid (grDrew HG.out)
   refine wp_region_any (by kernel_rfl) ?_
   generalize ({ heap := wr.heap, tape := wr.tape, drawn := wr.drawn + 1, os := wr.os, output := wr.output } : World) = wd at *
   have hlp := HFD.out.at_ k u HPQ.out.2.2.2.1
   have hlq := HFD.out.at_ q v HPQ.out.2.2.2.2
   have f0 := HFD.out.nofr k
   have f1 := HFD.out.nofr q
   refine tkA (i := 2) (v := ?_) rfl (by kernel_rfl) (fun _ _ _ h => h) (Or.inl ⟨by rfl, ?_⟩) ?_
   rotate_left
   ·intro w
    go_simp
    try with_reducible rfl
   simp only [Act.put, z1, z2, z3, z4, z5, z6]
   refine tkA (i := 3) (v := ?_) rfl (by kernel_rfl) (fun _ _ _ h => h) (Or.inl ⟨by rfl, ?_⟩) ?_
   rotate_left
   ·intro w
    go_simp
    try with_reducible rfl
   simp only [Act.put, z1, z2, z3, z4, z5, z6]
   refine wpAny_still_tail [true, true, false, false, true, true, true, true, true, true, true, true, true] [2, 3] _ (by kernel_rfl) (by kernel_rfl) ?_
   simp only [dropAt, List.length_cons, List.length_nil, List.drop_succ_cons, List.drop_zero]
   repeat (first | still_step)
   refine wpStill_nil ?_
   try simp only [Act.put, z1, z2, z3, z4, z5, z6]
   have hf2 := HFD.out.set (i := k) (by have := HPQ.out.2.2.1; omega) v
   have hc2 := hf2.at_ q v (by have := HPQ.out; rw [List.getElem?_set, if_neg (by omega)]; exact this.2.2.2.2)
   have ff2 := hf2.nofr q
   have HF3 := Lib.hid (hf2.set (i := q) (by have := HPQ.out.2.2.1; simp; omega) u)
   have HG3 := Lib.hid (gr_setC (gr_setC HGD.out k (.int .u8 v)) q (.int .u8 u))
   have HS3 : Hid (IsRv l ((y.set k v).set q u) (k + 1)) := Lib.hid (HS.out.next (by rw [← HL.out]; exact HPQ.out.1) HPQ.out.2.1 HPQ.out.2.2.2.1 HPQ.out.2.2.2.2)
   clear hf2
   go_wp2_with fail
   go_roundw
   case rel => exact ⟨k + 1, (q : Int) - 1, _, by go_num, by go_num, by have := HJ.out; omega, by have := HJ.out; have := HPQ.out.2.1; omega, HF3.out, HG3.out, HS3.out⟩
   case measure => simp [intOf]; omega
  ·have HR : Hid (BtAt wr g l.reverse) := Lib.hid (by rw [← HS.out.done (by rw [← HL.out]; omega)]; exact HFY.out)
   go_wp2_with fail
   go_end0
   exact ⟨rfl, HR.out, HG.out⟩
theorem div10 (lo : Nat) (h : lo < 18446744073709551616) (w : World) : Calls Tryz.prog 103 #[.int .u64 0, .int .u64 (lo : Int), .int .u64 10] w fun e w' => e = .returned (.tuple #[.int .u64 ((lo / 10 : Nat) : Int), .int .u64 ((lo % 10 : Nat) : Int)]) ∧ Below w.heap.size w w' := by
  have h1 : (0 : Int) ≤ (lo : Int) := by omega
  have h2 : (lo : Int) ≤ 18446744073709551615 := by omega
  have e1 : ((lo / 10 : Nat) : Int) = (lo : Int) / 10 := by omega
  have e2 : ((lo % 10 : Nat) : Int) = (lo : Int) % 10 := by omega
  rw [e1, e2]
  clear e1 e2 h
  go_enter Tryz.func103, Tryz.ntmps103
  go_wp2_with fail
  go_quiet (fail)
  go_wp2_with fail
  go_ret2
  exact ⟨rfl, below_drewN (Below.refl _ _) nq⟩
theorem wsize (lo : Int) (h0 : 0 ≤ lo) (h1 : lo ≤ 18446744073709551615) (w : World) : Calls Tryz.prog 102 #[.agg #[.int .i64 0, .int .u64 lo]] w fun e w' => e = .returned (.tuple #[.int .u64 0, .int .u64 lo]) ∧ Below w.heap.size w w' := by
 have hx := Blk.new w 143 #[.int .i64 0, .int .u64 lo]
 have HX := Lib.hid hx
 have HB1 : Hid (Below w.heap.size w (w.alloc (.cells #[.int .i64 0, .int .u64 lo] 143))) := Lib.hid ((Below.refl _ w).alloc (Nat.le_refl _) _)
 clear hx
 go_enter Tryz.func102, Tryz.ntmps102
 go_wp2_with fail
 generalize (w.alloc (.cells #[.int .i64 0, .int .u64 lo] 143)) = w1 at *
 refine wp_region_held_drew (S := fun w' => Blk w' w.heap.size 143 #[.int .i64 0, .int .u64 lo] ∧ Below w.heap.size w w') (by kernel_rfl) (by exact ⟨HX.out.kept (below_drewN (Below.refl _ _) 1), below_drewN HB1.out 1⟩) (fun hHeld => ?_)
 refine tkH (i := 0) (v := ?_) rfl (by kernel_rfl) (fun _ _ _ h => h) (Or.inl ⟨by rfl, ?_⟩) (by assumption) ?_
 rotate_left
 ·intro w hSw
  try dsimp only at hSw
  go_simp
  try with_reducible rfl
 simp only [Act.put, z1, z2, z3, z4, z5, z6]
 refine tkH (i := 1) (v := ?_) rfl (by kernel_rfl) (fun _ _ _ h => h) (Or.inl ⟨by rfl, ?_⟩) (by assumption) ?_
 rotate_left
 ·intro w hSw
  have q0 := hSw.1.cell 0
  have q1 := hSw.1.cell 1
  simp at q0 q1
  go_simp
  try with_reducible rfl
 simp only [Act.put, z1, z2, z3, z4, z5, z6]
 refine tkH (i := 2) (v := ?_) rfl (by kernel_rfl) (fun _ _ _ h => h) (Or.inl ⟨by rfl, ?_⟩) (by assumption) ?_
 rotate_left
 ·intro w hSw
  try dsimp only at hSw
  go_simp
  try with_reducible rfl
 simp only [Act.put, z1, z2, z3, z4, z5, z6]
 refine tkH (i := 3) (v := ?_) rfl (by kernel_rfl) (fun _ _ _ h => h) (Or.inl ⟨by rfl, ?_⟩) (by assumption) ?_
 rotate_left
 ·intro w hSw
  try dsimp only at hSw
  go_simp
  try with_reducible rfl
 simp only [Act.put, z1, z2, z3, z4, z5, z6]
 refine tkH (i := 4) (v := ?_) rfl (by kernel_rfl) (fun _ _ _ h => h) (Or.inl ⟨by rfl, ?_⟩) (by assumption) ?_
 rotate_left
 ·intro w hSw
  have q0 := hSw.1.cell 0
  have q1 := hSw.1.cell 1
  simp at q0 q1
  go_simp
  try with_reducible rfl
 simp only [Act.put, z1, z2, z3, z4, z5, z6]
 refine tkH (i := 5) (v := ?_) rfl (by kernel_rfl) (fun _ _ _ h => h) (Or.inl ⟨by rfl, ?_⟩) (by assumption) ?_
 rotate_left
 ·intro w hSw
  try dsimp only at hSw
  go_simp
  try with_reducible rfl
 simp only [Act.put, z1, z2, z3, z4, z5, z6]
 refine tkH (i := 6) (v := ?_) rfl (by kernel_rfl) (fun _ _ _ h => h) (Or.inl ⟨by rfl, ?_⟩) (by assumption) ?_
 rotate_left
 ·intro w hSw
  try dsimp only at hSw
  go_simp
  try with_reducible rfl
 simp only [Act.put, z1, z2, z3, z4, z5, z6]
 refine wpAnyH_done (by kernel_rfl) ?_ _
 have q0 := hHeld.1.cell 0
 simp at q0
 have HBZ := Lib.hid hHeld.2
 clear hHeld
 go_wp2_with fail
 go_ret2
 exact ⟨rfl, HBZ.out⟩
def u8s (bs : List Int) : List UInt8 := bs.map fun n => UInt8.ofNat n.toNat
theorem strB_u8s (bs : List Int) : strB bs = sB (u8s bs) := rfl
theorem BtAt.of_own {w : World} {base : Nat} {ao : Option Addr} {cap : Nat} {bs : List Int} (h : OwnB w base (.slice ao bs.length cap) bs) (hn : 0 < bs.length) : ∃ g, ao = some ⟨g, 0, none⟩ ∧ base ≤ g ∧ BtAt w g bs ∧ bs.length ≤ cap ∧ cap ≤ maxLen := by
  rcases h.2 with ⟨e, h0⟩ | ⟨g, cap', cur, e, hg, hblk, hcap, hm, hsz, htk⟩
  · omega
  · simp only [Value.slice.injEq] at e
    obtain ⟨rfl, -, rfl⟩ := e
    have hb : Blk w g 5 cur := hblk
    refine ⟨g, rfl, hg, ⟨hb.lt, fun o => hb.frozen o, fun i u hu => ?_⟩, hcap, hm⟩
    rw [hb.cell i]
    have h1 : (bs.map (Value.int .u8))[i]? = some (.int .u8 u) := by rw [List.getElem?_map, hu]; rfl
    rw [← htk, List.getElem?_take] at h1
    split at h1
    · simpa using h1
    · cases h1
theorem BtAt.bytes {w : World} {g cap : Nat} {bs : List Int} (h : BtAt w g bs) (h1 : bs.length ≤ cap) (h2 : cap ≤ maxLen) : BytesAt w (.slice (some ⟨g, 0, none⟩) bs.length cap) bs :=
  ⟨_, cap, rfl, h1, h2, .inr ⟨g, 0, rfl, h.lt, fun i u hu => by rw [Nat.zero_add]; exact h.at_ i u hu⟩⟩
theorem reversed_any (w : World) (base : Nat) (v : Value) (bs : List Int) (h : OwnB w base v bs) (hn : 0 < bs.length) (hl : bs.length ≤ 1000) :
  Calls Tryz.prog 104 #[v] w fun e w' => e = .returned (.string (sB (u8s bs.reverse))) ∧ (∀ B, B ≤ base → B ≤ w.heap.size → Below B w w') := by
 obtain ⟨ao, cap, rfl, -, -⟩ := h.open_
 obtain ⟨g, rfl, hg, hb, hc1, hc2⟩ := BtAt.of_own h hn
 have PR := Lib.hid (btrev g cap bs (by omega) w hb)
 have HG := Lib.hid hg
 have hlr : bs.reverse.length = bs.length := List.length_reverse
 have HC : Hid (∀ w', BtAt w' g bs.reverse → (convert 41 9 (.slice (some ⟨g, 0, none⟩) bs.length cap)).run Tryz.prog w' = .ok (.string (sB (u8s bs.reverse))) w') := Lib.hid (fun w' hw => by
  have := strB_conv (P := Tryz.prog) (hw.bytes (cap := cap) (by rw [hlr]; exact hc1) hc2) 41 5 9 Tryz.underlying41 Tryz.underlying5 Tryz.underlying9
  rw [hlr, strB_u8s] at this
  exact this)
 generalize bs.length = n at *
 clear h hn hb hc1 hc2 hlr hg
 go_enter Tryz.func104, Tryz.ntmps104
 go_wp2_with fail
 with_reducible refine PR.out.mono ?_
 rintro e w1 ⟨rfl, hb, hgr⟩
 have hcv := HC.out _ hb
 have HGR := Lib.hid hgr
 clear hb hgr PR
 go_wp2_with fail
 go_ret
 refine ⟨rfl, fun B h1 h2 => ?_⟩
 exact (Below.refl B w).grown HGR.out h2 (fun k e => by have := HG.out; simp at e; omega)
end Go.Proofs.YtfeficdndjiijaaGreatDoor


namespace Go.Proofs.YtfeficdndjiijaaGreatDoor
open Go.RowKit
set_option linter.unusedVariables false
set_option linter.unusedSimpArgs false

end Go.Proofs.YtfeficdndjiijaaGreatDoor


namespace Go.Proofs.YtfeficdndjiijaaGreatDoor
open Go.RowKit
set_option linter.unusedVariables false
set_option linter.unusedSimpArgs false

theorem S_at (l : List UInt8) (i : Nat) (c : UInt8) (h : l[i]? = some c) : ∃ hi : i < (sB l).size, ((sB l)[i]'hi).toNat = c.toNat := by
  have hl : i < l.length := (List.getElem?_eq_some_iff.1 h).1
  refine ⟨by rw [sB_size]; exact hl, ?_⟩
  rw [sB_get]
  rw [List.getElem?_eq_getElem hl] at h
  rw [Option.some.inj h]
end Go.Proofs.YtfeficdndjiijaaGreatDoor


namespace Go.Proofs.YtfeficdndjiijaaGreatDoor
open Go.RowKit
set_option linter.unusedVariables false
set_option linter.unusedSimpArgs false

def pCells (l : List (Nat × Nat)) : List Value := l.flatMap pc2
theorem pCells_append (a b : List (Nat × Nat)) : pCells (a ++ b) = pCells a ++ pCells b := by simp [pCells]
theorem pCells_len (l : List (Nat × Nat)) : (pCells l).length = l.length * 2 := by
  induction l with
  | nil => rfl
  | cons a r ih =>
    show (pc2 a ++ pCells r).length = _
    rw [List.length_append, ih]
    simp [pc2]
    omega
structure CvI (w0 wr : World) (O R : Nat) (vo vr : Value) (ol rl : List (Nat × Nat)) : Prop where
  bo : Blk wr O 256 #[vo]
  br : Blk wr R 256 #[vr]
  oo : wr.ownsRow w0.heap.size 155 2 vo ol.length (pCells ol)
  ro : wr.ownsRow w0.heap.size 155 2 vr rl.length (pCells rl)
  sep : ∀ k, vo.ownBlock = some k → vr.ownBlock ≠ some k
  bel : Below w0.heap.size w0 wr
  lo : w0.heap.size ≤ O ∧ w0.heap.size ≤ R ∧ O ≠ R
theorem ownBlk {w : World} {base n s : Nat} {t : TypeId} {v : Value} {xs : List Value} (h : w.ownsRow base t s v n xs) : ∀ k, v.ownBlock = some k → ∃ cs, Blk w k t cs := by
  intro k hk
  rcases h.2 with ⟨rfl, h0⟩ | ⟨g, cap, cur, rfl, hb, hg, -⟩
  · simp [Value.ownBlock] at hk
  · simp [Value.ownBlock] at hk
    subst hk
    exact ⟨cur, hg⟩
theorem ownKeep {w w' : World} {base : Nat} {e : TypeId} {size : Nat} {v : Value} {n : Nat} {xs : List Value} (h : w.ownsRow base e size v n xs) {row : Option Nat} (hg : w.grownBy w' row) (hne : ∀ k, v.ownBlock = some k → row ≠ some k) : w'.ownsRow base e size v n xs :=
  World.ownsRow.kept h hg (by
    cases hv : v.ownBlock with
    | none => exact .inl rfl
    | some k => exact .inr (fun e => hne k hv e.symm))
theorem CvI.midO {w0 wr w2 : World} {O R : Nat} {vo vr v' : Value} {ol rl : List (Nat × Nat)} (h : CvI w0 wr O R vo vr ol rl) (p : Nat × Nat) (hown : w2.ownsRow w0.heap.size 155 2 v' (ol.length + 1) (pCells ol ++ [.int .i64 (p.1 : Int), .int .u64 (p.2 : Int)])) (hg : (wr.alloc (.cells #[.int .i64 (p.1 : Int), .int .u64 (p.2 : Int)] 155)).grownBy w2 vo.ownBlock)
  (hl : v'.ownBlock = vo.ownBlock ∨ v'.ownBlock = some (wr.alloc (.cells #[.int .i64 (p.1 : Int), .int .u64 (p.2 : Int)] 155)).heap.size) : Blk w2 O 256 #[vo] ∧ CvI w0 (w2.setCell ⟨O, 0, none⟩ v') O R v' vr (ol ++ [p]) rl := by
 have hb1 : Below wr.heap.size wr (wr.alloc (.cells #[.int .i64 (p.1 : Int), .int .u64 (p.2 : Int)] 155)) := (Below.refl _ wr).alloc (Nat.le_refl _) _
 generalize (wr.alloc (.cells #[.int .i64 (p.1 : Int), .int .u64 (p.2 : Int)] 155)) = w1 at *
 have hP1 := h.bo.kept hb1
 have hQ1 := h.br.kept hb1
 have hM1 := ownKeep h.oo (below_gr (row := none) hb1) (fun k _ => by simp)
 have hT1 := ownKeep h.ro (below_gr (row := none) hb1) (fun k _ => by simp)
 have hneP : some O ≠ vo.ownBlock := fun e => by
  obtain ⟨cs, hc⟩ := ownBlk hM1 O e.symm
  exact absurd rfl (hP1.ne_ hc (by decide))
 have hneQ : some R ≠ vo.ownBlock := fun e => by
  obtain ⟨cs, hc⟩ := ownBlk hM1 R e.symm
  exact absurd rfl (hQ1.ne_ hc (by decide))
 have hP2 := hP1.grown hg hneP
 have hQ2 := hQ1.grown hg hneQ
 have hT2 := ownKeep hT1 hg (fun k hk e => h.sep k e hk)
 have hbel1 : Below w0.heap.size w0 w1 := h.bel.trans (hb1.mono h.bel.size)
 have hbel2 : Below w0.heap.size w0 w2 := hbel1.grown hg hbel1.size (fun k e => (hM1.lt k e).1)
 have hgs : w2.grownBy (w2.setCell ⟨O, 0, none⟩ v') (some O) := gr_setC (World.grownBy.refl _ _) 0 _
 refine ⟨hP2, { bo := by simpa using hP2.set_ 0 v', br := hQ2.grown hgs (by simpa using (Ne.symm h.lo.2.2)), oo := ?mine, ro := ?other, sep := ?sp, bel := hbel2.setCell h.lo.1 _, lo := h.lo }⟩
 case mine =>
  have e1 : pCells (ol ++ [p]) = pCells ol ++ [.int .i64 (p.1 : Int), .int .u64 (p.2 : Int)] := by rw [pCells_append]; rfl
  rw [e1, List.length_append]
  refine ownKeep hown hgs (fun k hk e => ?_)
  have e := Option.some.inj e
  obtain ⟨cs, hc⟩ := ownBlk hown k hk
  rw [← e] at hc
  exact absurd rfl (hP2.ne_ hc (by decide))
 case other =>
  refine ownKeep hT2 hgs (fun k hk e => ?_)
  have e := Option.some.inj e
  obtain ⟨cs, hc⟩ := ownBlk hT2 k hk
  rw [← e] at hc
  exact absurd rfl (hP2.ne_ hc (by decide))
 case sp =>
  intro k hk hk2
  have hlt := fun q hq => (hT1.lt q hq).2
  rcases hl with e | e
  ·rw [e] at hk; exact h.sep k hk hk2
  ·rw [e] at hk
   have := hlt k hk2
   have := Option.some.inj hk
   omega
theorem CvI.midR {w0 wr w2 : World} {O R : Nat} {vo vr v' : Value} {ol rl : List (Nat × Nat)} (h : CvI w0 wr O R vo vr ol rl) (p : Nat × Nat) (hown : w2.ownsRow w0.heap.size 155 2 v' (rl.length + 1) (pCells rl ++ [.int .i64 (p.1 : Int), .int .u64 (p.2 : Int)])) (hg : (wr.alloc (.cells #[.int .i64 (p.1 : Int), .int .u64 (p.2 : Int)] 155)).grownBy w2 vr.ownBlock)
  (hl : v'.ownBlock = vr.ownBlock ∨ v'.ownBlock = some (wr.alloc (.cells #[.int .i64 (p.1 : Int), .int .u64 (p.2 : Int)] 155)).heap.size) : Blk w2 R 256 #[vr] ∧ CvI w0 (w2.setCell ⟨R, 0, none⟩ v') O R vo v' ol (rl ++ [p]) := by
 have hb1 : Below wr.heap.size wr (wr.alloc (.cells #[.int .i64 (p.1 : Int), .int .u64 (p.2 : Int)] 155)) := (Below.refl _ wr).alloc (Nat.le_refl _) _
 generalize (wr.alloc (.cells #[.int .i64 (p.1 : Int), .int .u64 (p.2 : Int)] 155)) = w1 at *
 have hP1 := h.br.kept hb1
 have hQ1 := h.bo.kept hb1
 have hM1 := ownKeep h.ro (below_gr (row := none) hb1) (fun k _ => by simp)
 have hT1 := ownKeep h.oo (below_gr (row := none) hb1) (fun k _ => by simp)
 have hneP : some R ≠ vr.ownBlock := fun e => by
  obtain ⟨cs, hc⟩ := ownBlk hM1 R e.symm
  exact absurd rfl (hP1.ne_ hc (by decide))
 have hneQ : some O ≠ vr.ownBlock := fun e => by
  obtain ⟨cs, hc⟩ := ownBlk hM1 O e.symm
  exact absurd rfl (hQ1.ne_ hc (by decide))
 have hP2 := hP1.grown hg hneP
 have hQ2 := hQ1.grown hg hneQ
 have hT2 := ownKeep hT1 hg (fun k hk e => h.sep k hk e)
 have hbel1 : Below w0.heap.size w0 w1 := h.bel.trans (hb1.mono h.bel.size)
 have hbel2 : Below w0.heap.size w0 w2 := hbel1.grown hg hbel1.size (fun k e => (hM1.lt k e).1)
 have hgs : w2.grownBy (w2.setCell ⟨R, 0, none⟩ v') (some R) := gr_setC (World.grownBy.refl _ _) 0 _
 refine ⟨hP2, { br := by simpa using hP2.set_ 0 v', bo := hQ2.grown hgs (by simpa using h.lo.2.2), ro := ?mine, oo := ?other, sep := ?sp, bel := hbel2.setCell h.lo.2.1 _, lo := h.lo }⟩
 case mine =>
  have e1 : pCells (rl ++ [p]) = pCells rl ++ [.int .i64 (p.1 : Int), .int .u64 (p.2 : Int)] := by rw [pCells_append]; rfl
  rw [e1, List.length_append]
  refine ownKeep hown hgs (fun k hk e => ?_)
  have e := Option.some.inj e
  obtain ⟨cs, hc⟩ := ownBlk hown k hk
  rw [← e] at hc
  exact absurd rfl (hP2.ne_ hc (by decide))
 case other =>
  refine ownKeep hT2 hgs (fun k hk e => ?_)
  have e := Option.some.inj e
  obtain ⟨cs, hc⟩ := ownBlk hT2 k hk
  rw [← e] at hc
  exact absurd rfl (hP2.ne_ hc (by decide))
 case sp =>
  intro k hk hk2
  have hlt := fun q hq => (hT1.lt q hq).2
  rcases hl with e | e
  ·rw [e] at hk2; exact h.sep k hk hk2
  ·rw [e] at hk2
   have := hlt k hk
   have := Option.some.inj hk2
   omega
end Go.Proofs.YtfeficdndjiijaaGreatDoor


namespace Go.Proofs.YtfeficdndjiijaaGreatDoor
open Go.RowKit
set_option linter.unusedVariables false
set_option linter.unusedSimpArgs false

theorem pcAt_of_own {w : World} {base g cap : Nat} {l : List (Nat × Nat)} (h : w.ownsRow base 155 2 (.slice (some ⟨g, 0, none⟩) l.length cap) l.length (pCells l)) : PcAt w g l := by
 rcases h.2 with ⟨e, h0⟩ | ⟨g', cap', cur, e, hb, hg, hnc, hcm, hsz, htake⟩
 ·cases e
 ·simp only [Value.slice.injEq, Option.some.injEq, Addr.mk.injEq] at e
  obtain ⟨⟨rfl, -⟩, -, rfl⟩ := e
  refine ⟨(show Blk w g 155 cur from hg).lt, fun o => (show Blk w g 155 cur from hg).frozen o, fun t p hp => ?_⟩
  refine blkRange (show Blk w g 155 cur from hg) _ _ (fun j u hu => ?_)
  have hj : j < 2 := by have := (List.getElem?_eq_some_iff.1 hu).1; simpa [pc2] using this
  have key : ∀ (l : List (Nat × Nat)) (t : Nat), l[t]? = some p → (pCells l)[t * 2 + j]? = some u := by
   intro l
   induction l with
   | nil => intro t ht; simp at ht
   | cons a r ih =>
    intro t ht
    cases t with
    | zero =>
     simp at ht
     subst ht
     show (pc2 a ++ pCells r)[0 * 2 + j]? = _
     rw [List.getElem?_append_left (by simp [pc2]; omega)]
     simpa using hu
    | succ t =>
     simp only [List.getElem?_cons_succ] at ht
     show (pc2 a ++ pCells r)[(t + 1) * 2 + j]? = _
     rw [List.getElem?_append_right (by simp [pc2]; omega), show (t + 1) * 2 + j - (pc2 a).length = t * 2 + j by simp [pc2]; omega]
     exact ih t ht
  have h1 := key l t hp
  have hlt : t * 2 + j < l.length * 2 := by
   have := (List.getElem?_eq_some_iff.1 hp).1
   omega
  rw [← htake, List.getElem?_take, if_pos hlt] at h1
  simpa using h1
theorem pcAt_cells {w : World} {g : Nat} {l : List (Nat × Nat)} (h : PcAt w g l) : ∀ j u, (pCells l)[j]? = some u → w.cell? ((Addr.mk g 0 none).add j) = some u := by
  have key : ∀ (l' : List (Nat × Nat)) (o : Nat), (∀ t p, l'[t]? = some p → w.rangeAt g ((o + t) * 2) (pc2 p)) → ∀ j u, (pCells l')[j]? = some u → w.cell? ⟨g, o * 2 + j, none⟩ = some u := by
    intro l'
    induction l' with
    | nil => intro o _ j u hu; simp [pCells] at hu
    | cons a r ih =>
      intro o ha j u hu
      rw [show pCells (a :: r) = pc2 a ++ pCells r from rfl] at hu
      by_cases hj : j < 2
      · rw [List.getElem?_append_left (by simpa [pc2] using hj)] at hu
        exact ha 0 a rfl j u hu
      · rw [List.getElem?_append_right (by simp [pc2]; omega)] at hu
        have := ih (o + 1) (fun t p ht => by have := ha (t + 1) p (by simpa using ht); rwa [show o + (t + 1) = o + 1 + t by omega] at this) _ u hu
        rw [show o * 2 + j = (o + 1) * 2 + (j - (pc2 a).length) by simp [pc2]; omega]
        exact this
  intro j u hu
  have := key l 0 (fun t p ht => by rw [Nat.zero_add]; exact h.rng t p ht) j u hu
  rw [Addr.add_mid]
  simpa using this
set_option maxRecDepth 100000 in
set_option maxHeartbeats 4000000 in
theorem covdoor (w0 w : World) (O R : Nat) (vo vr : Value) (ol rl : List (Nat × Nat)) (h : CvI w0 w O R vo vr ol rl) (hr : rl ≠ []) (hlen : ol.length + rl.length ≤ 1000) :
  CallsD Tryz.prog 211 #[.pointer (some ⟨R, 0, none⟩), .pointer (some ⟨O, 0, none⟩)] .returning w fun e u' w' => u' = .returning ∧ (e = .returned (.tuple #[]) ∧ ∃ v', Blk w' O 256 #[v'] ∧ w'.ownsRow w0.heap.size 155 2 v' (ol.length + rl.length) (pCells (ol ++ rl.reverse)) ∧ Below w0.heap.size w0 w') := by
 obtain ⟨iP, hP, hP0, hP1, hP2⟩ := info_parts (show (Tryz.prog.info? 155).map (fun i => (i.zero, i.size, i.bytes)) = some (some (.agg #[.int .i64 0, .int .u64 0]), 2, 16) by kernel_rfl)
 obtain ⟨ro, rn, rcap, rfl⟩ : ∃ ro rn rcap, vr = .slice ro rn rcap := by
  obtain ⟨ao, cap, e⟩ := own_form h.ro
  exact ⟨_, _, _, e⟩
 have hor := h.ro
 rcases hor.2 with ⟨e, h0⟩ | ⟨g, cap, cur, e, hb, hgb, hnc, hcm, hsz, htake⟩
 ·exact absurd (List.eq_nil_of_length_eq_zero h0) hr
 simp only [Value.slice.injEq] at e
 obtain ⟨rfl, rfl, rfl⟩ := e
 have hat := pcAt_of_own hor
 have PR := Lib.hid (pcrev g rcap rl (by omega) w hat)
 have H := Lib.hid h
 have c0 := h.br.cell 0
 have c1 := h.bo.cell 0
 simp at c0 c1
 clear hor hb hgb hnc hcm hsz htake hat h
 go_enter_d Tryz.func211, Tryz.ntmps211
 go_wp2_with fail
 with_reducible refine PR.out.mono ?_
 rintro e w2 ⟨rfl, hat2, hg2⟩
 obtain ⟨cur0, hcur0⟩ := ownBlk H.out.ro g rfl
 have ho2 := H.out.bo.grown hg2 (fun e => by
  have e := Option.some.inj e
  have := H.out.bo
  rw [e] at this
  exact absurd rfl (this.ne_ hcur0 (by decide)))
 have hr2 := H.out.br.grown hg2 (fun e => by
  have e := Option.some.inj e
  have := H.out.br
  rw [e] at this
  exact absurd rfl (this.ne_ hcur0 (by decide)))
 have hoo2 := ownKeep H.out.oo hg2 (fun k hk e => by
  have e := Option.some.inj e
  subst e
  exact H.out.sep _ hk rfl)
 have HOO := Lib.hid hoo2
 have HO2 := Lib.hid ho2
 have HCE := Lib.hid (pcAt_cells hat2)
 have HB2 : Hid (Below w0.heap.size w0 w2) := Lib.hid (H.out.bel.grown hg2 H.out.bel.size (fun k e => by
  have e := Option.some.inj e
  subst e
  exact (H.out.ro.lt _ rfl).1))
 have c0 := hr2.cell 0
 have c1 := ho2.cell 0
 have f1 := ho2.frozen 0
 simp at c0 c1
 obtain ⟨oo, ocap, hvo⟩ := own_form H.out.oo
 have hln : (pCells rl.reverse).length = rl.length * 2 := by rw [pCells_len]; simp
 have hone : ∀ u ∈ pCells rl.reverse, u.oneCell' = true := by
  intro u hu
  simp only [pCells, List.mem_flatMap] at hu
  obtain ⟨p, -, hp⟩ := hu
  simp [pc2] at hp
  rcases hp with rfl | rfl <;> rfl
 have h63 : ol.length + rl.length ≤ maxLen := by unfold maxLen; omega
 have hby : (ol.length + rl.length) * 16 ≤ 140737488355328 := by omega
 have HLO := Lib.hid H.out.lo.1
 subst hvo
 clear hat2 hg2 ho2 hr2 hoo2 hcur0 PR
 go_wp2_with (at_builtin; go_loud (refine wpList_append_own_at _ rfl _ _ 256 rfl w0.heap.size 155 iP (.agg #[.int .i64 0, .int .u64 0]) 2 16 Tryz.underlying256 hP hP0 hP1 hP2 rfl (by decide) _ ol.length _ rfl HOO.out ⟨g, 0, none⟩ rl.length rcap (pCells rl.reverse) rfl hln HCE.out hone h63 hby HB2.out.size ?_))
 intro v' w3 hown hgrow hnil hloc
 have ho3 := HO2.out.grown hgrow (fun e => by
  obtain ⟨cs, hc⟩ := ownBlk HOO.out O e.symm
  exact absurd rfl (HO2.out.ne_ hc (by decide)))
 have c3 := ho3.cell 0
 have f3 := ho3.frozen 0
 simp at c3
 have HO3 := Lib.hid ho3
 have HW3 := Lib.hid hown
 have HB3 : Hid (Below w0.heap.size w0 w3) := Lib.hid (HB2.out.grown hgrow HB2.out.size (fun k e => (HOO.out.lt k e).1))
 have hg3 : w3.grownBy (w3.setCell ⟨O, 0, none⟩ v') (some O) := gr_setC (World.grownBy.refl _ _) 0 _
 have HW4 := Lib.hid (ownKeep hown hg3 (fun k hk e => by
  have e := Option.some.inj e
  obtain ⟨cs, hc⟩ := ownBlk hown k hk
  rw [← e] at hc
  exact absurd rfl (ho3.ne_ hc (by decide))))
 have HO4 : Hid (Blk (w3.setCell ⟨O, 0, none⟩ v') O 256 #[v']) := Lib.hid (by simpa using ho3.set_ 0 v')
 have HB4 : Hid (Below w0.heap.size w0 (w3.setCell ⟨O, 0, none⟩ v')) := Lib.hid (HB3.out.setCell HLO.out _)
 have HPA := Lib.hid (pCells_append ol rl.reverse)
 obtain ⟨vo3, vc3, hv3⟩ := own_form hown
 clear hown hgrow hnil hloc ho3 hg3 c0 c1 f1
 subst hv3
 go_wp2_with fail
 go_end0
 refine ⟨rfl, _, HO4.out, ?_, HB4.out⟩
 rw [HPA.out]
 exact HW4.out
end Go.Proofs.YtfeficdndjiijaaGreatDoor


namespace Go.Proofs.YtfeficdndjiijaaGreatDoor
open Go.RowKit
set_option linter.unusedVariables false
set_option linter.unusedSimpArgs false

def lo1 (lo : Nat) : Nat := lo + lo % 2
def hi1 (hi : Nat) : Nat := hi - (1 - hi % 2)
def covO : Nat → Nat → Nat → Nat → List (Nat × Nat)
  | 0, _, _, _ => []
  | f + 1, k, lo, hi => if lo = hi then [(k, lo)] else (if lo % 2 = 1 then [(k, lo)] else []) ++ (if hi1 hi < lo1 lo then [] else covO f (k + 1) (lo1 lo / 2) (hi1 hi / 2))
def covR : Nat → Nat → Nat → Nat → List (Nat × Nat)
  | 0, _, _, _ => []
  | f + 1, k, lo, hi => if lo = hi then [] else (if hi % 2 = 0 then [(k, hi)] else []) ++ (if hi1 hi < lo1 lo then [] else covR f (k + 1) (lo1 lo / 2) (hi1 hi / 2))
theorem and1 (a : Nat) (h : a < 18446744073709551616) : bits BinOp.and IntKind.u64 (a : Int) 1 = ((a % 2 : Nat) : Int) := by
  have h2 := u64_and (a : Int) 1 (by omega) (by omega) (by omega) (by omega)
  rw [h2]
  simp
theorem cover_results (tmps : Array Value) (w : World) (O : Nat) (v : Value) (h6 : tmps[6]?.getD undef = .pointer (some ⟨O, 0, none⟩)) (h7 : tmps[7]?.getD undef = .bool true) (ho : w.cell? ⟨O, 0, none⟩ = some v) (hv : ∃ a n c, v = .slice a n c) :
    (results Tryz.f174 tmps).run Tryz.prog w = .ok (.tuple #[v, .bool true]) w := by
  obtain ⟨a, n, c, rfl⟩ := hv
  simp [results, Tryz.results174, go_sem, h6, h7, ho]
theorem cov_len (f k lo hi : Nat) : (covO f k lo hi).length ≤ 2 * f ∧ (covR f k lo hi).length ≤ f := by
  induction f generalizing k lo hi with
  | zero => simp [covO, covR]
  | succ f ih =>
    have h := ih (k + 1) (lo1 lo / 2) (hi1 hi / 2)
    simp only [covO, covR]
    by_cases e : lo = hi
    · rw [if_pos e, if_pos e]; simp; omega
    · rw [if_neg e, if_neg e]
      simp only [List.length_append]
      constructor
      · split <;> split <;> simp <;> omega
      · split <;> split <;> simp <;> omega
def CovRes (w : World) (OL RL : List (Nat × Nat)) (e : Ending) (w' : World) : Prop :=
  ∃ v, e = .returned (.tuple #[v, .bool true]) ∧ w'.ownsRow w.heap.size 155 2 v (OL ++ RL.reverse).length (pCells (OL ++ RL.reverse)) ∧ Below w.heap.size w w'
theorem CvI.same {w0 wr : World} {O R : Nat} {vo vr : Value} {ol rl : List (Nat × Nat)} (h : CvI w0 wr O R vo vr ol rl) : CvI w0 (wr.setCell ⟨O, 0, none⟩ vo) O R vo vr ol rl := by
  have hgs : wr.grownBy (wr.setCell ⟨O, 0, none⟩ vo) (some O) := gr_setC (World.grownBy.refl _ _) 0 _
  exact { bo := by simpa using h.bo.set_ 0 vo, br := h.br.grown hgs (by simpa using Ne.symm h.lo.2.2), oo := ownKeep h.oo hgs (fun k hk e => by
            have e := Option.some.inj e
            obtain ⟨cs, hc⟩ := ownBlk h.oo k hk
            rw [← e] at hc
            exact absurd rfl (h.bo.ne_ hc (by decide))), ro := ownKeep h.ro hgs (fun k hk e => by
            have e := Option.some.inj e
            obtain ⟨cs, hc⟩ := ownBlk h.ro k hk
            rw [← e] at hc
            exact absurd rfl (h.bo.ne_ hc (by decide))), sep := h.sep, bel := h.bel.setCell h.lo.1 _, lo := h.lo }
theorem cov_ret {w wz : World} {t : Array Value} {O R : Nat} {vo vr : Value} {ol rl : List (Nat × Nat)} (h : CvI w wz O R vo vr ol rl) (hr : rl ≠ []) (hlen : ol.length + rl.length ≤ 1000) (h6 : t[6]?.getD undef = .pointer (some ⟨O, 0, none⟩)) (h7 : t[7]?.getD undef = .bool true) :
    bodyPostD Tryz.prog Tryz.f174 (CovRes w ol rl) Exit.ret { tmps := t, defers := [{ target := .fn (.func 211) #[.pointer (some ⟨R, 0, none⟩), .pointer (some ⟨O, 0, none⟩)], args := #[] }] } wz := by
  refine leaves_cons (f := 211) (args := #[.pointer (some ⟨R, 0, none⟩), .pointer (some ⟨O, 0, none⟩)]) (by simp) (by simp [go_sem]) ?_
  refine (covdoor w wz O R vo vr ol rl h hr hlen).mono ?_
  rintro e u' w'' ⟨rfl, rfl, v', hb, ho, hB⟩
  obtain ⟨ao, cap, hv⟩ := own_form ho
  refine ⟨_, cover_results t _ _ v' h6 h7 (by simpa using hb.cell 0) ⟨_, _, _, hv⟩, v', rfl, ?_, hB⟩
  rw [List.length_append, List.length_reverse]
  exact ho
theorem covO_s {b k lo hi : Nat} (hk : k ≤ b) : covO (b + 1 - k) k lo hi = if lo = hi then [(k, lo)] else (if lo % 2 = 1 then [(k, lo)] else []) ++ (if hi1 hi < lo1 lo then [] else covO (b + 1 - (k + 1)) (k + 1) (lo1 lo / 2) (hi1 hi / 2)) := by
  rw [show b + 1 - k = (b - k) + 1 by omega, covO, show b + 1 - (k + 1) = b - k by omega]
theorem covR_s {b k lo hi : Nat} (hk : k ≤ b) : covR (b + 1 - k) k lo hi = if lo = hi then [] else (if hi % 2 = 0 then [(k, hi)] else []) ++ (if hi1 hi < lo1 lo then [] else covR (b + 1 - (k + 1)) (k + 1) (lo1 lo / 2) (hi1 hi / 2)) := by
  rw [show b + 1 - k = (b - k) + 1 by omega, covR, show b + 1 - (k + 1) = b - k by omega]
set_option maxRecDepth 100000 in
set_option maxHeartbeats 16000000 in
theorem cover_any (b l0 h0 : Nat) (hb1 : 1 ≤ b) (hb : b ≤ 59) (hlh : l0 ≤ h0) (hhi : h0 < 2 ^ b) (hne : covR (b + 1) 0 l0 h0 ≠ []) (w : World) :
  Calls Tryz.prog 174 #[.int .i64 (b : Int), .int .u64 (l0 : Int), .int .u64 (h0 : Int)] w (CovRes w (covO (b + 1) 0 l0 h0) (covR (b + 1) 0 l0 h0)) := by
 obtain ⟨iP, hP, hP0, hP1, hP2⟩ := info_parts (show (Tryz.prog.info? 155).map (fun i => (i.zero, i.size, i.bytes)) = some (some (.agg #[.int .i64 0, .int .u64 0]), 2, 16) by kernel_rfl)
 have HNE := Lib.hid hne
 obtain ⟨OL, hOL⟩ : ∃ OL, OL = covO (b + 1) 0 l0 h0 := ⟨_, rfl⟩
 obtain ⟨RL, hRL⟩ : ∃ RL, RL = covR (b + 1) 0 l0 h0 := ⟨_, rfl⟩
 rw [← hRL] at HNE
 rw [← hOL, ← hRL]
 have HL := Lib.hid (And.intro hOL hRL)
 have HLN : Hid (OL.length ≤ 2 * (b + 1) ∧ RL.length ≤ b + 1) := Lib.hid (by rw [hOL, hRL]; exact cov_len _ _ _ _)
 have h60 : 2 ^ b ≤ 2 ^ 59 := Nat.pow_le_pow_right (by decide) hb
 have h59 : (2 : Nat) ^ 59 = 576460752303423488 := by decide
 have hsh : wrap64 ((2 : Int) ^ b) = (2 : Int) ^ b ∨ True := .inr trivial
 have HHI := Lib.hid hhi
 have h2b : ((2 ^ b : Nat) : Int) = (2 : Int) ^ b := by simp
 have e1 : ¬ ((b : Int) < 1) := by omega
 have e2 : ¬ ((b : Int) > 59) := by omega
 have e2' : ¬ ((59 : Int) < (b : Int)) := by omega
 have e3 : ¬ ((l0 : Int) > (h0 : Int)) := by omega
 have e3' : ¬ ((h0 : Int) < (l0 : Int)) := by omega
 have e4 : ¬ ((h0 : Int) ≥ (2 : Int) ^ b) := by rw [← h2b]; omega
 have e4' : ¬ ((2 : Int) ^ b ≤ (h0 : Int)) := by rw [← h2b]; omega
 have e4'' : ¬ (2 ^ b ≤ h0) := by omega
 have hsw : IntKind.u64.wrap ((2 : Int) ^ b) = (2 : Int) ^ b := by rw [← h2b]; simp [IntKind.wrap, IntKind.bits, IntKind.signed]; omega
 have hmf : ∀ (fn : Fn) (first cap : Array Value) (w : World), (Instr.makeFunc fn first cap).run Tryz.prog w = .ok (.func fn first cap) w := fun _ _ _ _ => rfl
 have HI0 : Hid (CvI w ((w.alloc (.cells #[.slice none 0 0] 256)).alloc (.cells #[.slice none 0 0] 256)) w.heap.size (w.heap.size + 1) (.slice none 0 0) (.slice none 0 0) [] []) := Lib.hid {
  bo := (Blk.new w _ _).alloc _
  br := by simpa using Blk.new (w.alloc (.cells #[.slice none 0 0] 256)) 256 #[.slice none 0 0]
  oo := World.ownsRow_nil _ _ _ _
  ro := World.ownsRow_nil _ _ _ _
  sep := fun k hk => by simp [Value.ownBlock] at hk
  bel := ((Below.refl _ w).alloc (Nat.le_refl _) _).alloc (by simp) _
  lo := ⟨Nat.le_refl _, by omega, by omega⟩ }
 clear hne hOL hRL hsh
 go_enter_defers Tryz.func174, Tryz.ntmps174
 go_wp2_with fail
 have HSZ : Hid (w.heap.size + 1 ≠ w.heap.size) := Lib.hid (by omega)
 generalize ((w.alloc (.cells #[.slice none 0 0] 256)).alloc (.cells #[.slice none 0 0] 256)) = wA at *
 generalize w.heap.size + 1 = R at *
 clear e1 e2 e2' e3 e3' e4 e4' e4'' h59
 go_loopw [1, 2, 9] (fun a1 a2 a9 wr => ∃ (k lo hi : Nat) (vo vr : Value) (ol rl : List (Nat × Nat)), a1 = .int .u64 (lo : Int) ∧ a2 = .int .u64 (hi : Int) ∧ a9 = .int .i64 (k : Int) ∧ CvI w wr w.heap.size R vo vr ol rl ∧ OL = ol ++ covO (b + 1 - k) k lo hi ∧ RL = rl ++ covR (b + 1 - k) k lo hi ∧ lo ≤ hi ∧ hi < 2 ^ (b - k) ∧ k ≤ b) (fun _ _ a9 _ => b + 1 - (intOf a9).toNat)
 case atStart => exact ⟨0, l0, h0, _, _, [], [], rfl, rfl, rfl, HI0.out, by simpa using HL.out.1, by simpa using HL.out.2, hlh, by simpa using HHI.out, by omega⟩
 case round =>
  obtain ⟨k, lo, hi, vo, vr, ol, rl, rfl, rfl, rfl, hI, hO, hR, hlh1, hhi1, hk⟩ := hrel
  obtain ⟨ao, ac, hav⟩ := own_form hI.oo
  obtain ⟨ro, rc, hrv⟩ := own_form hI.ro
  subst hav
  subst hrv
  have HI := Lib.hid hI
  rw [covO_s hk] at hO
  rw [covR_s hk] at hR
  have hpw : 2 ^ (b - k) ≤ 2 ^ b := Nat.pow_le_pow_right (by decide) (by omega)
  have hhs : hi < 576460752303423488 := by rw [← show (2 : Nat) ^ 59 = 576460752303423488 by decide]; omega
  have HHK : Hid (hi < 2 ^ (b - k)) := Lib.hid hhi1
  have HLEN : Hid (OL.length ≤ 120 ∧ RL.length ≤ 60) := Lib.hid (by have := HLN.out; omega)
  clear hI hhi1 hpw HI0 HL HLN h60 h2b hsw
  by_cases heq : lo = hi
  ·subst heq
   rw [if_pos rfl] at hO hR
   rw [List.append_nil] at hR
   subst hR
   have HO := Lib.hid hO
   clear hO
   have hlO : ol.length ≤ 120 := by have := HLEN.out; rw [HO.out, List.length_append] at this; omega
   have hlR : RL.length ≤ 60 := HLEN.out.2
   have c1 := HI.out.bo.cell 0
   simp at c1
   have HAL1 := Lib.hid (Blk.new wr 155 #[.int .i64 (k : Int), .int .u64 (lo : Int)])
   have HOO1 : Hid (World.ownsRow (wr.alloc (.cells #[.int .i64 (k : Int), .int .u64 (lo : Int)] 155)) w.heap.size 155 2 (.slice ao (ol).length ac) (ol).length (pCells (ol))) := Lib.hid (ownKeep HI.out.oo (below_gr (row := none) ((Below.refl _ wr).alloc (Nat.le_refl _) _)) (fun k _ => by simp))
   have HCE1 : Hid (∀ j u, ([.int .i64 (k : Int), .int .u64 (lo : Int)] : List Value)[j]? = some u → World.cell? (wr.alloc (.cells #[.int .i64 (k : Int), .int .u64 (lo : Int)] 155)) ((Addr.mk wr.heap.size 0 none).add j) = some u) := Lib.hid (fun j u hu => by
    rw [Addr.add_mid, Nat.zero_add]
    exact (HAL1.out.cell j).trans (by simpa using hu))
   have hone1 : ∀ u ∈ ([.int .i64 (k : Int), .int .u64 (lo : Int)] : List Value), u.oneCell' = true := by
    intro u hu
    simp at hu
    rcases hu with rfl | rfl <;> rfl
   have HLA1 : Hid ((ol).length ≤ 122) := Lib.hid (by first | omega | (simp only [List.length_append, List.length_cons, List.length_nil]; omega))
   have HSI1 : Hid (w.heap.size ≤ (wr.alloc (.cells #[.int .i64 (k : Int), .int .u64 (lo : Int)] 155)).heap.size) := Lib.hid (by have := HI.out.bel.size; simp; omega)
   have h631 : (ol).length + 1 ≤ maxLen := by have := HLA1.out; unfold maxLen; omega
   have hby1 : ((ol).length + 1) * 16 ≤ 140737488355328 := by have := HLA1.out; omega
   go_wp2_with (at_builtin; go_loud (refine wpList_append_own_at _ rfl _ _ 256 rfl w.heap.size 155 iP (.agg #[.int .i64 0, .int .u64 0]) 2 16 Tryz.underlying256 hP hP0 hP1 hP2 rfl (by decide) _ (ol).length _ rfl HOO1.out ⟨wr.heap.size, 0, none⟩ 1 1 [.int .i64 (k : Int), .int .u64 (lo : Int)] rfl rfl HCE1.out hone1 h631 hby1 HSI1.out ?_))
   intro v1 w1 hown1 hgrow1 hnil1 hloc1
   obtain ⟨hbo1, hI1⟩ := CvI.midO HI.out (k, lo) hown1 hgrow1 (by simpa using hloc1)
   have d1 := hbo1.cell 0
   have f1 := hbo1.frozen 0
   simp at d1
   have HI1 := Lib.hid hI1
   obtain ⟨bo1, bc1, hbv1⟩ := own_form hown1
   subst hbv1
   clear hown1 hgrow1 hnil1 hloc1 hbo1 hI1 hone1 h631 hby1 c1
   clear HAL1 HOO1 HCE1 HLA1 HSI1
   go_wp2_with fail
   rw [HO.out]
   exact cov_ret HI1.out.same HNE.out (by have := HLEN.out.2; simp only [List.length_append, List.length_cons, List.length_nil]; omega) rfl rfl
  ·rw [if_neg heq] at hO hR
   have hlO : ol.length ≤ 120 := by have := HLEN.out; rw [hO, List.length_append] at this; omega
   have hlR : rl.length ≤ 60 := by have := HLEN.out; rw [hR, List.length_append] at this; omega
   have hlt : lo < hi := by omega
   have hkb : k < b := by
    have := HHK.out
    by_cases e : b - k = 0
    ·rw [e] at this; omega
    ·omega
   have heq2 : ¬ ((lo : Int) = (hi : Int)) := by omega
   obtain ⟨LO, hLO⟩ : ∃ x, x = lo1 lo := ⟨_, rfl⟩
   obtain ⟨HH, hHH⟩ : ∃ x, x = hi1 hi := ⟨_, rfl⟩
   rw [← hLO, ← hHH] at hO hR
   have HO := Lib.hid hO
   have HR := Lib.hid hR
   unfold lo1 at hLO
   unfold hi1 at hHH
   have HPW : Hid (LO ≤ HH → HH / 2 < 2 ^ (b - (k + 1))) := Lib.hid (fun _ => by
    have h1 := HHK.out
    rw [show b - k = (b - (k + 1)) + 1 by omega, Nat.pow_succ] at h1
    omega)
   have HKB := Lib.hid hkb
   have el : (lo % 2 = 1) → IntKind.u64.wrap ((lo : Int) + 1) = (LO : Int) := fun h => by rw [wrapU_mod]; omega
   have eh : (hi % 2 = 0) → IntKind.u64.wrap ((hi : Int) - 1) = (HH : Int) := fun h => by rw [wrapU_mod]; omega
   have HLO := Lib.hid hLO
   have HHH := Lib.hid hHH
   clear hO hR hkb
   by_cases ho : lo % 2 = 1
   ·have ea : bits BinOp.and IntKind.u64 (lo : Int) 1 = 1 := by rw [and1 _ (by omega), ho]; rfl
    have HO1 : Hid (OL = (ol ++ [(k, lo)]) ++ (if HH < LO then [] else covO (b + 1 - (k + 1)) (k + 1) (LO / 2) (HH / 2))) := Lib.hid (by rw [HO.out, if_pos ho]; simp)
    have elo := el ho
    have c2 := HI.out.bo.cell 0
    simp at c2
    have HAL2 := Lib.hid (Blk.new wr 155 #[.int .i64 (k : Int), .int .u64 (lo : Int)])
    have HOO2 : Hid (World.ownsRow (wr.alloc (.cells #[.int .i64 (k : Int), .int .u64 (lo : Int)] 155)) w.heap.size 155 2 (.slice ao (ol).length ac) (ol).length (pCells (ol))) := Lib.hid (ownKeep HI.out.oo (below_gr (row := none) ((Below.refl _ wr).alloc (Nat.le_refl _) _)) (fun k _ => by simp))
    have HCE2 : Hid (∀ j u, ([.int .i64 (k : Int), .int .u64 (lo : Int)] : List Value)[j]? = some u → World.cell? (wr.alloc (.cells #[.int .i64 (k : Int), .int .u64 (lo : Int)] 155)) ((Addr.mk wr.heap.size 0 none).add j) = some u) := Lib.hid (fun j u hu => by
     rw [Addr.add_mid, Nat.zero_add]
     exact (HAL2.out.cell j).trans (by simpa using hu))
    have hone2 : ∀ u ∈ ([.int .i64 (k : Int), .int .u64 (lo : Int)] : List Value), u.oneCell' = true := by
     intro u hu
     simp at hu
     rcases hu with rfl | rfl <;> rfl
    have HLA2 : Hid ((ol).length ≤ 122) := Lib.hid (by first | omega | (simp only [List.length_append, List.length_cons, List.length_nil]; omega))
    have HSI2 : Hid (w.heap.size ≤ (wr.alloc (.cells #[.int .i64 (k : Int), .int .u64 (lo : Int)] 155)).heap.size) := Lib.hid (by have := HI.out.bel.size; simp; omega)
    have h632 : (ol).length + 1 ≤ maxLen := by have := HLA2.out; unfold maxLen; omega
    have hby2 : ((ol).length + 1) * 16 ≤ 140737488355328 := by have := HLA2.out; omega
    go_wp2_with (at_builtin; go_loud (refine wpList_append_own_at _ rfl _ _ 256 rfl w.heap.size 155 iP (.agg #[.int .i64 0, .int .u64 0]) 2 16 Tryz.underlying256 hP hP0 hP1 hP2 rfl (by decide) _ (ol).length _ rfl HOO2.out ⟨wr.heap.size, 0, none⟩ 1 1 [.int .i64 (k : Int), .int .u64 (lo : Int)] rfl rfl HCE2.out hone2 h632 hby2 HSI2.out ?_))
    intro v2 w2 hown2 hgrow2 hnil2 hloc2
    obtain ⟨hbo2, hI2⟩ := CvI.midO HI.out (k, lo) hown2 hgrow2 (by simpa using hloc2)
    have d2 := hbo2.cell 0
    have f2 := hbo2.frozen 0
    simp at d2
    have HI2 := Lib.hid hI2
    obtain ⟨bo2, bc2, hbv2⟩ := own_form hown2
    subst hbv2
    clear hown2 hgrow2 hnil2 hloc2 hbo2 hI2 hone2 h632 hby2 c2
    clear HAL2 HOO2 HCE2 HLA2 HSI2
    go_upto_region 12 with fail
    generalize (w2.setCell ⟨w.heap.size, 0, none⟩ (.slice bo2 (((ol)).length + 1) bc2)) = wb at *
    obtain rfl : LO = lo + 1 := by omega
    clear hLO el elo HLO
    clear d2 f2
    by_cases he : hi % 2 = 0
    ·have ec : bits BinOp.and IntKind.u64 (hi : Int) 1 = 0 := by rw [and1 _ (by omega), he]; rfl
     have HR1 : Hid (RL = (rl ++ [(k, hi)]) ++ (if HH < (lo + 1) then [] else covR (b + 1 - (k + 1)) (k + 1) ((lo + 1) / 2) (HH / 2))) := Lib.hid (by rw [HR.out, if_pos he]; simp)
     have ehi := eh he
     have c3 := HI2.out.br.cell 0
     simp at c3
     have HAL3 := Lib.hid (Blk.new wb 155 #[.int .i64 (k : Int), .int .u64 (hi : Int)])
     have HOO3 : Hid (World.ownsRow (wb.alloc (.cells #[.int .i64 (k : Int), .int .u64 (hi : Int)] 155)) w.heap.size 155 2 (.slice ro (rl).length rc) (rl).length (pCells (rl))) := Lib.hid (ownKeep HI2.out.ro (below_gr (row := none) ((Below.refl _ wb).alloc (Nat.le_refl _) _)) (fun k _ => by simp))
     have HCE3 : Hid (∀ j u, ([.int .i64 (k : Int), .int .u64 (hi : Int)] : List Value)[j]? = some u → World.cell? (wb.alloc (.cells #[.int .i64 (k : Int), .int .u64 (hi : Int)] 155)) ((Addr.mk wb.heap.size 0 none).add j) = some u) := Lib.hid (fun j u hu => by
      rw [Addr.add_mid, Nat.zero_add]
      exact (HAL3.out.cell j).trans (by simpa using hu))
     have hone3 : ∀ u ∈ ([.int .i64 (k : Int), .int .u64 (hi : Int)] : List Value), u.oneCell' = true := by
      intro u hu
      simp at hu
      rcases hu with rfl | rfl <;> rfl
     have HLA3 : Hid ((rl).length ≤ 122) := Lib.hid (by first | omega | (simp only [List.length_append, List.length_cons, List.length_nil]; omega))
     have HSI3 : Hid (w.heap.size ≤ (wb.alloc (.cells #[.int .i64 (k : Int), .int .u64 (hi : Int)] 155)).heap.size) := Lib.hid (by have := HI2.out.bel.size; simp; omega)
     have h633 : (rl).length + 1 ≤ maxLen := by have := HLA3.out; unfold maxLen; omega
     have hby3 : ((rl).length + 1) * 16 ≤ 140737488355328 := by have := HLA3.out; omega
     go_wp2_with (at_builtin; go_loud (refine wpList_append_own_at _ rfl _ _ 256 rfl w.heap.size 155 iP (.agg #[.int .i64 0, .int .u64 0]) 2 16 Tryz.underlying256 hP hP0 hP1 hP2 rfl (by decide) _ (rl).length _ rfl HOO3.out ⟨wb.heap.size, 0, none⟩ 1 1 [.int .i64 (k : Int), .int .u64 (hi : Int)] rfl rfl HCE3.out hone3 h633 hby3 HSI3.out ?_))
     intro v3 w3 hown3 hgrow3 hnil3 hloc3
     obtain ⟨hbo3, hI3⟩ := CvI.midR HI2.out (k, hi) hown3 hgrow3 (by simpa using hloc3)
     have d3 := hbo3.cell 0
     have f3 := hbo3.frozen 0
     simp at d3
     have HI3 := Lib.hid hI3
     obtain ⟨bo3, bc3, hbv3⟩ := own_form hown3
     subst hbv3
     clear hown3 hgrow3 hnil3 hloc3 hbo3 hI3 hone3 h633 hby3 c3
     clear HAL3 HOO3 HCE3 HLA3 HSI3
     go_upto_region 15 with fail
     generalize (w3.setCell ⟨R, 0, none⟩ (.slice bo3 (((rl)).length + 1) bc3)) = wc at *
     obtain rfl : HH = hi - 1 := by omega
     clear hHH eh ehi HHH
     by_cases hx : (hi - 1) < (lo + 1)
     ·have hx1 : (((hi - 1 : Nat) : Int) < (lo : Int) + 1) := by omega
      have HOF : Hid (OL = ol ++ [(k, lo)]) := Lib.hid (by rw [HO1.out, if_pos hx]; simp)
      have HRF : Hid (RL = rl ++ [(k, hi)]) := Lib.hid (by rw [HR1.out, if_pos hx]; simp)
      have cc0 := HI3.out.bo.cell 0
      have cf0 := HI3.out.bo.frozen 0
      simp at cc0
      go_wp2_with fail
      rw [HOF.out, HRF.out]
      refine cov_ret HI3.out.same (by rw [← HRF.out]; exact HNE.out) (by have := HLEN.out; rw [HOF.out, HRF.out] at this; omega) rfl rfl
     ·have hx1 : ¬ (((hi - 1 : Nat) : Int) < (lo : Int) + 1) := by omega
      have HOF : Hid (OL = ol ++ [(k, lo)] ++ covO (b + 1 - (k + 1)) (k + 1) ((lo + 1) / 2) ((hi - 1) / 2)) := Lib.hid (by rw [HO1.out, if_neg hx])
      have HRF : Hid (RL = rl ++ [(k, hi)] ++ covR (b + 1 - (k + 1)) (k + 1) ((lo + 1) / 2) ((hi - 1) / 2)) := Lib.hid (by rw [HR1.out, if_neg hx])
      have hk1 : IntKind.i64.wrap ((k : Int) + 1) = (k : Int) + 1 := wrapI_of _ (by omega) (by omega)
      go_wp2_with fail
      go_roundw
      case rel => exact ⟨k + 1, (lo + 1) / 2, (hi - 1) / 2, _, _, _, _, by go_num, by go_num, by go_num, HI3.out, HOF.out, HRF.out, by omega, HPW.out (by omega), HKB.out⟩
      case measure => simp [intOf]; have := HKB.out; omega
    ·have ec : bits BinOp.and IntKind.u64 (hi : Int) 1 = 1 := by rw [and1 _ (by omega), show hi % 2 = 1 by omega]; rfl
     have HR1 : Hid (RL = rl ++ (if HH < (lo + 1) then [] else covR (b + 1 - (k + 1)) (k + 1) ((lo + 1) / 2) (HH / 2))) := Lib.hid (by rw [HR.out, if_neg he]; simp)
     obtain rfl : hi = HH := by omega
     clear hHH eh HHH
     by_cases hx : hi < (lo + 1)
     ·exact absurd hx (by omega)
     ·have hx1 : ¬ ((hi : Int) < (lo : Int) + 1) := by omega
      have HOF : Hid (OL = ol ++ [(k, lo)] ++ covO (b + 1 - (k + 1)) (k + 1) ((lo + 1) / 2) (hi / 2)) := Lib.hid (by rw [HO1.out, if_neg hx])
      have HRF : Hid (RL = rl ++ covR (b + 1 - (k + 1)) (k + 1) ((lo + 1) / 2) (hi / 2)) := Lib.hid (by rw [HR1.out, if_neg hx])
      have hk1 : IntKind.i64.wrap ((k : Int) + 1) = (k : Int) + 1 := wrapI_of _ (by omega) (by omega)
      go_wp2_with fail
      go_roundw
      case rel => exact ⟨k + 1, (lo + 1) / 2, hi / 2, _, _, _, _, by go_num, by go_num, by go_num, HI2.out, HOF.out, HRF.out, by omega, HPW.out (by omega), HKB.out⟩
      case measure => simp [intOf]; have := HKB.out; omega
   ·have ea : bits BinOp.and IntKind.u64 (lo : Int) 1 = 0 := by rw [and1 _ (by omega), show lo % 2 = 0 by omega]; rfl
    have HO1 : Hid (OL = ol ++ (if HH < LO then [] else covO (b + 1 - (k + 1)) (k + 1) (LO / 2) (HH / 2))) := Lib.hid (by rw [HO.out, if_neg ho]; simp)
    obtain rfl : lo = LO := by omega
    clear hLO el HLO
    by_cases he : hi % 2 = 0
    ·have ec : bits BinOp.and IntKind.u64 (hi : Int) 1 = 0 := by rw [and1 _ (by omega), he]; rfl
     have HR1 : Hid (RL = (rl ++ [(k, hi)]) ++ (if HH < lo then [] else covR (b + 1 - (k + 1)) (k + 1) (lo / 2) (HH / 2))) := Lib.hid (by rw [HR.out, if_pos he]; simp)
     have ehi := eh he
     have c4 := HI.out.br.cell 0
     simp at c4
     have HAL4 := Lib.hid (Blk.new wr 155 #[.int .i64 (k : Int), .int .u64 (hi : Int)])
     have HOO4 : Hid (World.ownsRow (wr.alloc (.cells #[.int .i64 (k : Int), .int .u64 (hi : Int)] 155)) w.heap.size 155 2 (.slice ro (rl).length rc) (rl).length (pCells (rl))) := Lib.hid (ownKeep HI.out.ro (below_gr (row := none) ((Below.refl _ wr).alloc (Nat.le_refl _) _)) (fun k _ => by simp))
     have HCE4 : Hid (∀ j u, ([.int .i64 (k : Int), .int .u64 (hi : Int)] : List Value)[j]? = some u → World.cell? (wr.alloc (.cells #[.int .i64 (k : Int), .int .u64 (hi : Int)] 155)) ((Addr.mk wr.heap.size 0 none).add j) = some u) := Lib.hid (fun j u hu => by
      rw [Addr.add_mid, Nat.zero_add]
      exact (HAL4.out.cell j).trans (by simpa using hu))
     have hone4 : ∀ u ∈ ([.int .i64 (k : Int), .int .u64 (hi : Int)] : List Value), u.oneCell' = true := by
      intro u hu
      simp at hu
      rcases hu with rfl | rfl <;> rfl
     have HLA4 : Hid ((rl).length ≤ 122) := Lib.hid (by first | omega | (simp only [List.length_append, List.length_cons, List.length_nil]; omega))
     have HSI4 : Hid (w.heap.size ≤ (wr.alloc (.cells #[.int .i64 (k : Int), .int .u64 (hi : Int)] 155)).heap.size) := Lib.hid (by have := HI.out.bel.size; simp; omega)
     have h634 : (rl).length + 1 ≤ maxLen := by have := HLA4.out; unfold maxLen; omega
     have hby4 : ((rl).length + 1) * 16 ≤ 140737488355328 := by have := HLA4.out; omega
     go_wp2_with (at_builtin; go_loud (refine wpList_append_own_at _ rfl _ _ 256 rfl w.heap.size 155 iP (.agg #[.int .i64 0, .int .u64 0]) 2 16 Tryz.underlying256 hP hP0 hP1 hP2 rfl (by decide) _ (rl).length _ rfl HOO4.out ⟨wr.heap.size, 0, none⟩ 1 1 [.int .i64 (k : Int), .int .u64 (hi : Int)] rfl rfl HCE4.out hone4 h634 hby4 HSI4.out ?_))
     intro v4 w4 hown4 hgrow4 hnil4 hloc4
     obtain ⟨hbo4, hI4⟩ := CvI.midR HI.out (k, hi) hown4 hgrow4 (by simpa using hloc4)
     have d4 := hbo4.cell 0
     have f4 := hbo4.frozen 0
     simp at d4
     have HI4 := Lib.hid hI4
     obtain ⟨bo4, bc4, hbv4⟩ := own_form hown4
     subst hbv4
     clear hown4 hgrow4 hnil4 hloc4 hbo4 hI4 hone4 h634 hby4 c4
     clear HAL4 HOO4 HCE4 HLA4 HSI4
     go_upto_region 15 with fail
     generalize (w4.setCell ⟨R, 0, none⟩ (.slice bo4 (((rl)).length + 1) bc4)) = wc at *
     obtain rfl : HH = hi - 1 := by omega
     clear hHH eh ehi HHH
     by_cases hx : (hi - 1) < lo
     ·exact absurd hx (by omega)
     ·have hx1 : ¬ (((hi - 1 : Nat) : Int) < (lo : Int)) := by omega
      have HOF : Hid (OL = ol ++ covO (b + 1 - (k + 1)) (k + 1) (lo / 2) ((hi - 1) / 2)) := Lib.hid (by rw [HO1.out, if_neg hx])
      have HRF : Hid (RL = rl ++ [(k, hi)] ++ covR (b + 1 - (k + 1)) (k + 1) (lo / 2) ((hi - 1) / 2)) := Lib.hid (by rw [HR1.out, if_neg hx])
      have hk1 : IntKind.i64.wrap ((k : Int) + 1) = (k : Int) + 1 := wrapI_of _ (by omega) (by omega)
      go_wp2_with fail
      go_roundw
      case rel => exact ⟨k + 1, lo / 2, (hi - 1) / 2, _, _, _, _, by go_num, by go_num, by go_num, HI4.out, HOF.out, HRF.out, by omega, HPW.out (by omega), HKB.out⟩
      case measure => simp [intOf]; have := HKB.out; omega
    ·have ec : bits BinOp.and IntKind.u64 (hi : Int) 1 = 1 := by rw [and1 _ (by omega), show hi % 2 = 1 by omega]; rfl
     have HR1 : Hid (RL = rl ++ (if HH < lo then [] else covR (b + 1 - (k + 1)) (k + 1) (lo / 2) (HH / 2))) := Lib.hid (by rw [HR.out, if_neg he]; simp)
     obtain rfl : hi = HH := by omega
     clear hHH eh HHH
     by_cases hx : hi < lo
     ·exact absurd hx (by omega)
     ·have hx1 : ¬ ((hi : Int) < (lo : Int)) := by omega
      have HOF : Hid (OL = ol ++ covO (b + 1 - (k + 1)) (k + 1) (lo / 2) (hi / 2)) := Lib.hid (by rw [HO1.out, if_neg hx])
      have HRF : Hid (RL = rl ++ covR (b + 1 - (k + 1)) (k + 1) (lo / 2) (hi / 2)) := Lib.hid (by rw [HR1.out, if_neg hx])
      have hk1 : IntKind.i64.wrap ((k : Int) + 1) = (k : Int) + 1 := wrapI_of _ (by omega) (by omega)
      go_wp2_with fail
      go_roundw
      case rel => exact ⟨k + 1, lo / 2, hi / 2, _, _, _, _, by go_num, by go_num, by go_num, HI.out, HOF.out, HRF.out, by omega, HPW.out (by omega), HKB.out⟩
      case measure => simp [intOf]; have := HKB.out; omega
end Go.Proofs.YtfeficdndjiijaaGreatDoor


namespace Go.Proofs.YtfeficdndjiijaaGreatDoor
open Go.RowKit Go.Shelf
set_option linter.unusedVariables false
set_option linter.unusedSimpArgs false
attribute [local go_sem] Oper.semAt_some

theorem slvals (ao : Option Addr) (n cap : Nat) (w : World) :
    Calls Tryz.prog 176 #[.slice ao n cap] w fun e w' => e = .returned (.func (.func 213) #[] #[.pointer (some ⟨w.heap.size, 0, none⟩)]) ∧ w' = w.alloc (.cells #[.slice ao n cap] 256) := by
  go_enter Tryz.func176, Tryz.ntmps176
  go_wp2
  go_ret
  exact ⟨rfl, rfl⟩
def pcV (p : Nat × Nat) : Value := .agg #[.int .i64 (p.1 : Int), .int .u64 (p.2 : Int)]
set_option maxRecDepth 100000 in
set_option maxHeartbeats 4000000 in
theorem slv1 (n : Nat) (hn : 1 ≤ n) (l Bs g cap : Nat) {α : Type} (f : α → Nat × Nat) (qs : List α) (hlen : qs.length ≤ 100000) (J Jx : List α → World → Prop)
  (hY : ∀ pre x W, J pre W → pre.length < qs.length → YieldAt Fence.wide (n - 1) Tryz.prog l #[pcV (f x)] W fun e W' =>
   (e = .returned (.bool true) ∧ J (pre ++ [x]) W' ∧ KpB [Bs, g] W W') ∨ (e = .returned (.bool false) ∧ Jx (pre ++ [x]) W'))
  (W : World) (hJ : AbidesFrom W.heap.size J) (hBs : Blk W Bs 256 #[.slice (some ⟨g, 0, none⟩) qs.length cap]) (hg : PcAt W g (qs.map f)) (h0 : J [] W) :
  CallsIn Fence.wide n Tryz.prog 213 #[.func (.yield l) #[] #[], .pointer (some ⟨Bs, 0, none⟩)] W fun e W' => (∃ v, e = .returned v) ∧
   ((∃ ys, ys = qs ∧ J ys W') ∨ (∃ pre, (∃ j, pre = qs.take j) ∧ Jx pre W')) := by
 obtain ⟨N, hN⟩ : ∃ N, N = qs.length := ⟨_, rfl⟩
 have HN := Lib.hid hN
 have HY := Lib.hid hY
 have HJ := Lib.hid hJ
 have HBS := Lib.hid hBs
 have HG := Lib.hid hg
 have HLT : Hid (Bs < W.heap.size ∧ g < W.heap.size) := Lib.hid ⟨hBs.lt, hg.lt⟩
 have c0 := hBs.cell 0
 simp at c0
 rw [← hN] at c0 hlen
 clear hY hJ hBs hg hN
 refine callsIn_of_wp Tryz.func213 rfl trivial ?_ rfl
 simp only [Tryz.ntmps213, List.size_toArray, List.length_cons, List.length_nil, Nat.reduceAdd, Nat.reduceSub, Array.replicate_succ, Array.replicate_zero, List.push_toArray, List.append_toArray, List.nil_append, List.cons_append]
 gi_wp2
 gi_loopw [7] (fun i wr => ∃ j : Nat, j ≤ N ∧ i = .int .i64 (j : Int) ∧ J (qs.take j) wr ∧ KpB [Bs, g] W wr) (fun i _ => N - (intOf i).toNat)
 case atStart => exact ⟨0, by omega, rfl, by simpa using h0, Nat.le_refl _, fun _ _ => rfl⟩
 case round =>
  obtain ⟨j, hj, rfl, hJs, hkp⟩ := hrel
  clear c0
  have HKP := Lib.hid hkp
  by_cases hlt : j < N
  ·have hjl : j < qs.length := by have := HN.out; omega
   obtain ⟨q, hq⟩ : ∃ q, qs[j]? = some q := ⟨_, List.getElem?_eq_getElem hjl⟩
   obtain ⟨p, hpf⟩ : ∃ p, p = f q := ⟨_, rfl⟩
   have hp : (qs.map f)[j]? = some p := by rw [List.getElem?_map, hq, hpf]; rfl
   have HTK : Hid (qs.take (j + 1) = qs.take j ++ [q]) := Lib.hid (by rw [List.take_add_one, hq]; rfl)
   have hpr := (HG.out.of_block (hkp.2 g (by simp))).rng j p hp
   have cx := hpr 0 _ rfl
   have cy := hpr 1 _ rfl
   simp only [Nat.add_zero] at cx
   have HP := Lib.hid hp
   have i0 : (0 : Int) ≤ (j : Int) := by omega
   have i1 : (j : Int) < (N : Int) := by omega
   have HJS := Lib.hid hJs
   have hal : Below wr.heap.size wr (wr.alloc (.cells #[.int .i64 (p.1 : Int), .int .u64 (p.2 : Int)] 155)) := (Below.refl _ _).alloc (Nat.le_refl _) _
   have HKA : Hid (KpB [Bs, g] W (wr.alloc (.cells #[.int .i64 (p.1 : Int), .int .u64 (p.2 : Int)] 155))) := Lib.hid (KpB.trans hkp (KpB.of_below hal (by have := HLT.out; have := hkp.1; intro i hi; simp at hi; omega)))
   have hJA := HJ.out _ wr _ none hJs (below_gr hal) (fun r e => by cases e)
   obtain ⟨fn, tmps, assign, body, hy, hR⟩ := HY.out _ q _ hJA (by rw [List.length_take]; omega)
   rw [← HTK.out] at hR
   rw [← hpf] at hy
   unfold pcV at hy
   clear hkp hpr hp hJs hjl hq hpf hal hJA HJS
   gi_wp2_with fail
   refine hR.mono ?_
   rintro e W3 (⟨rfl, hJ3, hk3⟩ | ⟨rfl, hJx3⟩)
   ·have HJ3 := Lib.hid hJ3
    have HK3 := Lib.hid (KpB.trans HKA.out hk3)
    clear hJ3 hk3 cx cy hy hR
    gi_wp2
    go_roundw
    case rel => exact ⟨j + 1, by omega, by simp, HJ3.out, HK3.out⟩
    case measure => simp [intOf]; omega
   ·have HJ3 := Lib.hid hJx3
    clear hJx3 cx cy hy hR
    gi_wp2
    refine bodyPost_ret (results_none rfl _ _ _) rfl ?_
    exact ⟨⟨_, rfl⟩, .inr ⟨_, ⟨j + 1, rfl⟩, HJ3.out⟩⟩
  ·obtain rfl : j = N := by omega
   have HJ4 : Hid (J qs wr) := Lib.hid (by rw [HN.out, List.take_length] at hJs; exact hJs)
   clear hJs hkp
   gi_wp2
   go_end0
   exact ⟨⟨_, rfl⟩, .inl ⟨_, rfl, HJ4.out⟩⟩
theorem slv_stops (n : Nat) (hn : 1 ≤ n) (Bs g cap : Nat) {α : Type} (f : α → Nat × Nat) (qs : List α) (hlen : qs.length ≤ 100000) (w : World) (hBs : Blk w Bs 256 #[.slice (some ⟨g, 0, none⟩) qs.length cap]) (hg : PcAt w g (qs.map f)) :
    SeqStopsK Fence.wide n Tryz.prog 213 #[.pointer (some ⟨Bs, 0, none⟩)] (fun x : α => #[pcV (f x)]) (KpB [Bs, g]) (fun ys => ys = qs) (fun pre => ∃ j, pre = qs.take j) qs.length w := fun l J Jx W hW hJ _ hY h0 =>
  slv1 n hn l Bs g cap f qs hlen J Jx hY W hJ (hBs.kept hW) (hg.kept hW) h0
end Go.Proofs.YtfeficdndjiijaaGreatDoor

