import Derived.Test.YtfeficdndjiijaaGreatDoorQwb
import Derived.Test.YtfeficdndjiijaaGreatDoorQwa
import Derived.Deep.RegionHeld3
import Derived.StillTailTactics
import Derived.OpenShut
import Derived.Laws.StructEq
import Derived.Shelf.Bits.Mul64
import Derived.Test.YtfeficdndjiijaaGreatDoorProg
import Derived.WalkKit
import Derived.ProofKit
import Derived.Lib.Hide
import Derived.Outline
import Derived.Below
import Derived.WalkSmall
import Derived.Deep.QuietTactic
import Derived.BigQuiet
import Derived.LoopN
import Derived.Deep.OwnRows
import Derived.OwnWalk
/-
  Contracts of the functions that TopWire reaches, and the plain laws that it leans on. Conditions: none beyond those stated at each theorem.
-/
namespace Go.Proofs.YtfeficdndjiijaaGreatDoor
open Go.RowKit
set_option linter.unusedVariables false
set_option linter.unusedSimpArgs false

theorem ArrIs.kept {w w' : World} {A G C : Nat} {b r d m s l : Int} {K : Nat} {zs : List Int} (h : ArrIs w A G C b r d m s l K zs) (hb : Below w.heap.size w w') : ArrIs w' A G C b r d m s l K zs := ⟨h.1.kept hb, h.2.kept hb⟩
theorem ArrIs.grown {w w' : World} {A G C : Nat} {b r d m s l : Int} {K : Nat} {zs : List Int} {row : Option Nat} (h : ArrIs w A G C b r d m s l K zs) (hb : w.grownBy w' row) (h0 : some A ≠ row) (h1 : some G ≠ row) (h2 : some C ≠ row) : ArrIs w' A G C b r d m s l K zs := ⟨h.1.grown hb h0, h.2.grown hb h1 h2⟩
theorem ArrIs.drewN {w : World} {A G C : Nat} {b r d m s l : Int} {K : Nat} {zs : List Int} (h : ArrIs w A G C b r d m s l K zs) (n : Nat) : ArrIs (w.drewN n) A G C b r d m s l K zs := h.kept (below_drewN (Below.refl _ _) n)
theorem ArrIs.neAC {w : World} {A G C : Nat} {b r d m s l : Int} {K : Nat} {zs : List Int} (h : ArrIs w A G C b r d m s l K zs) : A ≠ C := by
  obtain ⟨cur, hc, _⟩ := h.2.cells
  exact h.1.ne_ hc (by decide)
theorem ArrIs.put {w w' : World} {A G C : Nat} {b r d m s l : Int} {K : Nat} {zs zs' : List Int} (h : ArrIs w A G C b r d m s l K zs) (hb : w.grownBy w' (some C)) (hg : GridIs w' G C 1 K zs') : ArrIs w' A G C b r d m s l K zs' := ⟨h.1.grown hb (by simpa using h.neAC), hg⟩

instance (x : Int) : Decidable (In64 x) := by unfold In64; infer_instance
def chkI (K : Nat) (m : Int) (zs : List Int) (k : Nat) (d : Int) : Int := if K ≤ k then 2 else if m = 2 ∧ d < 0 then 3 else if In64 (cellD zs k + d) then 0 else 4
def updZ (K : Nat) (m : Int) (zs : List Int) (k : Nat) (d : Int) : List Int := if chkI K m zs k d = 0 then zs.set k (cellD zs k + d) else zs
theorem fitC {zs : List Int} (h : Fit zs) (i : Nat) : In64 (cellD zs i) := by
  unfold cellD
  cases hz : zs[i]? with
  | none => exact ⟨by simp, by simp⟩
  | some x => exact h.get hz
theorem ret_i64q {a b : Int} (h : a = b) : Ending.returned (.int .i64 a) = .returned (.int .i64 b) := by rw [h]

set_option maxHeartbeats 2000000 in
theorem excheck (w : World) (A G C : Nat) (b r d m s l : Int) (K k : Nat) (zs : List Int) (x : Int) (h : ArrIs w A G C b r d m s l K zs) (hx : In64 x) (hk64 : k < 18446744073709551616) :
  Calls Tryz.prog 276 #[.pointer (some ⟨A, 0, none⟩), .int .u64 (k : Int), .int .i64 x] w fun e w' => e = .returned (.int .i64 (chkI K m zs k x)) ∧ Below w.heap.size w w' := by
 have c3 := h.1.cell 3
 have c6 := h.1.cell 6
 simp at c3 c6
 have hw := h.2.width
 have P := Lib.hid (width_any w G C 1 K zs h.2)
 have e2 : IntKind.u64.wrap (K : Int) = (K : Int) := by rw [wrapU_mod]; omega
 by_cases hlt : k < K
 ·have P2 : Calls Tryz.prog 281 #[.pointer (some ⟨G, 0, none⟩), .int .i64 0, .int .i64 (k : Int)] w fun e w' => e = .returned (.int .i64 (cellD zs k)) ∧ w = w' := by
   have := at_in w G C 1 K 0 k zs h.2 (by decide) hlt
   simpa using this
  have P2 := Lib.hid P2
  have hz := fitC h.2.fit k
  have e1 : decide ((K : Int) ≤ (k : Int)) = false := decide_eq_false (by omega)
  have e1' : decide (K ≤ k) = false := decide_eq_false (by omega)
  have e3 : IntKind.i64.wrap (k : Int) = (k : Int) := by simp [IntKind.wrap, IntKind.bits, IntKind.signed]; split <;> omega
  obtain ⟨q, hq⟩ : ∃ q, q = chkI K m zs k x := ⟨_, rfl⟩
  rw [← hq]
  unfold chkI at hq
  rw [if_neg (by omega)] at hq
  clear h hlt hk64
  by_cases hm : m = 2 ∧ x < 0
  ·obtain ⟨rfl, hx0⟩ := hm
   have e4 : decide (x < 0) = true := decide_eq_true hx0
   have HQ : Hid (q = 3) := by show _ = _; rw [hq, if_pos ⟨rfl, hx0⟩]
   clear hq hx0
   go_enter Tryz.func276, Tryz.ntmps276
   go_wp2_with fail
   with_reducible refine P.out.mono ?_
   rintro e w2 ⟨rfl, hw2⟩
   subst hw2
   go_wp2
   go_ret
   exact ⟨ret_i64q HQ.out.symm, Below.refl _ _⟩
  ·rw [if_neg hm] at hq
   have hdec : (m ≠ 2 ∧ (m == 2) = false ∧ decide (m = 2) = false) ∨ ((m == 2) = true ∧ decide (m = 2) = true ∧ m = 2 ∧ decide (x < 0) = false) := by
    by_cases h2 : m = 2
    ·right; exact ⟨by simp [h2], by simp [h2], h2, decide_eq_false (fun hh => hm ⟨h2, hh⟩)⟩
    ·left; exact ⟨h2, by simp [h2], by simp [h2]⟩
   clear hm
   have P3 := fun w => opok_plus (cellD zs k) x w hz hx
   by_cases h64 : In64 (cellD zs k + x)
   ·have P3 := fun w => (P3 w).1 h64
    have P3 := Lib.hid P3
    have HQ : Hid (q = 0) := by show _ = _; rw [hq, if_pos h64]
    clear hq h64 hz
    generalize cellD zs k = z at *
    rcases hdec with ⟨hm2, d1, d2⟩ | ⟨d1, d2, hm2, d3⟩
    all_goals
     first | subst hm2 | skip
     go_enter Tryz.func276, Tryz.ntmps276
     go_wp2_with fail
     with_reducible refine P.out.mono ?_
     rintro e w2 ⟨rfl, hw2⟩
     subst hw2
     go_wp2_with fail
     with_reducible refine P2.out.mono ?_
     rintro e w2 ⟨rfl, hw2⟩
     subst hw2
     go_wp2_with fail
     with_reducible refine (P3.out _).mono ?_
     rintro e w3 ⟨rfl, hb⟩
     have HB := Lib.hid hb
     clear hb
     go_wp2
     go_ret
     exact ⟨ret_i64q HQ.out.symm, HB.out⟩
   ·have P3 := fun w => (P3 w).2 h64
    have P3 := Lib.hid P3
    have HQ : Hid (q = 4) := by show _ = _; rw [hq, if_neg h64]
    clear hq h64 hz
    generalize cellD zs k = z at *
    rcases hdec with ⟨hm2, d1, d2⟩ | ⟨d1, d2, hm2, d3⟩
    all_goals
     first | subst hm2 | skip
     go_enter Tryz.func276, Tryz.ntmps276
     go_wp2_with fail
     with_reducible refine P.out.mono ?_
     rintro e w2 ⟨rfl, hw2⟩
     subst hw2
     go_wp2_with fail
     with_reducible refine P2.out.mono ?_
     rintro e w2 ⟨rfl, hw2⟩
     subst hw2
     go_wp2_with fail
     with_reducible refine (P3.out _).mono ?_
     rintro e w3 ⟨rfl, hb⟩
     have HB := Lib.hid hb
     clear hb
     go_wp2
     go_ret
     exact ⟨ret_i64q HQ.out.symm, HB.out⟩
 ·have HQ : Hid (chkI K m zs k x = 2) := by show _ = _; unfold chkI; rw [if_pos (by omega)]
  have e1 : decide ((K : Int) ≤ (k : Int)) = true := decide_eq_true (by omega)
  have e1' : decide (K ≤ k) = true := decide_eq_true (by omega)
  clear h hlt
  go_enter Tryz.func276, Tryz.ntmps276
  go_wp2_with fail
  with_reducible refine P.out.mono ?_
  rintro e w2 ⟨rfl, hw2⟩
  subst hw2
  go_wp2
  go_ret
  exact ⟨ret_i64q HQ.out.symm, Below.refl _ _⟩

theorem exconfig (w : World) (A G C : Nat) (b r d m s l : Int) (K : Nat) (zs : List Int) (h : ArrIs w A G C b r d m s l K zs) :
  Calls Tryz.prog 186 #[.pointer (some ⟨A, 0, none⟩)] w fun e w' => e = .returned (.agg #[.int .i64 b, .int .i64 r, .int .i64 d, .int .i64 m, .int .u64 s]) ∧ Below w.heap.size w w' := by
 obtain ⟨g1, hb1, hsz1⟩ := news1 w (.cells #[.int .i64 0, .int .i64 0, .int .i64 0, .int .i64 0, .int .u64 0] 24)
 have hx1 : Blk _ w.heap.size 24 #[.int .i64 0, .int .i64 0, .int .i64 0, .int .i64 0, .int .u64 0] := g1
 have hA := h.1.kept hb1
 have c0 := hA.cell 0
 have c1 := hA.cell 1
 have c2 := hA.cell 2
 have c3 := hA.cell 3
 have c4 := hA.cell 4
 simp at c0 c1 c2 c3 c4
 have HX1 := Lib.hid hx1
 have HB1 := Lib.hid hb1
 have n0 := hx1.cell 0
 have n1 := hx1.cell 1
 have n2 := hx1.cell 2
 have n3 := hx1.cell 3
 have n4 := hx1.cell 4
 simp at n0 n1 n2 n3 n4
 have f0 := hx1.frozen 0
 have f1 := hx1.frozen 1
 have f2 := hx1.frozen 2
 have f3 := hx1.frozen 3
 have f4 := hx1.frozen 4
 clear hA hx1 hb1 g1 hsz1 h
 go_enter Tryz.func186, Tryz.ntmps186
 go_wp2_with fail
 refine bodyPost_ret (v := .agg #[.int .i64 b, .int .i64 r, .int .i64 d, .int .i64 m, .int .u64 s]) (results_cell_row rfl _ _ w.heap.size 24 _ (0, 0) _ rfl (heap_alloc_new w _) Tryz.underlying24 rfl (by kernel_rfl)) rfl ⟨rfl, ?_⟩
 exact (Below.refl _ _).alloc (Nat.le_refl _) _

def UpdPost (w : World) (A G C : Nat) (b r d m s l : Int) (K : Nat) (zs : List Int) (k : Nat) (x : Int) (e : Ending) (w' : World) : Prop :=
  e = .returned (.int .i64 (chkI K m zs k x)) ∧ ArrIs w' A G C b r d m s l K (updZ K m zs k x) ∧ w.grownBy w' (some C)
theorem below_gr {w w' : World} {row : Option Nat} (h : Below w.heap.size w w') : w.grownBy w' row := ⟨h.os, h.tape, h.output, h.size, fun k hk _ => h.block k hk⟩
theorem gr_trans {w w1 w2 : World} {row : Option Nat} (h : w.grownBy w1 row) (k : w1.grownBy w2 row) : w.grownBy w2 row :=
  ⟨k.os.trans h.os, k.tape.trans h.tape, k.output.trans h.output, Nat.le_trans h.size k.size, fun j hj hne => (k.block j (Nat.lt_of_lt_of_le hj h.size) hne).trans (h.block j hj hne)⟩
theorem chkI_ok {K : Nat} {m : Int} {zs : List Int} {k : Nat} {x : Int} (h : chkI K m zs k x = 0) : k < K ∧ In64 (cellD zs k + x) := by
  unfold chkI at h
  split at h
  · omega
  split at h
  · omega
  split at h
  · exact ⟨by omega, by assumption⟩
  · omega

set_option maxRecDepth 100000 in
set_option maxHeartbeats 4000000 in
theorem exupdate (w : World) (A G C : Nat) (b r d m s l : Int) (K k : Nat) (zs : List Int) (x : Int) (h : ArrIs w A G C b r d m s l K zs) (hx : In64 x) (hk64 : k < 18446744073709551616) :
  Calls Tryz.prog 279 #[.pointer (some ⟨A, 0, none⟩), .int .u64 (k : Int), .int .i64 x] w (UpdPost w A G C b r d m s l K zs k x) := by
 have PC := excheck w A G C b r d m s l K k zs x h hx hk64
 by_cases hc : chkI K m zs k x = 0
 ·obtain ⟨hlt, h64⟩ := chkI_ok hc
  have hW := h.2.width
  have HU : Hid (UpdPost w A G C b r d m s l K zs k x = fun e w' => e = .returned (.int .i64 0) ∧ ArrIs w' A G C b r d m s l K (zs.set k (cellD zs k + x)) ∧ w.grownBy w' (some C)) := Lib.hid (by
   unfold UpdPost updZ; simp only [hc, if_pos])
  rw [HU.out]
  rw [hc] at PC
  have PC := Lib.hid PC
  have HA := Lib.hid h
  have P2 : Hid (∀ w', GridIs w' G C 1 K zs → Calls Tryz.prog 281 #[.pointer (some ⟨G, 0, none⟩), .int .i64 0, .int .i64 (k : Int)] w' fun e w'' => e = .returned (.int .i64 (cellD zs k)) ∧ w' = w'') := Lib.hid (fun w' h' => by
   have := at_in w' G C 1 K 0 k zs h' (by decide) hlt
   simpa using this)
  have P3 : Hid (∀ w', GridIs w' G C 1 K zs → Calls Tryz.prog 282 #[.pointer (some ⟨G, 0, none⟩), .int .i64 0, .int .i64 (k : Int), .int .i64 (cellD zs k + x)] w' fun e w'' => e = .returned (.bool true) ∧ w'' = w'.setCell ⟨C, k, none⟩ (.int .i64 (cellD zs k + x))) := Lib.hid (fun w' h' => by
   have := put_in w' G C 1 K 0 k (cellD zs k + x) zs h' (by decide) hlt
   simpa using this)
  have hAC : A ≠ C := h.neAC
  have e3 : IntKind.i64.wrap (k : Int) = (k : Int) := by simp [IntKind.wrap, IntKind.bits, IntKind.signed]; split <;> omega
  have H64 := Lib.hid h64
  have e5 : wrap64 (cellD zs k + x) = cellD zs k + x := by unfold wrap64; unfold In64 at h64; omega
  have e6 : IntKind.i64.wrap (cellD zs k + x) = cellD zs k + x := wrapI_of _ h64.1 h64.2
  clear h hlt h64 hk64 hc hW HU hx
  generalize hz : cellD zs k = z at *
  have HZ := Lib.hid hz
  clear hz
  go_enter Tryz.func279, Tryz.ntmps279
  go_wp2_with fail
  with_reducible refine PC.out.mono ?_
  rintro e w2 ⟨rfl, hb⟩
  have HA2 := Lib.hid (HA.out.kept hb)
  have HG2 : Hid (w.grownBy w2 (some C)) := Lib.hid (below_gr hb)
  clear hb
  go_wp2_with fail
  refine wp_region_held_drew (S := fun w' => Blk w' A 284 #[.int .i64 b, .int .i64 r, .int .i64 d, .int .i64 m, .int .u64 s, .int .i64 l, .pointer (some ⟨G, 0, none⟩)]) (by kernel_rfl) (by exact HA2.out.1.drewN 1) (fun hHeld => ?_)
  refine tkH (i := 0) (v := ?_) rfl (by kernel_rfl) (fun _ _ _ h => h) (Or.inl ⟨by rfl, ?_⟩) (by assumption) ?_
  rotate_left
  ·intro w hSw
   try dsimp only at hSw
   go_simp
   try with_reducible rfl
  simp only [Act.put, z1, z2, z3, z4, z5, z6]
  refine tkH (i := 1) (v := ?_) rfl (by kernel_rfl) (fun _ _ _ h => h) (Or.inl ⟨by rfl, ?_⟩) (by assumption) ?_
  rotate_left
  ·intro w hSw
   try dsimp only at hSw
   go_simp
   try with_reducible rfl
  simp only [Act.put, z1, z2, z3, z4, z5, z6]
  refine tkH (i := 2) (v := ?_) rfl (by kernel_rfl) (fun _ _ _ h => h) (Or.inl ⟨by rfl, ?_⟩) (by assumption) ?_
  rotate_left
  ·intro w hSw
   try dsimp only at hSw
   go_simp
   try with_reducible rfl
  simp only [Act.put, z1, z2, z3, z4, z5, z6]
  refine tkH (i := 3) (v := ?_) rfl (by kernel_rfl) (fun _ _ _ h => h) (Or.inl ⟨by rfl, ?_⟩) (by assumption) ?_
  rotate_left
  ·intro w hSw
   have q6 := hSw.cell 6
   simp at q6
   go_simp
   try with_reducible rfl
  simp only [Act.put, z1, z2, z3, z4, z5, z6]
  refine tkH (i := 4) (v := ?_) rfl (by kernel_rfl) (fun _ _ _ h => h) (Or.inl ⟨by rfl, ?_⟩) (by assumption) ?_
  rotate_left
  ·intro w hSw
   try dsimp only at hSw
   go_simp
   try with_reducible rfl
  simp only [Act.put, z1, z2, z3, z4, z5, z6]
  refine tkH (i := 5) (v := ?_) rfl (by kernel_rfl) (fun _ _ _ h => h) (Or.inl ⟨by rfl, ?_⟩) (by assumption) ?_
  rotate_left
  ·intro w hSw
   try dsimp only at hSw
   go_simp
   try with_reducible rfl
  simp only [Act.put, z1, z2, z3, z4, z5, z6]
  refine tkH (i := 6) (v := ?_) rfl (by kernel_rfl) (fun _ _ _ h => h) (Or.inl ⟨by rfl, ?_⟩) (by assumption) ?_
  rotate_left
  ·intro w hSw
   try dsimp only at hSw
   go_simp
   try with_reducible rfl
  simp only [Act.put, z1, z2, z3, z4, z5, z6]
  refine tkH (i := 7) (v := ?_) rfl (by kernel_rfl) (fun _ _ _ h => h) (Or.inl ⟨by rfl, ?_⟩) (by assumption) ?_
  rotate_left
  ·intro w hSw
   try dsimp only at hSw
   go_simp
   try with_reducible rfl
  simp only [Act.put, z1, z2, z3, z4, z5, z6]
  refine tkH (i := 8) (v := ?_) rfl (by kernel_rfl) (fun _ _ _ h => h) (Or.inl ⟨by rfl, ?_⟩) (by assumption) ?_
  rotate_left
  ·intro w hSw
   try dsimp only at hSw
   go_simp
   try with_reducible rfl
  simp only [Act.put, z1, z2, z3, z4, z5, z6]
  refine tkH (i := 9) (v := ?_) rfl (by kernel_rfl) (fun _ _ _ h => h) (Or.inl ⟨by rfl, ?_⟩) (by assumption) ?_
  rotate_left
  ·intro w hSw
   have q6 := hSw.cell 6
   simp at q6
   go_simp
   try with_reducible rfl
  simp only [Act.put, z1, z2, z3, z4, z5, z6]
  refine tkH (i := 10) (v := ?_) rfl (by kernel_rfl) (fun _ _ _ h => h) (Or.inl ⟨by rfl, ?_⟩) (by assumption) ?_
  rotate_left
  ·intro w hSw
   try dsimp only at hSw
   go_simp
   try with_reducible rfl
  simp only [Act.put, z1, z2, z3, z4, z5, z6]
  refine tkH (i := 11) (v := ?_) rfl (by kernel_rfl) (fun _ _ _ h => h) (Or.inl ⟨by rfl, ?_⟩) (by assumption) ?_
  rotate_left
  ·intro w hSw
   try dsimp only at hSw
   go_simp
   try with_reducible rfl
  simp only [Act.put, z1, z2, z3, z4, z5, z6]
  refine tkH (i := 13) (v := ?_) rfl (by kernel_rfl) (fun _ _ _ h => h) (Or.inl ⟨by rfl, ?_⟩) (by assumption) ?_
  rotate_left
  ·intro w hSw
   try dsimp only at hSw
   go_simp
   try with_reducible rfl
  simp only [Act.put, z1, z2, z3, z4, z5, z6]
  refine wpAnyH_ready (rs := [12]) (by kernel_rfl) (by simp) ?_
  refine AllReadyH.cons rfl (fun Kc hKc => ?_) AllReadyH.nil
  go_simp
  go_wp2_with (first | (go_at_call 281; refine (P2.out _ (HA2.out.2.drewN 1)).mono ?_; rintro e w' ⟨rfl, hw'⟩; subst hw') | (go_at_call 282; refine (P3.out _ (HA2.out.2.drewN 1)).mono ?_; rintro e w5 ⟨rfl, hw5⟩; have HW5 := Lib.hid hw5; clear hw5))
  refine hKc.out _ _ ?_ (fun hHeld => ?_)
  ·first | exact hHeld | (rw [HW5.out]; exact hHeld.far hAC _)
  clear hKc Kc
  refine tkH (i := 14) (v := ?_) rfl (by kernel_rfl) (fun _ _ _ h => h) (Or.inl ⟨by rfl, ?_⟩) (by assumption) ?_
  rotate_left
  ·intro w hSw
   try dsimp only at hSw
   go_simp
   try with_reducible rfl
  simp only [Act.put, z1, z2, z3, z4, z5, z6]
  refine wpAnyH_ready (rs := [15]) (by kernel_rfl) (by simp) ?_
  refine AllReadyH.cons rfl (fun Kc hKc => ?_) AllReadyH.nil
  go_simp
  go_wp2_with (first | (go_at_call 281; refine (P2.out _ (HA2.out.2.drewN 1)).mono ?_; rintro e w' ⟨rfl, hw'⟩; subst hw') | (go_at_call 282; refine (P3.out _ (HA2.out.2.drewN 1)).mono ?_; rintro e w5 ⟨rfl, hw5⟩; have HW5 := Lib.hid hw5; clear hw5))
  refine hKc.out _ _ ?_ (fun hHeld => ?_)
  ·first | exact hHeld | (rw [HW5.out]; exact hHeld.far hAC _)
  clear hKc Kc
  refine wpAnyH_done (by kernel_rfl) ?_ _
  clear hHeld
  go_wp2
  go_ret
  refine ⟨rfl, ?_, ?_⟩
  ·rw [HW5.out]
   exact (HA2.out.drewN 1).put (grown_set _ _ _ _) ((HA2.out.2.drewN 1).set k _ H64.out.1 H64.out.2)
  ·rw [HW5.out]
   exact gr_trans HG2.out (gr_trans (below_gr (below_drewN (Below.refl _ _) 1)) (grown_set _ _ _ _))
 ·have HU : Hid (UpdPost w A G C b r d m s l K zs k x = fun e w' => e = .returned (.int .i64 (chkI K m zs k x)) ∧ ArrIs w' A G C b r d m s l K zs ∧ w.grownBy w' (some C)) := Lib.hid (by
   unfold UpdPost updZ; simp only [if_neg hc])
  rw [HU.out]
  have PC := Lib.hid PC
  have HA := Lib.hid h
  generalize chkI K m zs k x = q at *
  have d1 : (q == 0) = false := by simpa using hc
  have d2 : decide (q = 0) = false := by simpa using hc
  clear h hk64 HU hx
  go_enter Tryz.func279, Tryz.ntmps279
  go_wp2_with fail
  with_reducible refine PC.out.mono ?_
  rintro e w2 ⟨rfl, hb⟩
  have HA2 := Lib.hid (HA.out.kept hb)
  have HG2 : Hid (w.grownBy w2 (some C)) := Lib.hid (below_gr hb)
  clear hb
  go_wp2
  go_ret
  exact ⟨rfl, HA2.out, HG2.out⟩
end Go.Proofs.YtfeficdndjiijaaGreatDoor


namespace Go.Proofs.YtfeficdndjiijaaGreatDoor
open Go.RowKit Go.ChangeShapes Go.WideShapes Go.ChangeAt
set_option linter.unusedVariables false
set_option linter.unusedSimpArgs false
section
variable {P : Program}
end

end Go.Proofs.YtfeficdndjiijaaGreatDoor


namespace Go.Proofs.YtfeficdndjiijaaGreatDoor
open Go.RowKit
set_option linter.unusedVariables false
set_option linter.unusedSimpArgs false

def cfgEq (b r d m s b' r' d' m' s' : Int) : Bool := decide (b = b' ∧ r = r' ∧ d = d' ∧ m = m' ∧ s = s')
theorem eqCfg (b r d m s b' r' d' m' s' : Int) (w : World) : (Op.equalIn 10000 24 (.agg #[.int .i64 b, .int .i64 r, .int .i64 d, .int .i64 m, .int .u64 s]) (.agg #[.int .i64 b', .int .i64 r', .int .i64 d', .int .i64 m', .int .u64 s'])).run Tryz.prog w = .ok (cfgEq b r d m s b' r' d' m' s') w := by
  have u3 := Tryz.underlying3
  have u4 := Tryz.underlying22
  have a3 : ∀ w, (isAgg 3).run Tryz.prog w = .ok false w := fun w => by unfold isAgg; rw [Sem.run_bind, run_underlying Tryz.underlying3 w]; rfl
  have a4 : ∀ w, (isAgg 22).run Tryz.prog w = .ok false w := fun w => by unfold isAgg; rw [Sem.run_bind, run_underlying Tryz.underlying22 w]; rfl
  have hS : Tryz.prog.underlying 24 = some (.struct (Tryz.prog.fieldsOf 24)) := by kernel_rfl
  have hp : Tryz.prog.stoodInHeld 24 = false := by kernel_rfl
  rw [show (10000 : Nat) = 9999 + 1 from rfl, run_equalIn_agg w 9999 24 _ _ hS hp]
  simp only [Program.fieldsOf, Tryz.underlying24]
  go_simp
  unfold cfgEq
  by_cases h1 : b = b' <;> by_cases h2 : r = r' <;> by_cases h3 : d = d' <;> by_cases h4 : m = m' <;> by_cases h5 : s = s' <;> simp [h1, h2, h3, h4, h5]
end Go.Proofs.YtfeficdndjiijaaGreatDoor


namespace Go.Proofs.YtfeficdndjiijaaGreatDoor
open Go.RowKit
set_option linter.unusedVariables false
set_option linter.unusedSimpArgs false

theorem width_kp (w : World) (G C R W : Nat) (zs : List Int) (h : GridIs w G C R W zs) :
    Calls Tryz.prog 280 #[.pointer (some ⟨G, 0, none⟩)] w fun e w' => e = .returned (.int .i64 (W : Int)) ∧ w = w' := (width_any w G C R W zs h).mono fun _ _ h => ⟨h.1, h.2.symm⟩
theorem take_drop_set {cs zs : List Int} {j : Nat} {u : Int} (hc : cs[j]? = some u) (hl : cs.length = zs.length) : (cs.take j ++ zs.drop j).set j u = cs.take (j + 1) ++ zs.drop (j + 1) := by
  have hj : j < cs.length := (List.getElem?_eq_some_iff.1 hc).1
  have hu : u = cs[j] := by
    have := (List.getElem?_eq_some_iff.1 hc).2
    exact this.symm
  apply List.ext_getElem?
  intro i
  rw [List.getElem?_set]
  simp only [List.length_append, List.length_take, List.length_drop]
  by_cases e : j = i
  · subst e
    rw [if_pos rfl, if_pos (by omega), List.getElem?_append_left (by simp; omega), List.getElem?_take, if_pos (by omega), hc]
  · rw [if_neg e]
    by_cases h : i < j
    · rw [List.getElem?_append_left (by simp; omega), List.getElem?_append_left (by simp; omega), List.getElem?_take, List.getElem?_take, if_pos h, if_pos (by omega)]
    · rw [List.getElem?_append_right (by simp; omega), List.getElem?_append_right (by simp; omega), List.getElem?_drop, List.getElem?_drop]
      simp only [List.length_take]
      congr 1
      omega

set_option maxRecDepth 100000 in
set_option maxHeartbeats 4000000 in
theorem exload_yes (w : World) (A G C : Nat) (b r d m s l : Int) (K : Nat) (zs cs : List Int) (v : Value) (h : ArrIs w A G C b r d m s l K zs) (hv : IntsAt w v cs) (hl : cs.length = K) (hfit : Fit cs) (hvc : v.ownBlock ≠ some C) :
  Calls Tryz.prog 277 #[.pointer (some ⟨A, 0, none⟩), v] w fun e w' => e = .returned (.bool true) ∧ ArrIs w' A G C b r d m s l K cs ∧ w.grownBy w' (some C) := by
 have hW := h.2.width
 have P := Lib.hid (width_kp w G C 1 K zs h.2)
 have c6 := h.1.cell 6
 simp at c6
 have hzl : zs.length = K := by have := h.2.len; omega
 have HA := Lib.hid h
 obtain ⟨ao, cap, rfl, hcap, hcells⟩ := hv
 have HC := Lib.hid hcells
 have HF := Lib.hid hfit
 have HVC := Lib.hid hvc
 have HLL := Lib.hid (show cs.length = zs.length by omega)
 have HL := Lib.hid hl
 rw [hl] at hcap ⊢
 clear hcells hfit h hzl hvc hl
 go_enter Tryz.func277, Tryz.ntmps277
 go_wp2_with fail
 with_reducible refine P.out.mono ?_
 rintro e w2 ⟨rfl, hw2⟩
 subst hw2
 go_wp2_with fail
 go_loopw [17] (fun i wr => ∃ j : Nat, j ≤ K ∧ i = .int .i64 (j : Int) ∧ ArrIs wr A G C b r d m s l K (cs.take j ++ zs.drop j) ∧ w.grownBy wr (some C)) (fun i _ => K - (intOf i).toNat)
 case atStart => exact ⟨0, by omega, rfl, by simpa using HA.out, below_gr (Below.refl _ _)⟩
 case round =>
  obtain ⟨j, hj, rfl, ha, hgr⟩ := hrel
  have HA2 := Lib.hid ha
  have HG := Lib.hid hgr
  have q6 := ha.1.cell 6
  simp at q6
  clear c6
  by_cases hlt : j < K
  ·obtain ⟨g, rfl, hg, hc⟩ := HC.out (by have := HL.out; omega)
   have hgC : g ≠ C := fun e => HVC.out (by simp [Value.ownBlock, e])
   have hcj : cs[j]? = some (cellD cs j) := by
    have : j < cs.length := by have := HL.out; omega
    simp [cellD, this]
   have cx := hgr.cell (hc j _ hcj) (by simpa using hgC)
   have P3 : Calls Tryz.prog 282 #[.pointer (some ⟨G, 0, none⟩), .int .i64 0, .int .i64 (j : Int), .int .i64 (cellD cs j)] wr fun e w'' => e = .returned (.bool true) ∧ w'' = wr.setCell ⟨C, j, none⟩ (.int .i64 (cellD cs j)) := by
    have := put_in wr G C 1 K 0 j (cellD cs j) _ ha.2 (by decide) hlt
    simpa using this
   have P3 := Lib.hid P3
   have HS := Lib.hid (take_drop_set (zs := zs) hcj HLL.out)
   have HX := Lib.hid (fitC HF.out j)
   have i0 : (0 : Int) ≤ (j : Int) := by omega
   have i1 : (j : Int) < (K : Int) := by omega
   clear ha hgr hc hcj
   generalize cellD cs j = x at *
   go_wp2_with fail
   with_reducible refine P3.out.mono ?_
   rintro e w3 ⟨rfl, hw3⟩
   have HW3 := Lib.hid hw3
   clear hw3
   go_wp2
   go_roundw
   case rel => exact ⟨j + 1, by omega, by go_num, by rw [← HS.out, HW3.out]; exact HA2.out.put (grown_set _ _ _ _) (HA2.out.2.set j x HX.out.1 HX.out.2), by rw [HW3.out]; exact gr_trans HG.out (grown_set _ _ _ _)⟩
   case measure => simp [intOf]; omega
  ·obtain rfl : j = K := by omega
   have HE : Hid (cs.take j ++ zs.drop j = cs) := Lib.hid (by rw [List.take_of_length_le (by have := HL.out; omega), List.drop_eq_nil_of_le (by have := HL.out; have := HLL.out; omega)]; simp)
   clear ha hgr
   go_wp2
   go_ret
   exact ⟨rfl, by have := HA2.out; rw [HE.out] at this; exact this, HG.out⟩

def ExCopyPost (w : World) (b r d m s l : Int) (K : Nat) (zs : List Int) (e : Ending) (w' : World) : Prop :=
  ∃ A G C, e = .returned (.pointer (some ⟨A, 0, none⟩)) ∧ w.heap.size ≤ A ∧ w.heap.size ≤ G ∧ w.heap.size ≤ C ∧ ArrIs w' A G C b r d m s l K zs ∧ Below w.heap.size w w'
set_option maxRecDepth 100000 in
set_option maxHeartbeats 4000000 in
theorem excopy (w : World) (A G C : Nat) (b r d m s l : Int) (K : Nat) (zs : List Int) (h : ArrIs w A G C b r d m s l K zs) :
  Calls Tryz.prog 209 #[.pointer (some ⟨A, 0, none⟩)] w (ExCopyPost w b r d m s l K zs) := by
 have P := Lib.hid (copy_any (w.drewN 1) G C 1 K zs (h.2.drewN 1))
 have HA := Lib.hid h
 clear h
 go_enter Tryz.func209, Tryz.ntmps209
 go_wp2_with fail
 refine wp_region_held_drew (S := fun w' => Blk w' A 284 #[.int .i64 b, .int .i64 r, .int .i64 d, .int .i64 m, .int .u64 s, .int .i64 l, .pointer (some ⟨G, 0, none⟩)]) (by kernel_rfl) (by exact HA.out.1.drewN 1) (fun hHeld => ?_)
 refine tkH (i := 0) (v := ?_) rfl (by kernel_rfl) (fun _ _ _ h => h) (Or.inl ⟨by rfl, ?_⟩) (by assumption) ?_
 rotate_left
 ·intro w hSw
  try dsimp only at hSw
  go_simp
  try with_reducible rfl
 simp only [Act.put, z1, z2, z3, z4, z5, z6]
 refine tkH (i := 1) (v := ?_) rfl (by kernel_rfl) (fun _ _ _ h => h) (Or.inl ⟨by rfl, ?_⟩) (by assumption) ?_
 rotate_left
 ·intro w hSw
  try dsimp only at hSw
  go_simp
  try with_reducible rfl
 simp only [Act.put, z1, z2, z3, z4, z5, z6]
 refine tkH (i := 2) (v := ?_) rfl (by kernel_rfl) (fun _ _ _ h => h) (Or.inl ⟨by rfl, ?_⟩) (by assumption) ?_
 rotate_left
 ·intro w hSw
  try dsimp only at hSw
  go_simp
  try with_reducible rfl
 simp only [Act.put, z1, z2, z3, z4, z5, z6]
 refine tkH (i := 3) (v := ?_) rfl (by kernel_rfl) (fun _ _ _ h => h) (Or.inl ⟨by rfl, ?_⟩) (by assumption) ?_
 rotate_left
 ·intro w hSw
  have q0 := hSw.cell 0
  have q1 := hSw.cell 1
  have q2 := hSw.cell 2
  have q3 := hSw.cell 3
  have q4 := hSw.cell 4
  have q5 := hSw.cell 5
  have q6 := hSw.cell 6
  simp at q0 q1 q2 q3 q4 q5 q6
  go_simp
  try with_reducible rfl
 simp only [Act.put, z1, z2, z3, z4, z5, z6]
 refine tkH (i := 4) (v := ?_) rfl (by kernel_rfl) (fun _ _ _ h => h) (Or.inl ⟨by rfl, ?_⟩) (by assumption) ?_
 rotate_left
 ·intro w hSw
  try dsimp only at hSw
  go_simp
  try with_reducible rfl
 simp only [Act.put, z1, z2, z3, z4, z5, z6]
 refine tkH (i := 5) (v := ?_) rfl (by kernel_rfl) (fun _ _ _ h => h) (Or.inl ⟨by rfl, ?_⟩) (by assumption) ?_
 rotate_left
 ·intro w hSw
  try dsimp only at hSw
  go_simp
  try with_reducible rfl
 simp only [Act.put, z1, z2, z3, z4, z5, z6]
 refine tkH (i := 6) (v := ?_) rfl (by kernel_rfl) (fun _ _ _ h => h) (Or.inl ⟨by rfl, ?_⟩) (by assumption) ?_
 rotate_left
 ·intro w hSw
  try dsimp only at hSw
  go_simp
  try with_reducible rfl
 simp only [Act.put, z1, z2, z3, z4, z5, z6]
 refine tkH (i := 7) (v := ?_) rfl (by kernel_rfl) (fun _ _ _ h => h) (Or.inl ⟨by rfl, ?_⟩) (by assumption) ?_
 rotate_left
 ·intro w hSw
  have q0 := hSw.cell 0
  have q1 := hSw.cell 1
  have q2 := hSw.cell 2
  have q3 := hSw.cell 3
  have q4 := hSw.cell 4
  have q5 := hSw.cell 5
  have q6 := hSw.cell 6
  simp at q0 q1 q2 q3 q4 q5 q6
  go_simp
  try with_reducible rfl
 simp only [Act.put, z1, z2, z3, z4, z5, z6]
 refine tkH (i := 8) (v := ?_) rfl (by kernel_rfl) (fun _ _ _ h => h) (Or.inl ⟨by rfl, ?_⟩) (by assumption) ?_
 rotate_left
 ·intro w hSw
  try dsimp only at hSw
  go_simp
  try with_reducible rfl
 simp only [Act.put, z1, z2, z3, z4, z5, z6]
 refine tkH (i := 9) (v := ?_) rfl (by kernel_rfl) (fun _ _ _ h => h) (Or.inl ⟨by rfl, ?_⟩) (by assumption) ?_
 rotate_left
 ·intro w hSw
  try dsimp only at hSw
  go_simp
  try with_reducible rfl
 simp only [Act.put, z1, z2, z3, z4, z5, z6]
 refine tkH (i := 10) (v := ?_) rfl (by kernel_rfl) (fun _ _ _ h => h) (Or.inl ⟨by rfl, ?_⟩) (by assumption) ?_
 rotate_left
 ·intro w hSw
  try dsimp only at hSw
  go_simp
  try with_reducible rfl
 simp only [Act.put, z1, z2, z3, z4, z5, z6]
 refine tkH (i := 11) (v := ?_) rfl (by kernel_rfl) (fun _ _ _ h => h) (Or.inl ⟨by rfl, ?_⟩) (by assumption) ?_
 rotate_left
 ·intro w hSw
  have q0 := hSw.cell 0
  have q1 := hSw.cell 1
  have q2 := hSw.cell 2
  have q3 := hSw.cell 3
  have q4 := hSw.cell 4
  have q5 := hSw.cell 5
  have q6 := hSw.cell 6
  simp at q0 q1 q2 q3 q4 q5 q6
  go_simp
  try with_reducible rfl
 simp only [Act.put, z1, z2, z3, z4, z5, z6]
 refine wpAnyH_ready (rs := [12]) (by kernel_rfl) (by simp) ?_
 refine AllReadyH.cons rfl (fun Kc hKc => ?_) AllReadyH.nil
 go_simp
 go_wp2_with ((go_at_call 235; refine P.out.mono ?_; rintro e w4 ⟨G', C', rfl, hG, hC, hg, hb'⟩; have HG4 := Lib.hid hg; have HB4 := Lib.hid hb'; have hGC : Hid (w.heap.size ≤ G' ∧ w.heap.size ≤ C') := ⟨hG, hC⟩; clear hg))
 refine hKc.out _ _ ?_ (fun hHeld => ?_)
 ·first | exact hHeld | exact hHeld.kept hb' | exact hHeld.alloc _
 clear hKc Kc
 refine tkH (i := 13) (v := ?_) rfl (by kernel_rfl) (fun _ _ _ h => h) (Or.inl ⟨by rfl, ?_⟩) (by assumption) ?_
 rotate_left
 ·intro w hSw
  try dsimp only at hSw
  go_simp
  try with_reducible rfl
 simp only [Act.put, z1, z2, z3, z4, z5, z6]
 refine wpAnyH_ready (rs := [14]) (by kernel_rfl) (by simp) ?_
 refine AllReadyH.cons rfl (fun Kc hKc => ?_) AllReadyH.nil
 go_simp
 refine hKc.out _ _ ?_ (fun hHeld => ?_)
 ·first | exact hHeld | exact hHeld.kept hb' | exact hHeld.alloc _
 clear hKc Kc
 refine tkH (i := 15) (v := ?_) rfl (by kernel_rfl) (fun _ _ _ h => h) (Or.inl ⟨by rfl, ?_⟩) (by assumption) ?_
 rotate_left
 ·intro w hSw
  try dsimp only at hSw
  go_simp
  try with_reducible rfl
 simp only [Act.put, z1, z2, z3, z4, z5, z6]
 refine wpAnyH_done (by kernel_rfl) ?_ _
 have HNEW := Lib.hid (Blk.new w4 284 #[.int .i64 b, .int .i64 r, .int .i64 d, .int .i64 m, .int .u64 s, .int .i64 l, .pointer (some ⟨G', 0, none⟩)])
 have HAL : Hid (Below w4.heap.size w4 (w4.alloc (.cells #[.int .i64 b, .int .i64 r, .int .i64 d, .int .i64 m, .int .u64 s, .int .i64 l, .pointer (some ⟨G', 0, none⟩)] 284))) := Lib.hid ((Below.refl _ _).alloc (Nat.le_refl _) _)
 have HG5 := Lib.hid (HG4.out.kept HAL.out)
 have HB5 : Hid (Below w.heap.size w _) := Lib.hid (((below_drewN (Below.refl w.heap.size w) 1).trans HB4.out).trans (HAL.out.mono HB4.out.size))
 clear hHeld
 go_wp2_with fail
 go_ret
 exact ⟨w4.heap.size, G', C', rfl, HB4.out.size, hGC.out.1, hGC.out.2, ⟨HNEW.out, HG5.out⟩, HB5.out⟩

end Go.Proofs.YtfeficdndjiijaaGreatDoor


namespace Go.Proofs.YtfeficdndjiijaaGreatDoor
open Go.RowKit
set_option linter.unusedVariables false
set_option linter.unusedSimpArgs false

structure SkIs (w : World) (A G C : Nat) (b r d m s l : Int) (zs : List Int) : Prop where
  box : Blk w A 288 #[.pointer (some ⟨G, 0, none⟩), .int .i64 b, .int .i64 r, .int .i64 d, .int .i64 m, .int .u64 s, .int .i64 l]
  grid : GridIs w G C r.toNat d.toNat zs
theorem SkIs.kept {w w' : World} {A G C : Nat} {b r d m s l : Int} {zs : List Int} (h : SkIs w A G C b r d m s l zs) (hb : Below w.heap.size w w') : SkIs w' A G C b r d m s l zs := ⟨h.box.kept hb, h.grid.kept hb⟩
theorem SkIs.grown {w w' : World} {A G C : Nat} {b r d m s l : Int} {zs : List Int} {row : Option Nat} (h : SkIs w A G C b r d m s l zs) (hb : w.grownBy w' row) (h1 : some A ≠ row) (h2 : some G ≠ row) (h3 : some C ≠ row) : SkIs w' A G C b r d m s l zs := ⟨h.box.grown hb h1, h.grid.grown hb h2 h3⟩
theorem SkIs.neA {w : World} {A G C : Nat} {b r d m s l : Int} {zs : List Int} (h : SkIs w A G C b r d m s l zs) : A ≠ C := by
  obtain ⟨cur, hc, -⟩ := h.grid.cells
  exact h.box.ne_ hc (by decide)
def SkNewPost (w : World) (b r d m s l : Int) (e : Ending) (w' : World) : Prop :=
  ∃ A G C, e = .returned (.tuple #[.pointer (some ⟨A, 0, none⟩), .int .i64 0]) ∧ w.heap.size ≤ A ∧ w.heap.size ≤ G ∧ w.heap.size ≤ C ∧ SkIs w' A G C b r d m s l (List.replicate (r.toNat * d.toNat) 0) ∧ Below w.heap.size w w'
theorem clampN_of {n : Int} {top : Nat} (h : n ≤ (top : Int)) : clampN n top = n.toNat := by unfold clampN; omega
set_option maxRecDepth 100000 in
set_option maxHeartbeats 4000000 in
theorem sknew_yes (b r d m s l : Int) (hr : rightB b r d m = true) (h0 : 0 ≤ l) (h1 : l ≤ b) (w : World) :
  Calls Tryz.prog 115 #[.agg #[.int .i64 b, .int .i64 r, .int .i64 d, .int .i64 m, .int .u64 s], .int .i64 l] w (SkNewPost w b r d m s l) := by
 have hR := right_of hr
 have hk : 0 < keysI b r d m l := by
  rw [keysI_yes hr h0 h1]
  have := pow_le (b - l).toNat (by omega)
  omega
 have PK := Lib.hid (fun w => keys_any b r d m s l w)
 have PN := Lib.hid (fun w => new_any r d w)
 rw [clampN_of (by omega), clampN_of (by omega)] at PN
 have e1 : (keysI b r d m l == 0) = false := by simp; omega
 generalize keysI b r d m l = kk at *
 clear hk hr hR h0 h1
 obtain ⟨g1, hb1, hsz1⟩ := news1 w (.cells #[.int .i64 b, .int .i64 r, .int .i64 d, .int .i64 m, .int .u64 s] 24)
 have hx1 : Blk _ w.heap.size 24 #[.int .i64 b, .int .i64 r, .int .i64 d, .int .i64 m, .int .u64 s] := g1
 have HB1 := Lib.hid hb1
 have HX1 := Lib.hid hx1
 clear g1 hb1 hsz1
 go_enter Tryz.func115, Tryz.ntmps115
 go_wp2_with (refine wpList_load_row rfl 24 _ rfl w.heap.size rfl 24 _ (0, 0) _ hx1 Tryz.underlying24 rfl (by kernel_rfl) ?_)
 with_reducible refine (PK.out _).mono ?_
 rintro e w2 ⟨rfl, hb⟩
 have HB2 := Lib.hid (btr HB1.out hb)
 have HX2 := Lib.hid (HX1.out.kept hb)
 clear hb hx1
 go_wp2_with fail
 refine wp_region_held_drew (S := fun w' => Blk w' w.heap.size 24 #[.int .i64 b, .int .i64 r, .int .i64 d, .int .i64 m, .int .u64 s] ∧ w.heap.size ≤ w'.heap.size) (by kernel_rfl) (by exact ⟨HX2.out.drewN 1, HB2.out.size⟩) (fun hHeld => ?_)
 refine tkH (i := 0) (v := ?_) rfl (by kernel_rfl) (fun _ _ _ h => h) (Or.inl ⟨by rfl, ?_⟩) (by assumption) ?_
 rotate_left
 ·intro w hSw
  try dsimp only at hSw
  go_simp
  try with_reducible rfl
 simp only [Act.put, z1, z2, z3, z4, z5, z6]
 refine tkH (i := 1) (v := ?_) rfl (by kernel_rfl) (fun _ _ _ h => h) (Or.inl ⟨by rfl, ?_⟩) (by assumption) ?_
 rotate_left
 ·intro w hSw
  have q0 := hSw.1.cell 0
  have q1 := hSw.1.cell 1
  have q2 := hSw.1.cell 2
  simp at q0 q1 q2
  try refine (exec_load_row 24 _ rfl _ rfl 24 _ (0, 0) _ hSw.1 Tryz.underlying24 rfl (by kernel_rfl)).trans ?_
  go_simp
  try with_reducible rfl
 simp only [Act.put, z1, z2, z3, z4, z5, z6]
 refine tkH (i := 2) (v := ?_) rfl (by kernel_rfl) (fun _ _ _ h => h) (Or.inl ⟨by rfl, ?_⟩) (by assumption) ?_
 rotate_left
 ·intro w hSw
  try dsimp only at hSw
  go_simp
  try with_reducible rfl
 simp only [Act.put, z1, z2, z3, z4, z5, z6]
 refine tkH (i := 3) (v := ?_) rfl (by kernel_rfl) (fun _ _ _ h => h) (Or.inl ⟨by rfl, ?_⟩) (by assumption) ?_
 rotate_left
 ·intro w hSw
  have q0 := hSw.1.cell 0
  have q1 := hSw.1.cell 1
  have q2 := hSw.1.cell 2
  simp at q0 q1 q2
  try refine (exec_load_row 24 _ rfl _ rfl 24 _ (0, 0) _ hSw.1 Tryz.underlying24 rfl (by kernel_rfl)).trans ?_
  go_simp
  try with_reducible rfl
 simp only [Act.put, z1, z2, z3, z4, z5, z6]
 refine tkH (i := 6) (v := ?_) rfl (by kernel_rfl) (fun _ _ _ h => h) (Or.inl ⟨by rfl, ?_⟩) (by assumption) ?_
 rotate_left
 ·intro w hSw
  have q0 := hSw.1.cell 0
  have q1 := hSw.1.cell 1
  have q2 := hSw.1.cell 2
  simp at q0 q1 q2
  try refine (exec_load_row 24 _ rfl _ rfl 24 _ (0, 0) _ hSw.1 Tryz.underlying24 rfl (by kernel_rfl)).trans ?_
  go_simp
  try with_reducible rfl
 simp only [Act.put, z1, z2, z3, z4, z5, z6]
 refine tkH (i := 7) (v := ?_) rfl (by kernel_rfl) (fun _ _ _ h => h) (Or.inl ⟨by rfl, ?_⟩) (by assumption) ?_
 rotate_left
 ·intro w hSw
  try dsimp only at hSw
  go_simp
  try with_reducible rfl
 simp only [Act.put, z1, z2, z3, z4, z5, z6]
 refine wpAnyH_ready (rs := [4]) (by kernel_rfl) (by simp) ?_
 refine AllReadyH.cons rfl (fun Kc hKc => ?_) AllReadyH.nil
 go_simp
 go_wp2_with (go_at_call 159; refine (PN.out _).mono ?_; rintro e w4 ⟨G, C, rfl, hG, hC, hg, hb'⟩; have HG4 := Lib.hid hg; have HB4 := Lib.hid (btr (below_drewN HB2.out 1) hb'); have hGC : Hid (w.heap.size ≤ G ∧ w.heap.size ≤ C) := ⟨Nat.le_trans hHeld.2 hG, Nat.le_trans hHeld.2 hC⟩; clear hg)
 refine hKc.out _ _ ?_ (fun hHeld => ?_)
 ·first | assumption | exact ⟨hHeld.1.kept hb', Nat.le_trans hHeld.2 hb'.size⟩ | exact ⟨hHeld.1.alloc _, by have := hHeld.2; simp; omega⟩
 clear hKc Kc
 refine tkH (i := 5) (v := ?_) rfl (by kernel_rfl) (fun _ _ _ h => h) (Or.inl ⟨by rfl, ?_⟩) (by assumption) ?_
 rotate_left
 ·intro w hSw
  try dsimp only at hSw
  go_simp
  try with_reducible rfl
 simp only [Act.put, z1, z2, z3, z4, z5, z6]
 refine tkH (i := 8) (v := ?_) rfl (by kernel_rfl) (fun _ _ _ h => h) (Or.inl ⟨by rfl, ?_⟩) (by assumption) ?_
 rotate_left
 ·intro w hSw
  try dsimp only at hSw
  go_simp
  try with_reducible rfl
 simp only [Act.put, z1, z2, z3, z4, z5, z6]
 refine wpAnyH_ready (rs := [9]) (by kernel_rfl) (by simp) ?_
 refine AllReadyH.cons rfl (fun Kc hKc => ?_) AllReadyH.nil
 go_simp
 refine hKc.out _ _ ?_ (fun hHeld => ?_)
 ·first | assumption | exact ⟨hHeld.1.kept hb', Nat.le_trans hHeld.2 hb'.size⟩ | exact ⟨hHeld.1.alloc _, by have := hHeld.2; simp; omega⟩
 clear hKc Kc
 refine tkH (i := 10) (v := ?_) rfl (by kernel_rfl) (fun _ _ _ h => h) (Or.inl ⟨by rfl, ?_⟩) (by assumption) ?_
 rotate_left
 ·intro w hSw
  try dsimp only at hSw
  go_simp
  try with_reducible rfl
 simp only [Act.put, z1, z2, z3, z4, z5, z6]
 refine tkH (i := 11) (v := ?_) rfl (by kernel_rfl) (fun _ _ _ h => h) (Or.inl ⟨by rfl, ?_⟩) (by assumption) ?_
 rotate_left
 ·intro w hSw
  try dsimp only at hSw
  go_simp
  try with_reducible rfl
 simp only [Act.put, z1, z2, z3, z4, z5, z6]
 refine wpAnyH_done (by kernel_rfl) ?_ _
 have HNEW := Lib.hid (Blk.new w4 288 #[.pointer (some ⟨G, 0, none⟩), .int .i64 b, .int .i64 r, .int .i64 d, .int .i64 m, .int .u64 s, .int .i64 l])
 have HAL : Hid (Below w4.heap.size w4 (w4.alloc (.cells #[.pointer (some ⟨G, 0, none⟩), .int .i64 b, .int .i64 r, .int .i64 d, .int .i64 m, .int .u64 s, .int .i64 l] 288))) := Lib.hid ((Below.refl _ _).alloc (Nat.le_refl _) _)
 have HG5 := Lib.hid (HG4.out.kept HAL.out)
 have HB5 := Lib.hid (btr HB4.out HAL.out)
 clear hHeld
 go_wp2_with fail
 go_ret2
 exact ⟨w4.heap.size, G, C, rfl, HB4.out.size, hGC.out.1, hGC.out.2, ⟨HNEW.out, HG5.out⟩, HB5.out⟩
theorem skcells (w : World) (A G C : Nat) (b r d m s l : Int) (zs : List Int) (h : SkIs w A G C b r d m s l zs) :
    Calls Tryz.prog 220 #[.pointer (some ⟨A, 0, none⟩)] w (CellsPost w zs) := by
  have c0 := h.box.cell 0
  simp at c0
  have P := Lib.hid (cells_any w G C _ _ zs h.grid)
  clear h
  go_enter Tryz.func220, Tryz.ntmps220
  go_wp2_with fail
  with_reducible refine P.out.mono ?_
  rintro e w2 ⟨v, rfl, hrest⟩
  have HR := Lib.hid hrest
  clear hrest
  go_wp2
  go_ret
  exact ⟨v, rfl, HR.out⟩
set_option maxRecDepth 100000 in
set_option maxHeartbeats 4000000 in
theorem skload_yes (w : World) (A G C : Nat) (b : Int) (R W : Nat) (m s l : Int) (zs cs : List Int) (v : Value) (h : SkIs w A G C b R W m s l zs) (hW : 0 < W) (hv : IntsAt w v cs) (hl : cs.length = R * W) (hfit : Fit cs) (hvc : v.ownBlock ≠ some C) :
  Calls Tryz.prog 285 #[.pointer (some ⟨A, 0, none⟩), v] w fun e w' => e = .returned (.bool true) ∧ SkIs w' A G C b R W m s l cs ∧ w.grownBy w' (some C) := by
 have hR8 := h.grid.rows
 have hW8 := h.grid.width
 rw [Int.toNat_natCast] at hR8 hW8
 have hzl : zs.length = R * W := by have := h.grid.len; simpa using this
 have HA := Lib.hid h
 have HNE := Lib.hid h.neA
 obtain ⟨ao, cap, rfl, hcap, hcells⟩ := hv
 have HC := Lib.hid hcells
 have HF := Lib.hid hfit
 have HVC := Lib.hid hvc
 have HLL := Lib.hid (show cs.length = zs.length by omega)
 have HL := Lib.hid hl
 rw [hl] at hcap ⊢
 obtain ⟨n, hn⟩ : ∃ n, n = R * W := ⟨_, rfl⟩
 have hm : (R : Int) * (W : Int) = (n : Int) := by simp [hn]
 have hp : n ≤ 1024 := by rw [hn]; exact Nat.mul_le_mul hR8 hW8
 have HN := Lib.hid hn
 rw [← hn] at hcap ⊢
 have e1 : ((n : Int) != (n : Int)) = false := by simp
 have c2 := h.box.cell 2
 have c3 := h.box.cell 3
 simp at c2 c3
 clear hcells hfit h hzl hvc hl hn
 go_enter Tryz.func285, Tryz.ntmps285
 go_wp2_with fail
 go_quiet (fail)
 go_wp2_with fail
 go_loopw [23] (fun i wr => ∃ j : Nat, j ≤ n ∧ i = .int .i64 (j : Int) ∧ SkIs wr A G C b R W m s l (cs.take j ++ zs.drop j) ∧ w.grownBy wr (some C)) (fun i _ => n - (intOf i).toNat)
 case atStart => exact ⟨0, by omega, rfl, by simpa using HA.out.kept (below_drewN (Below.refl _ _) nq), below_gr (below_drewN (Below.refl _ _) nq)⟩
 case round =>
  obtain ⟨j, hj, rfl, ha, hgr⟩ := hrel
  have HA2 := Lib.hid ha
  have HG := Lib.hid hgr
  clear c2 c3
  by_cases hlt : j < n
  ·obtain ⟨g, rfl, hg, hc⟩ := HC.out (by have := HL.out; have := HN.out; omega)
   have hgC : g ≠ C := fun e => HVC.out (by simp [Value.ownBlock, e])
   have hcj : cs[j]? = some (cellD cs j) := by
    have : j < cs.length := by have := HL.out; have := HN.out; omega
    simp [cellD, this]
   have cx := hgr.cell (hc j _ hcj) (by simpa using hgC)
   have hrow : j / W < R := Nat.div_lt_of_lt_mul (by have := HN.out; rw [Nat.mul_comm] at this; omega)
   have hcol : j % W < W := Nat.mod_lt _ hW
   have P3 : Hid (∀ wd, SkIs wd A G C b R W m s l (cs.take j ++ zs.drop j) → Calls Tryz.prog 282 #[.pointer (some ⟨G, 0, none⟩), .int .i64 ((j / W : Nat) : Int), .int .i64 ((j % W : Nat) : Int), .int .i64 (cellD cs j)] wd fun e w'' => e = .returned (.bool true) ∧ w'' = wd.setCell ⟨C, j, none⟩ (.int .i64 (cellD cs j))) := Lib.hid (fun wd hd => by
    have hgd := hd.grid
    rw [Int.toNat_natCast, Int.toNat_natCast] at hgd
    have := put_in wd G C R W (j / W) (j % W) (cellD cs j) _ hgd hrow hcol
    rw [show j / W * W + j % W = j by rw [Nat.mul_comm]; exact Nat.div_add_mod j W] at this
    exact this)
   have HS := Lib.hid (take_drop_set (zs := zs) hcj HLL.out)
   have HX := Lib.hid (fitC HF.out j)
   have i0 : (0 : Int) ≤ (j : Int) := by omega
   have i1 : (j : Int) < (n : Int) := by omega
   have f5 : IntKind.i64.wrap ((j : Int) / (W : Int)) = ((j / W : Nat) : Int) := by
    have h1 : (j : Int) / (W : Int) = ((j / W : Nat) : Int) := (Int.natCast_ediv ..).symm
    have h2 : j / W ≤ j := Nat.div_le_self j W
    rw [h1, wrapI_eq64]
    generalize j / W = q at *
    unfold wrap64; omega
   have f6 : IntKind.i64.wrap ((j : Int) % (W : Int)) = ((j % W : Nat) : Int) := by
    have h1 : (j : Int) % (W : Int) = ((j % W : Nat) : Int) := (Int.natCast_emod ..).symm
    have h2 : j % W ≤ j := Nat.mod_le j W
    rw [h1, wrapI_eq64]
    generalize j % W = q at *
    unfold wrap64; omega
   have f6' : (j : Int) % (W : Int) = ((j % W : Nat) : Int) := (Int.natCast_emod ..).symm
   have e8 : ¬ W = 0 := by omega
   clear ha hgr hc hcj hrow hcol
   generalize cellD cs j = x at *
   generalize j / W = jq at *
   generalize j % W = jr at *
   go_wp2_with fail
   refine wp_region_still_tail 20 (by kernel_rfl) (by kernel_rfl) ?_
   simp only [List.take_succ_cons, List.take_zero, List.drop_succ_cons, List.drop_zero]
   have HA3 : Hid (SkIs { heap := wr.heap, tape := wr.tape, drawn := wr.drawn + 1, os := wr.os, output := wr.output } A G C b R W m s l (cs.take j ++ zs.drop j)) := Lib.hid (HA2.out.kept (below_drewN (Below.refl _ _) 1))
   have HG3 : Hid (w.grownBy { heap := wr.heap, tape := wr.tape, drawn := wr.drawn + 1, os := wr.os, output := wr.output } (some C)) := Lib.hid (gr_trans HG.out (below_gr (below_drewN (Below.refl _ _) 1)))
   generalize ({ heap := wr.heap, tape := wr.tape, drawn := wr.drawn + 1, os := wr.os, output := wr.output } : World) = wd at *
   have q0 := HA3.out.box.cell 0
   have q3 := HA3.out.box.cell 3
   simp at q0 q3
   repeat still_step
   refine wpStill_nil ?_
   go_wp2_with fail
   try simp only [f6']
   with_reducible refine (P3.out _ HA3.out).mono ?_
   rintro e w3 ⟨rfl, hw3⟩
   have HW3 := Lib.hid hw3
   clear hw3 q0 q3 f5 f6 f6'
   go_wp2
   go_roundw
   case rel => exact ⟨j + 1, by omega, by go_num, by rw [← HS.out, HW3.out]; exact ⟨HA3.out.box.far (by have := HNE.out; simpa using this) _, HA3.out.grid.set j x HX.out.1 HX.out.2⟩, by rw [HW3.out]; exact gr_trans HG3.out (grown_set _ _ _ _)⟩
   case measure => simp [intOf]; omega
  ·obtain rfl : j = n := by omega
   have HE : Hid (cs.take j ++ zs.drop j = cs) := Lib.hid (by rw [List.take_of_length_le (by have := HL.out; have := HN.out; omega), List.drop_eq_nil_of_le (by have := HL.out; have := HN.out; have := HLL.out; omega)]; simp)
   clear ha hgr
   go_wp2
   go_ret
   exact ⟨rfl, by rw [← HE.out]; exact HA2.out, HG.out⟩
end Go.Proofs.YtfeficdndjiijaaGreatDoor


namespace Go.Proofs.YtfeficdndjiijaaGreatDoor
open Go.RowKit
set_option linter.unusedVariables false
set_option linter.unusedSimpArgs false

def cellsN (b r d m l : Int) : Nat := if exactB b r d m l = true then (keysI b r d m l).toNat else r.toNat * d.toNat
def LevIs (w : World) (x : Value) (A G C : Nat) (b r d m s l : Int) (zs : List Int) : Prop :=
  (exactB b r d m l = true ∧ x = .iface 232 (.pointer (some ⟨A, 0, none⟩)) ∧ ArrIs w A G C b r d m s l (keysI b r d m l).toNat zs) ∨
  (exactB b r d m l = false ∧ x = .iface 235 (.pointer (some ⟨A, 0, none⟩)) ∧ SkIs w A G C b r d m s l zs)
theorem LevIs.kept {w w' : World} {x : Value} {A G C : Nat} {b r d m s l : Int} {zs : List Int} (h : LevIs w x A G C b r d m s l zs) (hb : Below w.heap.size w w') : LevIs w' x A G C b r d m s l zs := by
  rcases h with ⟨h1, h2, h3⟩ | ⟨h1, h2, h3⟩
  · exact .inl ⟨h1, h2, h3.kept hb⟩
  · exact .inr ⟨h1, h2, h3.kept hb⟩
theorem LevIs.len {w : World} {x : Value} {A G C : Nat} {b r d m s l : Int} {zs : List Int} (h : LevIs w x A G C b r d m s l zs) : zs.length = cellsN b r d m l := by
  unfold cellsN
  rcases h with ⟨h1, h2, h3⟩ | ⟨h1, h2, h3⟩
  · rw [if_pos h1, h3.2.len, Nat.one_mul]
  · rw [h1]; simpa using h3.grid.len
theorem LevIs.fit {w : World} {x : Value} {A G C : Nat} {b r d m s l : Int} {zs : List Int} (h : LevIs w x A G C b r d m s l zs) : Fit zs := by
  rcases h with ⟨h1, h2, h3⟩ | ⟨h1, h2, h3⟩
  · exact h3.2.fit
  · exact h3.grid.fit
theorem LevIs.le {w : World} {x : Value} {A G C : Nat} {b r d m s l : Int} {zs : List Int} (h : LevIs w x A G C b r d m s l zs) : zs.length ≤ 1024 := by
  rcases h with ⟨h1, h2, h3⟩ | ⟨h1, h2, h3⟩
  · rw [h3.2.len]; exact Nat.mul_le_mul h3.2.rows h3.2.width
  · rw [h3.grid.len]; exact Nat.mul_le_mul h3.grid.rows h3.grid.width
theorem LevIs.cells {w : World} {x : Value} {A G C : Nat} {b r d m s l : Int} {zs : List Int} (h : LevIs w x A G C b r d m s l zs) : ∃ cur, Blk w C 2 cur := by
  rcases h with ⟨h1, h2, h3⟩ | ⟨h1, h2, h3⟩
  · obtain ⟨cur, hc, -⟩ := h3.2.cells; exact ⟨cur, hc⟩
  · obtain ⟨cur, hc, -⟩ := h3.grid.cells; exact ⟨cur, hc⟩
theorem LevIs.other {w w' : World} {x : Value} {A G C D : Nat} {b r d m s l : Int} {zs : List Int} {cur : Array Value} (h : LevIs w x A G C b r d m s l zs) (hg : w.grownBy w' (some D)) (hD : Blk w D 2 cur) (hne : C ≠ D) : LevIs w' x A G C b r d m s l zs := by
  rcases h with ⟨h1, h2, h3⟩ | ⟨h1, h2, h3⟩
  · obtain ⟨cap, hG, -⟩ := h3.2.fields
    exact .inl ⟨h1, h2, h3.grown hg (by simpa using h3.1.ne_ hD (by decide)) (by simpa using hG.ne_ hD (by decide)) (by simpa using hne)⟩
  · obtain ⟨cap, hG, -⟩ := h3.grid.fields
    exact .inr ⟨h1, h2, h3.grown hg (by simpa using h3.box.ne_ hD (by decide)) (by simpa using hG.ne_ hD (by decide)) (by simpa using hne)⟩
theorem keysI_pos {b r d m l : Int} (hr : rightB b r d m = true) (h0 : 0 ≤ l) (h1 : l ≤ b) : 0 < keysI b r d m l := by
  have hR := right_of hr
  rw [keysI_yes hr h0 h1]
  have := pow_le (b - l).toNat (by omega)
  omega
theorem cellsN_pos {b r d m l : Int} (hr : rightB b r d m = true) (h0 : 0 ≤ l) (h1 : l ≤ b) : 0 < cellsN b r d m l := by
  have hR := right_of hr
  have := keysI_pos hr h0 h1
  unfold cellsN
  split
  · omega
  · exact Nat.mul_pos (by omega) (by omega)
theorem cellsN_le {b r d m l : Int} (hr : rightB b r d m = true) : cellsN b r d m l ≤ 1024 := by
  have hR := right_of hr
  unfold cellsN
  split
  · rename_i h
    have := of_decide_eq_true h
    omega
  · exact Nat.mul_le_mul (show r.toNat ≤ 8 by omega) (show d.toNat ≤ 128 by omega)
def LvNewPost (w : World) (b r d m s l : Int) (e : Ending) (w' : World) : Prop :=
  ∃ x A G C, e = .returned (.tuple #[x, .int .i64 0]) ∧ w.heap.size ≤ C ∧ LevIs w' x A G C b r d m s l (List.replicate (cellsN b r d m l) 0) ∧ Below w.heap.size w w'
set_option maxRecDepth 100000 in
set_option maxHeartbeats 4000000 in
theorem lvnew_yes (b r d m s l : Int) (hr : rightB b r d m = true) (h0 : 0 ≤ l) (h1 : l ≤ b) (w : World) :
  Calls Tryz.prog 68 #[.agg #[.int .i64 b, .int .i64 r, .int .i64 d, .int .i64 m, .int .u64 s], .int .i64 l] w (LvNewPost w b r d m s l) := by
 have PE := fun w => exact_any b r d m s l w
 obtain ⟨g1, hb1, hsz1⟩ := news1 w (.cells #[.int .i64 b, .int .i64 r, .int .i64 d, .int .i64 m, .int .u64 s] 24)
 have hx1 : Blk _ w.heap.size 24 #[.int .i64 b, .int .i64 r, .int .i64 d, .int .i64 m, .int .u64 s] := g1
 have HB1 := Lib.hid hb1
 have HX1 := Lib.hid hx1
 clear g1 hb1 hsz1
 cases he : exactB b r d m l
 ·rw [he] at PE
  have PE := Lib.hid PE
  have PS := Lib.hid (fun w => sknew_yes b r d m s l hr h0 h1 w)
  have HEX := Lib.hid he
  have HCN : Hid (cellsN b r d m l = r.toNat * d.toNat) := Lib.hid (by unfold cellsN; rw [he]; simp)
  clear he hr h0 h1
  go_enter Tryz.func68, Tryz.ntmps68
  go_wp2_with (refine wpList_load_row rfl 24 _ rfl w.heap.size rfl 24 _ (0, 0) _ hx1 Tryz.underlying24 rfl (by kernel_rfl) ?_)
  with_reducible refine (PE.out _).mono ?_
  rintro e w2 ⟨rfl, hb⟩
  have HB2 := Lib.hid (btr HB1.out hb)
  have HX2 := Lib.hid (HX1.out.kept hb)
  clear hb hx1
  go_wp2_with (refine wpList_load_row rfl 24 _ rfl w.heap.size rfl 24 _ (0, 0) _ HX2.out Tryz.underlying24 rfl (by kernel_rfl) ?_)
  with_reducible refine (PS.out _).mono ?_
  rintro e w3 ⟨A, G, C, rfl, hA, hG, hC, hsk, hb⟩
  have HB3 := Lib.hid (btr HB2.out hb)
  have HSK := Lib.hid hsk
  have HC3 : Hid (w.heap.size ≤ C) := Lib.hid (Nat.le_trans HB2.out.size hC)
  clear hb hsk hA hG hC
  go_wp2
  go_ret2
  exact ⟨_, A, G, C, rfl, HC3.out, .inr ⟨HEX.out, rfl, by rw [HCN.out]; exact HSK.out⟩, HB3.out⟩
 ·rw [he] at PE
  have PE := Lib.hid PE
  have PS := Lib.hid (fun w => exnew_yes b r d m s l he w)
  have HEX := Lib.hid he
  have HCN : Hid (cellsN b r d m l = 1 * (keysI b r d m l).toNat) := Lib.hid (by unfold cellsN; rw [he]; simp)
  clear he hr h0 h1
  go_enter Tryz.func68, Tryz.ntmps68
  go_wp2_with (refine wpList_load_row rfl 24 _ rfl w.heap.size rfl 24 _ (0, 0) _ hx1 Tryz.underlying24 rfl (by kernel_rfl) ?_)
  with_reducible refine (PE.out _).mono ?_
  rintro e w2 ⟨rfl, hb⟩
  have HB2 := Lib.hid (btr HB1.out hb)
  have HX2 := Lib.hid (HX1.out.kept hb)
  clear hb hx1
  go_wp2_with (refine wpList_load_row rfl 24 _ rfl w.heap.size rfl 24 _ (0, 0) _ HX2.out Tryz.underlying24 rfl (by kernel_rfl) ?_)
  with_reducible refine (PS.out _).mono ?_
  rintro e w3 ⟨A, G, C, rfl, hA, hG, hC, hsk, hb⟩
  have HB3 := Lib.hid (btr HB2.out hb)
  have HSK := Lib.hid hsk
  have HC3 : Hid (w.heap.size ≤ C) := Lib.hid (Nat.le_trans HB2.out.size hC)
  clear hb hsk hA hG hC
  go_wp2
  go_ret2
  exact ⟨_, A, G, C, rfl, HC3.out, .inl ⟨HEX.out, rfl, by rw [HCN.out]; exact HSK.out⟩, HB3.out⟩
end Go.Proofs.YtfeficdndjiijaaGreatDoor


namespace Go.Proofs
open Go.Shelf
def Tryz.lays264_ren : Go.Shelf.Ren := ⟨fun | 264 => 204 | n => n, fun | 53 => 22 | 46 => 160 | n => n, fun | n => n⟩
theorem Tryz.lays264 : Go.Proofs.Lays.n264 Tryz.prog Tryz.lays264_ren := {
  mixed := by kernel_rfl
  f264 := Tryz.func204.trans (congrArg some (by kernel_rfl))
  t46 := Tryz.underlying160
  a46 := Tryz.isAgg160
  z46 := Tryz.sizeOf160
  v46 := Tryz.zeroValue160
  t53 := Tryz.underlying22
  a53 := Tryz.isAgg22
  z53 := Tryz.sizeOf22
  v53 := Tryz.zeroValue22 }
open Go.RowKit Go.Lib in
theorem Tryz.bits_Mul64 (x y : Nat) (hx : x < 18446744073709551616) (hy : y < 18446744073709551616) (w : World) :
    Calls Tryz.prog 204 #[.int .u64 x, .int .u64 y] w fun e w' => e = .returned (.tuple #[.int .u64 ((x * y / 18446744073709551616 : Nat) : Int), .int .u64 ((x * y % 18446744073709551616 : Nat) : Int)]) ∧ w' = w := Any.bits_Mul64 Tryz.lays264 x y hx hy w
end Go.Proofs
namespace Go.Proofs.YtfeficdndjiijaaGreatDoor
open Go.RowKit

theorem ret_u64 {a b : Int} (h : a = b) : Ending.returned (.int .u64 a) = .returned (.int .u64 b) := by rw [h]

theorem fold_any (a : Int) (h0 : 0 ≤ a) (h1 : a ≤ 18446744073709551615) (w : World) :
    Calls Tryz.prog 203 #[.int .u64 a] w fun e w' => e = .returned (.int .u64 (ffold a)) ∧ w = w' := by
  obtain ⟨hs1, hs2⟩ := fold_step a h0 h1
  have e1 := and_P a h0 h1
  by_cases c : 2305843009213693951 ≤ a % 2305843009213693952 + a / 2305843009213693952
  · have H := Lib.hid (hs1 c)
    clear hs1 hs2
    go_enter Tryz.func203, Tryz.ntmps203
    go_wp2
    go_ret
    exact ⟨ret_u64 H.out, rfl⟩
  · have H := Lib.hid (hs2 (by omega))
    clear hs1 hs2
    go_enter Tryz.func203, Tryz.ntmps203
    go_wp2
    go_ret
    exact ⟨ret_u64 H.out, rfl⟩

theorem add_any (a b : Int) (h0 : 0 ≤ a) (h1 : a ≤ 18446744073709551615) (g0 : 0 ≤ b) (g1 : b ≤ 18446744073709551615) (w : World) :
    Calls Tryz.prog 162 #[.int .u64 a, .int .u64 b] w fun e w' => e = .returned (.int .u64 (fadd a b)) ∧ w = w' := by
  obtain ⟨b1, b2⟩ := ffold_bd a
  obtain ⟨b3, b4⟩ := ffold_bd b
  go_enter Tryz.func162, Tryz.ntmps162
  go_wp2_with (go_at_call 203; refine (fold_any _ (by omega) (by omega) _).mono ?_; rintro e w' ⟨rfl, rfl⟩)
  go_ret
  exact ⟨ret_u64 (fadd_of a b), rfl⟩

theorem mul_any (a b : Int) (h0 : 0 ≤ a) (h1 : a ≤ 18446744073709551615) (g0 : 0 ≤ b) (g1 : b ≤ 18446744073709551615) (w : World) :
  Calls Tryz.prog 163 #[.int .u64 a, .int .u64 b] w fun e w' => e = .returned (.int .u64 (fmul a b)) ∧ w = w' := by
 obtain ⟨b1, b2⟩ := ffold_bd a
 obtain ⟨b3, b4⟩ := ffold_bd b
 obtain ⟨x, hx⟩ := Int.eq_ofNat_of_zero_le b1
 obtain ⟨y, hy⟩ := Int.eq_ofNat_of_zero_le b3
 have hh := hi_bd x y a b hx.symm hy.symm
 have hl : x * y % 18446744073709551616 < 18446744073709551616 := Nat.mod_lt _ (by omega)
 have H := Lib.hid (fmul_of x y a b hx.symm hy.symm)
 have Ho := or_shift (x * y / 18446744073709551616) (x * y % 18446744073709551616) hh hl
 have Ha := and_P ((x * y % 18446744073709551616 : Nat) : Int) (by omega) (by omega)
 have HX := Lib.hid hx
 have HY := Lib.hid hy
 clear hx hy
 go_enter Tryz.func163, Tryz.ntmps163
 go_wp2_with fail
 refine (fold_any a h0 h1 _).mono ?_; rintro e w' ⟨rfl, rfl⟩
 go_wp2_with fail
 refine (fold_any b g0 g1 _).mono ?_; rintro e w' ⟨rfl, rfl⟩
 go_wp2_with fail
 rw [HX.out, HY.out]
 refine (Tryz.bits_Mul64 x y (by have := HX.out; omega) (by have := HY.out; omega) _).mono ?_
 rintro e w' ⟨rfl, rfl⟩
 generalize x * y / 18446744073709551616 = h at *
 generalize x * y % 18446744073709551616 = l at *
 go_wp2_with fail
 refine (add_any _ _ (by omega) (by omega) (by omega) (by omega) _).mono ?_; rintro e w' ⟨rfl, rfl⟩
 go_wp2_with fail
 go_ret
 exact ⟨ret_u64 H.out, rfl⟩
end Go.Proofs.YtfeficdndjiijaaGreatDoor


namespace Go.Proofs.YtfeficdndjiijaaGreatDoor
open Go.RowKit
set_option linter.unusedVariables false

end Go.Proofs.YtfeficdndjiijaaGreatDoor


namespace Go.Proofs.YtfeficdndjiijaaGreatDoor
open Go.RowKit
set_option linter.unusedVariables false
set_option linter.unusedSimpArgs false

theorem ret_i64 {a b : Int} (h : a = b) : Ending.returned (.int .i64 a) = .returned (.int .i64 b) := by rw [h]

theorem at_any (a b x : Int) (h0 : 0 ≤ a) (h1 : a ≤ 18446744073709551615) (g0 : 0 ≤ b) (g1 : b ≤ 18446744073709551615) (k0 : 0 ≤ x) (k1 : x ≤ 18446744073709551615) (w : World) :
    Calls Tryz.prog 303 #[.agg #[.int .u64 a, .int .u64 b], .int .u64 x] w fun e w' => e = .returned (.int .u64 (lineI a b x)) ∧ Below w.heap.size w w' := by
  have b1 := fmul_bd a x
  go_enter Tryz.func303, Tryz.ntmps303
  go_wp2_with fail
  go_quiet ((first
    | (go_at_call 163; exact Calls.quiet_of_same ((mul_any _ _ (by omega) (by omega) (by omega) (by omega) _).mono fun e w' ⟨p, q⟩ => ⟨p, q.symm⟩))
    | (go_at_call 162; exact Calls.quiet_of_same ((add_any _ _ (by omega) (by omega) (by omega) (by omega) _).mono fun e w' ⟨p, q⟩ => ⟨p, q.symm⟩))))
  go_wp2
  go_ret
  exact ⟨ret_u64 rfl, below_drewN ((Below.refl _ _).alloc (Nat.le_refl _) _) _⟩


theorem bucket_any (a b x n : Int) (h0 : 0 ≤ a) (h1 : a ≤ 18446744073709551615) (g0 : 0 ≤ b) (g1 : b ≤ 18446744073709551615) (k0 : 0 ≤ x) (k1 : x ≤ 18446744073709551615) (n0 : 1 ≤ n) (n1 : n ≤ 9223372036854775807) (w : World) :
    Calls Tryz.prog 296 #[.int .u64 a, .int .u64 b, .int .u64 x, .int .i64 n] w fun e w' => e = .returned (.int .i64 (lineI a b x % n)) ∧ Below w.heap.size w w' := by
  have b1 := lineI_bd a b x
  have m0 : 0 ≤ lineI a b x % n := Int.emod_nonneg _ (by omega)
  have m1 : lineI a b x % n < n := Int.emod_lt_of_pos _ (by omega)
  go_enter Tryz.func296, Tryz.ntmps296
  go_wp2_with (go_at_call 303; refine (at_any a b x h0 h1 g0 g1 k0 k1 _).mono ?_; rintro e w' ⟨rfl, hb⟩)
  go_ret
  exact ⟨ret_i64 rfl, hb⟩
end Go.Proofs.YtfeficdndjiijaaGreatDoor


namespace Go.Proofs.YtfeficdndjiijaaGreatDoor
open Go.RowKit
set_option linter.unusedVariables false
set_option linter.unusedSimpArgs false

theorem ret_u64s {a b : Int} (h : a = b) : Ending.returned (.int .u64 a) = .returned (.int .u64 b) := by rw [h]
theorem bel_trans {w w1 w2 : World} (h : Below w.heap.size w w1) (k : Below w1.heap.size w1 w2) : Below w.heap.size w w2 := h.trans (k.mono h.size)

theorem steps_any (w : World) :
    Calls Tryz.prog 308 #[] w fun e w' => e = .returned (.agg #[.int .u64 30, .int .u64 13787848793156543929, .int .u64 27, .int .u64 10723151780598845931, .int .u64 31, .int .u64 1]) ∧ Below w.heap.size w w' := by
  go_enter Tryz.func308, Tryz.ntmps308
  go_wp2
  exact bodyPost_ret (v := .agg #[.int .u64 30, .int .u64 13787848793156543929, .int .u64 27, .int .u64 10723151780598845931, .int .u64 31, .int .u64 1]) (by simp [results, Tryz.results308, go_sem]) rfl ⟨rfl, (Below.refl _ _).alloc (Nat.le_refl _) _⟩
theorem idx0 : ∀ w, (Instr.index 413 (.agg #[.int .u64 30, .int .u64 13787848793156543929, .int .u64 27, .int .u64 10723151780598845931, .int .u64 31, .int .u64 1]) (.int .i64 0)).run Tryz.prog w = .ok (.agg #[.int .u64 30, .int .u64 13787848793156543929]) w := fun _ => by kernel_rfl
theorem idx1 : ∀ w, (Instr.index 413 (.agg #[.int .u64 30, .int .u64 13787848793156543929, .int .u64 27, .int .u64 10723151780598845931, .int .u64 31, .int .u64 1]) (.int .i64 1)).run Tryz.prog w = .ok (.agg #[.int .u64 27, .int .u64 10723151780598845931]) w := fun _ => by kernel_rfl
theorem idx2 : ∀ w, (Instr.index 413 (.agg #[.int .u64 30, .int .u64 13787848793156543929, .int .u64 27, .int .u64 10723151780598845931, .int .u64 31, .int .u64 1]) (.int .i64 2)).run Tryz.prog w = .ok (.agg #[.int .u64 31, .int .u64 1]) w := fun _ => by kernel_rfl

theorem mix_any (a : Int) (h0 : 0 ≤ a) (h1 : a ≤ 18446744073709551615) (w : World) :
    Calls Tryz.prog 306 #[.int .u64 a] w fun e w' => e = .returned (.int .u64 (mixI a)) ∧ Below w.heap.size w w' := by
  have H := Lib.hid (mix_walk a h0 h1)
  have i0 := idx0
  have i1 := idx1
  have i2 := idx2
  go_enter Tryz.func306, Tryz.ntmps306
  go_wp2_with (go_at_call 308; refine (steps_any _).mono ?_; rintro e w' ⟨rfl, hb⟩)
  refine wp_loop_rounds 4 ?_
  rw [rounds_succ]
  go_wp2
  rw [rounds_succ]
  go_wp2
  rw [rounds_succ]
  go_wp2
  rw [rounds_succ]
  go_wp2
  go_ret
  refine ⟨ret_u64s H.out, ?_⟩
  have hs := hb.size
  exact ((hb.alloc (by omega) _).alloc (by simp; omega) _).alloc (by simp; omega) _

theorem draw_any (s i : Int) (h0 : 0 ≤ s) (h1 : s ≤ 18446744073709551615) (g0 : 0 ≤ i) (g1 : i ≤ 18446744073709551615) (w : World) :
    Calls Tryz.prog 302 #[.int .u64 s, .int .u64 i] w fun e w' => e = .returned (.int .u64 (drawI s i)) ∧ Below w.heap.size w w' := by
  have HE : Hid (mixI (IntKind.u64.wrap (s + IntKind.u64.wrap (IntKind.u64.wrap (i + 1) * 11400714819323198485))) = drawI s i) := Lib.hid (by
    unfold mixI drawI drawB; rw [bv_wrap, bv_add, bv_wrap, bv_mul, bv_wrap, bv_add]; rfl)
  have hw : 0 ≤ IntKind.u64.wrap (s + IntKind.u64.wrap (IntKind.u64.wrap (i + 1) * 11400714819323198485)) ∧ IntKind.u64.wrap (s + IntKind.u64.wrap (IntKind.u64.wrap (i + 1) * 11400714819323198485)) ≤ 18446744073709551615 := by rw [wrap_bv]; exact nv_bd _
  have HW := Lib.hid hw
  clear hw
  go_enter Tryz.func302, Tryz.ntmps302
  go_wp2_with fail
  refine (mix_any _ HW.out.1 HW.out.2 _).mono ?_
  rintro e w' ⟨rfl, hb⟩
  go_wp2_with fail
  go_ret
  exact ⟨ret_u64s HE.out, hb⟩

theorem ret_u64s2 {a b c d : Int} (h : a = b) (k : c = d) : Ending.returned (.tuple #[.int .u64 a, .int .u64 c]) = .returned (.tuple #[.int .u64 b, .int .u64 d]) := by rw [h, k]

theorem pair_any (s l r : Int) (h0 : 0 ≤ s) (h1 : s ≤ 18446744073709551615) (l0 : 0 ≤ l) (l1 : l ≤ 59) (r0 : 0 ≤ r) (r1 : r ≤ 7) (w : World) :
    Calls Tryz.prog 295 #[.int .u64 s, .int .i64 l, .int .i64 r] w fun e w' => e = .returned (.tuple #[.int .u64 (pairA s l r), .int .u64 (pairB s l r)]) ∧ Below w.heap.size w w' := by
  have b1 := drawI_bd s (2 * (l * 8 + r))
  have b2 := drawI_bd s (2 * (l * 8 + r) + 1)
  have e1 : Hid (2 * (l * 8 + r) = pairN l r) := Lib.hid (by unfold pairN; omega)
  go_enter Tryz.func295, Tryz.ntmps295
  go_wp2_with fail
  refine (draw_any _ _ h0 h1 (by omega) (by omega) _).mono ?_
  rintro e w' ⟨rfl, hb⟩
  go_wp2_with fail
  refine (draw_any _ _ h0 h1 (by omega) (by omega) _).mono ?_
  rintro e w2 ⟨rfl, hb2⟩
  go_wp2_with fail
  go_ret2
  refine ⟨ret_u64s2 ?_ ?_, bel_trans hb hb2⟩
  · rw [e1.out]; rfl
  · rw [e1.out]; rfl

end Go.Proofs.YtfeficdndjiijaaGreatDoor


namespace Go.Proofs.YtfeficdndjiijaaGreatDoor
open Go.RowKit
set_option linter.unusedVariables false
set_option linter.unusedSimpArgs false

theorem rowKept {w w' : World} {b : Nat} {t : TypeId} {n : Nat} {f : Nat → Value} (h : w.rowIs b t n f) (hb : Below w.heap.size w w') : w'.rowIs b t n f := h.of_block (hb.block b h.lt)
theorem ret_i64c {a b : Int} (h : a = b) : Ending.returned (.int .i64 a) = .returned (.int .i64 b) := by rw [h]

structure Caps (w : World) (A B C : Nat) (b r d m s l k : Int) : Prop where
  cfg : Blk w A 24 #[.int .i64 b, .int .i64 r, .int .i64 d, .int .i64 m, .int .u64 s]
  lev : Blk w B 3 #[.int .i64 l]
  key : Blk w C 22 #[.int .u64 k]
theorem Caps.kept {w w' : World} {A B C : Nat} {b r d m s l k : Int} (h : Caps w A B C b r d m s l k) (hb : Below w.heap.size w w') : Caps w' A B C b r d m s l k :=
  ⟨h.cfg.kept hb, h.lev.kept hb, h.key.kept hb⟩

theorem Caps.cells {w : World} {A B C : Nat} {b r d m s l k : Int} (h : Caps w A B C b r d m s l k) :
    (w.cell? ⟨A, 0, none⟩ = some (.int .i64 b) ∧ w.cell? ⟨A, 1, none⟩ = some (.int .i64 r) ∧ w.cell? ⟨A, 2, none⟩ = some (.int .i64 d) ∧ w.cell? ⟨A, 3, none⟩ = some (.int .i64 m) ∧ w.cell? ⟨A, 4, none⟩ = some (.int .u64 s)) ∧
    w.cell? ⟨B, 0, none⟩ = some (.int .i64 l) ∧ w.cell? ⟨C, 0, none⟩ = some (.int .u64 k) := ⟨box_cells h.cfg, h.lev.cell 0, h.key.cell 0⟩
theorem Caps.drew {w : World} {A B C : Nat} {b r d m s l k : Int} (h : Caps w A B C b r d m s l k) : Caps w.drew A B C b r d m s l k := ⟨h.cfg, h.lev, h.key⟩
theorem col1_any (A B C : Nat) (b r d m s l k i : Int) (s0 : 0 ≤ s) (s1 : s ≤ 18446744073709551615) (k0 : 0 ≤ k) (k1 : k ≤ 18446744073709551615) (l0 : 0 ≤ l) (l1 : l ≤ 59) (i0 : 0 ≤ i) (i1 : i ≤ 7) (d0 : 1 ≤ d) (d1 : d ≤ 9223372036854775807) (w : World)
    (hC : Caps w A B C b r d m s l k) :
    Calls Tryz.prog 294 #[.int .i64 i, .pointer (some ⟨A, 0, none⟩), .pointer (some ⟨B, 0, none⟩), .pointer (some ⟨C, 0, none⟩)] w fun e w' => e = .returned (.int .i64 (colI d s l k i)) ∧ Below w.heap.size w w' := by
  have a2 := hC.cfg.cell 2
  have a4 := hC.cfg.cell 4
  have bl := hC.lev.cell 0
  have ck := hC.key.cell 0
  simp at a2 a4 bl ck
  have HC := Lib.hid hC
  clear hC
  obtain ⟨p0, p1⟩ := pairA_bd s l i
  obtain ⟨q0, q1⟩ := pairB_bd s l i
  go_enter Tryz.func294, Tryz.ntmps294
  go_wp2_with fail
  refine (pair_any s l i s0 s1 l0 l1 i0 i1 _).mono ?_; rintro e w1 ⟨rfl, hb⟩
  have hC1 := HC.out.kept hb
  have c2 := hC1.cfg.cell 2
  have ck1 := hC1.key.cell 0
  simp at c2 ck1
  go_wp2_with fail
  refine (bucket_any _ _ k d (by omega) (by omega) (by omega) (by omega) k0 k1 d0 d1 _).mono ?_; rintro e w2 ⟨rfl, hb2⟩
  go_wp2
  go_ret
  exact ⟨ret_i64c rfl, btr hb hb2⟩

def ColsPost (w : World) (R : Nat) (d s l k : Int) (e : Ending) (w' : World) : Prop :=
  ∃ g, e = .returned (.slice (some ⟨g, 0, none⟩) R R) ∧ w.heap.size ≤ g ∧ w'.rowIs g 3 R (fun i => .int .i64 (colI d s l k (i : Int))) ∧ Below w.heap.size w w'

theorem Tryz.infoInt : (Tryz.prog.info? 3).map (fun i => (i.zero, i.size, i.bytes)) = some (some (.int .i64 0), 1, 8) := by kernel_rfl

theorem cols_any (b d m s l k : Int) (R : Nat) (s0 : 0 ≤ s) (s1 : s ≤ 18446744073709551615) (k0 : 0 ≤ k) (k1 : k ≤ 18446744073709551615) (hk : k < keysI b (R : Int) d m l) (w : World) :
  Calls Tryz.prog 288 #[.agg #[.int .i64 b, .int .i64 (R : Int), .int .i64 d, .int .i64 m, .int .u64 s], .int .i64 l, .int .u64 k] w (ColsPost w R d s l k) := by
 obtain ⟨j0, j1⟩ := keysI_bd b (R : Int) d m l
 have HR := keys_right (b := b) (r := (R : Int)) (d := d) (m := m) (l := l) (by omega)
 obtain ⟨d0, d1, b0, b1, l0, l1, r0, r1, _⟩ := HR
 have e1 : decide (keysI b (R : Int) d m l ≤ k) = false := decide_eq_false (by omega)
 have hnew0 := Blk.new w 24 #[.int .i64 b, .int .i64 (R : Int), .int .i64 d, .int .i64 m, .int .u64 s]
 go_enter Tryz.func288, Tryz.ntmps288
 go_wp2_with fail
 have hcap : Caps (((w.alloc (.cells #[.int .i64 b, .int .i64 (R : Int), .int .i64 d, .int .i64 m, .int .u64 s] 24)).alloc (.cells #[.int .i64 l] 3)).alloc (.cells #[.int .u64 k] 22)) w.heap.size (w.heap.size + 1) (w.heap.size + 1 + 1) b (R : Int) d m s l k := by
  refine ⟨((Blk.new _ _ _).alloc _).alloc _, Blk.alloc (by have := Blk.new (w.alloc (.cells #[.int .i64 b, .int .i64 (R : Int), .int .i64 d, .int .i64 m, .int .u64 s] 24)) 3 #[.int .i64 l]; simpa using this) _, ?_⟩
  have := Blk.new ((w.alloc (.cells #[.int .i64 b, .int .i64 (R : Int), .int .i64 d, .int .i64 m, .int .u64 s] 24)).alloc (.cells #[.int .i64 l] 3)) 22 #[.int .u64 k]
  simpa using this
 have hbel : Below w.heap.size w (((w.alloc (.cells #[.int .i64 b, .int .i64 (R : Int), .int .i64 d, .int .i64 m, .int .u64 s] 24)).alloc (.cells #[.int .i64 l] 3)).alloc (.cells #[.int .u64 k] 22)) :=
  (((Below.refl _ _).alloc (Nat.le_refl _) _).alloc (by simp) _).alloc (by simp; omega) _
 generalize (((w.alloc (.cells #[.int .i64 b, .int .i64 (R : Int), .int .i64 d, .int .i64 m, .int .u64 s] 24)).alloc (.cells #[.int .i64 l] 3)).alloc (.cells #[.int .u64 k] 22)) = wz at *
 have hsz := hbel.size
 generalize hA : w.heap.size = A at *
 generalize hB : A + 1 = B at *
 generalize hC : B + 1 = C at *
 obtain ⟨n, hn⟩ : ∃ n, n = A := ⟨_, rfl⟩
 have hbel : Below n w wz := by rw [hn]; exact hbel
 have HN := Lib.hid (hn.trans hA.symm)
 have hnw : n ≤ w.heap.size := by omega
 clear hA hB hC hn
 have HE := Lib.hid e1
 refine wp_region_held_drew (S := fun w' => Caps w' A B C b (R : Int) d m s l k ∧ Below n w w') (by kernel_rfl) (by exact ⟨hcap.drew, hbel.drew⟩) (fun hHeld => ?_)
 refine tkH (i := 0) (v := ?_) rfl (by kernel_rfl) (fun _ _ _ h => h) (Or.inl ⟨by rfl, ?_⟩) (by assumption) ?_
 rotate_left
 ·intro w hSw
  obtain ⟨⟨q0, q1, q2, q3, q4⟩, qb, qk⟩ := Caps.cells hSw.1
  go_simp
  try with_reducible rfl
 simp only [Act.put, z1, z2, z3, z4, z5, z6]
 refine tkH (i := 1) (v := ?_) rfl (by kernel_rfl) (fun _ _ _ h => h) (Or.inl ⟨by rfl, ?_⟩) (by assumption) ?_
 rotate_left
 ·intro w hSw
  obtain ⟨⟨q0, q1, q2, q3, q4⟩, qb, qk⟩ := Caps.cells hSw.1
  go_simp
  try with_reducible rfl
 simp only [Act.put, z1, z2, z3, z4, z5, z6]
 refine tkH (i := 2) (v := ?_) rfl (by kernel_rfl) (fun _ _ _ h => h) (Or.inl ⟨by rfl, ?_⟩) (by assumption) ?_
 rotate_left
 ·intro w hSw
  obtain ⟨⟨q0, q1, q2, q3, q4⟩, qb, qk⟩ := Caps.cells hSw.1
  go_simp
  try with_reducible rfl
 simp only [Act.put, z1, z2, z3, z4, z5, z6]
 refine wpAnyH_ready (rs := [3]) (by kernel_rfl) (by simp) ?_
 refine AllReadyH.cons rfl (fun K hK => ?_) AllReadyH.nil
 go_simp
 go_wp2_with ((go_at_call 72; refine (keys_any _ _ _ _ _ _ _).mono ?_; rintro e w' ⟨rfl, hb'⟩))
 refine hK.out _ _ ?_ (fun hHeld => ?_)
 ·first | assumption | exact ⟨hHeld.1.kept hb', hHeld.2.trans (hb'.mono (by have := hHeld.2.size; omega))⟩
 clear hK K
 refine tkH (i := 4) (v := ?_) rfl (by kernel_rfl) (fun _ _ _ h => h) (Or.inl ⟨by rfl, ?_⟩) (by assumption) ?_
 rotate_left
 ·intro w hSw
  skip
  go_simp
  try with_reducible rfl
 simp only [Act.put, z1, z2, z3, z4, z5, z6]
 refine wpAnyH_done (by kernel_rfl) ?_ _
 clear hnew0 hbel hsz hcap hb'
 obtain ⟨hcap, hbel⟩ := hHeld
 obtain ⟨⟨q0, q1, q2, q3, q4⟩, qb, qk⟩ := hcap.cells
 have hmk := fun W => run_make_row' (P := Tryz.prog) 45 3 (.int .i64 0) 8 Tryz.underlying45 Tryz.infoInt rfl .i64 .i64 R (by omega) (by omega) W
 go_wp2_with fail
 have hrow := World.rowIs_made w' (.int .i64 0) R 3
 have hcap2 : Caps (w'.alloc (.cells (madeCells #[.int .i64 0] R) 3)) A B C b (R : Int) d m s l k := ⟨hcap.cfg.alloc _, hcap.lev.alloc _, hcap.key.alloc _⟩
 have hbel2 : Below n w (w'.alloc (.cells (madeCells #[.int .i64 0] R) 3)) := hbel.alloc (by have := hbel.size; omega) _
 have hGA : A ≠ w'.heap.size := Nat.ne_of_lt hcap.cfg.lt
 have hGB : B ≠ w'.heap.size := Nat.ne_of_lt hcap.lev.lt
 have hGC : C ≠ w'.heap.size := Nat.ne_of_lt hcap.key.lt
 have hGn : n ≤ w'.heap.size := by have := hbel.size; omega
 clear hmk q0 q1 q2 q3 q4 qb qk
 clear hcap hbel
 generalize (w'.alloc (.cells (madeCells #[.int .i64 0] R) 3)) = wq at *
 generalize w'.heap.size = G at *
 go_loopw [21] (fun i wr => ∃ j : Nat, j ≤ R ∧ i = .int .i64 (j : Int) ∧ wr.rowIs G 3 R (fun x => .int .i64 (if x < j then colI d s l k (x : Int) else 0)) ∧ Caps wr A B C b (R : Int) d m s l k ∧ Below n w wr) (fun i _ => R - (intOf i).toNat)
 case atStart => exact ⟨0, by omega, rfl, hrow.congr (fun x _ => by simp), hcap2, hbel2⟩
 case round =>
  obtain ⟨j, hj, rfl, hrow, hcap, hbel⟩ := hrel
  clear hcap2 hbel2
  have HR := Lib.hid hrow
  have HC := Lib.hid hcap
  have HB := Lib.hid hbel
  clear hrow hcap hbel
  by_cases hlt : j < R
  ·go_wp2_with fail
   refine (col1_any A B C b (R : Int) d m s l k (j : Int) s0 s1 k0 k1 l0 (by omega) (by omega) (by omega) d0 (by omega) _ HC.out).mono ?_
   rintro e w2 ⟨rfl, hb2⟩
   have hr2 := rowKept HR.out hb2
   have hcell := hr2.cell hlt
   have hfrz := hr2.frozen j
   have HR2 := Lib.hid (hr2.set j (.int .i64 (colI d s l k (j : Int))))
   have HC2 := Lib.hid (HC.out.kept hb2)
   have HB2 : Hid (Below n w w2) := Lib.hid (HB.out.trans (hb2.mono (by have := HB.out.size; omega)))
   clear hr2 hb2
   go_wp2
   go_roundw
   case rel =>
    refine ⟨j + 1, by omega, by go_num, HR2.out.congr (fun x _ => ?_), ⟨HC2.out.cfg.far hGA _, HC2.out.lev.far hGB _, HC2.out.key.far hGC _⟩, HB2.out.setCell hGn _⟩
    by_cases e : x = j
    ·subst e; simp
    ·rw [if_neg e]
     by_cases e2 : x < j
     ·rw [if_pos e2, if_pos (by omega)]
     ·rw [if_neg e2, if_neg (by omega)]
   case measure => simp [intOf]; omega
  ·obtain rfl : j = R := by omega
   go_wp2
   go_ret
   exact ⟨G, rfl, by have := HN.out; omega, HR.out.congr (fun x hx => by rw [if_pos hx]), by rw [← HN.out]; exact HB.out⟩

theorem cols_none (b r d m s l k : Int) (hk : ¬ k < keysI b r d m l) (w : World) :
  Calls Tryz.prog 288 #[.agg #[.int .i64 b, .int .i64 r, .int .i64 d, .int .i64 m, .int .u64 s], .int .i64 l, .int .u64 k] w fun e w' => e = .returned (.slice none 0 0) ∧ Below w.heap.size w w' := by
 have e1 : decide (keysI b r d m l ≤ k) = true := decide_eq_true (by omega)
 go_enter Tryz.func288, Tryz.ntmps288
 go_wp2_with fail
 have hcap : Caps (((w.alloc (.cells #[.int .i64 b, .int .i64 r, .int .i64 d, .int .i64 m, .int .u64 s] 24)).alloc (.cells #[.int .i64 l] 3)).alloc (.cells #[.int .u64 k] 22)) w.heap.size (w.heap.size + 1) (w.heap.size + 1 + 1) b r d m s l k := by
  refine ⟨((Blk.new _ _ _).alloc _).alloc _, Blk.alloc (by have := Blk.new (w.alloc (.cells #[.int .i64 b, .int .i64 r, .int .i64 d, .int .i64 m, .int .u64 s] 24)) 3 #[.int .i64 l]; simpa using this) _, ?_⟩
  have := Blk.new ((w.alloc (.cells #[.int .i64 b, .int .i64 r, .int .i64 d, .int .i64 m, .int .u64 s] 24)).alloc (.cells #[.int .i64 l] 3)) 22 #[.int .u64 k]
  simpa using this
 have hbel : Below w.heap.size w (((w.alloc (.cells #[.int .i64 b, .int .i64 r, .int .i64 d, .int .i64 m, .int .u64 s] 24)).alloc (.cells #[.int .i64 l] 3)).alloc (.cells #[.int .u64 k] 22)) :=
  (((Below.refl _ _).alloc (Nat.le_refl _) _).alloc (by simp) _).alloc (by simp; omega) _
 generalize (((w.alloc (.cells #[.int .i64 b, .int .i64 r, .int .i64 d, .int .i64 m, .int .u64 s] 24)).alloc (.cells #[.int .i64 l] 3)).alloc (.cells #[.int .u64 k] 22)) = wz at *
 have hsz := hbel.size
 generalize hA : w.heap.size = A at *
 generalize hB : A + 1 = B at *
 generalize hC : B + 1 = C at *
 obtain ⟨n, hn⟩ : ∃ n, n = A := ⟨_, rfl⟩
 have hbel : Below n w wz := by rw [hn]; exact hbel
 have HN := Lib.hid (hn.trans hA.symm)
 have hnw : n ≤ w.heap.size := by omega
 clear hA hB hC hn
 refine wp_region_held_drew (S := fun w' => Caps w' A B C b r d m s l k ∧ Below n w w') (by kernel_rfl) (by exact ⟨hcap.drew, hbel.drew⟩) (fun hHeld => ?_)
 refine tkH (i := 0) (v := ?_) rfl (by kernel_rfl) (fun _ _ _ h => h) (Or.inl ⟨by rfl, ?_⟩) (by assumption) ?_
 rotate_left
 ·intro w hSw
  obtain ⟨⟨q0, q1, q2, q3, q4⟩, qb, qk⟩ := Caps.cells hSw.1
  go_simp
  try with_reducible rfl
 simp only [Act.put, z1, z2, z3, z4, z5, z6]
 refine tkH (i := 1) (v := ?_) rfl (by kernel_rfl) (fun _ _ _ h => h) (Or.inl ⟨by rfl, ?_⟩) (by assumption) ?_
 rotate_left
 ·intro w hSw
  obtain ⟨⟨q0, q1, q2, q3, q4⟩, qb, qk⟩ := Caps.cells hSw.1
  go_simp
  try with_reducible rfl
 simp only [Act.put, z1, z2, z3, z4, z5, z6]
 refine tkH (i := 2) (v := ?_) rfl (by kernel_rfl) (fun _ _ _ h => h) (Or.inl ⟨by rfl, ?_⟩) (by assumption) ?_
 rotate_left
 ·intro w hSw
  obtain ⟨⟨q0, q1, q2, q3, q4⟩, qb, qk⟩ := Caps.cells hSw.1
  go_simp
  try with_reducible rfl
 simp only [Act.put, z1, z2, z3, z4, z5, z6]
 refine wpAnyH_ready (rs := [3]) (by kernel_rfl) (by simp) ?_
 refine AllReadyH.cons rfl (fun K hK => ?_) AllReadyH.nil
 go_simp
 go_wp2_with ((go_at_call 72; refine (keys_any _ _ _ _ _ _ _).mono ?_; rintro e w' ⟨rfl, hb'⟩))
 refine hK.out _ _ ?_ (fun hHeld => ?_)
 ·first | assumption | exact ⟨hHeld.1.kept hb', hHeld.2.trans (hb'.mono (by have := hHeld.2.size; omega))⟩
 clear hK K
 refine tkH (i := 4) (v := ?_) rfl (by kernel_rfl) (fun _ _ _ h => h) (Or.inl ⟨by rfl, ?_⟩) (by assumption) ?_
 rotate_left
 ·intro w hSw
  skip
  go_simp
  try with_reducible rfl
 simp only [Act.put, z1, z2, z3, z4, z5, z6]
 refine wpAnyH_done (by kernel_rfl) ?_ _
 have HB := Lib.hid hHeld.2
 clear hbel hcap hHeld
 go_wp2
 go_ret
 exact ⟨rfl, by rw [← HN.out]; exact HB.out⟩
end Go.Proofs.YtfeficdndjiijaaGreatDoor


namespace Go.Proofs.YtfeficdndjiijaaGreatDoor
open Go.RowKit
set_option linter.unusedVariables false
set_option linter.unusedSimpArgs false

open Classical in
noncomputable def kthL (l : List Int) (k : Nat) : Int := if h : ∃ v, IsKth l k v then h.choose else 0
theorem kthL_of {l : List Int} {k : Nat} {v : Int} (h : IsKth l k v) : kthL l k = v := by
  have hx : ∃ v, IsKth l k v := ⟨v, h⟩
  unfold kthL
  rw [dif_pos hx]
  exact hx.choose_spec.unique h
def colsZ (d s l k : Int) (R : Nat) : List Int := (List.range R).map fun (i : Nat) => colI d s l k (i : Int)
theorem colsZ_len (d s l k : Int) (R : Nat) : (colsZ d s l k R).length = R := by simp [colsZ]
theorem colsZ_meet {d s l k : Int} {R : Nat} (hR : 0 < R) (hd : 1 ≤ d) : meetB R d.toNat (colsZ d s l k R) = true := by
  refine meetB_all hR (colsZ_len ..) (fun j c hc => ?_)
  unfold colsZ at hc
  rw [List.getElem?_map] at hc
  cases hj : (List.range R)[j]? with
  | none => rw [hj] at hc; simp at hc
  | some i =>
    rw [hj] at hc
    simp at hc
    subst hc
    unfold colI
    have h1 := Int.emod_nonneg (lineI (pairA s l (i : Int)) (pairB s l (i : Int)) k) (show d ≠ 0 by omega)
    have h2 := Int.emod_lt_of_pos (lineI (pairA s l (i : Int)) (pairB s l (i : Int)) k) (show 0 < d by omega)
    omega
open Classical in
noncomputable def skErr (b r d m s l : Int) (zs : List Int) (k : Int) (x : Int) : Int :=
  if keysI b r d m l ≤ k then 2
  else if m = 2 then (if x < 0 then 3 else if In64 (kthL (readZ d.toNat zs (colsZ d s l k r.toNat)) 0 + x) then 0 else 4)
  else if changeFits d.toNat zs (colsZ d s l k r.toNat) x then 0 else 4
open Classical in
noncomputable def skUpd (b r d m s l : Int) (zs : List Int) (k : Int) (x : Int) : List Int :=
  if skErr b r d m s l zs k x = 0 then
    (if m = 2 then raiseZ d.toNat zs (colsZ d s l k r.toNat) (kthL (readZ d.toNat zs (colsZ d s l k r.toNat)) 0 + x) else changeZ d.toNat zs (colsZ d s l k r.toNat) x)
  else zs
noncomputable def lvErr (b r d m s l : Int) (zs : List Int) (k : Nat) (x : Int) : Int :=
  if exactB b r d m l = true then chkI (keysI b r d m l).toNat m zs k x else skErr b r d m s l zs (k : Int) x
noncomputable def lvUpd (b r d m s l : Int) (zs : List Int) (k : Nat) (x : Int) : List Int :=
  if exactB b r d m l = true then updZ (keysI b r d m l).toNat m zs k x else skUpd b r d m s l zs (k : Int) x
theorem key_down {b r d m : Int} (hr : rightB b r d m = true) {k : Nat} (hk : (k : Int) < keysI b r d m 0) {n : Nat} (hn : n ≤ b.toNat) : ((k / 2 ^ n : Nat) : Int) < keysI b r d m (n : Int) := by
  have hR := right_of hr
  rw [keysI_yes hr (by omega) (by omega)] at hk ⊢
  obtain ⟨q, hq⟩ : ∃ q : Nat, b = (q : Int) := ⟨b.toNat, by omega⟩
  subst hq
  have e0 : ((q : Int) - 0).toNat = q := by omega
  have e1 : ((q : Int) - (n : Int)).toNat = q - n := by omega
  rw [e0] at hk
  rw [e1]
  have h2 : (k : Int) < ((2 ^ q : Nat) : Int) := by rw [Int.natCast_pow]; exact hk
  have h3 : k < 2 ^ q := by exact_mod_cast h2
  have h4 : k / 2 ^ n < 2 ^ (q - n) := by
    apply Nat.div_lt_of_lt_mul
    rw [← Nat.pow_add]
    have : n + (q - n) = q := by simp at hn; omega
    rw [this]
    exact h3
  have h5 : ((k / 2 ^ n : Nat) : Int) < ((2 ^ (q - n) : Nat) : Int) := by exact_mod_cast h4
  rw [Int.natCast_pow] at h5
  exact h5
theorem lvErr_in {b r d m s l : Int} {zs : List Int} {k : Nat} {x : Int} (hk : (k : Int) < keysI b r d m l) : (m = 2 ∧ x < 0 → lvErr b r d m s l zs k x = 3) ∧ (¬ (m = 2 ∧ x < 0) → lvErr b r d m s l zs k x = 0 ∨ lvErr b r d m s l zs k x = 4) := by
  unfold lvErr
  have hb := keysI_bd b r d m l
  split
  · unfold chkI
    rw [if_neg (by omega)]
    refine ⟨fun h => by rw [if_pos h], fun h => ?_⟩
    rw [if_neg h]
    split
    · exact .inl rfl
    · exact .inr rfl
  · unfold skErr
    rw [if_neg (by omega)]
    refine ⟨fun h => by rw [if_pos h.1, if_pos h.2], fun h => ?_⟩
    by_cases hm : m = 2
    · rw [if_pos hm, if_neg (by omega)]
      split
      · exact .inl rfl
      · exact .inr rfl
    · rw [if_neg hm]
      split
      · exact .inl rfl
      · exact .inr rfl
open Classical in
noncomputable def stErr (b r d m s : Int) (Z : Nat → List Int) (k : Nat) (x : Int) : Int :=
  if keysI b r d m 0 ≤ (k : Int) then 2 else if m = 2 ∧ x < 0 then 3 else if ∀ n : Nat, n ≤ b.toNat → lvErr b r d m s (n : Int) (Z n) (k / 2 ^ n) x = 0 then 0 else 4
noncomputable def stUpd (b r d m s : Int) (Z : Nat → List Int) (k : Nat) (x : Int) (n : Nat) : List Int :=
  if stErr b r d m s Z k x = 0 then lvUpd b r d m s (n : Int) (Z n) (k / 2 ^ n) x else Z n
noncomputable def lvPt (b r d m s l : Int) (zs : List Int) (k : Nat) : Int :=
  if exactB b r d m l = true then cellD zs k else kthL (readZ d.toNat zs (colsZ d s l (k : Int) r.toNat)) (if m = 3 then (r.toNat - 1) / 2 else 0)
def firstI (a c : Int) : Int := if a = 0 then c else a
theorem stErr_firsts {b r d m s : Int} (hr : rightB b r d m = true) {Z : Nat → List Int} {k : Nat} {x : Int} (hk : (k : Int) < keysI b r d m 0) :
  (List.range (b.toNat + 1)).foldl (fun a (n : Nat) => firstI a (lvErr b r d m s (n : Int) (Z n) (k / 2 ^ n) x)) 0 = stErr b r d m s Z k x := by
 have key : ∀ j : Nat, j ≤ b.toNat + 1 → (List.range j).foldl (fun a (n : Nat) => firstI a (lvErr b r d m s (n : Int) (Z n) (k / 2 ^ n) x)) 0 =
   (if m = 2 ∧ x < 0 then (if j = 0 then 0 else 3) else open Classical in if ∀ n : Nat, n < j → lvErr b r d m s (n : Int) (Z n) (k / 2 ^ n) x = 0 then 0 else 4) := by
  intro j
  induction j with
  | zero =>
   intro _
   simp
  | succ j ih =>
   intro hj
   rw [List.range_succ, List.foldl_append, ih (by omega)]
   simp only [List.foldl_cons, List.foldl_nil]
   obtain ⟨h3, h4⟩ := lvErr_in (s := s) (zs := Z j) (x := x) (key_down hr hk (show j ≤ b.toNat by omega))
   by_cases hm : m = 2 ∧ x < 0
   ·rw [if_pos hm, if_pos hm, h3 hm]
    unfold firstI
    by_cases e : j = 0 <;> simp [e]
   ·rw [if_neg hm, if_neg hm]
    by_cases ha : ∀ n : Nat, n < j → lvErr b r d m s (n : Int) (Z n) (k / 2 ^ n) x = 0
    ·rw [if_pos ha]
     unfold firstI
     rw [if_pos rfl]
     rcases h4 hm with e | e
     ·rw [e, if_pos]
      intro n hn
      by_cases en : n = j
      ·subst en; exact e
      ·exact ha n (by omega)
     ·rw [e, if_neg]
      intro h
      have := h j (by omega)
      rw [e] at this
      cases this
    ·rw [if_neg ha]
     unfold firstI
     rw [if_neg (by decide), if_neg]
     intro h
     exact ha (fun n hn => h n (by omega))
 rw [key _ (Nat.le_refl _)]
 unfold stErr
 have hnk : ¬ keysI b r d m 0 ≤ (k : Int) := by omega
 by_cases hm : m = 2 ∧ x < 0
 ·rw [if_pos hm, if_neg (show ¬ b.toNat + 1 = 0 by omega), if_neg hnk, if_pos hm]
 ·rw [if_neg hm, if_neg hnk, if_neg hm]
  have : (∀ n : Nat, n < b.toNat + 1 → lvErr b r d m s (n : Int) (Z n) (k / 2 ^ n) x = 0) ↔ (∀ n : Nat, n ≤ b.toNat → lvErr b r d m s (n : Int) (Z n) (k / 2 ^ n) x = 0) :=
   ⟨fun h n hn => h n (by omega), fun h n hn => h n (by omega)⟩
  simp only [this]
end Go.Proofs.YtfeficdndjiijaaGreatDoor

