/-
  The walks of statements of layer 7: each returns true. Conditions: the arguments are of their types.
-/
import Derived.Test.YtfjhecgicemoeaaShpS
import Derived.Test.YtfjhecgicemoeaaSh
import Derived.Deep.RegionHeld3
import Derived.StillTailTactics
import Derived.OpenShut
namespace Go.Proofs.Ytfjhecgicemoeaa
open Go.RowKit Go.ChangeShapes Go.WideShapes Go.ChangeAt
set_option linter.unusedVariables false
set_option linter.unusedSimpArgs false

def shCfg : Sh := .agg (.cons (.int .i64) (.cons (.int .i64) (.cons (.int .i64) (.cons (.int .i64) (.cons (.int .u64) .unit)))))
theorem valCfg {w : World} {v : Value} (h : shCfg.Val w v) : ∃ b r d m s : Int, v = .agg #[.int .i64 b, .int .i64 r, .int .i64 d, .int .i64 m, .int .u64 s] ∧
    (Lit.int .i64 b).wf = true ∧ (Lit.int .i64 r).wf = true ∧ (Lit.int .i64 d).wf = true ∧ (Lit.int .i64 m).wf = true ∧ (Lit.int .u64 s).wf = true := by
  obtain ⟨cs, rfl, h1⟩ := h
  obtain ⟨b, q, e, wb, h2⟩ := Sh.reads_int h1
  obtain ⟨r, q, rfl, wr, h3⟩ := Sh.reads_int h2
  obtain ⟨d, q, rfl, wd, h4⟩ := Sh.reads_int h3
  obtain ⟨m, q, rfl, wm, h5⟩ := Sh.reads_int h4
  obtain ⟨s, q, rfl, ws, h6⟩ := Sh.reads_int h5
  obtain rfl := Sh.reads_unit h6
  exact ⟨b, r, d, m, s, by rw [agg_of_list e], wb, wr, wd, wm, ws⟩

set_option maxHeartbeats 1000000 in
theorem ShapeRight_walk (v0 v1 : Value) (w : World) (h0 : shCfg.Val w v0) (h1 : (Sh.int .i64).Val w v1) :
    Calls Try.prog 3 #[v0, v1] w fun e w' => e = .returned (.bool true) ∧ Below w.heap.size w w' := by
  obtain ⟨b, r, d, m, s, rfl, wb, wr, wd, wm, ws⟩ := valCfg h0
  obtain ⟨l, rfl, wl⟩ := Sh.val_int h1
  clear h0 h1 wb wr wd wm ws wl
  go_enter Try.func3, Try.ntmps3
  go_wp2_with fail
  refine (shown07 _).mono ?_; rintro e w1 ⟨rfl, hb'⟩
  obtain ⟨hk, hbel⟩ := box_kept hb'
  clear hb'
  go_wp2_with fail
  refine wp_region_held_drew (S := fun w' => Blk w' w.heap.size 24 #[.int .i64 b, .int .i64 r, .int .i64 d, .int .i64 m, .int .u64 s] ∧ Below w.heap.size w w') (by kernel_rfl) (by exact ⟨hk.drew, hbel.drew⟩) (fun hHeld => ?_)
  refine wpAnyH_take (i := 0) (v := ?_) rfl (by kernel_rfl) (by kernel_rfl) (by kernel_rfl) (fun _ _ _ h => h) (Or.inl ⟨by rfl, ?_⟩) (by assumption) ?_
  rotate_left
  · intro w hSw
    try dsimp only at hSw
    go_simp
    try with_reducible rfl
  simp only [Act.put, List.setIfInBounds_toArray, List.set_cons_zero, List.set_cons_succ, List.getElem_toArray, List.getElem_cons_zero, List.getElem_cons_succ]
  refine wpAnyH_take (i := 1) (v := ?_) rfl (by kernel_rfl) (by kernel_rfl) (by kernel_rfl) (fun _ _ _ h => h) (Or.inl ⟨by rfl, ?_⟩) (by assumption) ?_
  rotate_left
  · intro w hSw
    try dsimp only at hSw
    go_simp
    try with_reducible rfl
  simp only [Act.put, List.setIfInBounds_toArray, List.set_cons_zero, List.set_cons_succ, List.getElem_toArray, List.getElem_cons_zero, List.getElem_cons_succ]
  refine wpAnyH_take (i := 2) (v := ?_) rfl (by kernel_rfl) (by kernel_rfl) (by kernel_rfl) (fun _ _ _ h => h) (Or.inl ⟨by rfl, ?_⟩) (by assumption) ?_
  rotate_left
  · intro w hSw
    obtain ⟨q0, q1, q2, q3, q4⟩ := box_cells hSw.1
    go_simp
    try with_reducible rfl
  simp only [Act.put, List.setIfInBounds_toArray, List.set_cons_zero, List.set_cons_succ, List.getElem_toArray, List.getElem_cons_zero, List.getElem_cons_succ]
  refine wpAnyH_take (i := 4) (v := ?_) rfl (by kernel_rfl) (by kernel_rfl) (by kernel_rfl) (fun _ _ _ h => h) (Or.inl ⟨by rfl, ?_⟩) (by assumption) ?_
  rotate_left
  · intro w hSw
    obtain ⟨q0, q1, q2, q3, q4⟩ := box_cells hSw.1
    go_simp
    try with_reducible rfl
  simp only [Act.put, List.setIfInBounds_toArray, List.set_cons_zero, List.set_cons_succ, List.getElem_toArray, List.getElem_cons_zero, List.getElem_cons_succ]
  refine wpAnyH_ready (rs := [3]) (by kernel_rfl) (by simp) ?_
  refine AllReadyH.cons rfl (fun K hK => ?_) AllReadyH.nil
  go_simp
  go_wp2_with (first
      | (go_at_call 16; refine (right_any _ _ _ _ _ _).mono ?_; rintro e w' ⟨rfl, hb'⟩)
      | (go_at_call 17; refine (rright_any _ _ _ _ _ _).mono ?_; rintro e w' ⟨rfl, hb'⟩)
      | (go_at_call 18; refine (keys_any _ _ _ _ _ _ _).mono ?_; rintro e w' ⟨rfl, hb'⟩)
      | (go_at_call 19; refine (rkeys_any _ _ _ _ _ _ _).mono ?_; rintro e w' ⟨rfl, hb'⟩)
      | (go_at_call 20; refine (exact_any _ _ _ _ _ _ _).mono ?_; rintro e w' ⟨rfl, hb'⟩)
      | (go_at_call 21; refine (rexact_any _ _ _ _ _ _ _).mono ?_; rintro e w' ⟨rfl, hb'⟩))
  refine hK.out _ _ ?_ (fun hHeld => ?_)
  · first | assumption | exact ⟨hHeld.1.kept hb', hHeld.2.trans (hb'.mono (by have := hHeld.2.size; omega))⟩
  clear hK K
  refine wpAnyH_ready (rs := [5]) (by kernel_rfl) (by simp) ?_
  refine AllReadyH.cons rfl (fun K hK => ?_) AllReadyH.nil
  go_simp
  go_wp2_with (first
      | (go_at_call 16; refine (right_any _ _ _ _ _ _).mono ?_; rintro e w' ⟨rfl, hb'⟩)
      | (go_at_call 17; refine (rright_any _ _ _ _ _ _).mono ?_; rintro e w' ⟨rfl, hb'⟩)
      | (go_at_call 18; refine (keys_any _ _ _ _ _ _ _).mono ?_; rintro e w' ⟨rfl, hb'⟩)
      | (go_at_call 19; refine (rkeys_any _ _ _ _ _ _ _).mono ?_; rintro e w' ⟨rfl, hb'⟩)
      | (go_at_call 20; refine (exact_any _ _ _ _ _ _ _).mono ?_; rintro e w' ⟨rfl, hb'⟩)
      | (go_at_call 21; refine (rexact_any _ _ _ _ _ _ _).mono ?_; rintro e w' ⟨rfl, hb'⟩))
  refine hK.out _ _ ?_ (fun hHeld => ?_)
  · first | assumption | exact ⟨hHeld.1.kept hb', hHeld.2.trans (hb'.mono (by have := hHeld.2.size; omega))⟩
  clear hK K
  refine wpAnyH_take (i := 6) (v := ?_) rfl (by kernel_rfl) (by kernel_rfl) (by kernel_rfl) (fun _ _ _ h => h) (Or.inl ⟨by rfl, ?_⟩) (by assumption) ?_
  rotate_left
  · intro w hSw
    try dsimp only at hSw
    go_simp
    try with_reducible rfl
  simp only [Act.put, List.setIfInBounds_toArray, List.set_cons_zero, List.set_cons_succ, List.getElem_toArray, List.getElem_cons_zero, List.getElem_cons_succ]
  refine wpAnyH_take (i := 7) (v := ?_) rfl (by kernel_rfl) (by kernel_rfl) (by kernel_rfl) (fun _ _ _ h => h) (Or.inl ⟨by rfl, ?_⟩) (by assumption) ?_
  rotate_left
  · intro w hSw
    try dsimp only at hSw
    go_simp
    try with_reducible rfl
  simp only [Act.put, List.setIfInBounds_toArray, List.set_cons_zero, List.set_cons_succ, List.getElem_toArray, List.getElem_cons_zero, List.getElem_cons_succ]
  refine wpAnyH_take (i := 8) (v := ?_) rfl (by kernel_rfl) (by kernel_rfl) (by kernel_rfl) (fun _ _ _ h => h) (Or.inl ⟨by rfl, ?_⟩) (by assumption) ?_
  rotate_left
  · intro w hSw
    try dsimp only at hSw
    go_simp
    try with_reducible rfl
  simp only [Act.put, List.setIfInBounds_toArray, List.set_cons_zero, List.set_cons_succ, List.getElem_toArray, List.getElem_cons_zero, List.getElem_cons_succ]
  refine wpAnyH_take (i := 9) (v := ?_) rfl (by kernel_rfl) (by kernel_rfl) (by kernel_rfl) (fun _ _ _ h => h) (Or.inl ⟨by rfl, ?_⟩) (by assumption) ?_
  rotate_left
  · intro w hSw
    obtain ⟨q0, q1, q2, q3, q4⟩ := box_cells hSw.1
    go_simp
    try with_reducible rfl
  simp only [Act.put, List.setIfInBounds_toArray, List.set_cons_zero, List.set_cons_succ, List.getElem_toArray, List.getElem_cons_zero, List.getElem_cons_succ]
  refine wpAnyH_take (i := 10) (v := ?_) rfl (by kernel_rfl) (by kernel_rfl) (by kernel_rfl) (fun _ _ _ h => h) (Or.inl ⟨by rfl, ?_⟩) (by assumption) ?_
  rotate_left
  · intro w hSw
    try dsimp only at hSw
    go_simp
    try with_reducible rfl
  simp only [Act.put, List.setIfInBounds_toArray, List.set_cons_zero, List.set_cons_succ, List.getElem_toArray, List.getElem_cons_zero, List.getElem_cons_succ]
  refine wpAnyH_take (i := 12) (v := ?_) rfl (by kernel_rfl) (by kernel_rfl) (by kernel_rfl) (fun _ _ _ h => h) (Or.inl ⟨by rfl, ?_⟩) (by assumption) ?_
  rotate_left
  · intro w hSw
    obtain ⟨q0, q1, q2, q3, q4⟩ := box_cells hSw.1
    go_simp
    try with_reducible rfl
  simp only [Act.put, List.setIfInBounds_toArray, List.set_cons_zero, List.set_cons_succ, List.getElem_toArray, List.getElem_cons_zero, List.getElem_cons_succ]
  refine wpAnyH_take (i := 13) (v := ?_) rfl (by kernel_rfl) (by kernel_rfl) (by kernel_rfl) (fun _ _ _ h => h) (Or.inl ⟨by rfl, ?_⟩) (by assumption) ?_
  rotate_left
  · intro w hSw
    try dsimp only at hSw
    go_simp
    try with_reducible rfl
  simp only [Act.put, List.setIfInBounds_toArray, List.set_cons_zero, List.set_cons_succ, List.getElem_toArray, List.getElem_cons_zero, List.getElem_cons_succ]
  refine wpAnyH_ready (rs := [11]) (by kernel_rfl) (by simp) ?_
  refine AllReadyH.cons rfl (fun K hK => ?_) AllReadyH.nil
  go_simp
  go_wp2_with (first
      | (go_at_call 16; refine (right_any _ _ _ _ _ _).mono ?_; rintro e w' ⟨rfl, hb'⟩)
      | (go_at_call 17; refine (rright_any _ _ _ _ _ _).mono ?_; rintro e w' ⟨rfl, hb'⟩)
      | (go_at_call 18; refine (keys_any _ _ _ _ _ _ _).mono ?_; rintro e w' ⟨rfl, hb'⟩)
      | (go_at_call 19; refine (rkeys_any _ _ _ _ _ _ _).mono ?_; rintro e w' ⟨rfl, hb'⟩)
      | (go_at_call 20; refine (exact_any _ _ _ _ _ _ _).mono ?_; rintro e w' ⟨rfl, hb'⟩)
      | (go_at_call 21; refine (rexact_any _ _ _ _ _ _ _).mono ?_; rintro e w' ⟨rfl, hb'⟩))
  refine hK.out _ _ ?_ (fun hHeld => ?_)
  · first | assumption | exact ⟨hHeld.1.kept hb', hHeld.2.trans (hb'.mono (by have := hHeld.2.size; omega))⟩
  clear hK K
  refine wpAnyH_ready (rs := [14]) (by kernel_rfl) (by simp) ?_
  refine AllReadyH.cons rfl (fun K hK => ?_) AllReadyH.nil
  go_simp
  go_wp2_with (first
      | (go_at_call 16; refine (right_any _ _ _ _ _ _).mono ?_; rintro e w' ⟨rfl, hb'⟩)
      | (go_at_call 17; refine (rright_any _ _ _ _ _ _).mono ?_; rintro e w' ⟨rfl, hb'⟩)
      | (go_at_call 18; refine (keys_any _ _ _ _ _ _ _).mono ?_; rintro e w' ⟨rfl, hb'⟩)
      | (go_at_call 19; refine (rkeys_any _ _ _ _ _ _ _).mono ?_; rintro e w' ⟨rfl, hb'⟩)
      | (go_at_call 20; refine (exact_any _ _ _ _ _ _ _).mono ?_; rintro e w' ⟨rfl, hb'⟩)
      | (go_at_call 21; refine (rexact_any _ _ _ _ _ _ _).mono ?_; rintro e w' ⟨rfl, hb'⟩))
  refine hK.out _ _ ?_ (fun hHeld => ?_)
  · first | assumption | exact ⟨hHeld.1.kept hb', hHeld.2.trans (hb'.mono (by have := hHeld.2.size; omega))⟩
  clear hK K
  refine wpAnyH_take (i := 15) (v := ?_) rfl (by kernel_rfl) (by kernel_rfl) (by kernel_rfl) (fun _ _ _ h => h) (Or.inl ⟨by rfl, ?_⟩) (by assumption) ?_
  rotate_left
  · intro w hSw
    try dsimp only at hSw
    go_simp
    try with_reducible rfl
  simp only [Act.put, List.setIfInBounds_toArray, List.set_cons_zero, List.set_cons_succ, List.getElem_toArray, List.getElem_cons_zero, List.getElem_cons_succ]
  refine wpAnyH_take (i := 16) (v := ?_) rfl (by kernel_rfl) (by kernel_rfl) (by kernel_rfl) (fun _ _ _ h => h) (Or.inl ⟨by rfl, ?_⟩) (by assumption) ?_
  rotate_left
  · intro w hSw
    try dsimp only at hSw
    go_simp
    try with_reducible rfl
  simp only [Act.put, List.setIfInBounds_toArray, List.set_cons_zero, List.set_cons_succ, List.getElem_toArray, List.getElem_cons_zero, List.getElem_cons_succ]
  refine wpAnyH_take (i := 17) (v := ?_) rfl (by kernel_rfl) (by kernel_rfl) (by kernel_rfl) (fun _ _ _ h => h) (Or.inl ⟨by rfl, ?_⟩) (by assumption) ?_
  rotate_left
  · intro w hSw
    try dsimp only at hSw
    go_simp
    try with_reducible rfl
  simp only [Act.put, List.setIfInBounds_toArray, List.set_cons_zero, List.set_cons_succ, List.getElem_toArray, List.getElem_cons_zero, List.getElem_cons_succ]
  refine wpAnyH_take (i := 18) (v := ?_) rfl (by kernel_rfl) (by kernel_rfl) (by kernel_rfl) (fun _ _ _ h => h) (Or.inl ⟨by rfl, ?_⟩) (by assumption) ?_
  rotate_left
  · intro w hSw
    obtain ⟨q0, q1, q2, q3, q4⟩ := box_cells hSw.1
    go_simp
    try with_reducible rfl
  simp only [Act.put, List.setIfInBounds_toArray, List.set_cons_zero, List.set_cons_succ, List.getElem_toArray, List.getElem_cons_zero, List.getElem_cons_succ]
  refine wpAnyH_take (i := 19) (v := ?_) rfl (by kernel_rfl) (by kernel_rfl) (by kernel_rfl) (fun _ _ _ h => h) (Or.inl ⟨by rfl, ?_⟩) (by assumption) ?_
  rotate_left
  · intro w hSw
    try dsimp only at hSw
    go_simp
    try with_reducible rfl
  simp only [Act.put, List.setIfInBounds_toArray, List.set_cons_zero, List.set_cons_succ, List.getElem_toArray, List.getElem_cons_zero, List.getElem_cons_succ]
  refine wpAnyH_take (i := 21) (v := ?_) rfl (by kernel_rfl) (by kernel_rfl) (by kernel_rfl) (fun _ _ _ h => h) (Or.inl ⟨by rfl, ?_⟩) (by assumption) ?_
  rotate_left
  · intro w hSw
    obtain ⟨q0, q1, q2, q3, q4⟩ := box_cells hSw.1
    go_simp
    try with_reducible rfl
  simp only [Act.put, List.setIfInBounds_toArray, List.set_cons_zero, List.set_cons_succ, List.getElem_toArray, List.getElem_cons_zero, List.getElem_cons_succ]
  refine wpAnyH_take (i := 22) (v := ?_) rfl (by kernel_rfl) (by kernel_rfl) (by kernel_rfl) (fun _ _ _ h => h) (Or.inl ⟨by rfl, ?_⟩) (by assumption) ?_
  rotate_left
  · intro w hSw
    try dsimp only at hSw
    go_simp
    try with_reducible rfl
  simp only [Act.put, List.setIfInBounds_toArray, List.set_cons_zero, List.set_cons_succ, List.getElem_toArray, List.getElem_cons_zero, List.getElem_cons_succ]
  refine wpAnyH_ready (rs := [20]) (by kernel_rfl) (by simp) ?_
  refine AllReadyH.cons rfl (fun K hK => ?_) AllReadyH.nil
  go_simp
  go_wp2_with (first
      | (go_at_call 16; refine (right_any _ _ _ _ _ _).mono ?_; rintro e w' ⟨rfl, hb'⟩)
      | (go_at_call 17; refine (rright_any _ _ _ _ _ _).mono ?_; rintro e w' ⟨rfl, hb'⟩)
      | (go_at_call 18; refine (keys_any _ _ _ _ _ _ _).mono ?_; rintro e w' ⟨rfl, hb'⟩)
      | (go_at_call 19; refine (rkeys_any _ _ _ _ _ _ _).mono ?_; rintro e w' ⟨rfl, hb'⟩)
      | (go_at_call 20; refine (exact_any _ _ _ _ _ _ _).mono ?_; rintro e w' ⟨rfl, hb'⟩)
      | (go_at_call 21; refine (rexact_any _ _ _ _ _ _ _).mono ?_; rintro e w' ⟨rfl, hb'⟩))
  refine hK.out _ _ ?_ (fun hHeld => ?_)
  · first | assumption | exact ⟨hHeld.1.kept hb', hHeld.2.trans (hb'.mono (by have := hHeld.2.size; omega))⟩
  clear hK K
  refine wpAnyH_ready (rs := [23]) (by kernel_rfl) (by simp) ?_
  refine AllReadyH.cons rfl (fun K hK => ?_) AllReadyH.nil
  go_simp
  go_wp2_with (first
      | (go_at_call 16; refine (right_any _ _ _ _ _ _).mono ?_; rintro e w' ⟨rfl, hb'⟩)
      | (go_at_call 17; refine (rright_any _ _ _ _ _ _).mono ?_; rintro e w' ⟨rfl, hb'⟩)
      | (go_at_call 18; refine (keys_any _ _ _ _ _ _ _).mono ?_; rintro e w' ⟨rfl, hb'⟩)
      | (go_at_call 19; refine (rkeys_any _ _ _ _ _ _ _).mono ?_; rintro e w' ⟨rfl, hb'⟩)
      | (go_at_call 20; refine (exact_any _ _ _ _ _ _ _).mono ?_; rintro e w' ⟨rfl, hb'⟩)
      | (go_at_call 21; refine (rexact_any _ _ _ _ _ _ _).mono ?_; rintro e w' ⟨rfl, hb'⟩))
  refine hK.out _ _ ?_ (fun hHeld => ?_)
  · first | assumption | exact ⟨hHeld.1.kept hb', hHeld.2.trans (hb'.mono (by have := hHeld.2.size; omega))⟩
  clear hK K
  refine wpAnyH_take (i := 24) (v := ?_) rfl (by kernel_rfl) (by kernel_rfl) (by kernel_rfl) (fun _ _ _ h => h) (Or.inl ⟨by rfl, ?_⟩) (by assumption) ?_
  rotate_left
  · intro w hSw
    try dsimp only at hSw
    go_simp
    try with_reducible rfl
  simp only [Act.put, List.setIfInBounds_toArray, List.set_cons_zero, List.set_cons_succ, List.getElem_toArray, List.getElem_cons_zero, List.getElem_cons_succ]
  refine wpAnyH_take (i := 25) (v := ?_) rfl (by kernel_rfl) (by kernel_rfl) (by kernel_rfl) (fun _ _ _ h => h) (Or.inl ⟨by rfl, ?_⟩) (by assumption) ?_
  rotate_left
  · intro w hSw
    try dsimp only at hSw
    go_simp
    try with_reducible rfl
  simp only [Act.put, List.setIfInBounds_toArray, List.set_cons_zero, List.set_cons_succ, List.getElem_toArray, List.getElem_cons_zero, List.getElem_cons_succ]
  refine wpAnyH_take (i := 26) (v := ?_) rfl (by kernel_rfl) (by kernel_rfl) (by kernel_rfl) (fun _ _ _ h => h) (Or.inl ⟨by rfl, ?_⟩) (by assumption) ?_
  rotate_left
  · intro w hSw
    try dsimp only at hSw
    go_simp
    try with_reducible rfl
  simp only [Act.put, List.setIfInBounds_toArray, List.set_cons_zero, List.set_cons_succ, List.getElem_toArray, List.getElem_cons_zero, List.getElem_cons_succ]
  refine wpAnyH_done (by kernel_rfl) ?_ _
  have HB := Lib.hid hHeld.2
  go_wp2
  go_ret
  exact ⟨rfl, HB.out⟩

def anyI (x n : Int) : Int := 1 + x % 65536 % n
theorem anyI_bd (x n : Int) (h : 1 ≤ n) : 1 ≤ anyI x n ∧ anyI x n ≤ n := by
  unfold anyI
  have h1 := Int.emod_nonneg (x % 65536) (show n ≠ 0 by omega)
  have h2 := Int.emod_lt_of_pos (x % 65536) (show 0 < n by omega)
  omega
theorem and16 (n : Int) : bits BinOp.and IntKind.i64 n 65535 = n % 65536 := by
  have h16 : (BitVec.ofInt 64 65535).toNat = 2 ^ 16 - 1 := by decide
  have key : (BitVec.ofInt 64 n &&& BitVec.ofInt 64 65535).toNat = (n % ((2 ^ 64 : Nat) : Int)).toNat % 2 ^ 16 := by
    rw [BitVec.toNat_and, BitVec.toNat_ofInt, h16, Nat.and_two_pow_sub_one_eq_mod]
  show IntKind.i64.wrap ((BitVec.ofInt 64 n &&& BitVec.ofInt 64 65535).toNat : Nat) = n % 65536
  rw [key, IntKind.wrap_i64]
  omega

set_option maxRecDepth 100000 in
set_option maxHeartbeats 1000000 in
theorem any_any (b r d m s p q : Int) (p0 : 1 ≤ p) (p1 : p ≤ 59) (q0 : 1 ≤ q) (q1 : q ≤ 128) (w : World) :
    Calls Try.prog 27 #[.agg #[.int .i64 b, .int .i64 r, .int .i64 d, .int .i64 m, .int .u64 s], .int .i64 p, .int .i64 q] w fun e w' =>
      e = .returned (.agg #[.int .i64 (anyI b p), .int .i64 (anyI r 4), .int .i64 (anyI d q), .int .i64 (anyI m 3), .int .u64 s]) ∧ Below w.heap.size w w' := by
  have e1 := and16 b
  have e2 := and16 r
  have e3 := and16 d
  have e4 := and16 m
  have z1 := Int.emod_nonneg (b % 65536) (show p ≠ 0 by omega)
  have z2 := Int.emod_lt_of_pos (b % 65536) (show 0 < p by omega)
  have z3 := Int.emod_nonneg (d % 65536) (show q ≠ 0 by omega)
  have z4 := Int.emod_lt_of_pos (d % 65536) (show 0 < q by omega)
  have y1 : (p == 0) = false := by simp; omega
  have y2 : (q == 0) = false := by simp; omega
  have t1 : (b % 65536).tmod p = b % 65536 % p := Int.tmod_eq_emod_of_nonneg (by omega)
  have t2 : (r % 65536).tmod 4 = r % 65536 % 4 := Int.tmod_eq_emod_of_nonneg (by omega)
  have t3 : (d % 65536).tmod q = d % 65536 % q := Int.tmod_eq_emod_of_nonneg (by omega)
  have t4 : (m % 65536).tmod 3 = m % 65536 % 3 := Int.tmod_eq_emod_of_nonneg (by omega)
  have u1 : IntKind.i64.wrap (b % 65536 % p) = b % 65536 % p := IntWalk.i64_in _ (by omega)
  have u2 : IntKind.i64.wrap (r % 65536 % 4) = r % 65536 % 4 := IntWalk.i64_in _ (by omega)
  have u3 : IntKind.i64.wrap (d % 65536 % q) = d % 65536 % q := IntWalk.i64_in _ (by omega)
  have u4 : IntKind.i64.wrap (m % 65536 % 3) = m % 65536 % 3 := IntWalk.i64_in _ (by omega)
  have v1 : IntKind.i64.wrap (1 + b % 65536 % p) = 1 + b % 65536 % p := IntWalk.i64_in _ (by omega)
  have v2 : IntKind.i64.wrap (1 + r % 65536 % 4) = 1 + r % 65536 % 4 := IntWalk.i64_in _ (by omega)
  have v3 : IntKind.i64.wrap (1 + d % 65536 % q) = 1 + d % 65536 % q := IntWalk.i64_in _ (by omega)
  have v4 : IntKind.i64.wrap (1 + m % 65536 % 3) = 1 + m % 65536 % 3 := IntWalk.i64_in _ (by omega)
  have p0' : ¬ p = 0 := by omega
  have q0' : ¬ q = 0 := by omega
  go_enter Try.func27, Try.ntmps27
  go_wp2_with fail
  have hk : Blk ((w.alloc (.cells #[.int .i64 b, .int .i64 r, .int .i64 d, .int .i64 m, .int .u64 s] 24)).alloc (.cells #[.int .i64 0, .int .i64 0, .int .i64 0, .int .i64 0, .int .u64 0] 24)) w.heap.size 24 #[.int .i64 b, .int .i64 r, .int .i64 d, .int .i64 m, .int .u64 s] := (Blk.new _ _ _).alloc _
  have hn : Blk ((w.alloc (.cells #[.int .i64 b, .int .i64 r, .int .i64 d, .int .i64 m, .int .u64 s] 24)).alloc (.cells #[.int .i64 0, .int .i64 0, .int .i64 0, .int .i64 0, .int .u64 0] 24)) (w.heap.size + 1) 24 #[.int .i64 0, .int .i64 0, .int .i64 0, .int .i64 0, .int .u64 0] := by
    have := Blk.new (w.alloc (.cells #[.int .i64 b, .int .i64 r, .int .i64 d, .int .i64 m, .int .u64 s] 24)) 24 #[.int .i64 0, .int .i64 0, .int .i64 0, .int .i64 0, .int .u64 0]
    simpa using this
  have hbel : Below w.heap.size w ((w.alloc (.cells #[.int .i64 b, .int .i64 r, .int .i64 d, .int .i64 m, .int .u64 s] 24)).alloc (.cells #[.int .i64 0, .int .i64 0, .int .i64 0, .int .i64 0, .int .u64 0] 24)) := ((Below.refl _ _).alloc (Nat.le_refl _) _).alloc (by simp) _
  generalize ((w.alloc (.cells #[.int .i64 b, .int .i64 r, .int .i64 d, .int .i64 m, .int .u64 s] 24)).alloc (.cells #[.int .i64 0, .int .i64 0, .int .i64 0, .int .i64 0, .int .u64 0] 24)) = wz at *
  refine wp_region_still_tail 25 (by kernel_rfl) (by kernel_rfl) ?_
  simp only [List.take_succ_cons, List.take_zero, List.drop_succ_cons, List.drop_zero]
  replace hk := hk.drew
  replace hn := hn.drew
  replace hbel := hbel.drew
  change Blk { heap := wz.heap, tape := wz.tape, drawn := wz.drawn + 1, os := wz.os, output := wz.output } _ _ _ at hk
  change Blk { heap := wz.heap, tape := wz.tape, drawn := wz.drawn + 1, os := wz.os, output := wz.output } _ _ _ at hn
  change Below _ _ { heap := wz.heap, tape := wz.tape, drawn := wz.drawn + 1, os := wz.os, output := wz.output } at hbel
  generalize ({ heap := wz.heap, tape := wz.tape, drawn := wz.drawn + 1, os := wz.os, output := wz.output } : World) = wd at *
  obtain ⟨c0, c1, c2, c3, c4⟩ := box_cells hk
  repeat still_step
  refine wpStill_nil ?_
  obtain ⟨n0, n1, n2, n3, n4⟩ := box_cells hn
  have f0 := hn.frozen 0
  have f1 := hn.frozen 1
  have f2 := hn.frozen 2
  have f3 := hn.frozen 3
  have f4 := hn.frozen 4
  generalize hG : w.heap.size + 1 = G at *
  go_wp2
  refine bodyPost_ret (v := .agg #[.int .i64 (anyI b p), .int .i64 (anyI r 4), .int .i64 (anyI d q), .int .i64 (anyI m 3), .int .u64 s]) (by simp [results, Try.results27, go_sem, n0, n1, n2, n3, n4]; exact ⟨rfl, by unfold anyI; omega, rfl, rfl⟩) rfl ⟨rfl, ?_⟩
  have hlow : w.heap.size ≤ G := by omega
  exact ((((hbel.setCell hlow _).setCell hlow _).setCell hlow _).setCell hlow _).setCell hlow _
end Go.Proofs.Ytfjhecgicemoeaa
