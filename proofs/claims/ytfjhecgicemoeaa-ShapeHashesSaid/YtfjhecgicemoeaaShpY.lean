/-
  The walks of statements of layer 7: ShapeWrong and ShapeHalves return true. Conditions: the arguments are of their types.
-/
import Derived.Test.YtfjhecgicemoeaaShpZ
namespace Go.Proofs.Ytfjhecgicemoeaa
open Go.RowKit Go.ChangeShapes Go.WideShapes Go.ChangeAt
set_option linter.unusedVariables false
set_option linter.unusedSimpArgs false

theorem wrong_keys {b r d m : Int} (h : rightB b r d m = false) (l : Int) : keysI b r d m l = 0 := keysI_no (fun k => by rw [h] at k; exact absurd k.1 (by decide))
theorem wrong_exact {b r d m : Int} (h : rightB b r d m = false) (l : Int) : exactB b r d m l = false := decide_eq_false (fun k => by rw [wrong_keys h] at k; omega)
theorem wrong_above {b r d m : Int} (h : rightB b r d m = false) (l k : Int) : aboveB b r d m l k = false := decide_eq_false (fun q => q.1 (wrong_keys h l))
theorem wrong_aboveI {b r d m : Int} (h : rightB b r d m = false) (l k : Int) : aboveI b r d m l k = 0 := by unfold aboveI; rw [wrong_above h]; rfl

theorem ShapeWrong_walk (v0 v1 v2 : Value) (w : World) (h0 : shCfg.Val w v0) (h1 : (Sh.int .i64).Val w v1) (h2 : (Sh.int .u64).Val w v2) :
    Calls Try.prog 8 #[v0, v1, v2] w fun e w' => e = .returned (.bool true) ∧ Below w.heap.size w w' := by
  obtain ⟨b, r, d, m, s, rfl, wb, wr, wd, wm, ws⟩ := valCfg h0
  obtain ⟨l, rfl, wl⟩ := Sh.val_int h1
  obtain ⟨k, rfl, wk⟩ := Sh.val_int h2
  obtain ⟨k0, k1⟩ := bounds_u64 wk
  clear h0 h1 h2 wb wr wd wm ws wl wk
  cases hr : rightB b r d m
  · have f1 : aboveI b r d m l k = 0 := wrong_aboveI hr l k
    have f2 : aboveB b r d m l k = false := wrong_above hr l k
    have f3 : keysI b r d m l = 0 := wrong_keys hr l
    have f4 : exactB b r d m l = false := wrong_exact hr l
    have f5 : Hid (¬ k < keysI b r d m l) := Lib.hid (by omega)
    go_enter Try.func8, Try.ntmps8
    go_wp2_with fail
    refine (shown07 _).mono ?_; rintro e w1 ⟨rfl, hb'⟩
    obtain ⟨hk, hbel⟩ := box_kept hb'
    clear hb'
    obtain ⟨q0, q1, q2, q3, q4⟩ := box_cells hk
    go_wp2_with fail
    refine (rright_any b r d m s _).mono ?_; rintro e w2 ⟨rfl, hb'⟩
    rw [hr]
    replace hk := hk.kept hb'; clear q0 q1 q2 q3 q4; obtain ⟨q0, q1, q2, q3, q4⟩ := box_cells hk; replace hbel := btr hbel hb'; clear hb'
    go_wp2_with fail
    refine (above_any b r d m s l k k0 k1 _).mono ?_; rintro e w2 ⟨rfl, hb'⟩
    replace hk := hk.kept hb'; clear q0 q1 q2 q3 q4; obtain ⟨q0, q1, q2, q3, q4⟩ := box_cells hk; replace hbel := btr hbel hb'; clear hb'
    go_wp2_with fail
    refine (keys_any b r d m s l _).mono ?_; rintro e w2 ⟨rfl, hb'⟩
    replace hk := hk.kept hb'; clear q0 q1 q2 q3 q4; obtain ⟨q0, q1, q2, q3, q4⟩ := box_cells hk; replace hbel := btr hbel hb'; clear hb'
    go_wp2_with fail
    refine (exact_any b r d m s l _).mono ?_; rintro e w2 ⟨rfl, hb'⟩
    replace hk := hk.kept hb'; clear q0 q1 q2 q3 q4; obtain ⟨q0, q1, q2, q3, q4⟩ := box_cells hk; replace hbel := btr hbel hb'; clear hb'
    go_wp2_with fail
    refine (cols_none b r d m s l k (by have := f5.out; omega) _).mono ?_; rintro e w2 ⟨rfl, hb'⟩
    replace hbel := btr hbel hb'; clear hb'
    go_wp2_with fail
    go_ret
    exact ⟨rfl, hbel⟩
  · go_enter Try.func8, Try.ntmps8
    go_wp2_with fail
    refine (shown07 _).mono ?_; rintro e w1 ⟨rfl, hb'⟩
    obtain ⟨hk, hbel⟩ := box_kept hb'
    clear hb'
    obtain ⟨q0, q1, q2, q3, q4⟩ := box_cells hk
    go_wp2_with fail
    refine (rright_any b r d m s _).mono ?_; rintro e w2 ⟨rfl, hb'⟩
    rw [hr]
    replace hbel := btr hbel hb'; clear hb'
    go_wp2
    go_ret
    exact ⟨rfl, hbel⟩

theorem pow_half (n : Nat) : (2 : Int) ^ (n + 1) = 2 * 2 ^ n := by rw [Int.pow_succ, Int.mul_comm]
theorem keys_half {b r d m l : Int} (hr : rightB b r d m = true) (h0 : 0 ≤ l) (h1 : l < b) : keysI b r d m l = 2 * keysI b r d m (l + 1) := by
  rw [keysI_yes hr h0 (by omega), keysI_yes hr (by omega) (by omega), ← pow_half]
  congr 1; omega
theorem keys_top {b r d m : Int} (hr : rightB b r d m = true) : keysI b r d m b = 1 := by
  have := right_of hr
  rw [keysI_yes hr (by omega) (by omega), show (b - b).toNat = 0 by omega]; rfl
theorem exact_top {b r d m : Int} (hr : rightB b r d m = true) : exactB b r d m b = true := by
  have := right_of hr
  exact decide_eq_true ⟨by rw [keys_top hr]; omega, by rw [keys_top hr]; omega⟩
theorem exact_next {b r d m l : Int} (hr : rightB b r d m = true) (h0 : 0 ≤ l) (h1 : l < b) (h : exactB b r d m l = true) : exactB b r d m (l + 1) = true := by
  have hh := of_decide_eq_true h
  have := keys_half hr h0 h1
  exact decide_eq_true ⟨by omega, by omega⟩

set_option maxRecDepth 100000 in
set_option maxHeartbeats 2000000 in
theorem ShapeHalves_yes (b r d m s l L : Int) (w : World) (hex : exactB (anyI b 59) (anyI r 4) (anyI d 128) (anyI m 3) (l % 65536 % anyI b 59) = true) :
    Calls Try.prog 6 #[.agg #[.int .i64 b, .int .i64 r, .int .i64 d, .int .i64 m, .int .u64 s], .int .i64 l] w fun e w' => e = .returned (.bool true) ∧ Below w.heap.size w w' := by
  have a1 := anyI_bd b 59 (by omega)
  have a2 := anyI_bd r 4 (by omega)
  have a3 := anyI_bd d 128 (by omega)
  have a4 := anyI_bd m 3 (by omega)
  have el := and16 l
  go_enter Try.func6, Try.ntmps6
  go_wp2_with fail
  refine (shown07 _).mono ?_; rintro e w1 ⟨rfl, hb'⟩
  obtain ⟨hk, hbel⟩ := box_kept hb'
  clear hb'
  obtain ⟨q0, q1, q2, q3, q4⟩ := box_cells hk
  go_wp2_with fail
  refine (any_any b r d m s 59 128 (by omega) (by omega) (by omega) (by omega) _).mono ?_; rintro e w2 ⟨rfl, hb'⟩
  replace hbel := btr hbel hb'; clear hb' hk q0 q1 q2 q3 q4
  generalize anyI b 59 = B at *
  generalize anyI r 4 = R at *
  generalize anyI d 128 = D at *
  generalize anyI m 3 = M at *
  have hr : rightB B R D M = true := right_mk (by omega)
  have hl0 : 0 ≤ l % 65536 % B := Int.emod_nonneg _ (by omega)
  have hl1 : l % 65536 % B < B := Int.emod_lt_of_pos _ (by omega)
  go_upto_region 4 with fail
  have hk := Blk.new w2 24 #[.int .i64 B, .int .i64 R, .int .i64 D, .int .i64 M, .int .u64 s]
  replace hbel := hbel.alloc hbel.size (.cells #[.int .i64 B, .int .i64 R, .int .i64 D, .int .i64 M, .int .u64 s] 24)
  generalize (w2.alloc (.cells #[.int .i64 B, .int .i64 R, .int .i64 D, .int .i64 M, .int .u64 s] 24)) = w3 at *
  generalize w2.heap.size = G at *
  generalize l % 65536 % B = L at *
  have f1 : (keysI B R D M L == 2 * keysI B R D M (L + 1)) = true := by simp [keys_half hr hl0 hl1]
  have f2 : (keysI B R D M B == 1) = true := by simp [keys_top hr]
  have f3 := exact_top hr
  have f4 : (keysI B R D M (B + 1) == 0) = true := by rw [keysI_no (by omega)]; rfl
  have f5 : (keysI B R D M (-1) == 0) = true := by rw [keysI_no (by omega)]; rfl
  have f6 := exact_next hr hl0 hl1 hex
  have kb := keysI_bd B R D M (L + 1)
  have u1 : IntKind.u64.wrap (2 * keysI B R D M (L + 1)) = 2 * keysI B R D M (L + 1) := by rw [IntKind.wrap_u64]; omega
  have u2 : IntKind.i64.wrap (L + 1) = L + 1 := IntWalk.i64_in _ (by omega)
  have u3 : IntKind.i64.wrap (B + 1) = B + 1 := IntWalk.i64_in _ (by omega)
  clear kb hr
  refine wp_region_held_drew (S := fun w' => Blk w' G 24 #[.int .i64 B, .int .i64 R, .int .i64 D, .int .i64 M, .int .u64 s] ∧ Below w.heap.size w w') (by kernel_rfl) (by exact ⟨hk.drew, hbel.drew⟩) (fun hHeld => ?_)
  refine wpAnyH_take (i := 0) (v := ?_) rfl (by kernel_rfl) (by kernel_rfl) (by kernel_rfl) (fun _ _ _ h => h) (Or.inl ⟨by rfl, ?_⟩) (by assumption) ?_
  rotate_left
  · intro w hSw
    try dsimp only at hSw
    go_simp
    try with_reducible rfl
  simp only [Act.put, List.setIfInBounds_toArray, List.set_cons_zero, List.set_cons_succ, List.getElem_toArray, List.getElem_cons_zero, List.getElem_cons_succ]
  refine wpAnyH_take (i := 1) (v := ?_) rfl (by kernel_rfl) (by kernel_rfl) (by kernel_rfl) (fun _ _ _ h => h) (Or.inl ⟨by rfl, ?_⟩) (by assumption) ?_
  rotate_left
  · intro w hSw
    try dsimp only at hSw
    go_simp
    try with_reducible rfl
  simp only [Act.put, List.setIfInBounds_toArray, List.set_cons_zero, List.set_cons_succ, List.getElem_toArray, List.getElem_cons_zero, List.getElem_cons_succ]
  refine wpAnyH_take (i := 2) (v := ?_) rfl (by kernel_rfl) (by kernel_rfl) (by kernel_rfl) (fun _ _ _ h => h) (Or.inl ⟨by rfl, ?_⟩) (by assumption) ?_
  rotate_left
  · intro w hSw
    obtain ⟨q0, q1, q2, q3, q4⟩ := box_cells hSw.1
    go_simp
    try with_reducible rfl
  simp only [Act.put, List.setIfInBounds_toArray, List.set_cons_zero, List.set_cons_succ, List.getElem_toArray, List.getElem_cons_zero, List.getElem_cons_succ]
  refine wpAnyH_take (i := 3) (v := ?_) rfl (by kernel_rfl) (by kernel_rfl) (by kernel_rfl) (fun _ _ _ h => h) (Or.inl ⟨by rfl, ?_⟩) (by assumption) ?_
  rotate_left
  · intro w hSw
    try dsimp only at hSw
    go_simp
    try with_reducible rfl
  simp only [Act.put, List.setIfInBounds_toArray, List.set_cons_zero, List.set_cons_succ, List.getElem_toArray, List.getElem_cons_zero, List.getElem_cons_succ]
  refine wpAnyH_take (i := 5) (v := ?_) rfl (by kernel_rfl) (by kernel_rfl) (by kernel_rfl) (fun _ _ _ h => h) (Or.inl ⟨by rfl, ?_⟩) (by assumption) ?_
  rotate_left
  · intro w hSw
    obtain ⟨q0, q1, q2, q3, q4⟩ := box_cells hSw.1
    go_simp
    try with_reducible rfl
  simp only [Act.put, List.setIfInBounds_toArray, List.set_cons_zero, List.set_cons_succ, List.getElem_toArray, List.getElem_cons_zero, List.getElem_cons_succ]
  refine wpAnyH_take (i := 6) (v := ?_) rfl (by kernel_rfl) (by kernel_rfl) (by kernel_rfl) (fun _ _ _ h => h) (Or.inl ⟨by rfl, ?_⟩) (by assumption) ?_
  rotate_left
  · intro w hSw
    try dsimp only at hSw
    go_simp
    try with_reducible rfl
  simp only [Act.put, List.setIfInBounds_toArray, List.set_cons_zero, List.set_cons_succ, List.getElem_toArray, List.getElem_cons_zero, List.getElem_cons_succ]
  refine wpAnyH_take (i := 7) (v := ?_) rfl (by kernel_rfl) (by kernel_rfl) (by kernel_rfl) (fun _ _ _ h => h) (Or.inl ⟨by rfl, ?_⟩) (by assumption) ?_
  rotate_left
  · intro w hSw
    try dsimp only at hSw
    go_simp
    try with_reducible rfl
  simp only [Act.put, List.setIfInBounds_toArray, List.set_cons_zero, List.set_cons_succ, List.getElem_toArray, List.getElem_cons_zero, List.getElem_cons_succ]
  refine wpAnyH_ready (rs := [4]) (by kernel_rfl) (by simp) ?_
  refine AllReadyH.cons rfl (fun K hK => ?_) AllReadyH.nil
  go_simp
  go_wp2_with (first
      | (go_at_call 16; refine (right_any _ _ _ _ _ _).mono ?_; rintro e w' ⟨rfl, hb'⟩)
      | (go_at_call 17; refine (rright_any _ _ _ _ _ _).mono ?_; rintro e w' ⟨rfl, hb'⟩)
      | (go_at_call 18; refine (keys_any _ _ _ _ _ _ _).mono ?_; rintro e w' ⟨rfl, hb'⟩)
      | (go_at_call 19; refine (rkeys_any _ _ _ _ _ _ _).mono ?_; rintro e w' ⟨rfl, hb'⟩)
      | (go_at_call 20; refine (exact_any _ _ _ _ _ _ _).mono ?_; rintro e w' ⟨rfl, hb'⟩)
      | (go_at_call 21; refine (rexact_any _ _ _ _ _ _ _).mono ?_; rintro e w' ⟨rfl, hb'⟩))
  refine hK.out _ _ ?_ (fun hHeld => ?_)
  · first | assumption | exact ⟨hHeld.1.kept hb', hHeld.2.trans (hb'.mono (by have := hHeld.2.size; omega))⟩
  clear hK K
  refine wpAnyH_ready (rs := [8]) (by kernel_rfl) (by simp) ?_
  refine AllReadyH.cons rfl (fun K hK => ?_) AllReadyH.nil
  go_simp
  go_wp2_with (first
      | (go_at_call 16; refine (right_any _ _ _ _ _ _).mono ?_; rintro e w' ⟨rfl, hb'⟩)
      | (go_at_call 17; refine (rright_any _ _ _ _ _ _).mono ?_; rintro e w' ⟨rfl, hb'⟩)
      | (go_at_call 18; refine (keys_any _ _ _ _ _ _ _).mono ?_; rintro e w' ⟨rfl, hb'⟩)
      | (go_at_call 19; refine (rkeys_any _ _ _ _ _ _ _).mono ?_; rintro e w' ⟨rfl, hb'⟩)
      | (go_at_call 20; refine (exact_any _ _ _ _ _ _ _).mono ?_; rintro e w' ⟨rfl, hb'⟩)
      | (go_at_call 21; refine (rexact_any _ _ _ _ _ _ _).mono ?_; rintro e w' ⟨rfl, hb'⟩))
  refine hK.out _ _ ?_ (fun hHeld => ?_)
  · first | assumption | exact ⟨hHeld.1.kept hb', hHeld.2.trans (hb'.mono (by have := hHeld.2.size; omega))⟩
  clear hK K
  refine wpAnyH_take (i := 9) (v := ?_) rfl (by kernel_rfl) (by kernel_rfl) (by kernel_rfl) (fun _ _ _ h => h) (Or.inl ⟨by rfl, ?_⟩) (by assumption) ?_
  rotate_left
  · intro w hSw
    try dsimp only at hSw
    go_simp
    try with_reducible rfl
  simp only [Act.put, List.setIfInBounds_toArray, List.set_cons_zero, List.set_cons_succ, List.getElem_toArray, List.getElem_cons_zero, List.getElem_cons_succ]
  refine wpAnyH_take (i := 10) (v := ?_) rfl (by kernel_rfl) (by kernel_rfl) (by kernel_rfl) (fun _ _ _ h => h) (Or.inl ⟨by rfl, ?_⟩) (by assumption) ?_
  rotate_left
  · intro w hSw
    try dsimp only at hSw
    go_simp
    try with_reducible rfl
  simp only [Act.put, List.setIfInBounds_toArray, List.set_cons_zero, List.set_cons_succ, List.getElem_toArray, List.getElem_cons_zero, List.getElem_cons_succ]
  refine wpAnyH_take (i := 11) (v := ?_) rfl (by kernel_rfl) (by kernel_rfl) (by kernel_rfl) (fun _ _ _ h => h) (Or.inl ⟨by rfl, ?_⟩) (by assumption) ?_
  rotate_left
  · intro w hSw
    try dsimp only at hSw
    go_simp
    try with_reducible rfl
  simp only [Act.put, List.setIfInBounds_toArray, List.set_cons_zero, List.set_cons_succ, List.getElem_toArray, List.getElem_cons_zero, List.getElem_cons_succ]
  refine wpAnyH_take (i := 12) (v := ?_) rfl (by kernel_rfl) (by kernel_rfl) (by kernel_rfl) (fun _ _ _ h => h) (Or.inl ⟨by rfl, ?_⟩) (by assumption) ?_
  rotate_left
  · intro w hSw
    try dsimp only at hSw
    go_simp
    try with_reducible rfl
  simp only [Act.put, List.setIfInBounds_toArray, List.set_cons_zero, List.set_cons_succ, List.getElem_toArray, List.getElem_cons_zero, List.getElem_cons_succ]
  refine wpAnyH_take (i := 13) (v := ?_) rfl (by kernel_rfl) (by kernel_rfl) (by kernel_rfl) (fun _ _ _ h => h) (Or.inl ⟨by rfl, ?_⟩) (by assumption) ?_
  rotate_left
  · intro w hSw
    obtain ⟨q0, q1, q2, q3, q4⟩ := box_cells hSw.1
    go_simp
    try with_reducible rfl
  simp only [Act.put, List.setIfInBounds_toArray, List.set_cons_zero, List.set_cons_succ, List.getElem_toArray, List.getElem_cons_zero, List.getElem_cons_succ]
  refine wpAnyH_take (i := 14) (v := ?_) rfl (by kernel_rfl) (by kernel_rfl) (by kernel_rfl) (fun _ _ _ h => h) (Or.inl ⟨by rfl, ?_⟩) (by assumption) ?_
  rotate_left
  · intro w hSw
    try dsimp only at hSw
    go_simp
    try with_reducible rfl
  simp only [Act.put, List.setIfInBounds_toArray, List.set_cons_zero, List.set_cons_succ, List.getElem_toArray, List.getElem_cons_zero, List.getElem_cons_succ]
  refine wpAnyH_take (i := 15) (v := ?_) rfl (by kernel_rfl) (by kernel_rfl) (by kernel_rfl) (fun _ _ _ h => h) (Or.inl ⟨by rfl, ?_⟩) (by assumption) ?_
  rotate_left
  · intro w hSw
    obtain ⟨q0, q1, q2, q3, q4⟩ := box_cells hSw.1
    go_simp
    try with_reducible rfl
  simp only [Act.put, List.setIfInBounds_toArray, List.set_cons_zero, List.set_cons_succ, List.getElem_toArray, List.getElem_cons_zero, List.getElem_cons_succ]
  refine wpAnyH_ready (rs := [16]) (by kernel_rfl) (by simp) ?_
  refine AllReadyH.cons rfl (fun K hK => ?_) AllReadyH.nil
  go_simp
  go_wp2_with (first
      | (go_at_call 16; refine (right_any _ _ _ _ _ _).mono ?_; rintro e w' ⟨rfl, hb'⟩)
      | (go_at_call 17; refine (rright_any _ _ _ _ _ _).mono ?_; rintro e w' ⟨rfl, hb'⟩)
      | (go_at_call 18; refine (keys_any _ _ _ _ _ _ _).mono ?_; rintro e w' ⟨rfl, hb'⟩)
      | (go_at_call 19; refine (rkeys_any _ _ _ _ _ _ _).mono ?_; rintro e w' ⟨rfl, hb'⟩)
      | (go_at_call 20; refine (exact_any _ _ _ _ _ _ _).mono ?_; rintro e w' ⟨rfl, hb'⟩)
      | (go_at_call 21; refine (rexact_any _ _ _ _ _ _ _).mono ?_; rintro e w' ⟨rfl, hb'⟩))
  refine hK.out _ _ ?_ (fun hHeld => ?_)
  · first | assumption | exact ⟨hHeld.1.kept hb', hHeld.2.trans (hb'.mono (by have := hHeld.2.size; omega))⟩
  clear hK K
  refine wpAnyH_take (i := 17) (v := ?_) rfl (by kernel_rfl) (by kernel_rfl) (by kernel_rfl) (fun _ _ _ h => h) (Or.inl ⟨by rfl, ?_⟩) (by assumption) ?_
  rotate_left
  · intro w hSw
    try dsimp only at hSw
    go_simp
    try with_reducible rfl
  simp only [Act.put, List.setIfInBounds_toArray, List.set_cons_zero, List.set_cons_succ, List.getElem_toArray, List.getElem_cons_zero, List.getElem_cons_succ]
  refine wpAnyH_take (i := 18) (v := ?_) rfl (by kernel_rfl) (by kernel_rfl) (by kernel_rfl) (fun _ _ _ h => h) (Or.inl ⟨by rfl, ?_⟩) (by assumption) ?_
  rotate_left
  · intro w hSw
    try dsimp only at hSw
    go_simp
    try with_reducible rfl
  simp only [Act.put, List.setIfInBounds_toArray, List.set_cons_zero, List.set_cons_succ, List.getElem_toArray, List.getElem_cons_zero, List.getElem_cons_succ]
  refine wpAnyH_take (i := 19) (v := ?_) rfl (by kernel_rfl) (by kernel_rfl) (by kernel_rfl) (fun _ _ _ h => h) (Or.inl ⟨by rfl, ?_⟩) (by assumption) ?_
  rotate_left
  · intro w hSw
    try dsimp only at hSw
    go_simp
    try with_reducible rfl
  simp only [Act.put, List.setIfInBounds_toArray, List.set_cons_zero, List.set_cons_succ, List.getElem_toArray, List.getElem_cons_zero, List.getElem_cons_succ]
  refine wpAnyH_take (i := 20) (v := ?_) rfl (by kernel_rfl) (by kernel_rfl) (by kernel_rfl) (fun _ _ _ h => h) (Or.inl ⟨by rfl, ?_⟩) (by assumption) ?_
  rotate_left
  · intro w hSw
    obtain ⟨q0, q1, q2, q3, q4⟩ := box_cells hSw.1
    go_simp
    try with_reducible rfl
  simp only [Act.put, List.setIfInBounds_toArray, List.set_cons_zero, List.set_cons_succ, List.getElem_toArray, List.getElem_cons_zero, List.getElem_cons_succ]
  refine wpAnyH_take (i := 21) (v := ?_) rfl (by kernel_rfl) (by kernel_rfl) (by kernel_rfl) (fun _ _ _ h => h) (Or.inl ⟨by rfl, ?_⟩) (by assumption) ?_
  rotate_left
  · intro w hSw
    try dsimp only at hSw
    go_simp
    try with_reducible rfl
  simp only [Act.put, List.setIfInBounds_toArray, List.set_cons_zero, List.set_cons_succ, List.getElem_toArray, List.getElem_cons_zero, List.getElem_cons_succ]
  refine wpAnyH_take (i := 22) (v := ?_) rfl (by kernel_rfl) (by kernel_rfl) (by kernel_rfl) (fun _ _ _ h => h) (Or.inl ⟨by rfl, ?_⟩) (by assumption) ?_
  rotate_left
  · intro w hSw
    obtain ⟨q0, q1, q2, q3, q4⟩ := box_cells hSw.1
    go_simp
    try with_reducible rfl
  simp only [Act.put, List.setIfInBounds_toArray, List.set_cons_zero, List.set_cons_succ, List.getElem_toArray, List.getElem_cons_zero, List.getElem_cons_succ]
  refine wpAnyH_ready (rs := [23]) (by kernel_rfl) (by simp) ?_
  refine AllReadyH.cons rfl (fun K hK => ?_) AllReadyH.nil
  go_simp
  go_wp2_with (first
      | (go_at_call 16; refine (right_any _ _ _ _ _ _).mono ?_; rintro e w' ⟨rfl, hb'⟩)
      | (go_at_call 17; refine (rright_any _ _ _ _ _ _).mono ?_; rintro e w' ⟨rfl, hb'⟩)
      | (go_at_call 18; refine (keys_any _ _ _ _ _ _ _).mono ?_; rintro e w' ⟨rfl, hb'⟩)
      | (go_at_call 19; refine (rkeys_any _ _ _ _ _ _ _).mono ?_; rintro e w' ⟨rfl, hb'⟩)
      | (go_at_call 20; refine (exact_any _ _ _ _ _ _ _).mono ?_; rintro e w' ⟨rfl, hb'⟩)
      | (go_at_call 21; refine (rexact_any _ _ _ _ _ _ _).mono ?_; rintro e w' ⟨rfl, hb'⟩))
  refine hK.out _ _ ?_ (fun hHeld => ?_)
  · first | assumption | exact ⟨hHeld.1.kept hb', hHeld.2.trans (hb'.mono (by have := hHeld.2.size; omega))⟩
  clear hK K
  refine wpAnyH_take (i := 24) (v := ?_) rfl (by kernel_rfl) (by kernel_rfl) (by kernel_rfl) (fun _ _ _ h => h) (Or.inl ⟨by rfl, ?_⟩) (by assumption) ?_
  rotate_left
  · intro w hSw
    try dsimp only at hSw
    go_simp
    try with_reducible rfl
  simp only [Act.put, List.setIfInBounds_toArray, List.set_cons_zero, List.set_cons_succ, List.getElem_toArray, List.getElem_cons_zero, List.getElem_cons_succ]
  refine wpAnyH_take (i := 25) (v := ?_) rfl (by kernel_rfl) (by kernel_rfl) (by kernel_rfl) (fun _ _ _ h => h) (Or.inl ⟨by rfl, ?_⟩) (by assumption) ?_
  rotate_left
  · intro w hSw
    try dsimp only at hSw
    go_simp
    try with_reducible rfl
  simp only [Act.put, List.setIfInBounds_toArray, List.set_cons_zero, List.set_cons_succ, List.getElem_toArray, List.getElem_cons_zero, List.getElem_cons_succ]
  refine wpAnyH_take (i := 26) (v := ?_) rfl (by kernel_rfl) (by kernel_rfl) (by kernel_rfl) (fun _ _ _ h => h) (Or.inl ⟨by rfl, ?_⟩) (by assumption) ?_
  rotate_left
  · intro w hSw
    obtain ⟨q0, q1, q2, q3, q4⟩ := box_cells hSw.1
    go_simp
    try with_reducible rfl
  simp only [Act.put, List.setIfInBounds_toArray, List.set_cons_zero, List.set_cons_succ, List.getElem_toArray, List.getElem_cons_zero, List.getElem_cons_succ]
  refine wpAnyH_take (i := 27) (v := ?_) rfl (by kernel_rfl) (by kernel_rfl) (by kernel_rfl) (fun _ _ _ h => h) (Or.inl ⟨by rfl, ?_⟩) (by assumption) ?_
  rotate_left
  · intro w hSw
    try dsimp only at hSw
    go_simp
    try with_reducible rfl
  simp only [Act.put, List.setIfInBounds_toArray, List.set_cons_zero, List.set_cons_succ, List.getElem_toArray, List.getElem_cons_zero, List.getElem_cons_succ]
  refine wpAnyH_ready (rs := [28]) (by kernel_rfl) (by simp) ?_
  refine AllReadyH.cons rfl (fun K hK => ?_) AllReadyH.nil
  go_simp
  go_wp2_with (first
      | (go_at_call 16; refine (right_any _ _ _ _ _ _).mono ?_; rintro e w' ⟨rfl, hb'⟩)
      | (go_at_call 17; refine (rright_any _ _ _ _ _ _).mono ?_; rintro e w' ⟨rfl, hb'⟩)
      | (go_at_call 18; refine (keys_any _ _ _ _ _ _ _).mono ?_; rintro e w' ⟨rfl, hb'⟩)
      | (go_at_call 19; refine (rkeys_any _ _ _ _ _ _ _).mono ?_; rintro e w' ⟨rfl, hb'⟩)
      | (go_at_call 20; refine (exact_any _ _ _ _ _ _ _).mono ?_; rintro e w' ⟨rfl, hb'⟩)
      | (go_at_call 21; refine (rexact_any _ _ _ _ _ _ _).mono ?_; rintro e w' ⟨rfl, hb'⟩))
  refine hK.out _ _ ?_ (fun hHeld => ?_)
  · first | assumption | exact ⟨hHeld.1.kept hb', hHeld.2.trans (hb'.mono (by have := hHeld.2.size; omega))⟩
  clear hK K
  refine wpAnyH_take (i := 29) (v := ?_) rfl (by kernel_rfl) (by kernel_rfl) (by kernel_rfl) (fun _ _ _ h => h) (Or.inl ⟨by rfl, ?_⟩) (by assumption) ?_
  rotate_left
  · intro w hSw
    try dsimp only at hSw
    go_simp
    try with_reducible rfl
  simp only [Act.put, List.setIfInBounds_toArray, List.set_cons_zero, List.set_cons_succ, List.getElem_toArray, List.getElem_cons_zero, List.getElem_cons_succ]
  refine wpAnyH_take (i := 30) (v := ?_) rfl (by kernel_rfl) (by kernel_rfl) (by kernel_rfl) (fun _ _ _ h => h) (Or.inl ⟨by rfl, ?_⟩) (by assumption) ?_
  rotate_left
  · intro w hSw
    try dsimp only at hSw
    go_simp
    try with_reducible rfl
  simp only [Act.put, List.setIfInBounds_toArray, List.set_cons_zero, List.set_cons_succ, List.getElem_toArray, List.getElem_cons_zero, List.getElem_cons_succ]
  refine wpAnyH_take (i := 31) (v := ?_) rfl (by kernel_rfl) (by kernel_rfl) (by kernel_rfl) (fun _ _ _ h => h) (Or.inl ⟨by rfl, ?_⟩) (by assumption) ?_
  rotate_left
  · intro w hSw
    obtain ⟨q0, q1, q2, q3, q4⟩ := box_cells hSw.1
    go_simp
    try with_reducible rfl
  simp only [Act.put, List.setIfInBounds_toArray, List.set_cons_zero, List.set_cons_succ, List.getElem_toArray, List.getElem_cons_zero, List.getElem_cons_succ]
  refine wpAnyH_take (i := 32) (v := ?_) rfl (by kernel_rfl) (by kernel_rfl) (by kernel_rfl) (fun _ _ _ h => h) (Or.inl ⟨by rfl, ?_⟩) (by assumption) ?_
  rotate_left
  · intro w hSw
    try dsimp only at hSw
    go_simp
    try with_reducible rfl
  simp only [Act.put, List.setIfInBounds_toArray, List.set_cons_zero, List.set_cons_succ, List.getElem_toArray, List.getElem_cons_zero, List.getElem_cons_succ]
  refine wpAnyH_take (i := 33) (v := ?_) rfl (by kernel_rfl) (by kernel_rfl) (by kernel_rfl) (fun _ _ _ h => h) (Or.inl ⟨by rfl, ?_⟩) (by assumption) ?_
  rotate_left
  · intro w hSw
    try dsimp only at hSw
    go_simp
    try with_reducible rfl
  simp only [Act.put, List.setIfInBounds_toArray, List.set_cons_zero, List.set_cons_succ, List.getElem_toArray, List.getElem_cons_zero, List.getElem_cons_succ]
  refine wpAnyH_ready (rs := [34]) (by kernel_rfl) (by simp) ?_
  refine AllReadyH.cons rfl (fun K hK => ?_) AllReadyH.nil
  go_simp
  go_wp2_with (first
      | (go_at_call 16; refine (right_any _ _ _ _ _ _).mono ?_; rintro e w' ⟨rfl, hb'⟩)
      | (go_at_call 17; refine (rright_any _ _ _ _ _ _).mono ?_; rintro e w' ⟨rfl, hb'⟩)
      | (go_at_call 18; refine (keys_any _ _ _ _ _ _ _).mono ?_; rintro e w' ⟨rfl, hb'⟩)
      | (go_at_call 19; refine (rkeys_any _ _ _ _ _ _ _).mono ?_; rintro e w' ⟨rfl, hb'⟩)
      | (go_at_call 20; refine (exact_any _ _ _ _ _ _ _).mono ?_; rintro e w' ⟨rfl, hb'⟩)
      | (go_at_call 21; refine (rexact_any _ _ _ _ _ _ _).mono ?_; rintro e w' ⟨rfl, hb'⟩))
  refine hK.out _ _ ?_ (fun hHeld => ?_)
  · first | assumption | exact ⟨hHeld.1.kept hb', hHeld.2.trans (hb'.mono (by have := hHeld.2.size; omega))⟩
  clear hK K
  refine wpAnyH_take (i := 35) (v := ?_) rfl (by kernel_rfl) (by kernel_rfl) (by kernel_rfl) (fun _ _ _ h => h) (Or.inl ⟨by rfl, ?_⟩) (by assumption) ?_
  rotate_left
  · intro w hSw
    try dsimp only at hSw
    go_simp
    try with_reducible rfl
  simp only [Act.put, List.setIfInBounds_toArray, List.set_cons_zero, List.set_cons_succ, List.getElem_toArray, List.getElem_cons_zero, List.getElem_cons_succ]
  refine wpAnyH_take (i := 36) (v := ?_) rfl (by kernel_rfl) (by kernel_rfl) (by kernel_rfl) (fun _ _ _ h => h) (Or.inl ⟨by rfl, ?_⟩) (by assumption) ?_
  rotate_left
  · intro w hSw
    try dsimp only at hSw
    go_simp
    try with_reducible rfl
  simp only [Act.put, List.setIfInBounds_toArray, List.set_cons_zero, List.set_cons_succ, List.getElem_toArray, List.getElem_cons_zero, List.getElem_cons_succ]
  refine wpAnyH_take (i := 37) (v := ?_) rfl (by kernel_rfl) (by kernel_rfl) (by kernel_rfl) (fun _ _ _ h => h) (Or.inl ⟨by rfl, ?_⟩) (by assumption) ?_
  rotate_left
  · intro w hSw
    try dsimp only at hSw
    go_simp
    try with_reducible rfl
  simp only [Act.put, List.setIfInBounds_toArray, List.set_cons_zero, List.set_cons_succ, List.getElem_toArray, List.getElem_cons_zero, List.getElem_cons_succ]
  refine wpAnyH_take (i := 38) (v := ?_) rfl (by kernel_rfl) (by kernel_rfl) (by kernel_rfl) (fun _ _ _ h => h) (Or.inl ⟨by rfl, ?_⟩) (by assumption) ?_
  rotate_left
  · intro w hSw
    obtain ⟨q0, q1, q2, q3, q4⟩ := box_cells hSw.1
    go_simp
    try with_reducible rfl
  simp only [Act.put, List.setIfInBounds_toArray, List.set_cons_zero, List.set_cons_succ, List.getElem_toArray, List.getElem_cons_zero, List.getElem_cons_succ]
  refine wpAnyH_take (i := 39) (v := ?_) rfl (by kernel_rfl) (by kernel_rfl) (by kernel_rfl) (fun _ _ _ h => h) (Or.inl ⟨by rfl, ?_⟩) (by assumption) ?_
  rotate_left
  · intro w hSw
    try dsimp only at hSw
    go_simp
    try with_reducible rfl
  simp only [Act.put, List.setIfInBounds_toArray, List.set_cons_zero, List.set_cons_succ, List.getElem_toArray, List.getElem_cons_zero, List.getElem_cons_succ]
  refine wpAnyH_take (i := 40) (v := ?_) rfl (by kernel_rfl) (by kernel_rfl) (by kernel_rfl) (fun _ _ _ h => h) (Or.inl ⟨by rfl, ?_⟩) (by assumption) ?_
  rotate_left
  · intro w hSw
    obtain ⟨q0, q1, q2, q3, q4⟩ := box_cells hSw.1
    go_simp
    try with_reducible rfl
  simp only [Act.put, List.setIfInBounds_toArray, List.set_cons_zero, List.set_cons_succ, List.getElem_toArray, List.getElem_cons_zero, List.getElem_cons_succ]
  refine wpAnyH_take (i := 41) (v := ?_) rfl (by kernel_rfl) (by kernel_rfl) (by kernel_rfl) (fun _ _ _ h => h) (Or.inl ⟨by rfl, ?_⟩) (by assumption) ?_
  rotate_left
  · intro w hSw
    try dsimp only at hSw
    go_simp
    try with_reducible rfl
  simp only [Act.put, List.setIfInBounds_toArray, List.set_cons_zero, List.set_cons_succ, List.getElem_toArray, List.getElem_cons_zero, List.getElem_cons_succ]
  refine wpAnyH_ready (rs := [42]) (by kernel_rfl) (by simp) ?_
  refine AllReadyH.cons rfl (fun K hK => ?_) AllReadyH.nil
  go_simp
  go_wp2_with (first
      | (go_at_call 16; refine (right_any _ _ _ _ _ _).mono ?_; rintro e w' ⟨rfl, hb'⟩)
      | (go_at_call 17; refine (rright_any _ _ _ _ _ _).mono ?_; rintro e w' ⟨rfl, hb'⟩)
      | (go_at_call 18; refine (keys_any _ _ _ _ _ _ _).mono ?_; rintro e w' ⟨rfl, hb'⟩)
      | (go_at_call 19; refine (rkeys_any _ _ _ _ _ _ _).mono ?_; rintro e w' ⟨rfl, hb'⟩)
      | (go_at_call 20; refine (exact_any _ _ _ _ _ _ _).mono ?_; rintro e w' ⟨rfl, hb'⟩)
      | (go_at_call 21; refine (rexact_any _ _ _ _ _ _ _).mono ?_; rintro e w' ⟨rfl, hb'⟩))
  refine hK.out _ _ ?_ (fun hHeld => ?_)
  · first | assumption | exact ⟨hHeld.1.kept hb', hHeld.2.trans (hb'.mono (by have := hHeld.2.size; omega))⟩
  clear hK K
  refine wpAnyH_take (i := 43) (v := ?_) rfl (by kernel_rfl) (by kernel_rfl) (by kernel_rfl) (fun _ _ _ h => h) (Or.inl ⟨by rfl, ?_⟩) (by assumption) ?_
  rotate_left
  · intro w hSw
    try dsimp only at hSw
    go_simp
    try with_reducible rfl
  simp only [Act.put, List.setIfInBounds_toArray, List.set_cons_zero, List.set_cons_succ, List.getElem_toArray, List.getElem_cons_zero, List.getElem_cons_succ]
  refine wpAnyH_take (i := 44) (v := ?_) rfl (by kernel_rfl) (by kernel_rfl) (by kernel_rfl) (fun _ _ _ h => h) (Or.inl ⟨by rfl, ?_⟩) (by assumption) ?_
  rotate_left
  · intro w hSw
    try dsimp only at hSw
    go_simp
    try with_reducible rfl
  simp only [Act.put, List.setIfInBounds_toArray, List.set_cons_zero, List.set_cons_succ, List.getElem_toArray, List.getElem_cons_zero, List.getElem_cons_succ]
  refine wpAnyH_take (i := 45) (v := ?_) rfl (by kernel_rfl) (by kernel_rfl) (by kernel_rfl) (fun _ _ _ h => h) (Or.inl ⟨by rfl, ?_⟩) (by assumption) ?_
  rotate_left
  · intro w hSw
    try dsimp only at hSw
    go_simp
    try with_reducible rfl
  simp only [Act.put, List.setIfInBounds_toArray, List.set_cons_zero, List.set_cons_succ, List.getElem_toArray, List.getElem_cons_zero, List.getElem_cons_succ]
  refine wpAnyH_take (i := 46) (v := ?_) rfl (by kernel_rfl) (by kernel_rfl) (by kernel_rfl) (fun _ _ _ h => h) (Or.inl ⟨by rfl, ?_⟩) (by assumption) ?_
  rotate_left
  · intro w hSw
    obtain ⟨q0, q1, q2, q3, q4⟩ := box_cells hSw.1
    go_simp
    try with_reducible rfl
  simp only [Act.put, List.setIfInBounds_toArray, List.set_cons_zero, List.set_cons_succ, List.getElem_toArray, List.getElem_cons_zero, List.getElem_cons_succ]
  refine wpAnyH_ready (rs := [47]) (by kernel_rfl) (by simp) ?_
  refine AllReadyH.cons rfl (fun K hK => ?_) AllReadyH.nil
  go_simp
  go_wp2_with (first
      | (go_at_call 16; refine (right_any _ _ _ _ _ _).mono ?_; rintro e w' ⟨rfl, hb'⟩)
      | (go_at_call 17; refine (rright_any _ _ _ _ _ _).mono ?_; rintro e w' ⟨rfl, hb'⟩)
      | (go_at_call 18; refine (keys_any _ _ _ _ _ _ _).mono ?_; rintro e w' ⟨rfl, hb'⟩)
      | (go_at_call 19; refine (rkeys_any _ _ _ _ _ _ _).mono ?_; rintro e w' ⟨rfl, hb'⟩)
      | (go_at_call 20; refine (exact_any _ _ _ _ _ _ _).mono ?_; rintro e w' ⟨rfl, hb'⟩)
      | (go_at_call 21; refine (rexact_any _ _ _ _ _ _ _).mono ?_; rintro e w' ⟨rfl, hb'⟩))
  refine hK.out _ _ ?_ (fun hHeld => ?_)
  · first | assumption | exact ⟨hHeld.1.kept hb', hHeld.2.trans (hb'.mono (by have := hHeld.2.size; omega))⟩
  clear hK K
  refine wpAnyH_take (i := 48) (v := ?_) rfl (by kernel_rfl) (by kernel_rfl) (by kernel_rfl) (fun _ _ _ h => h) (Or.inl ⟨by rfl, ?_⟩) (by assumption) ?_
  rotate_left
  · intro w hSw
    try dsimp only at hSw
    go_simp
    try with_reducible rfl
  simp only [Act.put, List.setIfInBounds_toArray, List.set_cons_zero, List.set_cons_succ, List.getElem_toArray, List.getElem_cons_zero, List.getElem_cons_succ]
  refine wpAnyH_take (i := 49) (v := ?_) rfl (by kernel_rfl) (by kernel_rfl) (by kernel_rfl) (fun _ _ _ h => h) (Or.inl ⟨by rfl, ?_⟩) (by assumption) ?_
  rotate_left
  · intro w hSw
    try dsimp only at hSw
    go_simp
    try with_reducible rfl
  simp only [Act.put, List.setIfInBounds_toArray, List.set_cons_zero, List.set_cons_succ, List.getElem_toArray, List.getElem_cons_zero, List.getElem_cons_succ]
  refine wpAnyH_take (i := 50) (v := ?_) rfl (by kernel_rfl) (by kernel_rfl) (by kernel_rfl) (fun _ _ _ h => h) (Or.inl ⟨by rfl, ?_⟩) (by assumption) ?_
  rotate_left
  · intro w hSw
    try dsimp only at hSw
    go_simp
    try with_reducible rfl
  simp only [Act.put, List.setIfInBounds_toArray, List.set_cons_zero, List.set_cons_succ, List.getElem_toArray, List.getElem_cons_zero, List.getElem_cons_succ]
  refine wpAnyH_done (by kernel_rfl) ?_ _
  have HB := Lib.hid hHeld.2
  go_wp2
  go_ret
  exact ⟨rfl, HB.out⟩

set_option maxRecDepth 100000 in
set_option maxHeartbeats 2000000 in
theorem ShapeHalves_no (b r d m s l L : Int) (w : World) (hex : exactB (anyI b 59) (anyI r 4) (anyI d 128) (anyI m 3) (l % 65536 % anyI b 59) = false) :
    Calls Try.prog 6 #[.agg #[.int .i64 b, .int .i64 r, .int .i64 d, .int .i64 m, .int .u64 s], .int .i64 l] w fun e w' => e = .returned (.bool true) ∧ Below w.heap.size w w' := by
  have a1 := anyI_bd b 59 (by omega)
  have a2 := anyI_bd r 4 (by omega)
  have a3 := anyI_bd d 128 (by omega)
  have a4 := anyI_bd m 3 (by omega)
  have el := and16 l
  go_enter Try.func6, Try.ntmps6
  go_wp2_with fail
  refine (shown07 _).mono ?_; rintro e w1 ⟨rfl, hb'⟩
  obtain ⟨hk, hbel⟩ := box_kept hb'
  clear hb'
  obtain ⟨q0, q1, q2, q3, q4⟩ := box_cells hk
  go_wp2_with fail
  refine (any_any b r d m s 59 128 (by omega) (by omega) (by omega) (by omega) _).mono ?_; rintro e w2 ⟨rfl, hb'⟩
  replace hbel := btr hbel hb'; clear hb' hk q0 q1 q2 q3 q4
  generalize anyI b 59 = B at *
  generalize anyI r 4 = R at *
  generalize anyI d 128 = D at *
  generalize anyI m 3 = M at *
  have hr : rightB B R D M = true := right_mk (by omega)
  have hl0 : 0 ≤ l % 65536 % B := Int.emod_nonneg _ (by omega)
  have hl1 : l % 65536 % B < B := Int.emod_lt_of_pos _ (by omega)
  go_upto_region 4 with fail
  have hk := Blk.new w2 24 #[.int .i64 B, .int .i64 R, .int .i64 D, .int .i64 M, .int .u64 s]
  replace hbel := hbel.alloc hbel.size (.cells #[.int .i64 B, .int .i64 R, .int .i64 D, .int .i64 M, .int .u64 s] 24)
  generalize (w2.alloc (.cells #[.int .i64 B, .int .i64 R, .int .i64 D, .int .i64 M, .int .u64 s] 24)) = w3 at *
  generalize w2.heap.size = G at *
  generalize l % 65536 % B = L at *
  have f1 : (keysI B R D M L == 2 * keysI B R D M (L + 1)) = true := by simp [keys_half hr hl0 hl1]
  have f2 : (keysI B R D M B == 1) = true := by simp [keys_top hr]
  have f3 := exact_top hr
  have f4 : (keysI B R D M (B + 1) == 0) = true := by rw [keysI_no (by omega)]; rfl
  have f5 : (keysI B R D M (-1) == 0) = true := by rw [keysI_no (by omega)]; rfl
  have kb := keysI_bd B R D M (L + 1)
  have u1 : IntKind.u64.wrap (2 * keysI B R D M (L + 1)) = 2 * keysI B R D M (L + 1) := by rw [IntKind.wrap_u64]; omega
  have u2 : IntKind.i64.wrap (L + 1) = L + 1 := IntWalk.i64_in _ (by omega)
  have u3 : IntKind.i64.wrap (B + 1) = B + 1 := IntWalk.i64_in _ (by omega)
  clear kb hr
  refine wp_region_held_drew (S := fun w' => Blk w' G 24 #[.int .i64 B, .int .i64 R, .int .i64 D, .int .i64 M, .int .u64 s] ∧ Below w.heap.size w w') (by kernel_rfl) (by exact ⟨hk.drew, hbel.drew⟩) (fun hHeld => ?_)
  refine wpAnyH_take (i := 0) (v := ?_) rfl (by kernel_rfl) (by kernel_rfl) (by kernel_rfl) (fun _ _ _ h => h) (Or.inl ⟨by rfl, ?_⟩) (by assumption) ?_
  rotate_left
  · intro w hSw
    try dsimp only at hSw
    go_simp
    try with_reducible rfl
  simp only [Act.put, List.setIfInBounds_toArray, List.set_cons_zero, List.set_cons_succ, List.getElem_toArray, List.getElem_cons_zero, List.getElem_cons_succ]
  refine wpAnyH_take (i := 1) (v := ?_) rfl (by kernel_rfl) (by kernel_rfl) (by kernel_rfl) (fun _ _ _ h => h) (Or.inl ⟨by rfl, ?_⟩) (by assumption) ?_
  rotate_left
  · intro w hSw
    try dsimp only at hSw
    go_simp
    try with_reducible rfl
  simp only [Act.put, List.setIfInBounds_toArray, List.set_cons_zero, List.set_cons_succ, List.getElem_toArray, List.getElem_cons_zero, List.getElem_cons_succ]
  refine wpAnyH_take (i := 2) (v := ?_) rfl (by kernel_rfl) (by kernel_rfl) (by kernel_rfl) (fun _ _ _ h => h) (Or.inl ⟨by rfl, ?_⟩) (by assumption) ?_
  rotate_left
  · intro w hSw
    obtain ⟨q0, q1, q2, q3, q4⟩ := box_cells hSw.1
    go_simp
    try with_reducible rfl
  simp only [Act.put, List.setIfInBounds_toArray, List.set_cons_zero, List.set_cons_succ, List.getElem_toArray, List.getElem_cons_zero, List.getElem_cons_succ]
  refine wpAnyH_take (i := 3) (v := ?_) rfl (by kernel_rfl) (by kernel_rfl) (by kernel_rfl) (fun _ _ _ h => h) (Or.inl ⟨by rfl, ?_⟩) (by assumption) ?_
  rotate_left
  · intro w hSw
    try dsimp only at hSw
    go_simp
    try with_reducible rfl
  simp only [Act.put, List.setIfInBounds_toArray, List.set_cons_zero, List.set_cons_succ, List.getElem_toArray, List.getElem_cons_zero, List.getElem_cons_succ]
  refine wpAnyH_take (i := 5) (v := ?_) rfl (by kernel_rfl) (by kernel_rfl) (by kernel_rfl) (fun _ _ _ h => h) (Or.inl ⟨by rfl, ?_⟩) (by assumption) ?_
  rotate_left
  · intro w hSw
    obtain ⟨q0, q1, q2, q3, q4⟩ := box_cells hSw.1
    go_simp
    try with_reducible rfl
  simp only [Act.put, List.setIfInBounds_toArray, List.set_cons_zero, List.set_cons_succ, List.getElem_toArray, List.getElem_cons_zero, List.getElem_cons_succ]
  refine wpAnyH_take (i := 6) (v := ?_) rfl (by kernel_rfl) (by kernel_rfl) (by kernel_rfl) (fun _ _ _ h => h) (Or.inl ⟨by rfl, ?_⟩) (by assumption) ?_
  rotate_left
  · intro w hSw
    try dsimp only at hSw
    go_simp
    try with_reducible rfl
  simp only [Act.put, List.setIfInBounds_toArray, List.set_cons_zero, List.set_cons_succ, List.getElem_toArray, List.getElem_cons_zero, List.getElem_cons_succ]
  refine wpAnyH_take (i := 7) (v := ?_) rfl (by kernel_rfl) (by kernel_rfl) (by kernel_rfl) (fun _ _ _ h => h) (Or.inl ⟨by rfl, ?_⟩) (by assumption) ?_
  rotate_left
  · intro w hSw
    try dsimp only at hSw
    go_simp
    try with_reducible rfl
  simp only [Act.put, List.setIfInBounds_toArray, List.set_cons_zero, List.set_cons_succ, List.getElem_toArray, List.getElem_cons_zero, List.getElem_cons_succ]
  refine wpAnyH_ready (rs := [4]) (by kernel_rfl) (by simp) ?_
  refine AllReadyH.cons rfl (fun K hK => ?_) AllReadyH.nil
  go_simp
  go_wp2_with (first
      | (go_at_call 16; refine (right_any _ _ _ _ _ _).mono ?_; rintro e w' ⟨rfl, hb'⟩)
      | (go_at_call 17; refine (rright_any _ _ _ _ _ _).mono ?_; rintro e w' ⟨rfl, hb'⟩)
      | (go_at_call 18; refine (keys_any _ _ _ _ _ _ _).mono ?_; rintro e w' ⟨rfl, hb'⟩)
      | (go_at_call 19; refine (rkeys_any _ _ _ _ _ _ _).mono ?_; rintro e w' ⟨rfl, hb'⟩)
      | (go_at_call 20; refine (exact_any _ _ _ _ _ _ _).mono ?_; rintro e w' ⟨rfl, hb'⟩)
      | (go_at_call 21; refine (rexact_any _ _ _ _ _ _ _).mono ?_; rintro e w' ⟨rfl, hb'⟩))
  refine hK.out _ _ ?_ (fun hHeld => ?_)
  · first | assumption | exact ⟨hHeld.1.kept hb', hHeld.2.trans (hb'.mono (by have := hHeld.2.size; omega))⟩
  clear hK K
  refine wpAnyH_ready (rs := [8]) (by kernel_rfl) (by simp) ?_
  refine AllReadyH.cons rfl (fun K hK => ?_) AllReadyH.nil
  go_simp
  go_wp2_with (first
      | (go_at_call 16; refine (right_any _ _ _ _ _ _).mono ?_; rintro e w' ⟨rfl, hb'⟩)
      | (go_at_call 17; refine (rright_any _ _ _ _ _ _).mono ?_; rintro e w' ⟨rfl, hb'⟩)
      | (go_at_call 18; refine (keys_any _ _ _ _ _ _ _).mono ?_; rintro e w' ⟨rfl, hb'⟩)
      | (go_at_call 19; refine (rkeys_any _ _ _ _ _ _ _).mono ?_; rintro e w' ⟨rfl, hb'⟩)
      | (go_at_call 20; refine (exact_any _ _ _ _ _ _ _).mono ?_; rintro e w' ⟨rfl, hb'⟩)
      | (go_at_call 21; refine (rexact_any _ _ _ _ _ _ _).mono ?_; rintro e w' ⟨rfl, hb'⟩))
  refine hK.out _ _ ?_ (fun hHeld => ?_)
  · first | assumption | exact ⟨hHeld.1.kept hb', hHeld.2.trans (hb'.mono (by have := hHeld.2.size; omega))⟩
  clear hK K
  refine wpAnyH_take (i := 9) (v := ?_) rfl (by kernel_rfl) (by kernel_rfl) (by kernel_rfl) (fun _ _ _ h => h) (Or.inl ⟨by rfl, ?_⟩) (by assumption) ?_
  rotate_left
  · intro w hSw
    try dsimp only at hSw
    go_simp
    try with_reducible rfl
  simp only [Act.put, List.setIfInBounds_toArray, List.set_cons_zero, List.set_cons_succ, List.getElem_toArray, List.getElem_cons_zero, List.getElem_cons_succ]
  refine wpAnyH_take (i := 10) (v := ?_) rfl (by kernel_rfl) (by kernel_rfl) (by kernel_rfl) (fun _ _ _ h => h) (Or.inl ⟨by rfl, ?_⟩) (by assumption) ?_
  rotate_left
  · intro w hSw
    try dsimp only at hSw
    go_simp
    try with_reducible rfl
  simp only [Act.put, List.setIfInBounds_toArray, List.set_cons_zero, List.set_cons_succ, List.getElem_toArray, List.getElem_cons_zero, List.getElem_cons_succ]
  refine wpAnyH_take (i := 11) (v := ?_) rfl (by kernel_rfl) (by kernel_rfl) (by kernel_rfl) (fun _ _ _ h => h) (Or.inl ⟨by rfl, ?_⟩) (by assumption) ?_
  rotate_left
  · intro w hSw
    try dsimp only at hSw
    go_simp
    try with_reducible rfl
  simp only [Act.put, List.setIfInBounds_toArray, List.set_cons_zero, List.set_cons_succ, List.getElem_toArray, List.getElem_cons_zero, List.getElem_cons_succ]
  refine wpAnyH_take (i := 12) (v := ?_) rfl (by kernel_rfl) (by kernel_rfl) (by kernel_rfl) (fun _ _ _ h => h) (Or.inl ⟨by rfl, ?_⟩) (by assumption) ?_
  rotate_left
  · intro w hSw
    try dsimp only at hSw
    go_simp
    try with_reducible rfl
  simp only [Act.put, List.setIfInBounds_toArray, List.set_cons_zero, List.set_cons_succ, List.getElem_toArray, List.getElem_cons_zero, List.getElem_cons_succ]
  refine wpAnyH_take (i := 13) (v := ?_) rfl (by kernel_rfl) (by kernel_rfl) (by kernel_rfl) (fun _ _ _ h => h) (Or.inl ⟨by rfl, ?_⟩) (by assumption) ?_
  rotate_left
  · intro w hSw
    obtain ⟨q0, q1, q2, q3, q4⟩ := box_cells hSw.1
    go_simp
    try with_reducible rfl
  simp only [Act.put, List.setIfInBounds_toArray, List.set_cons_zero, List.set_cons_succ, List.getElem_toArray, List.getElem_cons_zero, List.getElem_cons_succ]
  refine wpAnyH_take (i := 14) (v := ?_) rfl (by kernel_rfl) (by kernel_rfl) (by kernel_rfl) (fun _ _ _ h => h) (Or.inl ⟨by rfl, ?_⟩) (by assumption) ?_
  rotate_left
  · intro w hSw
    try dsimp only at hSw
    go_simp
    try with_reducible rfl
  simp only [Act.put, List.setIfInBounds_toArray, List.set_cons_zero, List.set_cons_succ, List.getElem_toArray, List.getElem_cons_zero, List.getElem_cons_succ]
  refine wpAnyH_take (i := 15) (v := ?_) rfl (by kernel_rfl) (by kernel_rfl) (by kernel_rfl) (fun _ _ _ h => h) (Or.inl ⟨by rfl, ?_⟩) (by assumption) ?_
  rotate_left
  · intro w hSw
    obtain ⟨q0, q1, q2, q3, q4⟩ := box_cells hSw.1
    go_simp
    try with_reducible rfl
  simp only [Act.put, List.setIfInBounds_toArray, List.set_cons_zero, List.set_cons_succ, List.getElem_toArray, List.getElem_cons_zero, List.getElem_cons_succ]
  refine wpAnyH_ready (rs := [16]) (by kernel_rfl) (by simp) ?_
  refine AllReadyH.cons rfl (fun K hK => ?_) AllReadyH.nil
  go_simp
  go_wp2_with (first
      | (go_at_call 16; refine (right_any _ _ _ _ _ _).mono ?_; rintro e w' ⟨rfl, hb'⟩)
      | (go_at_call 17; refine (rright_any _ _ _ _ _ _).mono ?_; rintro e w' ⟨rfl, hb'⟩)
      | (go_at_call 18; refine (keys_any _ _ _ _ _ _ _).mono ?_; rintro e w' ⟨rfl, hb'⟩)
      | (go_at_call 19; refine (rkeys_any _ _ _ _ _ _ _).mono ?_; rintro e w' ⟨rfl, hb'⟩)
      | (go_at_call 20; refine (exact_any _ _ _ _ _ _ _).mono ?_; rintro e w' ⟨rfl, hb'⟩)
      | (go_at_call 21; refine (rexact_any _ _ _ _ _ _ _).mono ?_; rintro e w' ⟨rfl, hb'⟩))
  refine hK.out _ _ ?_ (fun hHeld => ?_)
  · first | assumption | exact ⟨hHeld.1.kept hb', hHeld.2.trans (hb'.mono (by have := hHeld.2.size; omega))⟩
  clear hK K
  refine wpAnyH_take (i := 17) (v := ?_) rfl (by kernel_rfl) (by kernel_rfl) (by kernel_rfl) (fun _ _ _ h => h) (Or.inl ⟨by rfl, ?_⟩) (by assumption) ?_
  rotate_left
  · intro w hSw
    try dsimp only at hSw
    go_simp
    try with_reducible rfl
  simp only [Act.put, List.setIfInBounds_toArray, List.set_cons_zero, List.set_cons_succ, List.getElem_toArray, List.getElem_cons_zero, List.getElem_cons_succ]
  refine wpAnyH_take (i := 18) (v := ?_) rfl (by kernel_rfl) (by kernel_rfl) (by kernel_rfl) (fun _ _ _ h => h) (Or.inl ⟨by rfl, ?_⟩) (by assumption) ?_
  rotate_left
  · intro w hSw
    try dsimp only at hSw
    go_simp
    try with_reducible rfl
  simp only [Act.put, List.setIfInBounds_toArray, List.set_cons_zero, List.set_cons_succ, List.getElem_toArray, List.getElem_cons_zero, List.getElem_cons_succ]
  refine wpAnyH_take (i := 19) (v := ?_) rfl (by kernel_rfl) (by kernel_rfl) (by kernel_rfl) (fun _ _ _ h => h) (Or.inl ⟨by rfl, ?_⟩) (by assumption) ?_
  rotate_left
  · intro w hSw
    try dsimp only at hSw
    go_simp
    try with_reducible rfl
  simp only [Act.put, List.setIfInBounds_toArray, List.set_cons_zero, List.set_cons_succ, List.getElem_toArray, List.getElem_cons_zero, List.getElem_cons_succ]
  refine wpAnyH_take (i := 20) (v := ?_) rfl (by kernel_rfl) (by kernel_rfl) (by kernel_rfl) (fun _ _ _ h => h) (Or.inl ⟨by rfl, ?_⟩) (by assumption) ?_
  rotate_left
  · intro w hSw
    obtain ⟨q0, q1, q2, q3, q4⟩ := box_cells hSw.1
    go_simp
    try with_reducible rfl
  simp only [Act.put, List.setIfInBounds_toArray, List.set_cons_zero, List.set_cons_succ, List.getElem_toArray, List.getElem_cons_zero, List.getElem_cons_succ]
  refine wpAnyH_take (i := 21) (v := ?_) rfl (by kernel_rfl) (by kernel_rfl) (by kernel_rfl) (fun _ _ _ h => h) (Or.inl ⟨by rfl, ?_⟩) (by assumption) ?_
  rotate_left
  · intro w hSw
    try dsimp only at hSw
    go_simp
    try with_reducible rfl
  simp only [Act.put, List.setIfInBounds_toArray, List.set_cons_zero, List.set_cons_succ, List.getElem_toArray, List.getElem_cons_zero, List.getElem_cons_succ]
  refine wpAnyH_take (i := 22) (v := ?_) rfl (by kernel_rfl) (by kernel_rfl) (by kernel_rfl) (fun _ _ _ h => h) (Or.inl ⟨by rfl, ?_⟩) (by assumption) ?_
  rotate_left
  · intro w hSw
    obtain ⟨q0, q1, q2, q3, q4⟩ := box_cells hSw.1
    go_simp
    try with_reducible rfl
  simp only [Act.put, List.setIfInBounds_toArray, List.set_cons_zero, List.set_cons_succ, List.getElem_toArray, List.getElem_cons_zero, List.getElem_cons_succ]
  refine wpAnyH_ready (rs := [23]) (by kernel_rfl) (by simp) ?_
  refine AllReadyH.cons rfl (fun K hK => ?_) AllReadyH.nil
  go_simp
  go_wp2_with (first
      | (go_at_call 16; refine (right_any _ _ _ _ _ _).mono ?_; rintro e w' ⟨rfl, hb'⟩)
      | (go_at_call 17; refine (rright_any _ _ _ _ _ _).mono ?_; rintro e w' ⟨rfl, hb'⟩)
      | (go_at_call 18; refine (keys_any _ _ _ _ _ _ _).mono ?_; rintro e w' ⟨rfl, hb'⟩)
      | (go_at_call 19; refine (rkeys_any _ _ _ _ _ _ _).mono ?_; rintro e w' ⟨rfl, hb'⟩)
      | (go_at_call 20; refine (exact_any _ _ _ _ _ _ _).mono ?_; rintro e w' ⟨rfl, hb'⟩)
      | (go_at_call 21; refine (rexact_any _ _ _ _ _ _ _).mono ?_; rintro e w' ⟨rfl, hb'⟩))
  refine hK.out _ _ ?_ (fun hHeld => ?_)
  · first | assumption | exact ⟨hHeld.1.kept hb', hHeld.2.trans (hb'.mono (by have := hHeld.2.size; omega))⟩
  clear hK K
  refine wpAnyH_take (i := 24) (v := ?_) rfl (by kernel_rfl) (by kernel_rfl) (by kernel_rfl) (fun _ _ _ h => h) (Or.inl ⟨by rfl, ?_⟩) (by assumption) ?_
  rotate_left
  · intro w hSw
    try dsimp only at hSw
    go_simp
    try with_reducible rfl
  simp only [Act.put, List.setIfInBounds_toArray, List.set_cons_zero, List.set_cons_succ, List.getElem_toArray, List.getElem_cons_zero, List.getElem_cons_succ]
  refine wpAnyH_take (i := 25) (v := ?_) rfl (by kernel_rfl) (by kernel_rfl) (by kernel_rfl) (fun _ _ _ h => h) (Or.inl ⟨by rfl, ?_⟩) (by assumption) ?_
  rotate_left
  · intro w hSw
    try dsimp only at hSw
    go_simp
    try with_reducible rfl
  simp only [Act.put, List.setIfInBounds_toArray, List.set_cons_zero, List.set_cons_succ, List.getElem_toArray, List.getElem_cons_zero, List.getElem_cons_succ]
  refine wpAnyH_take (i := 26) (v := ?_) rfl (by kernel_rfl) (by kernel_rfl) (by kernel_rfl) (fun _ _ _ h => h) (Or.inl ⟨by rfl, ?_⟩) (by assumption) ?_
  rotate_left
  · intro w hSw
    obtain ⟨q0, q1, q2, q3, q4⟩ := box_cells hSw.1
    go_simp
    try with_reducible rfl
  simp only [Act.put, List.setIfInBounds_toArray, List.set_cons_zero, List.set_cons_succ, List.getElem_toArray, List.getElem_cons_zero, List.getElem_cons_succ]
  refine wpAnyH_take (i := 27) (v := ?_) rfl (by kernel_rfl) (by kernel_rfl) (by kernel_rfl) (fun _ _ _ h => h) (Or.inl ⟨by rfl, ?_⟩) (by assumption) ?_
  rotate_left
  · intro w hSw
    try dsimp only at hSw
    go_simp
    try with_reducible rfl
  simp only [Act.put, List.setIfInBounds_toArray, List.set_cons_zero, List.set_cons_succ, List.getElem_toArray, List.getElem_cons_zero, List.getElem_cons_succ]
  refine wpAnyH_ready (rs := [28]) (by kernel_rfl) (by simp) ?_
  refine AllReadyH.cons rfl (fun K hK => ?_) AllReadyH.nil
  go_simp
  go_wp2_with (first
      | (go_at_call 16; refine (right_any _ _ _ _ _ _).mono ?_; rintro e w' ⟨rfl, hb'⟩)
      | (go_at_call 17; refine (rright_any _ _ _ _ _ _).mono ?_; rintro e w' ⟨rfl, hb'⟩)
      | (go_at_call 18; refine (keys_any _ _ _ _ _ _ _).mono ?_; rintro e w' ⟨rfl, hb'⟩)
      | (go_at_call 19; refine (rkeys_any _ _ _ _ _ _ _).mono ?_; rintro e w' ⟨rfl, hb'⟩)
      | (go_at_call 20; refine (exact_any _ _ _ _ _ _ _).mono ?_; rintro e w' ⟨rfl, hb'⟩)
      | (go_at_call 21; refine (rexact_any _ _ _ _ _ _ _).mono ?_; rintro e w' ⟨rfl, hb'⟩))
  refine hK.out _ _ ?_ (fun hHeld => ?_)
  · first | assumption | exact ⟨hHeld.1.kept hb', hHeld.2.trans (hb'.mono (by have := hHeld.2.size; omega))⟩
  clear hK K
  refine wpAnyH_take (i := 29) (v := ?_) rfl (by kernel_rfl) (by kernel_rfl) (by kernel_rfl) (fun _ _ _ h => h) (Or.inl ⟨by rfl, ?_⟩) (by assumption) ?_
  rotate_left
  · intro w hSw
    try dsimp only at hSw
    go_simp
    try with_reducible rfl
  simp only [Act.put, List.setIfInBounds_toArray, List.set_cons_zero, List.set_cons_succ, List.getElem_toArray, List.getElem_cons_zero, List.getElem_cons_succ]
  refine wpAnyH_take (i := 30) (v := ?_) rfl (by kernel_rfl) (by kernel_rfl) (by kernel_rfl) (fun _ _ _ h => h) (Or.inl ⟨by rfl, ?_⟩) (by assumption) ?_
  rotate_left
  · intro w hSw
    try dsimp only at hSw
    go_simp
    try with_reducible rfl
  simp only [Act.put, List.setIfInBounds_toArray, List.set_cons_zero, List.set_cons_succ, List.getElem_toArray, List.getElem_cons_zero, List.getElem_cons_succ]
  refine wpAnyH_take (i := 31) (v := undef) rfl (by kernel_rfl) (by kernel_rfl) (by kernel_rfl) (fun _ _ _ h => h) (Or.inr ⟨by rfl, rfl⟩) (by assumption) ?_
  simp only [Act.put, List.setIfInBounds_toArray, List.set_cons_zero, List.set_cons_succ, List.getElem_toArray, List.getElem_cons_zero, List.getElem_cons_succ]
  refine wpAnyH_take (i := 32) (v := undef) rfl (by kernel_rfl) (by kernel_rfl) (by kernel_rfl) (fun _ _ _ h => h) (Or.inr ⟨by rfl, rfl⟩) (by assumption) ?_
  simp only [Act.put, List.setIfInBounds_toArray, List.set_cons_zero, List.set_cons_succ, List.getElem_toArray, List.getElem_cons_zero, List.getElem_cons_succ]
  refine wpAnyH_take (i := 33) (v := undef) rfl (by kernel_rfl) (by kernel_rfl) (by kernel_rfl) (fun _ _ _ h => h) (Or.inr ⟨by rfl, rfl⟩) (by assumption) ?_
  simp only [Act.put, List.setIfInBounds_toArray, List.set_cons_zero, List.set_cons_succ, List.getElem_toArray, List.getElem_cons_zero, List.getElem_cons_succ]
  refine wpAnyH_ready (rs := [34]) (by kernel_rfl) (by simp) ?_
  refine AllReadyH.cons rfl (fun K hK => ?_) AllReadyH.nil
  go_simp
  refine hK.out _ _ ?_ (fun hHeld => ?_)
  · first | assumption | exact ⟨hHeld.1.kept hb', hHeld.2.trans (hb'.mono (by have := hHeld.2.size; omega))⟩
  clear hK K
  refine wpAnyH_take (i := 35) (v := ?_) rfl (by kernel_rfl) (by kernel_rfl) (by kernel_rfl) (fun _ _ _ h => h) (Or.inl ⟨by rfl, ?_⟩) (by assumption) ?_
  rotate_left
  · intro w hSw
    try dsimp only at hSw
    go_simp
    try with_reducible rfl
  simp only [Act.put, List.setIfInBounds_toArray, List.set_cons_zero, List.set_cons_succ, List.getElem_toArray, List.getElem_cons_zero, List.getElem_cons_succ]
  refine wpAnyH_take (i := 36) (v := ?_) rfl (by kernel_rfl) (by kernel_rfl) (by kernel_rfl) (fun _ _ _ h => h) (Or.inl ⟨by rfl, ?_⟩) (by assumption) ?_
  rotate_left
  · intro w hSw
    try dsimp only at hSw
    go_simp
    try with_reducible rfl
  simp only [Act.put, List.setIfInBounds_toArray, List.set_cons_zero, List.set_cons_succ, List.getElem_toArray, List.getElem_cons_zero, List.getElem_cons_succ]
  refine wpAnyH_take (i := 37) (v := ?_) rfl (by kernel_rfl) (by kernel_rfl) (by kernel_rfl) (fun _ _ _ h => h) (Or.inl ⟨by rfl, ?_⟩) (by assumption) ?_
  rotate_left
  · intro w hSw
    try dsimp only at hSw
    go_simp
    try with_reducible rfl
  simp only [Act.put, List.setIfInBounds_toArray, List.set_cons_zero, List.set_cons_succ, List.getElem_toArray, List.getElem_cons_zero, List.getElem_cons_succ]
  refine wpAnyH_take (i := 38) (v := ?_) rfl (by kernel_rfl) (by kernel_rfl) (by kernel_rfl) (fun _ _ _ h => h) (Or.inl ⟨by rfl, ?_⟩) (by assumption) ?_
  rotate_left
  · intro w hSw
    obtain ⟨q0, q1, q2, q3, q4⟩ := box_cells hSw.1
    go_simp
    try with_reducible rfl
  simp only [Act.put, List.setIfInBounds_toArray, List.set_cons_zero, List.set_cons_succ, List.getElem_toArray, List.getElem_cons_zero, List.getElem_cons_succ]
  refine wpAnyH_take (i := 39) (v := ?_) rfl (by kernel_rfl) (by kernel_rfl) (by kernel_rfl) (fun _ _ _ h => h) (Or.inl ⟨by rfl, ?_⟩) (by assumption) ?_
  rotate_left
  · intro w hSw
    try dsimp only at hSw
    go_simp
    try with_reducible rfl
  simp only [Act.put, List.setIfInBounds_toArray, List.set_cons_zero, List.set_cons_succ, List.getElem_toArray, List.getElem_cons_zero, List.getElem_cons_succ]
  refine wpAnyH_take (i := 40) (v := ?_) rfl (by kernel_rfl) (by kernel_rfl) (by kernel_rfl) (fun _ _ _ h => h) (Or.inl ⟨by rfl, ?_⟩) (by assumption) ?_
  rotate_left
  · intro w hSw
    obtain ⟨q0, q1, q2, q3, q4⟩ := box_cells hSw.1
    go_simp
    try with_reducible rfl
  simp only [Act.put, List.setIfInBounds_toArray, List.set_cons_zero, List.set_cons_succ, List.getElem_toArray, List.getElem_cons_zero, List.getElem_cons_succ]
  refine wpAnyH_take (i := 41) (v := ?_) rfl (by kernel_rfl) (by kernel_rfl) (by kernel_rfl) (fun _ _ _ h => h) (Or.inl ⟨by rfl, ?_⟩) (by assumption) ?_
  rotate_left
  · intro w hSw
    try dsimp only at hSw
    go_simp
    try with_reducible rfl
  simp only [Act.put, List.setIfInBounds_toArray, List.set_cons_zero, List.set_cons_succ, List.getElem_toArray, List.getElem_cons_zero, List.getElem_cons_succ]
  refine wpAnyH_ready (rs := [42]) (by kernel_rfl) (by simp) ?_
  refine AllReadyH.cons rfl (fun K hK => ?_) AllReadyH.nil
  go_simp
  go_wp2_with (first
      | (go_at_call 16; refine (right_any _ _ _ _ _ _).mono ?_; rintro e w' ⟨rfl, hb'⟩)
      | (go_at_call 17; refine (rright_any _ _ _ _ _ _).mono ?_; rintro e w' ⟨rfl, hb'⟩)
      | (go_at_call 18; refine (keys_any _ _ _ _ _ _ _).mono ?_; rintro e w' ⟨rfl, hb'⟩)
      | (go_at_call 19; refine (rkeys_any _ _ _ _ _ _ _).mono ?_; rintro e w' ⟨rfl, hb'⟩)
      | (go_at_call 20; refine (exact_any _ _ _ _ _ _ _).mono ?_; rintro e w' ⟨rfl, hb'⟩)
      | (go_at_call 21; refine (rexact_any _ _ _ _ _ _ _).mono ?_; rintro e w' ⟨rfl, hb'⟩))
  refine hK.out _ _ ?_ (fun hHeld => ?_)
  · first | assumption | exact ⟨hHeld.1.kept hb', hHeld.2.trans (hb'.mono (by have := hHeld.2.size; omega))⟩
  clear hK K
  refine wpAnyH_take (i := 43) (v := ?_) rfl (by kernel_rfl) (by kernel_rfl) (by kernel_rfl) (fun _ _ _ h => h) (Or.inl ⟨by rfl, ?_⟩) (by assumption) ?_
  rotate_left
  · intro w hSw
    try dsimp only at hSw
    go_simp
    try with_reducible rfl
  simp only [Act.put, List.setIfInBounds_toArray, List.set_cons_zero, List.set_cons_succ, List.getElem_toArray, List.getElem_cons_zero, List.getElem_cons_succ]
  refine wpAnyH_take (i := 44) (v := ?_) rfl (by kernel_rfl) (by kernel_rfl) (by kernel_rfl) (fun _ _ _ h => h) (Or.inl ⟨by rfl, ?_⟩) (by assumption) ?_
  rotate_left
  · intro w hSw
    try dsimp only at hSw
    go_simp
    try with_reducible rfl
  simp only [Act.put, List.setIfInBounds_toArray, List.set_cons_zero, List.set_cons_succ, List.getElem_toArray, List.getElem_cons_zero, List.getElem_cons_succ]
  refine wpAnyH_take (i := 45) (v := ?_) rfl (by kernel_rfl) (by kernel_rfl) (by kernel_rfl) (fun _ _ _ h => h) (Or.inl ⟨by rfl, ?_⟩) (by assumption) ?_
  rotate_left
  · intro w hSw
    try dsimp only at hSw
    go_simp
    try with_reducible rfl
  simp only [Act.put, List.setIfInBounds_toArray, List.set_cons_zero, List.set_cons_succ, List.getElem_toArray, List.getElem_cons_zero, List.getElem_cons_succ]
  refine wpAnyH_take (i := 46) (v := ?_) rfl (by kernel_rfl) (by kernel_rfl) (by kernel_rfl) (fun _ _ _ h => h) (Or.inl ⟨by rfl, ?_⟩) (by assumption) ?_
  rotate_left
  · intro w hSw
    obtain ⟨q0, q1, q2, q3, q4⟩ := box_cells hSw.1
    go_simp
    try with_reducible rfl
  simp only [Act.put, List.setIfInBounds_toArray, List.set_cons_zero, List.set_cons_succ, List.getElem_toArray, List.getElem_cons_zero, List.getElem_cons_succ]
  refine wpAnyH_ready (rs := [47]) (by kernel_rfl) (by simp) ?_
  refine AllReadyH.cons rfl (fun K hK => ?_) AllReadyH.nil
  go_simp
  go_wp2_with (first
      | (go_at_call 16; refine (right_any _ _ _ _ _ _).mono ?_; rintro e w' ⟨rfl, hb'⟩)
      | (go_at_call 17; refine (rright_any _ _ _ _ _ _).mono ?_; rintro e w' ⟨rfl, hb'⟩)
      | (go_at_call 18; refine (keys_any _ _ _ _ _ _ _).mono ?_; rintro e w' ⟨rfl, hb'⟩)
      | (go_at_call 19; refine (rkeys_any _ _ _ _ _ _ _).mono ?_; rintro e w' ⟨rfl, hb'⟩)
      | (go_at_call 20; refine (exact_any _ _ _ _ _ _ _).mono ?_; rintro e w' ⟨rfl, hb'⟩)
      | (go_at_call 21; refine (rexact_any _ _ _ _ _ _ _).mono ?_; rintro e w' ⟨rfl, hb'⟩))
  refine hK.out _ _ ?_ (fun hHeld => ?_)
  · first | assumption | exact ⟨hHeld.1.kept hb', hHeld.2.trans (hb'.mono (by have := hHeld.2.size; omega))⟩
  clear hK K
  refine wpAnyH_take (i := 48) (v := ?_) rfl (by kernel_rfl) (by kernel_rfl) (by kernel_rfl) (fun _ _ _ h => h) (Or.inl ⟨by rfl, ?_⟩) (by assumption) ?_
  rotate_left
  · intro w hSw
    try dsimp only at hSw
    go_simp
    try with_reducible rfl
  simp only [Act.put, List.setIfInBounds_toArray, List.set_cons_zero, List.set_cons_succ, List.getElem_toArray, List.getElem_cons_zero, List.getElem_cons_succ]
  refine wpAnyH_take (i := 49) (v := ?_) rfl (by kernel_rfl) (by kernel_rfl) (by kernel_rfl) (fun _ _ _ h => h) (Or.inl ⟨by rfl, ?_⟩) (by assumption) ?_
  rotate_left
  · intro w hSw
    try dsimp only at hSw
    go_simp
    try with_reducible rfl
  simp only [Act.put, List.setIfInBounds_toArray, List.set_cons_zero, List.set_cons_succ, List.getElem_toArray, List.getElem_cons_zero, List.getElem_cons_succ]
  refine wpAnyH_take (i := 50) (v := ?_) rfl (by kernel_rfl) (by kernel_rfl) (by kernel_rfl) (fun _ _ _ h => h) (Or.inl ⟨by rfl, ?_⟩) (by assumption) ?_
  rotate_left
  · intro w hSw
    try dsimp only at hSw
    go_simp
    try with_reducible rfl
  simp only [Act.put, List.setIfInBounds_toArray, List.set_cons_zero, List.set_cons_succ, List.getElem_toArray, List.getElem_cons_zero, List.getElem_cons_succ]
  refine wpAnyH_done (by kernel_rfl) ?_ _
  have HB := Lib.hid hHeld.2
  go_wp2
  go_ret
  exact ⟨rfl, HB.out⟩

theorem ShapeHalves_walk (v0 v1 : Value) (w : World) (h0 : shCfg.Val w v0) (h1 : (Sh.int .i64).Val w v1) :
    Calls Try.prog 6 #[v0, v1] w fun e w' => e = .returned (.bool true) ∧ Below w.heap.size w w' := by
  obtain ⟨b, r, d, m, s, rfl, wb, wr, wd, wm, ws⟩ := valCfg h0
  obtain ⟨l, rfl, wl⟩ := Sh.val_int h1
  cases hex : exactB (anyI b 59) (anyI r 4) (anyI d 128) (anyI m 3) (l % 65536 % anyI b 59)
  · exact ShapeHalves_no b r d m s l 0 w hex
  · exact ShapeHalves_yes b r d m s l 0 w hex
end Go.Proofs.Ytfjhecgicemoeaa
