/-
  The walk of gaugerref07.Columns, and of the statement ShapeColumns of layer 7: it returns true. Conditions: the arguments are of their types.
-/
import Derived.Test.YtfjhecgicemoeaaShpZ
import Derived.Test.YtfjhecgicemoeaaRow
import Derived.Test.YtfjhecgicemoeaaSdR
namespace Go.Proofs.Ytfjhecgicemoeaa
open Go.RowKit Go.ChangeShapes Go.WideShapes Go.ChangeAt
set_option linter.unusedVariables false
set_option linter.unusedSimpArgs false

def RColsPost (w : World) (R : Nat) (d s l k : Int) (e : Ending) (w' : World) : Prop :=
  ∃ v, e = .returned v ∧ IntsAt w' v ((List.range R).map fun (i : Nat) => colI d s l k (i : Int)) ∧ Below w.heap.size w w'
theorem range_map_succ (f : Nat → Int) (j : Nat) : ((List.range (j + 1)).map f).map (Value.int .i64) = ((List.range j).map f).map (Value.int .i64) ++ [Value.int .i64 (f j)] := by
  rw [List.range_succ]; simp

set_option maxRecDepth 100000 in
set_option maxHeartbeats 1000000 in
theorem rcols_any (b d m s l k : Int) (R : Nat) (s0 : 0 ≤ s) (s1 : s ≤ 18446744073709551615) (k0 : 0 ≤ k) (k1 : k ≤ 18446744073709551615) (hk : k < keysI b (R : Int) d m l) (w : World) :
    Calls Try.prog 26 #[.agg #[.int .i64 b, .int .i64 (R : Int), .int .i64 d, .int .i64 m, .int .u64 s], .int .i64 l, .int .u64 k] w (RColsPost w R d s l k) := by
  obtain ⟨j0, j1⟩ := keysI_bd b (R : Int) d m l
  have HR := keys_right (b := b) (r := (R : Int)) (d := d) (m := m) (l := l) (by omega)
  obtain ⟨d0, d1, b0, b1, l0, l1, r0, r1, _⟩ := HR
  have e1 : decide (keysI b (R : Int) d m l ≤ k) = false := decide_eq_false (by omega)
  obtain ⟨i0, hi, hz0, hz1, hz2⟩ := info_parts Try.infoInt
  go_enter Try.func26, Try.ntmps26
  go_wp2_with fail
  refine (rkeys_any b (R : Int) d m s l _).mono ?_; rintro e w1 ⟨rfl, hb'⟩
  have hk := (Blk.new w 24 #[.int .i64 b, .int .i64 (R : Int), .int .i64 d, .int .i64 m, .int .u64 s]).alloc (.cells #[] 3) |>.kept hb'
  have hown0 := World.ownsRow_lit (base := w.heap.size + 1) (e := 3) (size := 1) (w.alloc (.cells #[.int .i64 b, .int .i64 (R : Int), .int .i64 d, .int .i64 m, .int .u64 s] 24)) #[] 0 (by simp) (by unfold maxLen; omega) (by simp)
  have hown : w1.ownsRow (w.heap.size + 1) 3 1 (.slice (some ⟨w.heap.size + 1, 0, none⟩) 0 0) 0 [] := by
    have hg : ((w.alloc (.cells #[.int .i64 b, .int .i64 (R : Int), .int .i64 d, .int .i64 m, .int .u64 s] 24)).alloc (.cells #[] 3)).grownBy w1 none := ⟨hb'.os, hb'.tape, hb'.output, hb'.size, fun i hi _ => hb'.block i hi⟩
    have := hown0.kept hg (Or.inr (by simp [Value.ownBlock]))
    simpa using this
  have hbel : Below w.heap.size w w1 := (((Below.refl _ _).alloc (Nat.le_refl _) _).alloc (by simp) _).trans (hb'.mono (by simp; omega))
  have hsz : w.heap.size + 1 < w1.heap.size := by have := hb'.size; simp at this; omega
  clear hown0 hb'
  obtain ⟨q0, q1, q2, q3, q4⟩ := box_cells hk
  generalize hA : w.heap.size = A at *
  have HA := Lib.hid hA
  clear hA
  go_wp2_with fail
  clear q0 q1 q2 q3 q4
  have HK := Lib.hid hk
  have HO := Lib.hid hown
  have HBL := Lib.hid hbel
  clear hk hown hbel
  go_loopw [7, 8] (fun v i wr => ∃ j : Nat, j ≤ R ∧ i = .int .i64 (j : Int) ∧ wr.ownsRow (A + 1) 3 1 v j (((List.range j).map fun (i : Nat) => colI d s l k (i : Int)).map (Value.int .i64)) ∧ Blk wr A 24 #[.int .i64 b, .int .i64 (R : Int), .int .i64 d, .int .i64 m, .int .u64 s] ∧ Below A w wr ∧ A + 1 < wr.heap.size) (fun _ i _ => R - (intOf i).toNat)
  case atStart => exact ⟨0, by omega, rfl, HO.out, HK.out, HBL.out, hsz⟩
  case round =>
    obtain ⟨j, hj, rfl, hown, hk, hbel, hsz⟩ := hrel
    clear HO HK HBL
    obtain ⟨q0, q1, q2, q3, q4⟩ := box_cells hk
    have HK := Lib.hid hk
    have HO := Lib.hid hown
    have HBL := Lib.hid hbel
    clear hk hown hbel
    obtain ⟨pa0, pa1⟩ := pairA_bd s l (j : Int)
    obtain ⟨pb0, pb1⟩ := pairB_bd s l (j : Int)
    by_cases hlt : j < R
    · go_wp2_with fail
      refine (rpair_any s l (j : Int) s0 s1 l0 (by omega) (by omega) (by omega) _).mono ?_; rintro e w2 ⟨rfl, rfl⟩
      go_wp2_with fail
      refine (rbucket_any _ _ k d (by omega) (by omega) (by omega) (by omega) k0 k1 d0 (by omega) _).mono ?_; rintro e w2 ⟨rfl, rfl⟩
      rw [show lineI (pairA s l (j : Int)) (pairB s l (j : Int)) k % d = colI d s l k (j : Int) from rfl]
      have hlen : j + 1 ≤ maxLen := by unfold maxLen; omega
      go_wp2_with (at_builtin; refine wpList_append_own _ rfl _ _ 32 rfl (A + 1) 3 i0 (.int .i64 0) 1 8 Try.underlying32 hi hz0 hz1 hz2 rfl (by decide) _ _ _ rfl (HO.out.alloc _) ⟨wr.heap.size, 0, none⟩ 1 1 [.int .i64 (colI d s l k (j : Int))] rfl rfl (cell_one_new _ _ _) ?c2 hlen ?c4 ?c5 ?_)
      case c2 => simp [Value.oneCell']
      case c4 => omega
      case c5 => simp; omega
      intro v' w3 hown' hgrow _
      have hA1 : some A ≠ Value.ownBlock u7 := by
        intro h
        have := (HO.out.lt A h.symm).1
        omega
      have HK3 := Lib.hid ((HK.out.alloc (.cells #[.int .i64 (colI d s l k (j : Int))] 3)).grown hgrow hA1)
      have HB3 : Hid (Below A w w3) := Lib.hid ((HBL.out.alloc (by omega) _).grown hgrow (by simp; omega) (fun g hg => by have := (HO.out.lt g hg).1; omega))
      have HO3 : Hid (w3.ownsRow (A + 1) 3 1 v' (j + 1) (((List.range (j + 1)).map fun (i : Nat) => colI d s l k (i : Int)).map (Value.int .i64))) := Lib.hid (by rw [range_map_succ, List.map_map]; exact hown')
      have hsz3 : A + 1 < w3.heap.size := by have := hgrow.size; simp at this; omega
      clear hown' hgrow hA1 q0 q1 q2 q3 q4
      go_wp2
      go_roundw
      case rel => exact ⟨j + 1, by omega, by go_num, HO3.out, HK3.out, HB3.out, hsz3⟩
      case measure => simp [intOf]; omega
    · obtain rfl : j = R := by omega
      go_wp2
      go_ret
      exact ⟨_, rfl, IntsAt.of_own HO.out (by simp), by rw [HA.out]; exact HBL.out⟩

theorem rcols_none (b r d m s l k : Int) (hk : ¬ k < keysI b r d m l) (w : World) :
    Calls Try.prog 26 #[.agg #[.int .i64 b, .int .i64 r, .int .i64 d, .int .i64 m, .int .u64 s], .int .i64 l, .int .u64 k] w (RColsPost w 0 d s l k) := by
  have e1 : decide (keysI b r d m l ≤ k) = true := decide_eq_true (by omega)
  go_enter Try.func26, Try.ntmps26
  go_wp2_with fail
  refine (rkeys_any b r d m s l _).mono ?_; rintro e w1 ⟨rfl, hb'⟩
  have hbel : Below w.heap.size w w1 := (((Below.refl _ _).alloc (Nat.le_refl _) _).alloc (by simp) _).trans (hb'.mono (by simp; omega))
  clear hb'
  go_wp2
  go_ret
  exact ⟨_, rfl, ⟨_, _, rfl, Nat.le_refl _, fun h => by simp at h⟩, hbel⟩

theorem colsL_yes {b d m s l k : Int} {R : Nat} (hk : k < keysI b (R : Int) d m l) : colsL b (R : Int) d m s l k = (List.range R).map fun (i : Nat) => colI d s l k (i : Int) := by
  unfold colsL; rw [if_pos hk, Int.toNat_natCast]

set_option maxRecDepth 100000 in
set_option maxHeartbeats 2000000 in
theorem ShapeColumns_yes (b d m s l k : Int) (R : Nat) (s0 : 0 ≤ s) (s1 : s ≤ 18446744073709551615) (k0 : 0 ≤ k) (k1 : k ≤ 18446744073709551615) (hkk : k < keysI b (R : Int) d m l) (w : World) :
    Calls Try.prog 4 #[.agg #[.int .i64 b, .int .i64 (R : Int), .int .i64 d, .int .i64 m, .int .u64 s], .int .i64 l, .int .u64 k] w fun e w' => e = .returned (.bool true) ∧ Below w.heap.size w w' := by
  go_enter Try.func4, Try.ntmps4
  go_wp2_with fail
  refine (shown07 _).mono ?_; rintro e w1 ⟨rfl, hb'⟩
  obtain ⟨hk, hbel⟩ := box_kept hb'
  clear hb'
  obtain ⟨q0, q1, q2, q3, q4⟩ := box_cells hk
  go_wp2_with fail
  refine (above_any b (R : Int) d m s l k k0 k1 _).mono ?_; rintro e w2 ⟨rfl, hb'⟩
  replace hk := hk.kept hb'; clear q0 q1 q2 q3 q4; obtain ⟨q0, q1, q2, q3, q4⟩ := box_cells hk; replace hbel := btr hbel hb'; clear hb'
  go_wp2_with fail
  refine (rabove_any b (R : Int) d m s l k k0 k1 _).mono ?_; rintro e w2 ⟨rfl, hb'⟩
  replace hk := hk.kept hb'; clear q0 q1 q2 q3 q4; obtain ⟨q0, q1, q2, q3, q4⟩ := box_cells hk; replace hbel := btr hbel hb'; clear hb'
  go_wp2_with fail
  have r8 : R ≤ 8 := by have := keys_right (b := b) (r := (R : Int)) (d := d) (m := m) (l := l) (by omega); omega
  refine wp_region_held_drew (S := fun w' => Blk w' w.heap.size 24 #[.int .i64 b, .int .i64 (R : Int), .int .i64 d, .int .i64 m, .int .u64 s] ∧ Below w.heap.size w w') (by kernel_rfl) (by exact ⟨hk.drew, hbel.drew⟩) (fun hHeld => ?_)
  refine wpAnyH_take (i := 0) (v := ?_) rfl (by kernel_rfl) (by kernel_rfl) (by kernel_rfl) (fun _ _ _ h => h) (Or.inl ⟨by rfl, ?_⟩) (by assumption) ?_
  rotate_left
  · intro w hSw
    try dsimp only at hSw
    go_simp
    try with_reducible rfl
  simp only [Act.put, List.setIfInBounds_toArray, List.set_cons_zero, List.set_cons_succ, List.getElem_toArray, List.getElem_cons_zero, List.getElem_cons_succ]
  refine wpAnyH_take (i := 1) (v := ?_) rfl (by kernel_rfl) (by kernel_rfl) (by kernel_rfl) (fun _ _ _ h => h) (Or.inl ⟨by rfl, ?_⟩) (by assumption) ?_
  rotate_left
  · intro w hSw
    try dsimp only at hSw
    go_simp
    try with_reducible rfl
  simp only [Act.put, List.setIfInBounds_toArray, List.set_cons_zero, List.set_cons_succ, List.getElem_toArray, List.getElem_cons_zero, List.getElem_cons_succ]
  refine wpAnyH_take (i := 2) (v := ?_) rfl (by kernel_rfl) (by kernel_rfl) (by kernel_rfl) (fun _ _ _ h => h) (Or.inl ⟨by rfl, ?_⟩) (by assumption) ?_
  rotate_left
  · intro w hSw
    try dsimp only at hSw
    go_simp
    try with_reducible rfl
  simp only [Act.put, List.setIfInBounds_toArray, List.set_cons_zero, List.set_cons_succ, List.getElem_toArray, List.getElem_cons_zero, List.getElem_cons_succ]
  refine wpAnyH_take (i := 3) (v := ?_) rfl (by kernel_rfl) (by kernel_rfl) (by kernel_rfl) (fun _ _ _ h => h) (Or.inl ⟨by rfl, ?_⟩) (by assumption) ?_
  rotate_left
  · intro w hSw
    try dsimp only at hSw
    go_simp
    try with_reducible rfl
  simp only [Act.put, List.setIfInBounds_toArray, List.set_cons_zero, List.set_cons_succ, List.getElem_toArray, List.getElem_cons_zero, List.getElem_cons_succ]
  refine wpAnyH_take (i := 4) (v := ?_) rfl (by kernel_rfl) (by kernel_rfl) (by kernel_rfl) (fun _ _ _ h => h) (Or.inl ⟨by rfl, ?_⟩) (by assumption) ?_
  rotate_left
  · intro w hSw
    try dsimp only at hSw
    go_simp
    try with_reducible rfl
  simp only [Act.put, List.setIfInBounds_toArray, List.set_cons_zero, List.set_cons_succ, List.getElem_toArray, List.getElem_cons_zero, List.getElem_cons_succ]
  refine wpAnyH_take (i := 5) (v := ?_) rfl (by kernel_rfl) (by kernel_rfl) (by kernel_rfl) (fun _ _ _ h => h) (Or.inl ⟨by rfl, ?_⟩) (by assumption) ?_
  rotate_left
  · intro w hSw
    try dsimp only at hSw
    go_simp
    try with_reducible rfl
  simp only [Act.put, List.setIfInBounds_toArray, List.set_cons_zero, List.set_cons_succ, List.getElem_toArray, List.getElem_cons_zero, List.getElem_cons_succ]
  refine wpAnyH_take (i := 6) (v := ?_) rfl (by kernel_rfl) (by kernel_rfl) (by kernel_rfl) (fun _ _ _ h => h) (Or.inl ⟨by rfl, ?_⟩) (by assumption) ?_
  rotate_left
  · intro w hSw
    try dsimp only at hSw
    go_simp
    try with_reducible rfl
  simp only [Act.put, List.setIfInBounds_toArray, List.set_cons_zero, List.set_cons_succ, List.getElem_toArray, List.getElem_cons_zero, List.getElem_cons_succ]
  refine wpAnyH_take (i := 7) (v := ?_) rfl (by kernel_rfl) (by kernel_rfl) (by kernel_rfl) (fun _ _ _ h => h) (Or.inl ⟨by rfl, ?_⟩) (by assumption) ?_
  rotate_left
  · intro w hSw
    try dsimp only at hSw
    go_simp
    try with_reducible rfl
  simp only [Act.put, List.setIfInBounds_toArray, List.set_cons_zero, List.set_cons_succ, List.getElem_toArray, List.getElem_cons_zero, List.getElem_cons_succ]
  refine wpAnyH_take (i := 8) (v := ?_) rfl (by kernel_rfl) (by kernel_rfl) (by kernel_rfl) (fun _ _ _ h => h) (Or.inl ⟨by rfl, ?_⟩) (by assumption) ?_
  rotate_left
  · intro w hSw
    try dsimp only at hSw
    go_simp
    try with_reducible rfl
  simp only [Act.put, List.setIfInBounds_toArray, List.set_cons_zero, List.set_cons_succ, List.getElem_toArray, List.getElem_cons_zero, List.getElem_cons_succ]
  refine wpAnyH_take (i := 9) (v := ?_) rfl (by kernel_rfl) (by kernel_rfl) (by kernel_rfl) (fun _ _ _ h => h) (Or.inl ⟨by rfl, ?_⟩) (by assumption) ?_
  rotate_left
  · intro w hSw
    try dsimp only at hSw
    go_simp
    try with_reducible rfl
  simp only [Act.put, List.setIfInBounds_toArray, List.set_cons_zero, List.set_cons_succ, List.getElem_toArray, List.getElem_cons_zero, List.getElem_cons_succ]
  refine wpAnyH_take (i := 10) (v := ?_) rfl (by kernel_rfl) (by kernel_rfl) (by kernel_rfl) (fun _ _ _ h => h) (Or.inl ⟨by rfl, ?_⟩) (by assumption) ?_
  rotate_left
  · intro w hSw
    try dsimp only at hSw
    go_simp
    try with_reducible rfl
  simp only [Act.put, List.setIfInBounds_toArray, List.set_cons_zero, List.set_cons_succ, List.getElem_toArray, List.getElem_cons_zero, List.getElem_cons_succ]
  refine wpAnyH_take (i := 11) (v := ?_) rfl (by kernel_rfl) (by kernel_rfl) (by kernel_rfl) (fun _ _ _ h => h) (Or.inl ⟨by rfl, ?_⟩) (by assumption) ?_
  rotate_left
  · intro w hSw
    try dsimp only at hSw
    go_simp
    try with_reducible rfl
  simp only [Act.put, List.setIfInBounds_toArray, List.set_cons_zero, List.set_cons_succ, List.getElem_toArray, List.getElem_cons_zero, List.getElem_cons_succ]
  refine wpAnyH_take (i := 12) (v := ?_) rfl (by kernel_rfl) (by kernel_rfl) (by kernel_rfl) (fun _ _ _ h => h) (Or.inl ⟨by rfl, ?_⟩) (by assumption) ?_
  rotate_left
  · intro w hSw
    obtain ⟨q0, q1, q2, q3, q4⟩ := box_cells hSw.1
    go_simp
    try with_reducible rfl
  simp only [Act.put, List.setIfInBounds_toArray, List.set_cons_zero, List.set_cons_succ, List.getElem_toArray, List.getElem_cons_zero, List.getElem_cons_succ]
  refine wpAnyH_take (i := 13) (v := ?_) rfl (by kernel_rfl) (by kernel_rfl) (by kernel_rfl) (fun _ _ _ h => h) (Or.inl ⟨by rfl, ?_⟩) (by assumption) ?_
  rotate_left
  · intro w hSw
    try dsimp only at hSw
    go_simp
    try with_reducible rfl
  simp only [Act.put, List.setIfInBounds_toArray, List.set_cons_zero, List.set_cons_succ, List.getElem_toArray, List.getElem_cons_zero, List.getElem_cons_succ]
  refine wpAnyH_take (i := 14) (v := ?_) rfl (by kernel_rfl) (by kernel_rfl) (by kernel_rfl) (fun _ _ _ h => h) (Or.inl ⟨by rfl, ?_⟩) (by assumption) ?_
  rotate_left
  · intro w hSw
    try dsimp only at hSw
    go_simp
    try with_reducible rfl
  simp only [Act.put, List.setIfInBounds_toArray, List.set_cons_zero, List.set_cons_succ, List.getElem_toArray, List.getElem_cons_zero, List.getElem_cons_succ]
  refine wpAnyH_take (i := 16) (v := ?_) rfl (by kernel_rfl) (by kernel_rfl) (by kernel_rfl) (fun _ _ _ h => h) (Or.inl ⟨by rfl, ?_⟩) (by assumption) ?_
  rotate_left
  · intro w hSw
    obtain ⟨q0, q1, q2, q3, q4⟩ := box_cells hSw.1
    go_simp
    try with_reducible rfl
  simp only [Act.put, List.setIfInBounds_toArray, List.set_cons_zero, List.set_cons_succ, List.getElem_toArray, List.getElem_cons_zero, List.getElem_cons_succ]
  refine wpAnyH_take (i := 17) (v := ?_) rfl (by kernel_rfl) (by kernel_rfl) (by kernel_rfl) (fun _ _ _ h => h) (Or.inl ⟨by rfl, ?_⟩) (by assumption) ?_
  rotate_left
  · intro w hSw
    try dsimp only at hSw
    go_simp
    try with_reducible rfl
  simp only [Act.put, List.setIfInBounds_toArray, List.set_cons_zero, List.set_cons_succ, List.getElem_toArray, List.getElem_cons_zero, List.getElem_cons_succ]
  refine wpAnyH_take (i := 18) (v := ?_) rfl (by kernel_rfl) (by kernel_rfl) (by kernel_rfl) (fun _ _ _ h => h) (Or.inl ⟨by rfl, ?_⟩) (by assumption) ?_
  rotate_left
  · intro w hSw
    try dsimp only at hSw
    go_simp
    try with_reducible rfl
  simp only [Act.put, List.setIfInBounds_toArray, List.set_cons_zero, List.set_cons_succ, List.getElem_toArray, List.getElem_cons_zero, List.getElem_cons_succ]
  refine wpAnyH_ready (rs := [15]) (by kernel_rfl) (by simp) ?_
  refine AllReadyH.cons rfl (fun K hK => ?_) AllReadyH.nil
  go_simp
  go_wp2_with (first
      | (go_at_call 25; refine (cols_any b d m s l k R s0 s1 k0 k1 hkk _).mono ?_; rintro e w' ⟨g, rfl, _, hrow, hb'⟩; have hia := IntsAt.of_row hrow; clear hrow)
      | (go_at_call 26; refine (rcols_any b d m s l k R s0 s1 k0 k1 hkk _).mono ?_; rintro e w' ⟨v, rfl, hib, hb'⟩; replace hia := hia.kept hb')
      | (go_at_call 24; refine (same07_any _ _ _ _ _ hia hib (by simp; omega) (by simp; omega)).mono ?_; rintro e w' ⟨rfl, hb'⟩))
  refine hK.out _ _ ?_ (fun hHeld => ?_)
  · first | assumption | exact ⟨hHeld.1.kept hb', hHeld.2.trans (hb'.mono (by have := hHeld.2.size; omega))⟩
  clear hK K
  refine wpAnyH_ready (rs := [19]) (by kernel_rfl) (by simp) ?_
  refine AllReadyH.cons rfl (fun K hK => ?_) AllReadyH.nil
  go_simp
  go_wp2_with (first
      | (go_at_call 25; refine (cols_any b d m s l k R s0 s1 k0 k1 hkk _).mono ?_; rintro e w' ⟨g, rfl, _, hrow, hb'⟩; have hia := IntsAt.of_row hrow; clear hrow)
      | (go_at_call 26; refine (rcols_any b d m s l k R s0 s1 k0 k1 hkk _).mono ?_; rintro e w' ⟨v, rfl, hib, hb'⟩; replace hia := hia.kept hb')
      | (go_at_call 24; refine (same07_any _ _ _ _ _ hia hib (by simp; omega) (by simp; omega)).mono ?_; rintro e w' ⟨rfl, hb'⟩))
  refine hK.out _ _ ?_ (fun hHeld => ?_)
  · first | assumption | exact ⟨hHeld.1.kept hb', hHeld.2.trans (hb'.mono (by have := hHeld.2.size; omega))⟩
  clear hK K
  refine wpAnyH_ready (rs := [20]) (by kernel_rfl) (by simp) ?_
  refine AllReadyH.cons rfl (fun K hK => ?_) AllReadyH.nil
  go_simp
  go_wp2_with (first
      | (go_at_call 25; refine (cols_any b d m s l k R s0 s1 k0 k1 hkk _).mono ?_; rintro e w' ⟨g, rfl, _, hrow, hb'⟩; have hia := IntsAt.of_row hrow; clear hrow)
      | (go_at_call 26; refine (rcols_any b d m s l k R s0 s1 k0 k1 hkk _).mono ?_; rintro e w' ⟨v, rfl, hib, hb'⟩; replace hia := hia.kept hb')
      | (go_at_call 24; refine (same07_any _ _ _ _ _ hia hib (by simp; omega) (by simp; omega)).mono ?_; rintro e w' ⟨rfl, hb'⟩))
  refine hK.out _ _ ?_ (fun hHeld => ?_)
  · first | assumption | exact ⟨hHeld.1.kept hb', hHeld.2.trans (hb'.mono (by have := hHeld.2.size; omega))⟩
  clear hK K
  refine wpAnyH_take (i := 21) (v := ?_) rfl (by kernel_rfl) (by kernel_rfl) (by kernel_rfl) (fun _ _ _ h => h) (Or.inl ⟨by rfl, ?_⟩) (by assumption) ?_
  rotate_left
  · intro w hSw
    try dsimp only at hSw
    go_simp
    try with_reducible rfl
  simp only [Act.put, List.setIfInBounds_toArray, List.set_cons_zero, List.set_cons_succ, List.getElem_toArray, List.getElem_cons_zero, List.getElem_cons_succ]
  refine wpAnyH_take (i := 22) (v := ?_) rfl (by kernel_rfl) (by kernel_rfl) (by kernel_rfl) (fun _ _ _ h => h) (Or.inl ⟨by rfl, ?_⟩) (by assumption) ?_
  rotate_left
  · intro w hSw
    try dsimp only at hSw
    go_simp
    try with_reducible rfl
  simp only [Act.put, List.setIfInBounds_toArray, List.set_cons_zero, List.set_cons_succ, List.getElem_toArray, List.getElem_cons_zero, List.getElem_cons_succ]
  refine wpAnyH_done (by kernel_rfl) ?_ _
  have HB := Lib.hid hHeld.2
  go_wp2
  go_ret
  exact ⟨rfl, HB.out⟩
set_option maxRecDepth 100000 in
set_option maxHeartbeats 2000000 in
theorem ShapeColumns_no (b r d m s l k : Int) (k0 : 0 ≤ k) (k1 : k ≤ 18446744073709551615) (hkk : ¬ k < keysI b r d m l) (w : World) :
    Calls Try.prog 4 #[.agg #[.int .i64 b, .int .i64 r, .int .i64 d, .int .i64 m, .int .u64 s], .int .i64 l, .int .u64 k] w fun e w' => e = .returned (.bool true) ∧ Below w.heap.size w w' := by
  go_enter Try.func4, Try.ntmps4
  go_wp2_with fail
  refine (shown07 _).mono ?_; rintro e w1 ⟨rfl, hb'⟩
  obtain ⟨hk, hbel⟩ := box_kept hb'
  clear hb'
  obtain ⟨q0, q1, q2, q3, q4⟩ := box_cells hk
  go_wp2_with fail
  refine (above_any b r d m s l k k0 k1 _).mono ?_; rintro e w2 ⟨rfl, hb'⟩
  replace hk := hk.kept hb'; clear q0 q1 q2 q3 q4; obtain ⟨q0, q1, q2, q3, q4⟩ := box_cells hk; replace hbel := btr hbel hb'; clear hb'
  go_wp2_with fail
  refine (rabove_any b r d m s l k k0 k1 _).mono ?_; rintro e w2 ⟨rfl, hb'⟩
  replace hk := hk.kept hb'; clear q0 q1 q2 q3 q4; obtain ⟨q0, q1, q2, q3, q4⟩ := box_cells hk; replace hbel := btr hbel hb'; clear hb'
  go_wp2_with fail
  refine wp_region_held_drew (S := fun w' => Blk w' w.heap.size 24 #[.int .i64 b, .int .i64 r, .int .i64 d, .int .i64 m, .int .u64 s] ∧ Below w.heap.size w w') (by kernel_rfl) (by exact ⟨hk.drew, hbel.drew⟩) (fun hHeld => ?_)
  refine wpAnyH_take (i := 0) (v := ?_) rfl (by kernel_rfl) (by kernel_rfl) (by kernel_rfl) (fun _ _ _ h => h) (Or.inl ⟨by rfl, ?_⟩) (by assumption) ?_
  rotate_left
  · intro w hSw
    try dsimp only at hSw
    go_simp
    try with_reducible rfl
  simp only [Act.put, List.setIfInBounds_toArray, List.set_cons_zero, List.set_cons_succ, List.getElem_toArray, List.getElem_cons_zero, List.getElem_cons_succ]
  refine wpAnyH_take (i := 1) (v := ?_) rfl (by kernel_rfl) (by kernel_rfl) (by kernel_rfl) (fun _ _ _ h => h) (Or.inl ⟨by rfl, ?_⟩) (by assumption) ?_
  rotate_left
  · intro w hSw
    try dsimp only at hSw
    go_simp
    try with_reducible rfl
  simp only [Act.put, List.setIfInBounds_toArray, List.set_cons_zero, List.set_cons_succ, List.getElem_toArray, List.getElem_cons_zero, List.getElem_cons_succ]
  refine wpAnyH_take (i := 2) (v := ?_) rfl (by kernel_rfl) (by kernel_rfl) (by kernel_rfl) (fun _ _ _ h => h) (Or.inl ⟨by rfl, ?_⟩) (by assumption) ?_
  rotate_left
  · intro w hSw
    try dsimp only at hSw
    go_simp
    try with_reducible rfl
  simp only [Act.put, List.setIfInBounds_toArray, List.set_cons_zero, List.set_cons_succ, List.getElem_toArray, List.getElem_cons_zero, List.getElem_cons_succ]
  refine wpAnyH_take (i := 3) (v := ?_) rfl (by kernel_rfl) (by kernel_rfl) (by kernel_rfl) (fun _ _ _ h => h) (Or.inl ⟨by rfl, ?_⟩) (by assumption) ?_
  rotate_left
  · intro w hSw
    try dsimp only at hSw
    go_simp
    try with_reducible rfl
  simp only [Act.put, List.setIfInBounds_toArray, List.set_cons_zero, List.set_cons_succ, List.getElem_toArray, List.getElem_cons_zero, List.getElem_cons_succ]
  refine wpAnyH_take (i := 4) (v := ?_) rfl (by kernel_rfl) (by kernel_rfl) (by kernel_rfl) (fun _ _ _ h => h) (Or.inl ⟨by rfl, ?_⟩) (by assumption) ?_
  rotate_left
  · intro w hSw
    try dsimp only at hSw
    go_simp
    try with_reducible rfl
  simp only [Act.put, List.setIfInBounds_toArray, List.set_cons_zero, List.set_cons_succ, List.getElem_toArray, List.getElem_cons_zero, List.getElem_cons_succ]
  refine wpAnyH_take (i := 5) (v := ?_) rfl (by kernel_rfl) (by kernel_rfl) (by kernel_rfl) (fun _ _ _ h => h) (Or.inl ⟨by rfl, ?_⟩) (by assumption) ?_
  rotate_left
  · intro w hSw
    try dsimp only at hSw
    go_simp
    try with_reducible rfl
  simp only [Act.put, List.setIfInBounds_toArray, List.set_cons_zero, List.set_cons_succ, List.getElem_toArray, List.getElem_cons_zero, List.getElem_cons_succ]
  refine wpAnyH_take (i := 6) (v := ?_) rfl (by kernel_rfl) (by kernel_rfl) (by kernel_rfl) (fun _ _ _ h => h) (Or.inl ⟨by rfl, ?_⟩) (by assumption) ?_
  rotate_left
  · intro w hSw
    try dsimp only at hSw
    go_simp
    try with_reducible rfl
  simp only [Act.put, List.setIfInBounds_toArray, List.set_cons_zero, List.set_cons_succ, List.getElem_toArray, List.getElem_cons_zero, List.getElem_cons_succ]
  refine wpAnyH_take (i := 7) (v := ?_) rfl (by kernel_rfl) (by kernel_rfl) (by kernel_rfl) (fun _ _ _ h => h) (Or.inl ⟨by rfl, ?_⟩) (by assumption) ?_
  rotate_left
  · intro w hSw
    try dsimp only at hSw
    go_simp
    try with_reducible rfl
  simp only [Act.put, List.setIfInBounds_toArray, List.set_cons_zero, List.set_cons_succ, List.getElem_toArray, List.getElem_cons_zero, List.getElem_cons_succ]
  refine wpAnyH_take (i := 8) (v := ?_) rfl (by kernel_rfl) (by kernel_rfl) (by kernel_rfl) (fun _ _ _ h => h) (Or.inl ⟨by rfl, ?_⟩) (by assumption) ?_
  rotate_left
  · intro w hSw
    try dsimp only at hSw
    go_simp
    try with_reducible rfl
  simp only [Act.put, List.setIfInBounds_toArray, List.set_cons_zero, List.set_cons_succ, List.getElem_toArray, List.getElem_cons_zero, List.getElem_cons_succ]
  refine wpAnyH_take (i := 9) (v := ?_) rfl (by kernel_rfl) (by kernel_rfl) (by kernel_rfl) (fun _ _ _ h => h) (Or.inl ⟨by rfl, ?_⟩) (by assumption) ?_
  rotate_left
  · intro w hSw
    try dsimp only at hSw
    go_simp
    try with_reducible rfl
  simp only [Act.put, List.setIfInBounds_toArray, List.set_cons_zero, List.set_cons_succ, List.getElem_toArray, List.getElem_cons_zero, List.getElem_cons_succ]
  refine wpAnyH_take (i := 10) (v := ?_) rfl (by kernel_rfl) (by kernel_rfl) (by kernel_rfl) (fun _ _ _ h => h) (Or.inl ⟨by rfl, ?_⟩) (by assumption) ?_
  rotate_left
  · intro w hSw
    try dsimp only at hSw
    go_simp
    try with_reducible rfl
  simp only [Act.put, List.setIfInBounds_toArray, List.set_cons_zero, List.set_cons_succ, List.getElem_toArray, List.getElem_cons_zero, List.getElem_cons_succ]
  refine wpAnyH_take (i := 11) (v := ?_) rfl (by kernel_rfl) (by kernel_rfl) (by kernel_rfl) (fun _ _ _ h => h) (Or.inl ⟨by rfl, ?_⟩) (by assumption) ?_
  rotate_left
  · intro w hSw
    try dsimp only at hSw
    go_simp
    try with_reducible rfl
  simp only [Act.put, List.setIfInBounds_toArray, List.set_cons_zero, List.set_cons_succ, List.getElem_toArray, List.getElem_cons_zero, List.getElem_cons_succ]
  refine wpAnyH_take (i := 12) (v := ?_) rfl (by kernel_rfl) (by kernel_rfl) (by kernel_rfl) (fun _ _ _ h => h) (Or.inl ⟨by rfl, ?_⟩) (by assumption) ?_
  rotate_left
  · intro w hSw
    obtain ⟨q0, q1, q2, q3, q4⟩ := box_cells hSw.1
    go_simp
    try with_reducible rfl
  simp only [Act.put, List.setIfInBounds_toArray, List.set_cons_zero, List.set_cons_succ, List.getElem_toArray, List.getElem_cons_zero, List.getElem_cons_succ]
  refine wpAnyH_take (i := 13) (v := ?_) rfl (by kernel_rfl) (by kernel_rfl) (by kernel_rfl) (fun _ _ _ h => h) (Or.inl ⟨by rfl, ?_⟩) (by assumption) ?_
  rotate_left
  · intro w hSw
    try dsimp only at hSw
    go_simp
    try with_reducible rfl
  simp only [Act.put, List.setIfInBounds_toArray, List.set_cons_zero, List.set_cons_succ, List.getElem_toArray, List.getElem_cons_zero, List.getElem_cons_succ]
  refine wpAnyH_take (i := 14) (v := ?_) rfl (by kernel_rfl) (by kernel_rfl) (by kernel_rfl) (fun _ _ _ h => h) (Or.inl ⟨by rfl, ?_⟩) (by assumption) ?_
  rotate_left
  · intro w hSw
    try dsimp only at hSw
    go_simp
    try with_reducible rfl
  simp only [Act.put, List.setIfInBounds_toArray, List.set_cons_zero, List.set_cons_succ, List.getElem_toArray, List.getElem_cons_zero, List.getElem_cons_succ]
  refine wpAnyH_take (i := 16) (v := ?_) rfl (by kernel_rfl) (by kernel_rfl) (by kernel_rfl) (fun _ _ _ h => h) (Or.inl ⟨by rfl, ?_⟩) (by assumption) ?_
  rotate_left
  · intro w hSw
    obtain ⟨q0, q1, q2, q3, q4⟩ := box_cells hSw.1
    go_simp
    try with_reducible rfl
  simp only [Act.put, List.setIfInBounds_toArray, List.set_cons_zero, List.set_cons_succ, List.getElem_toArray, List.getElem_cons_zero, List.getElem_cons_succ]
  refine wpAnyH_take (i := 17) (v := ?_) rfl (by kernel_rfl) (by kernel_rfl) (by kernel_rfl) (fun _ _ _ h => h) (Or.inl ⟨by rfl, ?_⟩) (by assumption) ?_
  rotate_left
  · intro w hSw
    try dsimp only at hSw
    go_simp
    try with_reducible rfl
  simp only [Act.put, List.setIfInBounds_toArray, List.set_cons_zero, List.set_cons_succ, List.getElem_toArray, List.getElem_cons_zero, List.getElem_cons_succ]
  refine wpAnyH_take (i := 18) (v := ?_) rfl (by kernel_rfl) (by kernel_rfl) (by kernel_rfl) (fun _ _ _ h => h) (Or.inl ⟨by rfl, ?_⟩) (by assumption) ?_
  rotate_left
  · intro w hSw
    try dsimp only at hSw
    go_simp
    try with_reducible rfl
  simp only [Act.put, List.setIfInBounds_toArray, List.set_cons_zero, List.set_cons_succ, List.getElem_toArray, List.getElem_cons_zero, List.getElem_cons_succ]
  refine wpAnyH_ready (rs := [15]) (by kernel_rfl) (by simp) ?_
  refine AllReadyH.cons rfl (fun K hK => ?_) AllReadyH.nil
  go_simp
  go_wp2_with (first
      | (go_at_call 25; refine (cols_none b r d m s l k (by omega) _).mono ?_; rintro e w' ⟨rfl, hb'⟩; have hia : IntsAt w' (.slice none 0 0) [] := ⟨none, 0, rfl, Nat.le_refl _, fun h => by simp at h⟩)
      | (go_at_call 26; refine (rcols_none b r d m s l k (by omega) _).mono ?_; rintro e w' ⟨v, rfl, hib, hb'⟩; replace hia := hia.kept hb')
      | (go_at_call 24; refine (same07_any _ _ _ _ _ hia hib (by simp) (by simp)).mono ?_; rintro e w' ⟨rfl, hb'⟩))
  refine hK.out _ _ ?_ (fun hHeld => ?_)
  · first | assumption | exact ⟨hHeld.1.kept hb', hHeld.2.trans (hb'.mono (by have := hHeld.2.size; omega))⟩
  clear hK K
  refine wpAnyH_ready (rs := [19]) (by kernel_rfl) (by simp) ?_
  refine AllReadyH.cons rfl (fun K hK => ?_) AllReadyH.nil
  go_simp
  go_wp2_with (first
      | (go_at_call 25; refine (cols_none b r d m s l k (by omega) _).mono ?_; rintro e w' ⟨rfl, hb'⟩; have hia : IntsAt w' (.slice none 0 0) [] := ⟨none, 0, rfl, Nat.le_refl _, fun h => by simp at h⟩)
      | (go_at_call 26; refine (rcols_none b r d m s l k (by omega) _).mono ?_; rintro e w' ⟨v, rfl, hib, hb'⟩; replace hia := hia.kept hb')
      | (go_at_call 24; refine (same07_any _ _ _ _ _ hia hib (by simp) (by simp)).mono ?_; rintro e w' ⟨rfl, hb'⟩))
  refine hK.out _ _ ?_ (fun hHeld => ?_)
  · first | assumption | exact ⟨hHeld.1.kept hb', hHeld.2.trans (hb'.mono (by have := hHeld.2.size; omega))⟩
  clear hK K
  refine wpAnyH_ready (rs := [20]) (by kernel_rfl) (by simp) ?_
  refine AllReadyH.cons rfl (fun K hK => ?_) AllReadyH.nil
  go_simp
  go_wp2_with (first
      | (go_at_call 25; refine (cols_none b r d m s l k (by omega) _).mono ?_; rintro e w' ⟨rfl, hb'⟩; have hia : IntsAt w' (.slice none 0 0) [] := ⟨none, 0, rfl, Nat.le_refl _, fun h => by simp at h⟩)
      | (go_at_call 26; refine (rcols_none b r d m s l k (by omega) _).mono ?_; rintro e w' ⟨v, rfl, hib, hb'⟩; replace hia := hia.kept hb')
      | (go_at_call 24; refine (same07_any _ _ _ _ _ hia hib (by simp) (by simp)).mono ?_; rintro e w' ⟨rfl, hb'⟩))
  refine hK.out _ _ ?_ (fun hHeld => ?_)
  · first | assumption | exact ⟨hHeld.1.kept hb', hHeld.2.trans (hb'.mono (by have := hHeld.2.size; omega))⟩
  clear hK K
  refine wpAnyH_take (i := 21) (v := ?_) rfl (by kernel_rfl) (by kernel_rfl) (by kernel_rfl) (fun _ _ _ h => h) (Or.inl ⟨by rfl, ?_⟩) (by assumption) ?_
  rotate_left
  · intro w hSw
    try dsimp only at hSw
    go_simp
    try with_reducible rfl
  simp only [Act.put, List.setIfInBounds_toArray, List.set_cons_zero, List.set_cons_succ, List.getElem_toArray, List.getElem_cons_zero, List.getElem_cons_succ]
  refine wpAnyH_take (i := 22) (v := ?_) rfl (by kernel_rfl) (by kernel_rfl) (by kernel_rfl) (fun _ _ _ h => h) (Or.inl ⟨by rfl, ?_⟩) (by assumption) ?_
  rotate_left
  · intro w hSw
    try dsimp only at hSw
    go_simp
    try with_reducible rfl
  simp only [Act.put, List.setIfInBounds_toArray, List.set_cons_zero, List.set_cons_succ, List.getElem_toArray, List.getElem_cons_zero, List.getElem_cons_succ]
  refine wpAnyH_done (by kernel_rfl) ?_ _
  have HB := Lib.hid hHeld.2
  go_wp2
  go_ret
  exact ⟨rfl, HB.out⟩

theorem ShapeColumns_walk (v0 v1 v2 : Value) (w : World) (h0 : shCfg.Val w v0) (h1 : (Sh.int .i64).Val w v1) (h2 : (Sh.int .u64).Val w v2) :
    Calls Try.prog 4 #[v0, v1, v2] w fun e w' => e = .returned (.bool true) ∧ Below w.heap.size w w' := by
  obtain ⟨b, r, d, m, s, rfl, wb, wr, wd, wm, ws⟩ := valCfg h0
  obtain ⟨l, rfl, wl⟩ := Sh.val_int h1
  obtain ⟨k, rfl, wk⟩ := Sh.val_int h2
  obtain ⟨k0, k1⟩ := bounds_u64 wk
  obtain ⟨s0, s1⟩ := bounds_u64 ws
  by_cases hkk : k < keysI b r d m l
  · have hr := keys_right (b := b) (r := r) (d := d) (m := m) (l := l) (by omega)
    obtain ⟨R, rfl⟩ := Int.eq_ofNat_of_zero_le (show 0 ≤ r by omega)
    exact ShapeColumns_yes b d m s l k R s0 s1 k0 k1 hkk w
  · exact ShapeColumns_no b r d m s l k k0 k1 hkk w
end Go.Proofs.Ytfjhecgicemoeaa
