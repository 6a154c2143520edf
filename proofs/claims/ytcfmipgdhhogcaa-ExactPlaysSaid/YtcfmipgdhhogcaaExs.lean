/-
  The walk of gaugerlaw12.shown. Conditions: none.
-/
import Derived.Test.YtcfmipgdhhogcaaExc
namespace Go.Proofs.Ytcfmipgdhhogcaa
open Go.RowKit
set_option linter.unusedVariables false
set_option linter.unusedSimpArgs false

theorem lit2 (w : World) (a b : Int) (t : TypeId) : IntsAt (w.alloc (.cells #[.int .i64 a, .int .i64 b] t)) (.slice (some ⟨w.heap.size, 0, none⟩) 2 2) [a, b] :=
  ⟨some ⟨w.heap.size, 0, none⟩, 2, rfl, by simp, fun _ => ⟨w.heap.size, rfl, by simp, two_cells w a b t⟩⟩
theorem same06_true (va vb : Value) (xs : List Int) (w : World) (ha : IntsAt w va xs) (hb : IntsAt w vb xs) (hx : xs.length ≤ 100000) :
    Calls Try.prog 19 #[va, vb] w fun e w' => e = .returned (.bool true) ∧ Below w.heap.size w w' := by
  refine (same06_any va vb xs xs w ha hb (by omega) (by omega)).mono ?_
  rintro e w' ⟨rfl, h⟩
  exact ⟨by simp, h⟩

set_option maxRecDepth 100000 in
set_option maxHeartbeats 4000000 in
theorem shown12 (w : World) : Calls Try.prog 8 #[] w fun e w' => e = .returned (.bool true) ∧ Below w.heap.size w w' := by
  have hgd : Try.prog.eqGuardType Try.prog.depth 24 = false := by kernel_rfl
  have EQ := eqCfg 2 1 2 1 0 2 1 2 1 0
  have hq : cfgEq 2 1 2 1 0 2 1 2 1 0 = true := by decide
  rw [hq] at EQ
  clear hq
  have P1 := fun w => exnew_yes 2 1 2 1 0 1 (by decide) w
  unfold ExNewPost at P1
  have hk : (keysI 2 1 2 1 1).toNat = 2 := by decide
  rw [hk, show List.replicate (1 * 2) (0 : Int) = [0, 0] from rfl] at P1
  clear hk
  have P1 := Lib.hid P1
  have P2 := Lib.hid (fun w => exnew_no 2 1 2 1 0 0 (by decide) w)
  have k1 : chkI 2 1 [0, 0] 1 5 = 0 := by decide
  have k2 : updZ 2 1 [0, 0] 1 5 = [0, 5] := by decide
  have k3 : chkI 2 1 [0, 5] 2 5 = 2 := by decide
  have k4 : updZ 2 1 [0, 5] 2 5 = [0, 5] := by decide
  have HK := Lib.hid (And.intro k1 (And.intro k2 (And.intro k3 k4)))
  clear k1 k2 k3 k4
  obtain ⟨g1, hb1, hsz1⟩ := news1 w (.cells #[.int .i64 2, .int .i64 1, .int .i64 2, .int .i64 1, .int .u64 0] 24)
  have hx1 : Blk _ w.heap.size 24 #[.int .i64 2, .int .i64 1, .int .i64 2, .int .i64 1, .int .u64 0] := g1
  have HX1 := Lib.hid hx1
  have HB1 := Lib.hid hb1
  clear g1 hx1 hb1 hsz1
  go_enter Try.func8, Try.ntmps8
  go_wp2_with fail
  with_reducible refine (P1.out _).mono ?_
  rintro e w2 ⟨A, G, C, rfl, hA, hG, hC, ha, hb⟩
  have HA2 := Lib.hid ha
  have HX2 := Lib.hid (HX1.out.kept hb)
  have HB2 := Lib.hid (btr HB1.out hb)
  have hwC : Hid (w.heap.size ≤ C) := Lib.hid (Nat.le_trans HB1.out.size hC)
  have hwX : Hid (w.heap.size ≠ C) := Lib.hid (by have h1 := HX1.out.lt; show _ ≠ _; omega)
  clear hA hG hC ha hb
  have hx := HX2.out
  go_wp2_with (refine wpList_load_row rfl 24 _ rfl w.heap.size rfl 24 _ (0, 0) _ hx Try.underlying24 rfl (by kernel_rfl) ?_)
  with_reducible refine (P2.out _).mono ?_
  rintro e w3 ⟨rfl, hb⟩
  have HA3 := Lib.hid (HA2.out.kept hb)
  have HX3 := Lib.hid (HX2.out.kept hb)
  have HB3 := Lib.hid (btr HB2.out hb)
  clear hb hx
  have PU : Hid (Calls Try.prog 17 #[.pointer (some ⟨A, 0, none⟩), .int .u64 1, .int .i64 5] w3 (UpdPost w3 A G C 2 1 2 1 0 1 2 [0, 0] 1 5)) := Lib.hid (exupdate w3 A G C 2 1 2 1 0 1 2 1 [0, 0] 5 HA3.out ⟨by decide, by decide⟩ (by decide))
  go_wp2_with fail
  with_reducible refine PU.out.mono ?_
  rintro e w4 ⟨he, ha, hg⟩
  rw [HK.out.1] at he
  subst he
  rw [HK.out.2.1] at ha
  have HA4 := Lib.hid ha
  have HX4 := Lib.hid (HX3.out.grown hg (by simpa using hwX.out))
  have HB4 := Lib.hid (bgr HB3.out hg hwC.out)
  clear ha hg
  have PU : Hid (Calls Try.prog 17 #[.pointer (some ⟨A, 0, none⟩), .int .u64 2, .int .i64 5] w4 (UpdPost w4 A G C 2 1 2 1 0 1 2 [0, 5] 2 5)) := Lib.hid (exupdate w4 A G C 2 1 2 1 0 1 2 2 [0, 5] 5 HA4.out ⟨by decide, by decide⟩ (by decide))
  go_wp2_with fail
  with_reducible refine PU.out.mono ?_
  rintro e w5 ⟨he, ha, hg⟩
  rw [HK.out.2.2.1] at he
  subst he
  rw [HK.out.2.2.2] at ha
  have HA5 := Lib.hid ha
  have HX5 := Lib.hid (HX4.out.grown hg (by simpa using hwX.out))
  have HB5 := Lib.hid (bgr HB4.out hg hwC.out)
  clear ha hg
  have PP : Hid (Calls Try.prog 18 #[.pointer (some ⟨A, 0, none⟩), .int .u64 1] w5 fun e w' => e = .returned (.tuple #[.int .i64 5, .int .i64 0]) ∧ w5 = w') := Lib.hid (expoint_yes w5 A G C 2 1 2 1 0 1 2 1 [0, 5] HA5.out (by decide))
  go_wp2_with fail
  with_reducible refine PP.out.mono ?_
  rintro e w6 ⟨rfl, hw6⟩
  subst hw6
  go_wp2_with fail
  refine wp_region_held_drew (S := fun w' => ArrIs w' A G C 2 1 2 1 0 1 2 [0, 5] ∧ Blk w' w.heap.size 24 #[.int .i64 2, .int .i64 1, .int .i64 2, .int .i64 1, .int .u64 0] ∧ Below w.heap.size w w') (by kernel_rfl) (by exact ⟨HA5.out.drewN 1, HX5.out.drewN 1, below_drewN HB5.out 1⟩) (fun hHeld => ?_)
  refine wpAnyH_take (i := 0) (v := ?_) rfl (by kernel_rfl) (by kernel_rfl) (by kernel_rfl) (fun _ _ _ h => h) (Or.inl ⟨by rfl, ?_⟩) (by assumption) ?_
  rotate_left
  · intro w hSw
    try dsimp only at hSw
    go_simp
    try with_reducible rfl
  simp only [Act.put, List.setIfInBounds_toArray, List.set_cons_zero, List.set_cons_succ, List.getElem_toArray, List.getElem_cons_zero, List.getElem_cons_succ]
  refine wpAnyH_take (i := 1) (v := ?_) rfl (by kernel_rfl) (by kernel_rfl) (by kernel_rfl) (fun _ _ _ h => h) (Or.inl ⟨by rfl, ?_⟩) (by assumption) ?_
  rotate_left
  · intro w hSw
    try dsimp only at hSw
    go_simp
    try with_reducible rfl
  simp only [Act.put, List.setIfInBounds_toArray, List.set_cons_zero, List.set_cons_succ, List.getElem_toArray, List.getElem_cons_zero, List.getElem_cons_succ]
  refine wpAnyH_take (i := 2) (v := ?_) rfl (by kernel_rfl) (by kernel_rfl) (by kernel_rfl) (fun _ _ _ h => h) (Or.inl ⟨by rfl, ?_⟩) (by assumption) ?_
  rotate_left
  · intro w hSw
    try dsimp only at hSw
    go_simp
    try with_reducible rfl
  simp only [Act.put, List.setIfInBounds_toArray, List.set_cons_zero, List.set_cons_succ, List.getElem_toArray, List.getElem_cons_zero, List.getElem_cons_succ]
  refine wpAnyH_take (i := 3) (v := ?_) rfl (by kernel_rfl) (by kernel_rfl) (by kernel_rfl) (fun _ _ _ h => h) (Or.inl ⟨by rfl, ?_⟩) (by assumption) ?_
  rotate_left
  · intro w hSw
    try dsimp only at hSw
    go_simp
    try with_reducible rfl
  simp only [Act.put, List.setIfInBounds_toArray, List.set_cons_zero, List.set_cons_succ, List.getElem_toArray, List.getElem_cons_zero, List.getElem_cons_succ]
  refine wpAnyH_take (i := 4) (v := ?_) rfl (by kernel_rfl) (by kernel_rfl) (by kernel_rfl) (fun _ _ _ h => h) (Or.inl ⟨by rfl, ?_⟩) (by assumption) ?_
  rotate_left
  · intro w hSw
    try dsimp only at hSw
    go_simp
    try with_reducible rfl
  simp only [Act.put, List.setIfInBounds_toArray, List.set_cons_zero, List.set_cons_succ, List.getElem_toArray, List.getElem_cons_zero, List.getElem_cons_succ]
  refine wpAnyH_take (i := 5) (v := ?_) rfl (by kernel_rfl) (by kernel_rfl) (by kernel_rfl) (fun _ _ _ h => h) (Or.inl ⟨by rfl, ?_⟩) (by assumption) ?_
  rotate_left
  · intro w hSw
    try dsimp only at hSw
    go_simp
    try with_reducible rfl
  simp only [Act.put, List.setIfInBounds_toArray, List.set_cons_zero, List.set_cons_succ, List.getElem_toArray, List.getElem_cons_zero, List.getElem_cons_succ]
  refine wpAnyH_take (i := 6) (v := ?_) rfl (by kernel_rfl) (by kernel_rfl) (by kernel_rfl) (fun _ _ _ h => h) (Or.inl ⟨by rfl, ?_⟩) (by assumption) ?_
  rotate_left
  · intro w hSw
    try dsimp only at hSw
    go_simp
    try with_reducible rfl
  simp only [Act.put, List.setIfInBounds_toArray, List.set_cons_zero, List.set_cons_succ, List.getElem_toArray, List.getElem_cons_zero, List.getElem_cons_succ]
  refine wpAnyH_take (i := 7) (v := ?_) rfl (by kernel_rfl) (by kernel_rfl) (by kernel_rfl) (fun _ _ _ h => h) (Or.inl ⟨by rfl, ?_⟩) (by assumption) ?_
  rotate_left
  · intro w hSw
    try dsimp only at hSw
    go_simp
    try with_reducible rfl
  simp only [Act.put, List.setIfInBounds_toArray, List.set_cons_zero, List.set_cons_succ, List.getElem_toArray, List.getElem_cons_zero, List.getElem_cons_succ]
  refine wpAnyH_take (i := 8) (v := ?_) rfl (by kernel_rfl) (by kernel_rfl) (by kernel_rfl) (fun _ _ _ h => h) (Or.inl ⟨by rfl, ?_⟩) (by assumption) ?_
  rotate_left
  · intro w hSw
    try dsimp only at hSw
    go_simp
    try with_reducible rfl
  simp only [Act.put, List.setIfInBounds_toArray, List.set_cons_zero, List.set_cons_succ, List.getElem_toArray, List.getElem_cons_zero, List.getElem_cons_succ]
  refine wpAnyH_take (i := 9) (v := ?_) rfl (by kernel_rfl) (by kernel_rfl) (by kernel_rfl) (fun _ _ _ h => h) (Or.inl ⟨by rfl, ?_⟩) (by assumption) ?_
  rotate_left
  · intro w hSw
    try dsimp only at hSw
    go_simp
    try with_reducible rfl
  simp only [Act.put, List.setIfInBounds_toArray, List.set_cons_zero, List.set_cons_succ, List.getElem_toArray, List.getElem_cons_zero, List.getElem_cons_succ]
  refine wpAnyH_take (i := 10) (v := ?_) rfl (by kernel_rfl) (by kernel_rfl) (by kernel_rfl) (fun _ _ _ h => h) (Or.inl ⟨by rfl, ?_⟩) (by assumption) ?_
  rotate_left
  · intro w hSw
    try dsimp only at hSw
    go_simp
    try with_reducible rfl
  simp only [Act.put, List.setIfInBounds_toArray, List.set_cons_zero, List.set_cons_succ, List.getElem_toArray, List.getElem_cons_zero, List.getElem_cons_succ]
  refine wpAnyH_take (i := 11) (v := ?_) rfl (by kernel_rfl) (by kernel_rfl) (by kernel_rfl) (fun _ _ _ h => h) (Or.inl ⟨by rfl, ?_⟩) (by assumption) ?_
  rotate_left
  · intro w hSw
    try dsimp only at hSw
    go_simp
    try with_reducible rfl
  simp only [Act.put, List.setIfInBounds_toArray, List.set_cons_zero, List.set_cons_succ, List.getElem_toArray, List.getElem_cons_zero, List.getElem_cons_succ]
  refine wpAnyH_take (i := 12) (v := ?_) rfl (by kernel_rfl) (by kernel_rfl) (by kernel_rfl) (fun _ _ _ h => h) (Or.inl ⟨by rfl, ?_⟩) (by assumption) ?_
  rotate_left
  · intro w hSw
    try dsimp only at hSw
    go_simp
    try with_reducible rfl
  simp only [Act.put, List.setIfInBounds_toArray, List.set_cons_zero, List.set_cons_succ, List.getElem_toArray, List.getElem_cons_zero, List.getElem_cons_succ]
  refine wpAnyH_take (i := 13) (v := ?_) rfl (by kernel_rfl) (by kernel_rfl) (by kernel_rfl) (fun _ _ _ h => h) (Or.inl ⟨by rfl, ?_⟩) (by assumption) ?_
  rotate_left
  · intro w hSw
    try dsimp only at hSw
    go_simp
    try with_reducible rfl
  simp only [Act.put, List.setIfInBounds_toArray, List.set_cons_zero, List.set_cons_succ, List.getElem_toArray, List.getElem_cons_zero, List.getElem_cons_succ]
  refine wpAnyH_take (i := 14) (v := ?_) rfl (by kernel_rfl) (by kernel_rfl) (by kernel_rfl) (fun _ _ _ h => h) (Or.inl ⟨by rfl, ?_⟩) (by assumption) ?_
  rotate_left
  · intro w hSw
    try dsimp only at hSw
    go_simp
    try with_reducible rfl
  simp only [Act.put, List.setIfInBounds_toArray, List.set_cons_zero, List.set_cons_succ, List.getElem_toArray, List.getElem_cons_zero, List.getElem_cons_succ]
  refine wpAnyH_take (i := 15) (v := ?_) rfl (by kernel_rfl) (by kernel_rfl) (by kernel_rfl) (fun _ _ _ h => h) (Or.inl ⟨by rfl, ?_⟩) (by assumption) ?_
  rotate_left
  · intro w hSw
    try dsimp only at hSw
    go_simp
    try with_reducible rfl
  simp only [Act.put, List.setIfInBounds_toArray, List.set_cons_zero, List.set_cons_succ, List.getElem_toArray, List.getElem_cons_zero, List.getElem_cons_succ]
  refine wpAnyH_ready (rs := [16, 17]) (by kernel_rfl) (by simp) ?_
  refine AllReadyH.cons rfl (fun Kc hKc => ?_) (AllReadyH.cons rfl (fun Kc hKc => ?_) AllReadyH.nil)
  · go_simp
    go_wp2_with (first | (go_at_call 11; refine (excells _ A G C 2 1 2 1 0 1 2 [0, 5] hHeld.1).mono ?_; rintro e wc ⟨v, rfl, hown, hne, hbq⟩; have HV := Lib.hid (IntsAt.of_own hown rfl); clear hown hne) | (go_at_call 19; (first | with_reducible refine (same06_true _ _ [0, 5] _ (HV.out.kept ((Below.refl _ _).alloc (Nat.le_refl _) _)) (lit2 wc 0 5 _) (by decide)).mono ?_ | (have HLIT : IntsAt wc (.slice (some ⟨w5.heap.size, 0, none⟩) 2 2) [0, 5] := (lit2 (w5.drewN 1) 0 5 _).kept hbq; with_reducible refine (same06_true _ _ [0, 5] _ HV.out HLIT (by decide)).mono ?_)); rintro e wd ⟨rfl, hbq⟩) | (go_at_call 14; refine (exlevel _ A G C 2 1 2 1 0 1 2 [0, 5] hHeld.1).mono ?_; rintro e we ⟨rfl, hwe⟩; have hbq := beq_w hwe) | (go_at_call 13; refine (exconfig _ A G C 2 1 2 1 0 1 2 [0, 5] hHeld.1).mono ?_; rintro e wf ⟨rfl, hbq⟩))
    refine hKc.out _ _ ?_ (fun hHeld => ?_)
    · first | exact ⟨hHeld.1.kept hbq, hHeld.2.1.kept hbq, btr hHeld.2.2 hbq⟩ | exact ⟨hHeld.1.kept ((Below.refl _ _).alloc (Nat.le_refl _) _), hHeld.2.1.alloc _, hHeld.2.2.alloc hHeld.2.2.size _⟩
    clear hKc Kc
    refine wpAnyH_ready (rs := [17]) (by kernel_rfl) (by simp) ?_
    refine AllReadyH.cons rfl (fun Kc hKc => ?_) AllReadyH.nil
    go_simp
    refine hKc.out _ _ ?_ (fun hHeld => ?_)
    · first | exact ⟨hHeld.1.kept hbq, hHeld.2.1.kept hbq, btr hHeld.2.2 hbq⟩ | exact ⟨hHeld.1.kept ((Below.refl _ _).alloc (Nat.le_refl _) _), hHeld.2.1.alloc _, hHeld.2.2.alloc hHeld.2.2.size _⟩
    clear hKc Kc
    refine wpAnyH_ready (rs := [18]) (by kernel_rfl) (by simp) ?_
    refine AllReadyH.cons rfl (fun Kc hKc => ?_) AllReadyH.nil
    go_simp
    go_wp2_with (first | (go_at_call 11; refine (excells _ A G C 2 1 2 1 0 1 2 [0, 5] hHeld.1).mono ?_; rintro e wc ⟨v, rfl, hown, hne, hbq⟩; have HV := Lib.hid (IntsAt.of_own hown rfl); clear hown hne) | (go_at_call 19; (first | with_reducible refine (same06_true _ _ [0, 5] _ (HV.out.kept ((Below.refl _ _).alloc (Nat.le_refl _) _)) (lit2 wc 0 5 _) (by decide)).mono ?_ | (have HLIT : IntsAt wc (.slice (some ⟨w5.heap.size, 0, none⟩) 2 2) [0, 5] := (lit2 (w5.drewN 1) 0 5 _).kept hbq; with_reducible refine (same06_true _ _ [0, 5] _ HV.out HLIT (by decide)).mono ?_)); rintro e wd ⟨rfl, hbq⟩) | (go_at_call 14; refine (exlevel _ A G C 2 1 2 1 0 1 2 [0, 5] hHeld.1).mono ?_; rintro e we ⟨rfl, hwe⟩; have hbq := beq_w hwe) | (go_at_call 13; refine (exconfig _ A G C 2 1 2 1 0 1 2 [0, 5] hHeld.1).mono ?_; rintro e wf ⟨rfl, hbq⟩))
    refine hKc.out _ _ ?_ (fun hHeld => ?_)
    · first | exact ⟨hHeld.1.kept hbq, hHeld.2.1.kept hbq, btr hHeld.2.2 hbq⟩ | exact ⟨hHeld.1.kept ((Below.refl _ _).alloc (Nat.le_refl _) _), hHeld.2.1.alloc _, hHeld.2.2.alloc hHeld.2.2.size _⟩
    clear hKc Kc
    refine wpAnyH_take (i := 19) (v := ?_) rfl (by kernel_rfl) (by kernel_rfl) (by kernel_rfl) (fun _ _ _ h => h) (Or.inl ⟨by rfl, ?_⟩) (by assumption) ?_
    rotate_left
    · intro w hSw
      try dsimp only at hSw
      go_simp
      try with_reducible rfl
    simp only [Act.put, List.setIfInBounds_toArray, List.set_cons_zero, List.set_cons_succ, List.getElem_toArray, List.getElem_cons_zero, List.getElem_cons_succ]
    refine wpAnyH_take (i := 20) (v := ?_) rfl (by kernel_rfl) (by kernel_rfl) (by kernel_rfl) (fun _ _ _ h => h) (Or.inl ⟨by rfl, ?_⟩) (by assumption) ?_
    rotate_left
    · intro w hSw
      try dsimp only at hSw
      go_simp
      try with_reducible rfl
    simp only [Act.put, List.setIfInBounds_toArray, List.set_cons_zero, List.set_cons_succ, List.getElem_toArray, List.getElem_cons_zero, List.getElem_cons_succ]
    refine wpAnyH_take (i := 21) (v := ?_) rfl (by kernel_rfl) (by kernel_rfl) (by kernel_rfl) (fun _ _ _ h => h) (Or.inl ⟨by rfl, ?_⟩) (by assumption) ?_
    rotate_left
    · intro w hSw
      try dsimp only at hSw
      go_simp
      try with_reducible rfl
    simp only [Act.put, List.setIfInBounds_toArray, List.set_cons_zero, List.set_cons_succ, List.getElem_toArray, List.getElem_cons_zero, List.getElem_cons_succ]
    refine wpAnyH_ready (rs := [22]) (by kernel_rfl) (by simp) ?_
    refine AllReadyH.cons rfl (fun Kc hKc => ?_) AllReadyH.nil
    go_simp
    go_wp2_with (first | (go_at_call 11; refine (excells _ A G C 2 1 2 1 0 1 2 [0, 5] hHeld.1).mono ?_; rintro e wc ⟨v, rfl, hown, hne, hbq⟩; have HV := Lib.hid (IntsAt.of_own hown rfl); clear hown hne) | (go_at_call 19; (first | with_reducible refine (same06_true _ _ [0, 5] _ (HV.out.kept ((Below.refl _ _).alloc (Nat.le_refl _) _)) (lit2 wc 0 5 _) (by decide)).mono ?_ | (have HLIT : IntsAt wc (.slice (some ⟨w5.heap.size, 0, none⟩) 2 2) [0, 5] := (lit2 (w5.drewN 1) 0 5 _).kept hbq; with_reducible refine (same06_true _ _ [0, 5] _ HV.out HLIT (by decide)).mono ?_)); rintro e wd ⟨rfl, hbq⟩) | (go_at_call 14; refine (exlevel _ A G C 2 1 2 1 0 1 2 [0, 5] hHeld.1).mono ?_; rintro e we ⟨rfl, hwe⟩; have hbq := beq_w hwe) | (go_at_call 13; refine (exconfig _ A G C 2 1 2 1 0 1 2 [0, 5] hHeld.1).mono ?_; rintro e wf ⟨rfl, hbq⟩))
    refine hKc.out _ _ ?_ (fun hHeld => ?_)
    · first | exact ⟨hHeld.1.kept hbq, hHeld.2.1.kept hbq, btr hHeld.2.2 hbq⟩ | exact ⟨hHeld.1.kept ((Below.refl _ _).alloc (Nat.le_refl _) _), hHeld.2.1.alloc _, hHeld.2.2.alloc hHeld.2.2.size _⟩
    clear hKc Kc
    refine wpAnyH_take (i := 23) (v := ?_) rfl (by kernel_rfl) (by kernel_rfl) (by kernel_rfl) (fun _ _ _ h => h) (Or.inl ⟨by rfl, ?_⟩) (by assumption) ?_
    rotate_left
    · intro w hSw
      try dsimp only at hSw
      go_simp
      try with_reducible rfl
    simp only [Act.put, List.setIfInBounds_toArray, List.set_cons_zero, List.set_cons_succ, List.getElem_toArray, List.getElem_cons_zero, List.getElem_cons_succ]
    refine wpAnyH_take (i := 24) (v := ?_) rfl (by kernel_rfl) (by kernel_rfl) (by kernel_rfl) (fun _ _ _ h => h) (Or.inl ⟨by rfl, ?_⟩) (by assumption) ?_
    rotate_left
    · intro w hSw
      try dsimp only at hSw
      go_simp
      try with_reducible rfl
    simp only [Act.put, List.setIfInBounds_toArray, List.set_cons_zero, List.set_cons_succ, List.getElem_toArray, List.getElem_cons_zero, List.getElem_cons_succ]
    refine wpAnyH_take (i := 25) (v := ?_) rfl (by kernel_rfl) (by kernel_rfl) (by kernel_rfl) (fun _ _ _ h => h) (Or.inl ⟨by rfl, ?_⟩) (by assumption) ?_
    rotate_left
    · intro w hSw
      try dsimp only at hSw
      go_simp
      try with_reducible rfl
    simp only [Act.put, List.setIfInBounds_toArray, List.set_cons_zero, List.set_cons_succ, List.getElem_toArray, List.getElem_cons_zero, List.getElem_cons_succ]
    refine wpAnyH_take (i := 26) (v := ?_) rfl (by kernel_rfl) (by kernel_rfl) (by kernel_rfl) (fun _ _ _ h => h) (Or.inl ⟨by rfl, ?_⟩) (by assumption) ?_
    rotate_left
    · intro w hSw
      try dsimp only at hSw
      go_simp
      try with_reducible rfl
    simp only [Act.put, List.setIfInBounds_toArray, List.set_cons_zero, List.set_cons_succ, List.getElem_toArray, List.getElem_cons_zero, List.getElem_cons_succ]
    refine wpAnyH_take (i := 28) (v := ?_) rfl (by kernel_rfl) (by kernel_rfl) (by kernel_rfl) (fun _ _ _ h => h) (Or.inl ⟨by rfl, ?_⟩) (by assumption) ?_
    rotate_left
    · intro w hSw
      have q0 := hSw.2.1.cell 0
      have q1 := hSw.2.1.cell 1
      have q2 := hSw.2.1.cell 2
      have q3 := hSw.2.1.cell 3
      have q4 := hSw.2.1.cell 4
      simp at q0 q1 q2 q3 q4
      go_simp
      try with_reducible rfl
    simp only [Act.put, List.setIfInBounds_toArray, List.set_cons_zero, List.set_cons_succ, List.getElem_toArray, List.getElem_cons_zero, List.getElem_cons_succ]
    refine wpAnyH_ready (rs := [27]) (by kernel_rfl) (by simp) ?_
    refine AllReadyH.cons rfl (fun Kc hKc => ?_) AllReadyH.nil
    go_simp
    go_wp2_with (first | (go_at_call 11; refine (excells _ A G C 2 1 2 1 0 1 2 [0, 5] hHeld.1).mono ?_; rintro e wc ⟨v, rfl, hown, hne, hbq⟩; have HV := Lib.hid (IntsAt.of_own hown rfl); clear hown hne) | (go_at_call 19; (first | with_reducible refine (same06_true _ _ [0, 5] _ (HV.out.kept ((Below.refl _ _).alloc (Nat.le_refl _) _)) (lit2 wc 0 5 _) (by decide)).mono ?_ | (have HLIT : IntsAt wc (.slice (some ⟨w5.heap.size, 0, none⟩) 2 2) [0, 5] := (lit2 (w5.drewN 1) 0 5 _).kept hbq; with_reducible refine (same06_true _ _ [0, 5] _ HV.out HLIT (by decide)).mono ?_)); rintro e wd ⟨rfl, hbq⟩) | (go_at_call 14; refine (exlevel _ A G C 2 1 2 1 0 1 2 [0, 5] hHeld.1).mono ?_; rintro e we ⟨rfl, hwe⟩; have hbq := beq_w hwe) | (go_at_call 13; refine (exconfig _ A G C 2 1 2 1 0 1 2 [0, 5] hHeld.1).mono ?_; rintro e wf ⟨rfl, hbq⟩))
    refine hKc.out _ _ ?_ (fun hHeld => ?_)
    · first | exact ⟨hHeld.1.kept hbq, hHeld.2.1.kept hbq, btr hHeld.2.2 hbq⟩ | exact ⟨hHeld.1.kept ((Below.refl _ _).alloc (Nat.le_refl _) _), hHeld.2.1.alloc _, hHeld.2.2.alloc hHeld.2.2.size _⟩
    clear hKc Kc
    refine wpAnyH_take (i := 29) (v := ?_) rfl (by kernel_rfl) (by kernel_rfl) (by kernel_rfl) (fun _ _ _ h => h) (Or.inl ⟨by rfl, ?_⟩) (by assumption) ?_
    rotate_left
    · intro w hSw
      try dsimp only at hSw
      go_simp
      try with_reducible rfl
    simp only [Act.put, List.setIfInBounds_toArray, List.set_cons_zero, List.set_cons_succ, List.getElem_toArray, List.getElem_cons_zero, List.getElem_cons_succ]
    refine wpAnyH_take (i := 30) (v := ?_) rfl (by kernel_rfl) (by kernel_rfl) (by kernel_rfl) (fun _ _ _ h => h) (Or.inl ⟨by rfl, ?_⟩) (by assumption) ?_
    rotate_left
    · intro w hSw
      try dsimp only at hSw
      go_simp
      try with_reducible rfl
    simp only [Act.put, List.setIfInBounds_toArray, List.set_cons_zero, List.set_cons_succ, List.getElem_toArray, List.getElem_cons_zero, List.getElem_cons_succ]
    refine wpAnyH_take (i := 31) (v := ?_) rfl (by kernel_rfl) (by kernel_rfl) (by kernel_rfl) (fun _ _ _ h => h) (Or.inl ⟨by rfl, ?_⟩) (by assumption) ?_
    rotate_left
    · intro w hSw
      try dsimp only at hSw
      go_simp
      try with_reducible rfl
    simp only [Act.put, List.setIfInBounds_toArray, List.set_cons_zero, List.set_cons_succ, List.getElem_toArray, List.getElem_cons_zero, List.getElem_cons_succ]
    refine wpAnyH_done (by kernel_rfl) ?_ _
    go_wp2
    go_ret
    exact ⟨rfl, hHeld.2.2⟩
  · go_simp
    refine hKc.out _ _ ?_ (fun hHeld => ?_)
    · first | exact ⟨hHeld.1.kept hbq, hHeld.2.1.kept hbq, btr hHeld.2.2 hbq⟩ | exact ⟨hHeld.1.kept ((Below.refl _ _).alloc (Nat.le_refl _) _), hHeld.2.1.alloc _, hHeld.2.2.alloc hHeld.2.2.size _⟩
    clear hKc Kc
    refine wpAnyH_ready (rs := [16]) (by kernel_rfl) (by simp) ?_
    refine AllReadyH.cons rfl (fun Kc hKc => ?_) AllReadyH.nil
    go_simp
    go_wp2_with (first | (go_at_call 11; refine (excells _ A G C 2 1 2 1 0 1 2 [0, 5] hHeld.1).mono ?_; rintro e wc ⟨v, rfl, hown, hne, hbq⟩; have HV := Lib.hid (IntsAt.of_own hown rfl); clear hown hne) | (go_at_call 19; (first | with_reducible refine (same06_true _ _ [0, 5] _ (HV.out.kept ((Below.refl _ _).alloc (Nat.le_refl _) _)) (lit2 wc 0 5 _) (by decide)).mono ?_ | (have HLIT : IntsAt wc (.slice (some ⟨w5.heap.size, 0, none⟩) 2 2) [0, 5] := (lit2 (w5.drewN 1) 0 5 _).kept hbq; with_reducible refine (same06_true _ _ [0, 5] _ HV.out HLIT (by decide)).mono ?_)); rintro e wd ⟨rfl, hbq⟩) | (go_at_call 14; refine (exlevel _ A G C 2 1 2 1 0 1 2 [0, 5] hHeld.1).mono ?_; rintro e we ⟨rfl, hwe⟩; have hbq := beq_w hwe) | (go_at_call 13; refine (exconfig _ A G C 2 1 2 1 0 1 2 [0, 5] hHeld.1).mono ?_; rintro e wf ⟨rfl, hbq⟩))
    refine hKc.out _ _ ?_ (fun hHeld => ?_)
    · first | exact ⟨hHeld.1.kept hbq, hHeld.2.1.kept hbq, btr hHeld.2.2 hbq⟩ | exact ⟨hHeld.1.kept ((Below.refl _ _).alloc (Nat.le_refl _) _), hHeld.2.1.alloc _, hHeld.2.2.alloc hHeld.2.2.size _⟩
    clear hKc Kc
    refine wpAnyH_ready (rs := [18]) (by kernel_rfl) (by simp) ?_
    refine AllReadyH.cons rfl (fun Kc hKc => ?_) AllReadyH.nil
    go_simp
    go_wp2_with (first | (go_at_call 11; refine (excells _ A G C 2 1 2 1 0 1 2 [0, 5] hHeld.1).mono ?_; rintro e wc ⟨v, rfl, hown, hne, hbq⟩; have HV := Lib.hid (IntsAt.of_own hown rfl); clear hown hne) | (go_at_call 19; (first | with_reducible refine (same06_true _ _ [0, 5] _ (HV.out.kept ((Below.refl _ _).alloc (Nat.le_refl _) _)) (lit2 wc 0 5 _) (by decide)).mono ?_ | (have HLIT : IntsAt wc (.slice (some ⟨w5.heap.size, 0, none⟩) 2 2) [0, 5] := (lit2 (w5.drewN 1) 0 5 _).kept hbq; with_reducible refine (same06_true _ _ [0, 5] _ HV.out HLIT (by decide)).mono ?_)); rintro e wd ⟨rfl, hbq⟩) | (go_at_call 14; refine (exlevel _ A G C 2 1 2 1 0 1 2 [0, 5] hHeld.1).mono ?_; rintro e we ⟨rfl, hwe⟩; have hbq := beq_w hwe) | (go_at_call 13; refine (exconfig _ A G C 2 1 2 1 0 1 2 [0, 5] hHeld.1).mono ?_; rintro e wf ⟨rfl, hbq⟩))
    refine hKc.out _ _ ?_ (fun hHeld => ?_)
    · first | exact ⟨hHeld.1.kept hbq, hHeld.2.1.kept hbq, btr hHeld.2.2 hbq⟩ | exact ⟨hHeld.1.kept ((Below.refl _ _).alloc (Nat.le_refl _) _), hHeld.2.1.alloc _, hHeld.2.2.alloc hHeld.2.2.size _⟩
    clear hKc Kc
    refine wpAnyH_take (i := 19) (v := ?_) rfl (by kernel_rfl) (by kernel_rfl) (by kernel_rfl) (fun _ _ _ h => h) (Or.inl ⟨by rfl, ?_⟩) (by assumption) ?_
    rotate_left
    · intro w hSw
      try dsimp only at hSw
      go_simp
      try with_reducible rfl
    simp only [Act.put, List.setIfInBounds_toArray, List.set_cons_zero, List.set_cons_succ, List.getElem_toArray, List.getElem_cons_zero, List.getElem_cons_succ]
    refine wpAnyH_take (i := 20) (v := ?_) rfl (by kernel_rfl) (by kernel_rfl) (by kernel_rfl) (fun _ _ _ h => h) (Or.inl ⟨by rfl, ?_⟩) (by assumption) ?_
    rotate_left
    · intro w hSw
      try dsimp only at hSw
      go_simp
      try with_reducible rfl
    simp only [Act.put, List.setIfInBounds_toArray, List.set_cons_zero, List.set_cons_succ, List.getElem_toArray, List.getElem_cons_zero, List.getElem_cons_succ]
    refine wpAnyH_take (i := 21) (v := ?_) rfl (by kernel_rfl) (by kernel_rfl) (by kernel_rfl) (fun _ _ _ h => h) (Or.inl ⟨by rfl, ?_⟩) (by assumption) ?_
    rotate_left
    · intro w hSw
      try dsimp only at hSw
      go_simp
      try with_reducible rfl
    simp only [Act.put, List.setIfInBounds_toArray, List.set_cons_zero, List.set_cons_succ, List.getElem_toArray, List.getElem_cons_zero, List.getElem_cons_succ]
    refine wpAnyH_ready (rs := [22]) (by kernel_rfl) (by simp) ?_
    refine AllReadyH.cons rfl (fun Kc hKc => ?_) AllReadyH.nil
    go_simp
    go_wp2_with (first | (go_at_call 11; refine (excells _ A G C 2 1 2 1 0 1 2 [0, 5] hHeld.1).mono ?_; rintro e wc ⟨v, rfl, hown, hne, hbq⟩; have HV := Lib.hid (IntsAt.of_own hown rfl); clear hown hne) | (go_at_call 19; (first | with_reducible refine (same06_true _ _ [0, 5] _ (HV.out.kept ((Below.refl _ _).alloc (Nat.le_refl _) _)) (lit2 wc 0 5 _) (by decide)).mono ?_ | (have HLIT : IntsAt wc (.slice (some ⟨w5.heap.size, 0, none⟩) 2 2) [0, 5] := (lit2 (w5.drewN 1) 0 5 _).kept hbq; with_reducible refine (same06_true _ _ [0, 5] _ HV.out HLIT (by decide)).mono ?_)); rintro e wd ⟨rfl, hbq⟩) | (go_at_call 14; refine (exlevel _ A G C 2 1 2 1 0 1 2 [0, 5] hHeld.1).mono ?_; rintro e we ⟨rfl, hwe⟩; have hbq := beq_w hwe) | (go_at_call 13; refine (exconfig _ A G C 2 1 2 1 0 1 2 [0, 5] hHeld.1).mono ?_; rintro e wf ⟨rfl, hbq⟩))
    refine hKc.out _ _ ?_ (fun hHeld => ?_)
    · first | exact ⟨hHeld.1.kept hbq, hHeld.2.1.kept hbq, btr hHeld.2.2 hbq⟩ | exact ⟨hHeld.1.kept ((Below.refl _ _).alloc (Nat.le_refl _) _), hHeld.2.1.alloc _, hHeld.2.2.alloc hHeld.2.2.size _⟩
    clear hKc Kc
    refine wpAnyH_take (i := 23) (v := ?_) rfl (by kernel_rfl) (by kernel_rfl) (by kernel_rfl) (fun _ _ _ h => h) (Or.inl ⟨by rfl, ?_⟩) (by assumption) ?_
    rotate_left
    · intro w hSw
      try dsimp only at hSw
      go_simp
      try with_reducible rfl
    simp only [Act.put, List.setIfInBounds_toArray, List.set_cons_zero, List.set_cons_succ, List.getElem_toArray, List.getElem_cons_zero, List.getElem_cons_succ]
    refine wpAnyH_take (i := 24) (v := ?_) rfl (by kernel_rfl) (by kernel_rfl) (by kernel_rfl) (fun _ _ _ h => h) (Or.inl ⟨by rfl, ?_⟩) (by assumption) ?_
    rotate_left
    · intro w hSw
      try dsimp only at hSw
      go_simp
      try with_reducible rfl
    simp only [Act.put, List.setIfInBounds_toArray, List.set_cons_zero, List.set_cons_succ, List.getElem_toArray, List.getElem_cons_zero, List.getElem_cons_succ]
    refine wpAnyH_take (i := 25) (v := ?_) rfl (by kernel_rfl) (by kernel_rfl) (by kernel_rfl) (fun _ _ _ h => h) (Or.inl ⟨by rfl, ?_⟩) (by assumption) ?_
    rotate_left
    · intro w hSw
      try dsimp only at hSw
      go_simp
      try with_reducible rfl
    simp only [Act.put, List.setIfInBounds_toArray, List.set_cons_zero, List.set_cons_succ, List.getElem_toArray, List.getElem_cons_zero, List.getElem_cons_succ]
    refine wpAnyH_take (i := 26) (v := ?_) rfl (by kernel_rfl) (by kernel_rfl) (by kernel_rfl) (fun _ _ _ h => h) (Or.inl ⟨by rfl, ?_⟩) (by assumption) ?_
    rotate_left
    · intro w hSw
      try dsimp only at hSw
      go_simp
      try with_reducible rfl
    simp only [Act.put, List.setIfInBounds_toArray, List.set_cons_zero, List.set_cons_succ, List.getElem_toArray, List.getElem_cons_zero, List.getElem_cons_succ]
    refine wpAnyH_take (i := 28) (v := ?_) rfl (by kernel_rfl) (by kernel_rfl) (by kernel_rfl) (fun _ _ _ h => h) (Or.inl ⟨by rfl, ?_⟩) (by assumption) ?_
    rotate_left
    · intro w hSw
      have q0 := hSw.2.1.cell 0
      have q1 := hSw.2.1.cell 1
      have q2 := hSw.2.1.cell 2
      have q3 := hSw.2.1.cell 3
      have q4 := hSw.2.1.cell 4
      simp at q0 q1 q2 q3 q4
      go_simp
      try with_reducible rfl
    simp only [Act.put, List.setIfInBounds_toArray, List.set_cons_zero, List.set_cons_succ, List.getElem_toArray, List.getElem_cons_zero, List.getElem_cons_succ]
    refine wpAnyH_ready (rs := [27]) (by kernel_rfl) (by simp) ?_
    refine AllReadyH.cons rfl (fun Kc hKc => ?_) AllReadyH.nil
    go_simp
    go_wp2_with (first | (go_at_call 11; refine (excells _ A G C 2 1 2 1 0 1 2 [0, 5] hHeld.1).mono ?_; rintro e wc ⟨v, rfl, hown, hne, hbq⟩; have HV := Lib.hid (IntsAt.of_own hown rfl); clear hown hne) | (go_at_call 19; (first | with_reducible refine (same06_true _ _ [0, 5] _ (HV.out.kept ((Below.refl _ _).alloc (Nat.le_refl _) _)) (lit2 wc 0 5 _) (by decide)).mono ?_ | (have HLIT : IntsAt wc (.slice (some ⟨w5.heap.size, 0, none⟩) 2 2) [0, 5] := (lit2 (w5.drewN 1) 0 5 _).kept hbq; with_reducible refine (same06_true _ _ [0, 5] _ HV.out HLIT (by decide)).mono ?_)); rintro e wd ⟨rfl, hbq⟩) | (go_at_call 14; refine (exlevel _ A G C 2 1 2 1 0 1 2 [0, 5] hHeld.1).mono ?_; rintro e we ⟨rfl, hwe⟩; have hbq := beq_w hwe) | (go_at_call 13; refine (exconfig _ A G C 2 1 2 1 0 1 2 [0, 5] hHeld.1).mono ?_; rintro e wf ⟨rfl, hbq⟩))
    refine hKc.out _ _ ?_ (fun hHeld => ?_)
    · first | exact ⟨hHeld.1.kept hbq, hHeld.2.1.kept hbq, btr hHeld.2.2 hbq⟩ | exact ⟨hHeld.1.kept ((Below.refl _ _).alloc (Nat.le_refl _) _), hHeld.2.1.alloc _, hHeld.2.2.alloc hHeld.2.2.size _⟩
    clear hKc Kc
    refine wpAnyH_take (i := 29) (v := ?_) rfl (by kernel_rfl) (by kernel_rfl) (by kernel_rfl) (fun _ _ _ h => h) (Or.inl ⟨by rfl, ?_⟩) (by assumption) ?_
    rotate_left
    · intro w hSw
      try dsimp only at hSw
      go_simp
      try with_reducible rfl
    simp only [Act.put, List.setIfInBounds_toArray, List.set_cons_zero, List.set_cons_succ, List.getElem_toArray, List.getElem_cons_zero, List.getElem_cons_succ]
    refine wpAnyH_take (i := 30) (v := ?_) rfl (by kernel_rfl) (by kernel_rfl) (by kernel_rfl) (fun _ _ _ h => h) (Or.inl ⟨by rfl, ?_⟩) (by assumption) ?_
    rotate_left
    · intro w hSw
      try dsimp only at hSw
      go_simp
      try with_reducible rfl
    simp only [Act.put, List.setIfInBounds_toArray, List.set_cons_zero, List.set_cons_succ, List.getElem_toArray, List.getElem_cons_zero, List.getElem_cons_succ]
    refine wpAnyH_take (i := 31) (v := ?_) rfl (by kernel_rfl) (by kernel_rfl) (by kernel_rfl) (fun _ _ _ h => h) (Or.inl ⟨by rfl, ?_⟩) (by assumption) ?_
    rotate_left
    · intro w hSw
      try dsimp only at hSw
      go_simp
      try with_reducible rfl
    simp only [Act.put, List.setIfInBounds_toArray, List.set_cons_zero, List.set_cons_succ, List.getElem_toArray, List.getElem_cons_zero, List.getElem_cons_succ]
    refine wpAnyH_done (by kernel_rfl) ?_ _
    go_wp2
    go_ret
    exact ⟨rfl, hHeld.2.2⟩
end Go.Proofs.Ytcfmipgdhhogcaa
