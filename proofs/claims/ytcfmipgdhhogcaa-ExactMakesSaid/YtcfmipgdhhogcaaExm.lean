/-
  The walk of ExactMakes: it returns true. Conditions: the arguments are of their types.
-/
import Derived.Test.YtcfmipgdhhogcaaExs
namespace Go.Proofs.Ytcfmipgdhhogcaa
open Go.RowKit
set_option linter.unusedVariables false
set_option linter.unusedSimpArgs false

theorem keysI_s (b r d m s l : Int) : True := trivial
set_option maxRecDepth 100000 in
set_option maxHeartbeats 4000000 in
theorem ExactMakes_walk (v0 v1 : Value) (w : World) (h0 : shCfg.Val w v0) (h1 : (Sh.int .i64).Val w v1) :
    Calls Try.prog 3 #[v0, v1] w fun e w' => e = .returned (.bool true) ∧ Below w.heap.size w w' := by
  obtain ⟨b, r, d, m, s, rfl, wb, wr, wd, wm, ws⟩ := valCfg h0
  obtain ⟨l, rfl, wl⟩ := Sh.val_int h1
  clear h0 h1 wb wr wd wm ws wl
  have hgd : Try.prog.eqGuardType Try.prog.depth 24 = false := by kernel_rfl
  have EQ := eqCfg b r d m s b r d m s
  have hq : cfgEq b r d m s b r d m s = true := by simp [cfgEq]
  rw [hq] at EQ
  clear hq
  have PS := Lib.hid shown12
  have PE := Lib.hid (fun w => rexact_any b r d m s l w)
  have PK := Lib.hid (fun w => rkeys_any b r d m s l w)
  obtain ⟨g1, hb1, hsz1⟩ := news1 w (.cells #[.int .i64 b, .int .i64 r, .int .i64 d, .int .i64 m, .int .u64 s] 24)
  have hx1 : Blk _ w.heap.size 24 #[.int .i64 b, .int .i64 r, .int .i64 d, .int .i64 m, .int .u64 s] := g1
  have HX1 := Lib.hid hx1
  have HB1 := Lib.hid hb1
  clear g1 hx1 hb1 hsz1
  cases hex : exactB b r d m l with
  | false =>
    have PN := Lib.hid (fun w => exnew_no b r d m s l hex w)
    have PE2 := fun w => PE.out w
    rw [hex] at PE2
    have PE2 := Lib.hid PE2
    clear hex EQ hgd
    go_enter Try.func3, Try.ntmps3
    go_wp2_with fail
    with_reducible refine (PS.out _).mono ?_
    rintro e w2 ⟨rfl, hb⟩
    have HX2 := Lib.hid (HX1.out.kept hb)
    have HB2 := Lib.hid (btr HB1.out hb)
    have hx := HX2.out
    clear hb
    go_wp2_with (refine wpList_load_row rfl 24 _ rfl w.heap.size rfl 24 _ (0, 0) _ hx Try.underlying24 rfl (by kernel_rfl) ?_)
    with_reducible refine (PN.out _).mono ?_
    rintro e w3 ⟨rfl, hb⟩
    have HX3 := Lib.hid (HX2.out.kept hb)
    have HB3 := Lib.hid (btr HB2.out hb)
    clear hb hx
    have hx := HX3.out
    go_wp2_with (refine wpList_load_row rfl 24 _ rfl w.heap.size rfl 24 _ (0, 0) _ hx Try.underlying24 rfl (by kernel_rfl) ?_)
    with_reducible refine (PE2.out _).mono ?_
    rintro e w4 ⟨rfl, hb⟩
    have HB4 := Lib.hid (btr HB3.out hb)
    clear hb hx
    go_wp2
    go_ret
    exact ⟨rfl, HB4.out⟩
  | true =>
    have hk := of_decide_eq_true hex
    have hkr := keys_right hk.1
    have PN := fun w => exnew_yes b r d m s l hex w
    unfold ExNewPost at PN
    have PE2 := fun w => PE.out w
    rw [hex] at PE2
    have PE2 := Lib.hid PE2
    obtain ⟨K, hK⟩ : ∃ K : Nat, keysI b r d m l = (K : Int) := ⟨(keysI b r d m l).toNat, by omega⟩
    simp only [hK] at PN PK
    simp only [Int.toNat_natCast, Nat.one_mul] at PN
    have PN := Lib.hid PN
    have hK1 : K ≤ 128 := by omega
    have e2 : IntKind.u64.wrap (K : Int) = (K : Int) := by rw [wrapU_mod]; omega
    clear hex hk hkr hK PE
    go_enter Try.func3, Try.ntmps3
    go_wp2_with fail
    with_reducible refine (PS.out _).mono ?_
    rintro e w2 ⟨rfl, hb⟩
    have HX2 := Lib.hid (HX1.out.kept hb)
    have HB2 := Lib.hid (btr HB1.out hb)
    have hx := HX2.out
    clear hb
    go_wp2_with (refine wpList_load_row rfl 24 _ rfl w.heap.size rfl 24 _ (0, 0) _ hx Try.underlying24 rfl (by kernel_rfl) ?_)
    with_reducible refine (PN.out _).mono ?_
    rintro e w3 ⟨A, G, C, rfl, -, -, -, ha, hb⟩
    have HA3 := Lib.hid ha
    have HX3 := Lib.hid (HX2.out.kept hb)
    have HB3 := Lib.hid (btr HB2.out hb)
    clear ha hb hx
    have hx := HX3.out
    go_wp2_with (refine wpList_load_row rfl 24 _ rfl w.heap.size rfl 24 _ (0, 0) _ hx Try.underlying24 rfl (by kernel_rfl) ?_)
    with_reducible refine (PE2.out _).mono ?_
    rintro e w4 ⟨rfl, hb⟩
    have HA4 := Lib.hid (HA3.out.kept hb)
    have HX4 := Lib.hid (HX3.out.kept hb)
    have HB4 := Lib.hid (btr HB3.out hb)
    clear hb hx
    go_wp2_with fail
    refine wp_region_held_drew (S := fun w' => ArrIs w' A G C b r d m s l K (List.replicate K 0) ∧ Blk w' w.heap.size 24 #[.int .i64 b, .int .i64 r, .int .i64 d, .int .i64 m, .int .u64 s] ∧ Below w.heap.size w w') (by kernel_rfl) (by exact ⟨HA4.out.drewN 1, HX4.out.drewN 1, below_drewN HB4.out 1⟩) (fun hHeld => ?_)
    refine wpAnyH_take (i := 0) (v := ?_) rfl (by kernel_rfl) (by kernel_rfl) (by kernel_rfl) (fun _ _ _ h => h) (Or.inl ⟨by rfl, ?_⟩) (by assumption) ?_
    rotate_left
    · intro w hSw
      try dsimp only at hSw
      go_simp
      try with_reducible rfl
    simp only [Act.put, List.setIfInBounds_toArray, List.set_cons_zero, List.set_cons_succ, List.getElem_toArray, List.getElem_cons_zero, List.getElem_cons_succ]
    refine wpAnyH_take (i := 1) (v := ?_) rfl (by kernel_rfl) (by kernel_rfl) (by kernel_rfl) (fun _ _ _ h => h) (Or.inl ⟨by rfl, ?_⟩) (by assumption) ?_
    rotate_left
    · intro w hSw
      try dsimp only at hSw
      go_simp
      try with_reducible rfl
    simp only [Act.put, List.setIfInBounds_toArray, List.set_cons_zero, List.set_cons_succ, List.getElem_toArray, List.getElem_cons_zero, List.getElem_cons_succ]
    refine wpAnyH_take (i := 2) (v := ?_) rfl (by kernel_rfl) (by kernel_rfl) (by kernel_rfl) (fun _ _ _ h => h) (Or.inl ⟨by rfl, ?_⟩) (by assumption) ?_
    rotate_left
    · intro w hSw
      try dsimp only at hSw
      go_simp
      try with_reducible rfl
    simp only [Act.put, List.setIfInBounds_toArray, List.set_cons_zero, List.set_cons_succ, List.getElem_toArray, List.getElem_cons_zero, List.getElem_cons_succ]
    refine wpAnyH_take (i := 3) (v := ?_) rfl (by kernel_rfl) (by kernel_rfl) (by kernel_rfl) (fun _ _ _ h => h) (Or.inl ⟨by rfl, ?_⟩) (by assumption) ?_
    rotate_left
    · intro w hSw
      try dsimp only at hSw
      go_simp
      try with_reducible rfl
    simp only [Act.put, List.setIfInBounds_toArray, List.set_cons_zero, List.set_cons_succ, List.getElem_toArray, List.getElem_cons_zero, List.getElem_cons_succ]
    refine wpAnyH_take (i := 4) (v := ?_) rfl (by kernel_rfl) (by kernel_rfl) (by kernel_rfl) (fun _ _ _ h => h) (Or.inl ⟨by rfl, ?_⟩) (by assumption) ?_
    rotate_left
    · intro w hSw
      try dsimp only at hSw
      go_simp
      try with_reducible rfl
    simp only [Act.put, List.setIfInBounds_toArray, List.set_cons_zero, List.set_cons_succ, List.getElem_toArray, List.getElem_cons_zero, List.getElem_cons_succ]
    refine wpAnyH_take (i := 5) (v := ?_) rfl (by kernel_rfl) (by kernel_rfl) (by kernel_rfl) (fun _ _ _ h => h) (Or.inl ⟨by rfl, ?_⟩) (by assumption) ?_
    rotate_left
    · intro w hSw
      try dsimp only at hSw
      go_simp
      try with_reducible rfl
    simp only [Act.put, List.setIfInBounds_toArray, List.set_cons_zero, List.set_cons_succ, List.getElem_toArray, List.getElem_cons_zero, List.getElem_cons_succ]
    refine wpAnyH_take (i := 6) (v := ?_) rfl (by kernel_rfl) (by kernel_rfl) (by kernel_rfl) (fun _ _ _ h => h) (Or.inl ⟨by rfl, ?_⟩) (by assumption) ?_
    rotate_left
    · intro w hSw
      try dsimp only at hSw
      go_simp
      try with_reducible rfl
    simp only [Act.put, List.setIfInBounds_toArray, List.set_cons_zero, List.set_cons_succ, List.getElem_toArray, List.getElem_cons_zero, List.getElem_cons_succ]
    refine wpAnyH_take (i := 10) (v := ?_) rfl (by kernel_rfl) (by kernel_rfl) (by kernel_rfl) (fun _ _ _ h => h) (Or.inl ⟨by rfl, ?_⟩) (by assumption) ?_
    rotate_left
    · intro w hSw
      have q0 := hSw.2.1.cell 0
      have q1 := hSw.2.1.cell 1
      have q2 := hSw.2.1.cell 2
      have q3 := hSw.2.1.cell 3
      have q4 := hSw.2.1.cell 4
      simp at q0 q1 q2 q3 q4
      go_simp
      try with_reducible rfl
    simp only [Act.put, List.setIfInBounds_toArray, List.set_cons_zero, List.set_cons_succ, List.getElem_toArray, List.getElem_cons_zero, List.getElem_cons_succ]
    refine wpAnyH_take (i := 11) (v := ?_) rfl (by kernel_rfl) (by kernel_rfl) (by kernel_rfl) (fun _ _ _ h => h) (Or.inl ⟨by rfl, ?_⟩) (by assumption) ?_
    rotate_left
    · intro w hSw
      try dsimp only at hSw
      go_simp
      try with_reducible rfl
    simp only [Act.put, List.setIfInBounds_toArray, List.set_cons_zero, List.set_cons_succ, List.getElem_toArray, List.getElem_cons_zero, List.getElem_cons_succ]
    refine wpAnyH_ready (rs := [7]) (by kernel_rfl) (by simp) ?_
    refine AllReadyH.cons rfl (fun Kc hKc => ?_) AllReadyH.nil
    go_simp
    go_wp2_with (first | (go_at_call 11; refine (excells _ A G C b r d m s l K _ hHeld.1).mono ?_; rintro e wc ⟨v, rfl, hown, hne, hbq⟩; obtain ⟨g, cp, rfl, -, -, -⟩ := own_row hown hne; clear hown hne; simp only [List.length_replicate]) | (go_at_call 12; refine (PK.out _).mono ?_; rintro e wd ⟨rfl, hbq⟩) | (go_at_call 14; refine (exlevel _ A G C b r d m s l K _ hHeld.1).mono ?_; rintro e we ⟨rfl, hwe⟩; have hbq := beq_w hwe) | (go_at_call 13; refine (exconfig _ A G C b r d m s l K _ hHeld.1).mono ?_; rintro e wf ⟨rfl, hbq⟩))
    refine hKc.out _ _ ?_ (fun hHeld => ?_)
    · first | exact ⟨hHeld.1.kept hbq, hHeld.2.1.kept hbq, btr hHeld.2.2 hbq⟩
    clear hKc Kc
    refine wpAnyH_take (i := 8) (v := ?_) rfl (by kernel_rfl) (by kernel_rfl) (by kernel_rfl) (fun _ _ _ h => h) (Or.inl ⟨by rfl, ?_⟩) (by assumption) ?_
    rotate_left
    · intro w hSw
      try dsimp only at hSw
      go_simp
      try with_reducible rfl
    simp only [Act.put, List.setIfInBounds_toArray, List.set_cons_zero, List.set_cons_succ, List.getElem_toArray, List.getElem_cons_zero, List.getElem_cons_succ]
    refine wpAnyH_take (i := 9) (v := ?_) rfl (by kernel_rfl) (by kernel_rfl) (by kernel_rfl) (fun _ _ _ h => h) (Or.inl ⟨by rfl, ?_⟩) (by assumption) ?_
    rotate_left
    · intro w hSw
      try dsimp only at hSw
      go_simp
      try with_reducible rfl
    simp only [Act.put, List.setIfInBounds_toArray, List.set_cons_zero, List.set_cons_succ, List.getElem_toArray, List.getElem_cons_zero, List.getElem_cons_succ]
    refine wpAnyH_ready (rs := [12]) (by kernel_rfl) (by simp) ?_
    refine AllReadyH.cons rfl (fun Kc hKc => ?_) AllReadyH.nil
    go_simp
    go_wp2_with (first | (go_at_call 11; refine (excells _ A G C b r d m s l K _ hHeld.1).mono ?_; rintro e wc ⟨v, rfl, hown, hne, hbq⟩; obtain ⟨g, cp, rfl, -, -, -⟩ := own_row hown hne; clear hown hne; simp only [List.length_replicate]) | (go_at_call 12; refine (PK.out _).mono ?_; rintro e wd ⟨rfl, hbq⟩) | (go_at_call 14; refine (exlevel _ A G C b r d m s l K _ hHeld.1).mono ?_; rintro e we ⟨rfl, hwe⟩; have hbq := beq_w hwe) | (go_at_call 13; refine (exconfig _ A G C b r d m s l K _ hHeld.1).mono ?_; rintro e wf ⟨rfl, hbq⟩))
    refine hKc.out _ _ ?_ (fun hHeld => ?_)
    · first | exact ⟨hHeld.1.kept hbq, hHeld.2.1.kept hbq, btr hHeld.2.2 hbq⟩
    clear hKc Kc
    refine wpAnyH_take (i := 13) (v := ?_) rfl (by kernel_rfl) (by kernel_rfl) (by kernel_rfl) (fun _ _ _ h => h) (Or.inl ⟨by rfl, ?_⟩) (by assumption) ?_
    rotate_left
    · intro w hSw
      try dsimp only at hSw
      go_simp
      try with_reducible rfl
    simp only [Act.put, List.setIfInBounds_toArray, List.set_cons_zero, List.set_cons_succ, List.getElem_toArray, List.getElem_cons_zero, List.getElem_cons_succ]
    refine wpAnyH_take (i := 14) (v := ?_) rfl (by kernel_rfl) (by kernel_rfl) (by kernel_rfl) (fun _ _ _ h => h) (Or.inl ⟨by rfl, ?_⟩) (by assumption) ?_
    rotate_left
    · intro w hSw
      try dsimp only at hSw
      go_simp
      try with_reducible rfl
    simp only [Act.put, List.setIfInBounds_toArray, List.set_cons_zero, List.set_cons_succ, List.getElem_toArray, List.getElem_cons_zero, List.getElem_cons_succ]
    refine wpAnyH_take (i := 15) (v := ?_) rfl (by kernel_rfl) (by kernel_rfl) (by kernel_rfl) (fun _ _ _ h => h) (Or.inl ⟨by rfl, ?_⟩) (by assumption) ?_
    rotate_left
    · intro w hSw
      try dsimp only at hSw
      go_simp
      try with_reducible rfl
    simp only [Act.put, List.setIfInBounds_toArray, List.set_cons_zero, List.set_cons_succ, List.getElem_toArray, List.getElem_cons_zero, List.getElem_cons_succ]
    refine wpAnyH_take (i := 16) (v := ?_) rfl (by kernel_rfl) (by kernel_rfl) (by kernel_rfl) (fun _ _ _ h => h) (Or.inl ⟨by rfl, ?_⟩) (by assumption) ?_
    rotate_left
    · intro w hSw
      try dsimp only at hSw
      go_simp
      try with_reducible rfl
    simp only [Act.put, List.setIfInBounds_toArray, List.set_cons_zero, List.set_cons_succ, List.getElem_toArray, List.getElem_cons_zero, List.getElem_cons_succ]
    refine wpAnyH_take (i := 18) (v := ?_) rfl (by kernel_rfl) (by kernel_rfl) (by kernel_rfl) (fun _ _ _ h => h) (Or.inl ⟨by rfl, ?_⟩) (by assumption) ?_
    rotate_left
    · intro w hSw
      have q0 := hSw.2.1.cell 0
      have q1 := hSw.2.1.cell 1
      have q2 := hSw.2.1.cell 2
      have q3 := hSw.2.1.cell 3
      have q4 := hSw.2.1.cell 4
      simp at q0 q1 q2 q3 q4
      go_simp
      try with_reducible rfl
    simp only [Act.put, List.setIfInBounds_toArray, List.set_cons_zero, List.set_cons_succ, List.getElem_toArray, List.getElem_cons_zero, List.getElem_cons_succ]
    refine wpAnyH_ready (rs := [17]) (by kernel_rfl) (by simp) ?_
    refine AllReadyH.cons rfl (fun Kc hKc => ?_) AllReadyH.nil
    go_simp
    go_wp2_with (first | (go_at_call 11; refine (excells _ A G C b r d m s l K _ hHeld.1).mono ?_; rintro e wc ⟨v, rfl, hown, hne, hbq⟩; obtain ⟨g, cp, rfl, -, -, -⟩ := own_row hown hne; clear hown hne; simp only [List.length_replicate]) | (go_at_call 12; refine (PK.out _).mono ?_; rintro e wd ⟨rfl, hbq⟩) | (go_at_call 14; refine (exlevel _ A G C b r d m s l K _ hHeld.1).mono ?_; rintro e we ⟨rfl, hwe⟩; have hbq := beq_w hwe) | (go_at_call 13; refine (exconfig _ A G C b r d m s l K _ hHeld.1).mono ?_; rintro e wf ⟨rfl, hbq⟩))
    refine hKc.out _ _ ?_ (fun hHeld => ?_)
    · first | exact ⟨hHeld.1.kept hbq, hHeld.2.1.kept hbq, btr hHeld.2.2 hbq⟩
    clear hKc Kc
    refine wpAnyH_take (i := 19) (v := ?_) rfl (by kernel_rfl) (by kernel_rfl) (by kernel_rfl) (fun _ _ _ h => h) (Or.inl ⟨by rfl, ?_⟩) (by assumption) ?_
    rotate_left
    · intro w hSw
      try dsimp only at hSw
      go_simp
      try with_reducible rfl
    simp only [Act.put, List.setIfInBounds_toArray, List.set_cons_zero, List.set_cons_succ, List.getElem_toArray, List.getElem_cons_zero, List.getElem_cons_succ]
    refine wpAnyH_take (i := 20) (v := ?_) rfl (by kernel_rfl) (by kernel_rfl) (by kernel_rfl) (fun _ _ _ h => h) (Or.inl ⟨by rfl, ?_⟩) (by assumption) ?_
    rotate_left
    · intro w hSw
      try dsimp only at hSw
      go_simp
      try with_reducible rfl
    simp only [Act.put, List.setIfInBounds_toArray, List.set_cons_zero, List.set_cons_succ, List.getElem_toArray, List.getElem_cons_zero, List.getElem_cons_succ]
    refine wpAnyH_take (i := 21) (v := ?_) rfl (by kernel_rfl) (by kernel_rfl) (by kernel_rfl) (fun _ _ _ h => h) (Or.inl ⟨by rfl, ?_⟩) (by assumption) ?_
    rotate_left
    · intro w hSw
      try dsimp only at hSw
      go_simp
      try with_reducible rfl
    simp only [Act.put, List.setIfInBounds_toArray, List.set_cons_zero, List.set_cons_succ, List.getElem_toArray, List.getElem_cons_zero, List.getElem_cons_succ]
    refine wpAnyH_take (i := 22) (v := ?_) rfl (by kernel_rfl) (by kernel_rfl) (by kernel_rfl) (fun _ _ _ h => h) (Or.inl ⟨by rfl, ?_⟩) (by assumption) ?_
    rotate_left
    · intro w hSw
      try dsimp only at hSw
      go_simp
      try with_reducible rfl
    simp only [Act.put, List.setIfInBounds_toArray, List.set_cons_zero, List.set_cons_succ, List.getElem_toArray, List.getElem_cons_zero, List.getElem_cons_succ]
    refine wpAnyH_take (i := 24) (v := ?_) rfl (by kernel_rfl) (by kernel_rfl) (by kernel_rfl) (fun _ _ _ h => h) (Or.inl ⟨by rfl, ?_⟩) (by assumption) ?_
    rotate_left
    · intro w hSw
      try dsimp only at hSw
      go_simp
      try with_reducible rfl
    simp only [Act.put, List.setIfInBounds_toArray, List.set_cons_zero, List.set_cons_succ, List.getElem_toArray, List.getElem_cons_zero, List.getElem_cons_succ]
    refine wpAnyH_ready (rs := [23]) (by kernel_rfl) (by simp) ?_
    refine AllReadyH.cons rfl (fun Kc hKc => ?_) AllReadyH.nil
    go_simp
    go_wp2_with (first | (go_at_call 11; refine (excells _ A G C b r d m s l K _ hHeld.1).mono ?_; rintro e wc ⟨v, rfl, hown, hne, hbq⟩; obtain ⟨g, cp, rfl, -, -, -⟩ := own_row hown hne; clear hown hne; simp only [List.length_replicate]) | (go_at_call 12; refine (PK.out _).mono ?_; rintro e wd ⟨rfl, hbq⟩) | (go_at_call 14; refine (exlevel _ A G C b r d m s l K _ hHeld.1).mono ?_; rintro e we ⟨rfl, hwe⟩; have hbq := beq_w hwe) | (go_at_call 13; refine (exconfig _ A G C b r d m s l K _ hHeld.1).mono ?_; rintro e wf ⟨rfl, hbq⟩))
    refine hKc.out _ _ ?_ (fun hHeld => ?_)
    · first | exact ⟨hHeld.1.kept hbq, hHeld.2.1.kept hbq, btr hHeld.2.2 hbq⟩
    clear hKc Kc
    refine wpAnyH_take (i := 25) (v := ?_) rfl (by kernel_rfl) (by kernel_rfl) (by kernel_rfl) (fun _ _ _ h => h) (Or.inl ⟨by rfl, ?_⟩) (by assumption) ?_
    rotate_left
    · intro w hSw
      try dsimp only at hSw
      go_simp
      try with_reducible rfl
    simp only [Act.put, List.setIfInBounds_toArray, List.set_cons_zero, List.set_cons_succ, List.getElem_toArray, List.getElem_cons_zero, List.getElem_cons_succ]
    refine wpAnyH_take (i := 26) (v := ?_) rfl (by kernel_rfl) (by kernel_rfl) (by kernel_rfl) (fun _ _ _ h => h) (Or.inl ⟨by rfl, ?_⟩) (by assumption) ?_
    rotate_left
    · intro w hSw
      try dsimp only at hSw
      go_simp
      try with_reducible rfl
    simp only [Act.put, List.setIfInBounds_toArray, List.set_cons_zero, List.set_cons_succ, List.getElem_toArray, List.getElem_cons_zero, List.getElem_cons_succ]
    refine wpAnyH_take (i := 27) (v := ?_) rfl (by kernel_rfl) (by kernel_rfl) (by kernel_rfl) (fun _ _ _ h => h) (Or.inl ⟨by rfl, ?_⟩) (by assumption) ?_
    rotate_left
    · intro w hSw
      try dsimp only at hSw
      go_simp
      try with_reducible rfl
    simp only [Act.put, List.setIfInBounds_toArray, List.set_cons_zero, List.set_cons_succ, List.getElem_toArray, List.getElem_cons_zero, List.getElem_cons_succ]
    refine wpAnyH_done (by kernel_rfl) ?_ _
    go_wp2
    go_ret
    exact ⟨rfl, hHeld.2.2⟩
end Go.Proofs.Ytcfmipgdhhogcaa
