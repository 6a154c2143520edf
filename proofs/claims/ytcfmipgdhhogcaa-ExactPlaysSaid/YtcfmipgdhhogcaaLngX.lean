/-
  The walk of gaugerref02.Int. Conditions: the arguments fit their kinds.
-/
import Derived.Test.YtcfmipgdhhogcaaLngW
import Derived.Deep.RegionHeld3
namespace Go.Proofs.Ytcfmipgdhhogcaa
open Go.RowKit
set_option linter.unusedVariables false
set_option linter.unusedSimpArgs false

theorem Try.infoI : (Try.prog.info? 3).map (fun i => (i.zero, i.size, i.bytes)) = some (some (.int .i64 0), 1, 8) := by kernel_rfl
set_option maxRecDepth 100000 in
set_option maxHeartbeats 2000000 in
theorem lint_yes (x : Int) (x0 : -9223372036854775808 ≤ x) (x1 : x ≤ 9223372036854775807) (w : World) :
    Calls Try.prog 45 #[.agg (longA x)] w fun e w' => e = .returned (.tuple #[.int .i64 x, .bool true]) ∧ Below w.heap.size w w' := by
  obtain ⟨q, hq⟩ : ∃ q, low64 x = q := ⟨_, rfl⟩
  have HQ := Lib.hid hq
  have hqx : q = x := by rw [← hq]; exact low64_fit x0 x1
  have HR : Hid (decide (dig q = dig x) = true) := by rw [hqx]; exact decide_eq_true rfl
  have HQX := Lib.hid hqx
  clear x0 x1 hqx hq
  go_enter Try.func45, Try.ntmps45
  go_wp2_with fail
  obtain ⟨g1, hbel, hsz⟩ := news1 w (.cells (longA x) 77)
  have h1 : Blk _ w.heap.size 77 (longA x) := g1
  clear g1
  generalize (w.alloc (.cells (longA x) 77)) = wz at *
  generalize hA : w.heap.size = A at *
  have HA := Lib.hid hA
  have HX := Lib.hid h1
  have HB := Lib.hid hbel
  clear hA h1 hbel
  go_loopw [4, 5] (fun n i wr => ∃ j : Nat, j ≤ 4 ∧ i = .int .i64 (j : Int) ∧ n = .int .u64 (lows x j) ∧ Blk wr A 77 (longA x) ∧ Below A w wr) (fun _ i _ => 4 - (intOf i).toNat)
  case atStart => exact ⟨0, by omega, rfl, by rw [lows_zero], HX.out, HB.out⟩
  case round =>
    obtain ⟨j, hj, rfl, rfl, hx, hbel⟩ := hrel
    clear HB HX
    have HB := Lib.hid hbel
    have HX := Lib.hid hx
    clear hbel hx
    by_cases hlt : j < 4
    · have cx := (HX.out.cell j).trans (longA_get x j (by omega))
      have bx := digit_bd x j
      have bl := lows_bd x j
      have hjj : j = 0 ∨ j = 1 ∨ j = 2 ∨ j = 3 := by omega
      rcases hjj with rfl | rfl | rfl | rfl
      · have HE := Lib.hid (lor0 x)
        generalize digit x 0 = d at *
        go_wp2
        go_roundw
        case rel => exact ⟨0 + 1, by omega, rfl, by rw [HE.out], HX.out, HB.out⟩
        case measure => simp [intOf]
      · have HE := Lib.hid (lor1 x)
        generalize digit x 1 = d at *
        go_wp2
        go_roundw
        case rel => exact ⟨1 + 1, by omega, rfl, by rw [HE.out], HX.out, HB.out⟩
        case measure => simp [intOf]
      · have HE := Lib.hid (lor2 x)
        generalize digit x 2 = d at *
        go_wp2
        go_roundw
        case rel => exact ⟨2 + 1, by omega, rfl, by rw [HE.out], HX.out, HB.out⟩
        case measure => simp [intOf]
      · have HE := Lib.hid (lor3 x)
        generalize digit x 3 = d at *
        go_wp2
        go_roundw
        case rel => exact ⟨3 + 1, by omega, rfl, by rw [HE.out], HX.out, HB.out⟩
        case measure => simp [intOf]
    · obtain rfl : j = 4 := by omega
      have hlow := low64_lows x
      rw [HQ.out] at hlow
      have hlow2 : IntKind.i64.wrap (lows x 4) = q := (wrapI_eq64 _).trans hlow
      have bl := lows_bd x 4
      have bl0 : 0 ≤ lows x 4 := bl.1
      have bl1 : lows x 4 ≤ 18446744073709551615 := by have := bl.2; simp at this; omega
      generalize lows x 4 = lo at *
      have hqb : -9223372036854775808 ≤ q ∧ q ≤ 9223372036854775807 := by rw [← HQ.out]; exact low64_bd x
      obtain ⟨q0, q1⟩ := hqb
      have HINT := ofint_any q q0 q1
      have heq : ∀ w, Sem.run Try.prog (Op.equalIn 10000 77 (.agg (longA q)) (.agg (longA x))) w = .ok true w := fun w => by
        have := run_equalIn_ints 9998 Try.underlying77 Try.underlying3 (info_parts Try.infoI).choose_spec.1 (by kernel_rfl) (dig q) (dig x) (dig_len q) (dig_len x) w
        rw [HR.out] at this
        exact this
      clear bl q0 q1 bl0 bl1
      go_wp2_with fail
      refine wp_region_held_drew (S := fun w' => Blk w' A 77 (longA x) ∧ Below A w w') (by kernel_rfl) (by exact ⟨HX.out.drew, HB.out.drew⟩) (fun hHeld => ?_)
      refine wpAnyH_take (i := 0) (v := ?_) rfl (by kernel_rfl) (by kernel_rfl) (by kernel_rfl) (fun _ _ _ h => h) (Or.inl ⟨by rfl, ?_⟩) (by assumption) ?_
      rotate_left
      · intro w hSw
        try dsimp only at hSw
        go_simp
        try with_reducible rfl
      simp only [Act.put, List.setIfInBounds_toArray, List.set_cons_zero, List.set_cons_succ, List.getElem_toArray, List.getElem_cons_zero, List.getElem_cons_succ]
      refine wpAnyH_take (i := 1) (v := ?_) rfl (by kernel_rfl) (by kernel_rfl) (by kernel_rfl) (fun _ _ _ h => h) (Or.inl ⟨by rfl, ?_⟩) (by assumption) ?_
      rotate_left
      · intro w hSw
        try dsimp only at hSw
        go_simp
        try with_reducible rfl
      simp only [Act.put, List.setIfInBounds_toArray, List.set_cons_zero, List.set_cons_succ, List.getElem_toArray, List.getElem_cons_zero, List.getElem_cons_succ]
      refine wpAnyH_take (i := 3) (v := ?_) rfl (by kernel_rfl) (by kernel_rfl) (by kernel_rfl) (fun _ _ _ h => h) (Or.inl ⟨by rfl, ?_⟩) (by assumption) ?_
      rotate_left
      · intro w hSw
        refine (exec_load_row 77 _ rfl A rfl 77 (longA x) (0, 0) _ hSw.1 Try.underlying77 rfl (long_info x)).trans ?_
        go_simp
        try with_reducible rfl
      simp only [Act.put, List.setIfInBounds_toArray, List.set_cons_zero, List.set_cons_succ, List.getElem_toArray, List.getElem_cons_zero, List.getElem_cons_succ]
      refine wpAnyH_ready (rs := [2]) (by kernel_rfl) (by simp) ?_
      refine AllReadyH.cons rfl (fun Kc hKc => ?_) AllReadyH.nil
      go_simp
      go_wp2_with (go_at_call 43; refine (HINT _).mono ?_; rintro e w' ⟨rfl, hb'⟩)
      refine hKc.out _ _ ?_ (fun hHeld => ?_)
      · first | assumption | exact ⟨hHeld.1.kept hb', hHeld.2.trans (hb'.mono (by have := hHeld.1.lt; omega))⟩
      clear hKc Kc
      refine wpAnyH_take (i := 4) (v := ?_) rfl (by kernel_rfl) (by kernel_rfl) (by kernel_rfl) (fun _ _ _ h => h) (Or.inl ⟨by rfl, ?_⟩) (by assumption) ?_
      rotate_left
      · intro w hSw
        try dsimp only at hSw
        go_simp
        try with_reducible rfl
      simp only [Act.put, List.setIfInBounds_toArray, List.set_cons_zero, List.set_cons_succ, List.getElem_toArray, List.getElem_cons_zero, List.getElem_cons_succ]
      refine wpAnyH_done (by kernel_rfl) ?_ _
      have HB8 := Lib.hid hHeld.2
      clear hHeld
      go_wp2
      go_ret2
      exact ⟨by rw [HQX.out]; rfl, by rw [HA.out]; exact HB8.out⟩

set_option maxRecDepth 100000 in
set_option maxHeartbeats 2000000 in
theorem lint_no (x : Int) (x0 : -365375409332725729550921208179070754913983135744 ≤ x) (x1 : x ≤ 365375409332725729550921208179070754913983135744) (xn : ¬ (-9223372036854775808 ≤ x ∧ x ≤ 9223372036854775807)) (w : World) :
    Calls Try.prog 45 #[.agg (longA x)] w fun e w' => e = .returned (.tuple #[.int .i64 0, .bool false]) ∧ Below w.heap.size w w' := by
  obtain ⟨q, hq⟩ : ∃ q, low64 x = q := ⟨_, rfl⟩
  have HQ := Lib.hid hq
  have HR : Hid (decide (dig q = dig x) = false) := by rw [← hq]; exact decide_eq_false (dig_low64_ne x0 x1 xn)
  clear x0 x1 xn hq
  go_enter Try.func45, Try.ntmps45
  go_wp2_with fail
  obtain ⟨g1, hbel, hsz⟩ := news1 w (.cells (longA x) 77)
  have h1 : Blk _ w.heap.size 77 (longA x) := g1
  clear g1
  generalize (w.alloc (.cells (longA x) 77)) = wz at *
  generalize hA : w.heap.size = A at *
  have HA := Lib.hid hA
  have HX := Lib.hid h1
  have HB := Lib.hid hbel
  clear hA h1 hbel
  go_loopw [4, 5] (fun n i wr => ∃ j : Nat, j ≤ 4 ∧ i = .int .i64 (j : Int) ∧ n = .int .u64 (lows x j) ∧ Blk wr A 77 (longA x) ∧ Below A w wr) (fun _ i _ => 4 - (intOf i).toNat)
  case atStart => exact ⟨0, by omega, rfl, by rw [lows_zero], HX.out, HB.out⟩
  case round =>
    obtain ⟨j, hj, rfl, rfl, hx, hbel⟩ := hrel
    clear HB HX
    have HB := Lib.hid hbel
    have HX := Lib.hid hx
    clear hbel hx
    by_cases hlt : j < 4
    · have cx := (HX.out.cell j).trans (longA_get x j (by omega))
      have bx := digit_bd x j
      have bl := lows_bd x j
      have hjj : j = 0 ∨ j = 1 ∨ j = 2 ∨ j = 3 := by omega
      rcases hjj with rfl | rfl | rfl | rfl
      · have HE := Lib.hid (lor0 x)
        generalize digit x 0 = d at *
        go_wp2
        go_roundw
        case rel => exact ⟨0 + 1, by omega, rfl, by rw [HE.out], HX.out, HB.out⟩
        case measure => simp [intOf]
      · have HE := Lib.hid (lor1 x)
        generalize digit x 1 = d at *
        go_wp2
        go_roundw
        case rel => exact ⟨1 + 1, by omega, rfl, by rw [HE.out], HX.out, HB.out⟩
        case measure => simp [intOf]
      · have HE := Lib.hid (lor2 x)
        generalize digit x 2 = d at *
        go_wp2
        go_roundw
        case rel => exact ⟨2 + 1, by omega, rfl, by rw [HE.out], HX.out, HB.out⟩
        case measure => simp [intOf]
      · have HE := Lib.hid (lor3 x)
        generalize digit x 3 = d at *
        go_wp2
        go_roundw
        case rel => exact ⟨3 + 1, by omega, rfl, by rw [HE.out], HX.out, HB.out⟩
        case measure => simp [intOf]
    · obtain rfl : j = 4 := by omega
      have hlow := low64_lows x
      rw [HQ.out] at hlow
      have hlow2 : IntKind.i64.wrap (lows x 4) = q := (wrapI_eq64 _).trans hlow
      have bl := lows_bd x 4
      have bl0 : 0 ≤ lows x 4 := bl.1
      have bl1 : lows x 4 ≤ 18446744073709551615 := by have := bl.2; simp at this; omega
      generalize lows x 4 = lo at *
      have hqb : -9223372036854775808 ≤ q ∧ q ≤ 9223372036854775807 := by rw [← HQ.out]; exact low64_bd x
      obtain ⟨q0, q1⟩ := hqb
      have HINT := ofint_any q q0 q1
      have heq : ∀ w, Sem.run Try.prog (Op.equalIn 10000 77 (.agg (longA q)) (.agg (longA x))) w = .ok false w := fun w => by
        have := run_equalIn_ints 9998 Try.underlying77 Try.underlying3 (info_parts Try.infoI).choose_spec.1 (by kernel_rfl) (dig q) (dig x) (dig_len q) (dig_len x) w
        rw [HR.out] at this
        exact this
      clear bl q0 q1 bl0 bl1
      go_wp2_with fail
      refine wp_region_held_drew (S := fun w' => Blk w' A 77 (longA x) ∧ Below A w w') (by kernel_rfl) (by exact ⟨HX.out.drew, HB.out.drew⟩) (fun hHeld => ?_)
      refine wpAnyH_take (i := 0) (v := ?_) rfl (by kernel_rfl) (by kernel_rfl) (by kernel_rfl) (fun _ _ _ h => h) (Or.inl ⟨by rfl, ?_⟩) (by assumption) ?_
      rotate_left
      · intro w hSw
        try dsimp only at hSw
        go_simp
        try with_reducible rfl
      simp only [Act.put, List.setIfInBounds_toArray, List.set_cons_zero, List.set_cons_succ, List.getElem_toArray, List.getElem_cons_zero, List.getElem_cons_succ]
      refine wpAnyH_take (i := 1) (v := ?_) rfl (by kernel_rfl) (by kernel_rfl) (by kernel_rfl) (fun _ _ _ h => h) (Or.inl ⟨by rfl, ?_⟩) (by assumption) ?_
      rotate_left
      · intro w hSw
        try dsimp only at hSw
        go_simp
        try with_reducible rfl
      simp only [Act.put, List.setIfInBounds_toArray, List.set_cons_zero, List.set_cons_succ, List.getElem_toArray, List.getElem_cons_zero, List.getElem_cons_succ]
      refine wpAnyH_take (i := 3) (v := ?_) rfl (by kernel_rfl) (by kernel_rfl) (by kernel_rfl) (fun _ _ _ h => h) (Or.inl ⟨by rfl, ?_⟩) (by assumption) ?_
      rotate_left
      · intro w hSw
        refine (exec_load_row 77 _ rfl A rfl 77 (longA x) (0, 0) _ hSw.1 Try.underlying77 rfl (long_info x)).trans ?_
        go_simp
        try with_reducible rfl
      simp only [Act.put, List.setIfInBounds_toArray, List.set_cons_zero, List.set_cons_succ, List.getElem_toArray, List.getElem_cons_zero, List.getElem_cons_succ]
      refine wpAnyH_ready (rs := [2]) (by kernel_rfl) (by simp) ?_
      refine AllReadyH.cons rfl (fun Kc hKc => ?_) AllReadyH.nil
      go_simp
      go_wp2_with (go_at_call 43; refine (HINT _).mono ?_; rintro e w' ⟨rfl, hb'⟩)
      refine hKc.out _ _ ?_ (fun hHeld => ?_)
      · first | assumption | exact ⟨hHeld.1.kept hb', hHeld.2.trans (hb'.mono (by have := hHeld.1.lt; omega))⟩
      clear hKc Kc
      refine wpAnyH_take (i := 4) (v := ?_) rfl (by kernel_rfl) (by kernel_rfl) (by kernel_rfl) (fun _ _ _ h => h) (Or.inl ⟨by rfl, ?_⟩) (by assumption) ?_
      rotate_left
      · intro w hSw
        try dsimp only at hSw
        go_simp
        try with_reducible rfl
      simp only [Act.put, List.setIfInBounds_toArray, List.set_cons_zero, List.set_cons_succ, List.getElem_toArray, List.getElem_cons_zero, List.getElem_cons_succ]
      refine wpAnyH_done (by kernel_rfl) ?_ _
      have HB8 := Lib.hid hHeld.2
      clear hHeld
      go_wp2
      go_ret2
      exact ⟨rfl, by rw [HA.out]; exact HB8.out⟩

end Go.Proofs.Ytcfmipgdhhogcaa
