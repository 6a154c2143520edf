/-
  The walk of the statement ShapeBelongs of layer 7: it returns true. Conditions: the arguments are of their types.
-/
import Derived.Test.YtfjhecgicemoeaaShpY
namespace Go.Proofs.Ytfjhecgicemoeaa
open Go.RowKit Go.ChangeShapes Go.WideShapes Go.ChangeAt
set_option linter.unusedVariables false
set_option linter.unusedSimpArgs false

def shTwo : Sh := .agg (.cons (.int .u64) (.cons (.int .u64) .unit))
theorem valTwo {w : World} {v : Value} (h : shTwo.Val w v) : ∃ a b : Int, v = .agg #[.int .u64 a, .int .u64 b] ∧ (Lit.int .u64 a).wf = true ∧ (Lit.int .u64 b).wf = true := by
  obtain ⟨cs, rfl, h1⟩ := h
  obtain ⟨a, d, e, wa, h2⟩ := Sh.reads_int h1
  obtain ⟨b, d, rfl, wb, h3⟩ := Sh.reads_int h2
  obtain rfl := Sh.reads_unit h3
  exact ⟨a, b, by rw [agg_of_list e], wa, wb⟩
theorem pair_cells {w' : World} {g : Nat} {t : TypeId} {x y : Int} (hk : Blk w' g t #[.int .u64 x, .int .u64 y]) :
    w'.cell? ⟨g, 0, none⟩ = some (.int .u64 x) ∧ w'.cell? ⟨g, 1, none⟩ = some (.int .u64 y) := ⟨hk.cell 0, hk.cell 1⟩
theorem two_boxes {w w1 : World} {cs ds : Array Value} {t u : TypeId} (h : Below ((w.alloc (.cells cs t)).alloc (.cells ds u)).heap.size ((w.alloc (.cells cs t)).alloc (.cells ds u)) w1) :
    Blk w1 w.heap.size t cs ∧ Blk w1 (w.heap.size + 1) u ds ∧ Below w.heap.size w w1 := by
  refine ⟨((Blk.new w t cs).alloc _).kept h, ?_, (((Below.refl _ _).alloc (Nat.le_refl _) _).alloc (by simp) _).trans (h.mono (by simp; omega))⟩
  have h2 := (Blk.new (w.alloc (.cells cs t)) u ds).kept h
  simpa using h2

/-- two numbers lie in one span just if they have one quotient -/
theorem span_iff (a b t : Int) (ht : 0 < t) (ha : 0 ≤ a) (hb : 0 ≤ b) : (a / t = b / t) ↔ (a / t * t ≤ b ∧ b - a / t * t < t) := by
  have h1 := Int.emod_add_mul_ediv b t
  have h2 := Int.emod_nonneg b (show t ≠ 0 by omega)
  have h3 := Int.emod_lt_of_pos b ht
  rw [Int.mul_comm t] at h1
  constructor
  · intro e
    rw [e]; constructor <;> omega
  · intro ⟨p, q⟩
    have p1 : a / t ≤ b / t := (Int.le_ediv_iff_mul_le ht).2 p
    have p2 : b / t < a / t + 1 := by
      rw [Int.ediv_lt_iff_lt_mul ht, Int.add_mul, Int.one_mul]; omega
    omega

theorem above_yes {b r d m l k : Int} (hr : rightB b r d m = true) (h0 : 0 ≤ l) (h1 : l ≤ b) (h2 : k < keysI b r d m 0) : aboveB b r d m l k = true := by
  have := pow_le (b - l).toNat (by have := right_of hr; omega)
  exact decide_eq_true ⟨by rw [keysI_yes hr h0 h1]; omega, h2⟩
theorem above_val {b r d m l k : Int} (hr : rightB b r d m = true) (h0 : 0 ≤ l) (h1 : l ≤ b) (h2 : k < keysI b r d m 0) : aboveI b r d m l k = k / 2 ^ l.toNat := by
  unfold aboveI; rw [above_yes hr h0 h1 h2]; rfl
theorem above_next {l k : Int} (h0 : 0 ≤ l) (hk : 0 ≤ k) : k / 2 ^ (l + 1).toNat = k / 2 ^ l.toNat / 2 := by
  rw [show (l + 1).toNat = l.toNat + 1 by omega, half_step]
theorem above_lt {b r d m l k : Int} (hr : rightB b r d m = true) (h0 : 0 ≤ l) (h1 : l ≤ b) (h2 : k < keysI b r d m 0) : k / 2 ^ l.toNat < keysI b r d m l := by
  rw [keysI_yes hr h0 h1]
  rw [keysI_yes hr (by omega) (by omega)] at h2
  have hp := pow_le l.toNat (by have := right_of hr; omega)
  rw [Int.ediv_lt_iff_lt_mul (by omega), ← Int.pow_add]
  rw [show (b - l).toNat + l.toNat = (b - 0).toNat by omega]
  exact h2

set_option maxRecDepth 100000 in
set_option maxHeartbeats 2000000 in
theorem ShapeBelongs_body (b r d m s l x y : Int) (x0 : 0 ≤ x) (x1 : x ≤ 18446744073709551615) (y0 : 0 ≤ y) (y1 : y ≤ 18446744073709551615) (w : World) :
    Calls Try.prog 7 #[.agg #[.int .i64 b, .int .i64 r, .int .i64 d, .int .i64 m, .int .u64 s], .int .i64 l, .agg #[.int .u64 x, .int .u64 y]] w fun e w' => e = .returned (.bool true) ∧ Below w.heap.size w w' := by
  have a1 := anyI_bd b 59 (by omega)
  have a2 := anyI_bd r 4 (by omega)
  have a3 := anyI_bd d 128 (by omega)
  have a4 := anyI_bd m 3 (by omega)
  have el := and16 l
  go_enter Try.func7, Try.ntmps7
  go_wp2_with fail
  refine (shown07 _).mono ?_; rintro e w1 ⟨rfl, hb'⟩
  obtain ⟨hk, hj, hbel⟩ := two_boxes hb'
  clear hb'
  obtain ⟨q0, q1, q2, q3, q4⟩ := box_cells hk
  go_wp2_with fail
  refine (any_any b r d m s 59 128 (by omega) (by omega) (by omega) (by omega) _).mono ?_; rintro e w2 ⟨rfl, hb'⟩
  replace hj := hj.kept hb'
  replace hbel := btr hbel hb'; clear hb' hk q0 q1 q2 q3 q4
  generalize anyI b 59 = B at *
  generalize anyI r 4 = R at *
  generalize anyI d 128 = D at *
  generalize anyI m 3 = M at *
  have hr : rightB B R D M = true := right_mk (by omega)
  have hl0 : 0 ≤ l % 65536 % B := Int.emod_nonneg _ (by omega)
  have hl1 : l % 65536 % B < B := Int.emod_lt_of_pos _ (by omega)
  go_upto_region 4 with fail
  have hk := Blk.new w2 24 #[.int .i64 B, .int .i64 R, .int .i64 D, .int .i64 M, .int .u64 s]
  replace hj := hj.alloc (.cells #[.int .i64 B, .int .i64 R, .int .i64 D, .int .i64 M, .int .u64 s] 24)
  replace hbel := hbel.alloc hbel.size (.cells #[.int .i64 B, .int .i64 R, .int .i64 D, .int .i64 M, .int .u64 s] 24)
  generalize (w2.alloc (.cells #[.int .i64 B, .int .i64 R, .int .i64 D, .int .i64 M, .int .u64 s] 24)) = w3 at *
  generalize w2.heap.size = G at *
  generalize l % 65536 % B = L at *
  have hK : keysI B R D M 0 = 2 ^ (B - 0).toNat := keysI_yes hr (by omega) (by omega)
  have kp := pow_le (B - 0).toNat (by omega)
  have kb := keysI_bd B R D M 0
  have kpos : 1 ≤ keysI B R D M 0 := by rw [hK]; exact kp.1
  clear kp hK
  have ez : (keysI B R D M 0 == 0) = false := by simp; omega
  have ez' : ¬ keysI B R D M 0 = 0 := by omega
  have hx0 : 0 ≤ x % keysI B R D M 0 := Int.emod_nonneg _ (by omega)
  have hx1 : x % keysI B R D M 0 < keysI B R D M 0 := Int.emod_lt_of_pos _ (by omega)
  have hy0 : 0 ≤ y % keysI B R D M 0 := Int.emod_nonneg _ (by omega)
  have hy1 : y % keysI B R D M 0 < keysI B R D M 0 := Int.emod_lt_of_pos _ (by omega)
  have t1 : x.tmod (keysI B R D M 0) = x % keysI B R D M 0 := Int.tmod_eq_emod_of_nonneg x0
  have t2 : y.tmod (keysI B R D M 0) = y % keysI B R D M 0 := Int.tmod_eq_emod_of_nonneg y0
  have u1 : IntKind.u64.wrap (x % keysI B R D M 0) = x % keysI B R D M 0 := by rw [IntKind.wrap_u64]; omega
  have u2 : IntKind.u64.wrap (y % keysI B R D M 0) = y % keysI B R D M 0 := by rw [IntKind.wrap_u64]; omega
  refine wp_region_held_drew (S := fun w' => Blk w' G 24 #[.int .i64 B, .int .i64 R, .int .i64 D, .int .i64 M, .int .u64 s] ∧ Blk w' (w.heap.size + 1) 42 #[.int .u64 x, .int .u64 y] ∧ Below w.heap.size w w') (by kernel_rfl) (by exact ⟨hk.drew, hj.drew, hbel.drew⟩) (fun hHeld => ?_)
  refine wpAnyH_take (i := 0) (v := ?_) rfl (by kernel_rfl) (by kernel_rfl) (by kernel_rfl) (fun _ _ _ h => h) (Or.inl ⟨by rfl, ?_⟩) (by assumption) ?_
  rotate_left
  · intro w hSw
    try dsimp only at hSw
    go_simp
    try with_reducible rfl
  simp only [Act.put, List.setIfInBounds_toArray, List.set_cons_zero, List.set_cons_succ, List.getElem_toArray, List.getElem_cons_zero, List.getElem_cons_succ]
  refine wpAnyH_take (i := 1) (v := ?_) rfl (by kernel_rfl) (by kernel_rfl) (by kernel_rfl) (fun _ _ _ h => h) (Or.inl ⟨by rfl, ?_⟩) (by assumption) ?_
  rotate_left
  · intro w hSw
    obtain ⟨q0, q1, q2, q3, q4⟩ := box_cells hSw.1
    obtain ⟨j0, j1⟩ := pair_cells hSw.2.1
    go_simp
    try with_reducible rfl
  simp only [Act.put, List.setIfInBounds_toArray, List.set_cons_zero, List.set_cons_succ, List.getElem_toArray, List.getElem_cons_zero, List.getElem_cons_succ]
  refine wpAnyH_take (i := 2) (v := ?_) rfl (by kernel_rfl) (by kernel_rfl) (by kernel_rfl) (fun _ _ _ h => h) (Or.inl ⟨by rfl, ?_⟩) (by assumption) ?_
  rotate_left
  · intro w hSw
    obtain ⟨q0, q1, q2, q3, q4⟩ := box_cells hSw.1
    obtain ⟨j0, j1⟩ := pair_cells hSw.2.1
    go_simp
    try with_reducible rfl
  simp only [Act.put, List.setIfInBounds_toArray, List.set_cons_zero, List.set_cons_succ, List.getElem_toArray, List.getElem_cons_zero, List.getElem_cons_succ]
  refine wpAnyH_ready (rs := [3]) (by kernel_rfl) (by simp) ?_
  refine AllReadyH.cons rfl (fun K hK => ?_) AllReadyH.nil
  go_simp
  go_wp2_with (first
      | (go_at_call 16; refine (right_any _ _ _ _ _ _).mono ?_; rintro e w' ⟨rfl, hb'⟩)
      | (go_at_call 17; refine (rright_any _ _ _ _ _ _).mono ?_; rintro e w' ⟨rfl, hb'⟩)
      | (go_at_call 18; refine (keys_any _ _ _ _ _ _ _).mono ?_; rintro e w' ⟨rfl, hb'⟩)
      | (go_at_call 19; refine (rkeys_any _ _ _ _ _ _ _).mono ?_; rintro e w' ⟨rfl, hb'⟩)
      | (go_at_call 20; refine (exact_any _ _ _ _ _ _ _).mono ?_; rintro e w' ⟨rfl, hb'⟩)
      | (go_at_call 21; refine (rexact_any _ _ _ _ _ _ _).mono ?_; rintro e w' ⟨rfl, hb'⟩))
  refine hK.out _ _ ?_ (fun hHeld => ?_)
  · first | assumption | exact ⟨hHeld.1.kept hb', hHeld.2.1.kept hb', hHeld.2.2.trans (hb'.mono (by have := hHeld.2.2.size; omega))⟩
  clear hK K
  refine wpAnyH_take (i := 4) (v := ?_) rfl (by kernel_rfl) (by kernel_rfl) (by kernel_rfl) (fun _ _ _ h => h) (Or.inl ⟨by rfl, ?_⟩) (by assumption) ?_
  rotate_left
  · intro w hSw
    try dsimp only at hSw
    go_simp
    try with_reducible rfl
  simp only [Act.put, List.setIfInBounds_toArray, List.set_cons_zero, List.set_cons_succ, List.getElem_toArray, List.getElem_cons_zero, List.getElem_cons_succ]
  refine wpAnyH_take (i := 5) (v := ?_) rfl (by kernel_rfl) (by kernel_rfl) (by kernel_rfl) (fun _ _ _ h => h) (Or.inl ⟨by rfl, ?_⟩) (by assumption) ?_
  rotate_left
  · intro w hSw
    try dsimp only at hSw
    go_simp
    try with_reducible rfl
  simp only [Act.put, List.setIfInBounds_toArray, List.set_cons_zero, List.set_cons_succ, List.getElem_toArray, List.getElem_cons_zero, List.getElem_cons_succ]
  refine wpAnyH_done (by kernel_rfl) ?_ _
  clear hk hj hbel
  obtain ⟨hk, hj, hbel⟩ := hHeld
  go_upto_region 5 with fail
  refine wp_region_held_drew (S := fun w' => Blk w' G 24 #[.int .i64 B, .int .i64 R, .int .i64 D, .int .i64 M, .int .u64 s] ∧ Blk w' (w.heap.size + 1) 42 #[.int .u64 x, .int .u64 y] ∧ Below w.heap.size w w') (by kernel_rfl) (by exact ⟨hk.drew, hj.drew, hbel.drew⟩) (fun hHeld => ?_)
  refine wpAnyH_take (i := 0) (v := ?_) rfl (by kernel_rfl) (by kernel_rfl) (by kernel_rfl) (fun _ _ _ h => h) (Or.inl ⟨by rfl, ?_⟩) (by assumption) ?_
  rotate_left
  · intro w hSw
    try dsimp only at hSw
    go_simp
    try with_reducible rfl
  simp only [Act.put, List.setIfInBounds_toArray, List.set_cons_zero, List.set_cons_succ, List.getElem_toArray, List.getElem_cons_zero, List.getElem_cons_succ]
  refine wpAnyH_take (i := 1) (v := ?_) rfl (by kernel_rfl) (by kernel_rfl) (by kernel_rfl) (fun _ _ _ h => h) (Or.inl ⟨by rfl, ?_⟩) (by assumption) ?_
  rotate_left
  · intro w hSw
    obtain ⟨q0, q1, q2, q3, q4⟩ := box_cells hSw.1
    obtain ⟨j0, j1⟩ := pair_cells hSw.2.1
    go_simp
    try with_reducible rfl
  simp only [Act.put, List.setIfInBounds_toArray, List.set_cons_zero, List.set_cons_succ, List.getElem_toArray, List.getElem_cons_zero, List.getElem_cons_succ]
  refine wpAnyH_take (i := 2) (v := ?_) rfl (by kernel_rfl) (by kernel_rfl) (by kernel_rfl) (fun _ _ _ h => h) (Or.inl ⟨by rfl, ?_⟩) (by assumption) ?_
  rotate_left
  · intro w hSw
    obtain ⟨q0, q1, q2, q3, q4⟩ := box_cells hSw.1
    obtain ⟨j0, j1⟩ := pair_cells hSw.2.1
    go_simp
    try with_reducible rfl
  simp only [Act.put, List.setIfInBounds_toArray, List.set_cons_zero, List.set_cons_succ, List.getElem_toArray, List.getElem_cons_zero, List.getElem_cons_succ]
  refine wpAnyH_ready (rs := [3]) (by kernel_rfl) (by simp) ?_
  refine AllReadyH.cons rfl (fun K hK => ?_) AllReadyH.nil
  go_simp
  go_wp2_with (first
      | (go_at_call 16; refine (right_any _ _ _ _ _ _).mono ?_; rintro e w' ⟨rfl, hb'⟩)
      | (go_at_call 17; refine (rright_any _ _ _ _ _ _).mono ?_; rintro e w' ⟨rfl, hb'⟩)
      | (go_at_call 18; refine (keys_any _ _ _ _ _ _ _).mono ?_; rintro e w' ⟨rfl, hb'⟩)
      | (go_at_call 19; refine (rkeys_any _ _ _ _ _ _ _).mono ?_; rintro e w' ⟨rfl, hb'⟩)
      | (go_at_call 20; refine (exact_any _ _ _ _ _ _ _).mono ?_; rintro e w' ⟨rfl, hb'⟩)
      | (go_at_call 21; refine (rexact_any _ _ _ _ _ _ _).mono ?_; rintro e w' ⟨rfl, hb'⟩))
  refine hK.out _ _ ?_ (fun hHeld => ?_)
  · first | assumption | exact ⟨hHeld.1.kept hb', hHeld.2.1.kept hb', hHeld.2.2.trans (hb'.mono (by have := hHeld.2.2.size; omega))⟩
  clear hK K
  refine wpAnyH_take (i := 4) (v := ?_) rfl (by kernel_rfl) (by kernel_rfl) (by kernel_rfl) (fun _ _ _ h => h) (Or.inl ⟨by rfl, ?_⟩) (by assumption) ?_
  rotate_left
  · intro w hSw
    try dsimp only at hSw
    go_simp
    try with_reducible rfl
  simp only [Act.put, List.setIfInBounds_toArray, List.set_cons_zero, List.set_cons_succ, List.getElem_toArray, List.getElem_cons_zero, List.getElem_cons_succ]
  refine wpAnyH_take (i := 5) (v := ?_) rfl (by kernel_rfl) (by kernel_rfl) (by kernel_rfl) (fun _ _ _ h => h) (Or.inl ⟨by rfl, ?_⟩) (by assumption) ?_
  rotate_left
  · intro w hSw
    try dsimp only at hSw
    go_simp
    try with_reducible rfl
  simp only [Act.put, List.setIfInBounds_toArray, List.set_cons_zero, List.set_cons_succ, List.getElem_toArray, List.getElem_cons_zero, List.getElem_cons_succ]
  refine wpAnyH_done (by kernel_rfl) ?_ _
  clear hk hj hbel
  obtain ⟨hk, hj, hbel⟩ := hHeld
  clear t1 t2 u1 u2 ez ez' hj
  have g1 := above_yes hr hl0 (by omega) hx1
  have g2 := above_yes (l := L + 1) hr (by omega) (by omega) hx1
  have g3 := above_yes hr hl0 (by omega) hy1
  have e1 := above_val hr hl0 (by omega) hx1
  have e2 := above_val (l := L + 1) hr (by omega) (by omega) hx1
  rw [above_next hl0 hx0] at e2
  have e3 := above_val hr hl0 (by omega) hy1
  have hlt := above_lt hr hl0 (by omega) hx1
  have hT := pow_le L.toNat (by omega)
  have kb2 := keysI_bd B R D M L
  generalize x % keysI B R D M 0 = A at *
  generalize y % keysI B R D M 0 = C at *
  have hsp := span_iff A C (2 ^ L.toNat) (by omega) hx0 hy0
  have hq0 : 0 ≤ A / 2 ^ L.toNat := Int.ediv_nonneg hx0 (by omega)
  have hq1 : A / 2 ^ L.toNat * 2 ^ L.toNat ≤ A := Int.ediv_mul_le _ (by omega)
  have hq2 : 0 ≤ A / 2 ^ L.toNat * 2 ^ L.toNat := Int.mul_nonneg hq0 (by omega)
  have hq3 : 0 ≤ C / 2 ^ L.toNat := Int.ediv_nonneg hy0 (by omega)
  have hA1 : A ≤ 18446744073709551615 := by omega
  have hC1 : C ≤ 18446744073709551615 := by omega
  have dlt : decide (A / 2 ^ L.toNat < keysI B R D M L) = true := decide_eq_true hlt
  have dge : decide (A / 2 ^ L.toNat * 2 ^ L.toNat ≤ A) = true := decide_eq_true hq1
  obtain ⟨q0, q1, q2, q3, q4⟩ := box_cells hk
  by_cases c1 : A / 2 ^ L.toNat * 2 ^ L.toNat ≤ C
  · by_cases c2 : C - A / 2 ^ L.toNat * 2 ^ L.toNat < 2 ^ L.toNat
    · have he : (A / 2 ^ L.toNat == C / 2 ^ L.toNat) = true := by rw [beq_iff_eq]; exact hsp.2 ⟨c1, c2⟩
      have dc : decide (C - A / 2 ^ L.toNat * 2 ^ L.toNat < 2 ^ L.toNat) = true := decide_eq_true c2
      clear hsp hr
      go_wp2_with fail
      refine (above_any B R D M s L A hx0 hA1 _).mono ?_; rintro e w4 ⟨rfl, hb'⟩
      replace hk := hk.kept hb'; clear q0 q1 q2 q3 q4; obtain ⟨q0, q1, q2, q3, q4⟩ := box_cells hk; replace hbel := btr hbel hb'; clear hb'
      go_wp2_with fail
      refine (above_any B R D M s (L + 1) A hx0 hA1 _).mono ?_; rintro e w4 ⟨rfl, hb'⟩
      replace hk := hk.kept hb'; clear q0 q1 q2 q3 q4; obtain ⟨q0, q1, q2, q3, q4⟩ := box_cells hk; replace hbel := btr hbel hb'; clear hb'
      go_wp2_with fail
      refine (above_any B R D M s L C hy0 hC1 _).mono ?_; rintro e w4 ⟨rfl, hb'⟩
      replace hk := hk.kept hb'; clear q0 q1 q2 q3 q4; obtain ⟨q0, q1, q2, q3, q4⟩ := box_cells hk; replace hbel := btr hbel hb'; clear hb'
      go_wp2_with fail
      refine (keys_any B R D M s L _).mono ?_; rintro e w4 ⟨rfl, hb'⟩
      replace hbel := btr hbel hb'; clear hb'
      go_wp2_with fail
      go_ret
      exact ⟨rfl, hbel⟩
    · have he : (A / 2 ^ L.toNat == C / 2 ^ L.toNat) = false := by rw [beq_eq_false_iff_ne]; intro h; exact c2 (hsp.1 h).2
      have dc : decide (C - A / 2 ^ L.toNat * 2 ^ L.toNat < 2 ^ L.toNat) = false := decide_eq_false c2
      clear hsp hr
      go_wp2_with fail
      refine (above_any B R D M s L A hx0 hA1 _).mono ?_; rintro e w4 ⟨rfl, hb'⟩
      replace hk := hk.kept hb'; clear q0 q1 q2 q3 q4; obtain ⟨q0, q1, q2, q3, q4⟩ := box_cells hk; replace hbel := btr hbel hb'; clear hb'
      go_wp2_with fail
      refine (above_any B R D M s (L + 1) A hx0 hA1 _).mono ?_; rintro e w4 ⟨rfl, hb'⟩
      replace hk := hk.kept hb'; clear q0 q1 q2 q3 q4; obtain ⟨q0, q1, q2, q3, q4⟩ := box_cells hk; replace hbel := btr hbel hb'; clear hb'
      go_wp2_with fail
      refine (above_any B R D M s L C hy0 hC1 _).mono ?_; rintro e w4 ⟨rfl, hb'⟩
      replace hk := hk.kept hb'; clear q0 q1 q2 q3 q4; obtain ⟨q0, q1, q2, q3, q4⟩ := box_cells hk; replace hbel := btr hbel hb'; clear hb'
      go_wp2_with fail
      refine (keys_any B R D M s L _).mono ?_; rintro e w4 ⟨rfl, hb'⟩
      replace hbel := btr hbel hb'; clear hb'
      go_wp2_with fail
      go_ret
      exact ⟨rfl, hbel⟩
  · have he : (A / 2 ^ L.toNat == C / 2 ^ L.toNat) = false := by rw [beq_eq_false_iff_ne]; intro h; exact c1 (hsp.1 h).1
    clear hsp hr
    go_wp2_with fail
    refine (above_any B R D M s L A hx0 hA1 _).mono ?_; rintro e w4 ⟨rfl, hb'⟩
    replace hk := hk.kept hb'; clear q0 q1 q2 q3 q4; obtain ⟨q0, q1, q2, q3, q4⟩ := box_cells hk; replace hbel := btr hbel hb'; clear hb'
    go_wp2_with fail
    refine (above_any B R D M s (L + 1) A hx0 hA1 _).mono ?_; rintro e w4 ⟨rfl, hb'⟩
    replace hk := hk.kept hb'; clear q0 q1 q2 q3 q4; obtain ⟨q0, q1, q2, q3, q4⟩ := box_cells hk; replace hbel := btr hbel hb'; clear hb'
    go_wp2_with fail
    refine (above_any B R D M s L C hy0 hC1 _).mono ?_; rintro e w4 ⟨rfl, hb'⟩
    replace hk := hk.kept hb'; clear q0 q1 q2 q3 q4; obtain ⟨q0, q1, q2, q3, q4⟩ := box_cells hk; replace hbel := btr hbel hb'; clear hb'
    go_wp2_with fail
    refine (keys_any B R D M s L _).mono ?_; rintro e w4 ⟨rfl, hb'⟩
    replace hbel := btr hbel hb'; clear hb'
    go_wp2_with fail
    go_ret
    exact ⟨rfl, hbel⟩

theorem ShapeBelongs_walk (v0 v1 v2 : Value) (w : World) (h0 : shCfg.Val w v0) (h1 : (Sh.int .i64).Val w v1) (h2 : shTwo.Val w v2) :
    Calls Try.prog 7 #[v0, v1, v2] w fun e w' => e = .returned (.bool true) ∧ Below w.heap.size w w' := by
  obtain ⟨b, r, d, m, s, rfl, wb, wr, wd, wm, ws⟩ := valCfg h0
  obtain ⟨l, rfl, wl⟩ := Sh.val_int h1
  obtain ⟨x, y, rfl, wx, wy⟩ := valTwo h2
  obtain ⟨x0, x1⟩ := bounds_u64 wx
  obtain ⟨y0, y1⟩ := bounds_u64 wy
  exact ShapeBelongs_body b r d m s l x y x0 x1 y0 y1 w
end Go.Proofs.Ytfjhecgicemoeaa
