/-
  The walks of further statements of layer 4: each returns true. Conditions: the arguments are of their types.
-/
import Derived.Test.YtgcfopallncnlabHsZ
namespace Go.Proofs.Ytgcfopallncnlab
open Go.RowKit Go.ChangeShapes Go.WideShapes Go.ChangeAt
set_option linter.unusedVariables false
set_option linter.unusedSimpArgs false

theorem HashRange_walk (v0 v1 : Value) (w : World) (h0 : sh3.Val w v0) (h1 : (Sh.int .i64).Val w v1) :
    Calls Try.prog 9 #[v0, v1] w fun e w' => e = .returned (.bool true) ∧ Below w.heap.size w w' := by
  obtain ⟨a, b, c, rfl, wa, wb, wc⟩ := val3 h0
  obtain ⟨n, rfl, wn⟩ := Sh.val_int h1
  obtain ⟨a0, a1⟩ := bounds_u64 wa
  obtain ⟨b0, b1⟩ := bounds_u64 wb
  obtain ⟨c0, c1⟩ := bounds_u64 wc
  obtain ⟨n0, n1⟩ := bounds_i64 wn
  clear h0 h1 wa wb wc wn
  by_cases hn : n < 1
  · go_enter Try.func9, Try.ntmps9
    go_wp2_with fail
    refine (shown04 _).mono ?_; rintro e w1 ⟨rfl, hb'⟩
    have k0 := keep_cell hb' 0
    have k1 := keep_cell hb' 1
    have k2 := keep_cell hb' 2
    simp at k0 k1 k2
    have hb : Below w.heap.size w w1 := ((Below.refl _ _).alloc (Nat.le_refl _) _).trans (hb'.mono (by simp))
    clear hb'
    go_wp2_with fail
    refine (bucket_none _ _ _ _ hn _).mono ?_; rintro e w' ⟨rfl, rfl⟩
    go_wp2_with fail
    go_ret
    exact ⟨rfl, hb⟩
  · have hn' : 1 ≤ n := by omega
    have m0 : 0 ≤ lineI a b c % n := Int.emod_nonneg _ (by omega)
    have m1 : lineI a b c % n < n := Int.emod_lt_of_pos _ (by omega)
    have m2 : (lineI a b c % 1 == 0) = true := by simp [Int.emod_one]
    go_enter Try.func9, Try.ntmps9
    go_wp2_with fail
    refine (shown04 _).mono ?_; rintro e w1 ⟨rfl, hb'⟩
    have k0 := keep_cell hb' 0
    have k1 := keep_cell hb' 1
    have k2 := keep_cell hb' 2
    simp at k0 k1 k2
    have hz := hb'.size
    simp at hz
    have hb : Below w.heap.size w w1 := ((Below.refl _ _).alloc (Nat.le_refl _) _).trans (hb'.mono (by simp))
    clear hb'
    go_wp2_with fail
    refine (bucket_any _ _ _ _ a0 a1 b0 b1 c0 c1 hn' n1 _).mono ?_; rintro e w2 ⟨rfl, hb2⟩
    have j0 := (hb2.cell (p := ⟨w.heap.size, 0, none⟩) (by simp; omega)).trans k0
    have j1 := (hb2.cell (p := ⟨w.heap.size, 1, none⟩) (by simp; omega)).trans k1
    have j2 := (hb2.cell (p := ⟨w.heap.size, 2, none⟩) (by simp; omega)).trans k2
    replace hb := bel_trans' hb hb2
    clear hb2 k0 k1 k2 hz
    go_wp2_with fail
    refine (bucket_any _ _ _ _ a0 a1 b0 b1 c0 c1 (by omega) (by omega) _).mono ?_; rintro e w2 ⟨rfl, hb2⟩
    replace hb := bel_trans' hb hb2
    go_wp2_with fail
    go_ret
    exact ⟨rfl, hb⟩

theorem HashUnlike_walk (v0 v1 v2 : Value) (w : World) (h0 : (Sh.int .u64).Val w v0) (h1 : (Sh.int .u64).Val w v1) (h2 : sh2.Val w v2) :
    Calls Try.prog 8 #[v0, v1, v2] w fun e w' => e = .returned (.bool true) ∧ Below w.heap.size w w' := by
  obtain ⟨a, rfl, wa⟩ := Sh.val_int h0
  obtain ⟨b, rfl, wb⟩ := Sh.val_int h1
  obtain ⟨x, y, rfl, wx, wy⟩ := val2 h2
  obtain ⟨a0, a1⟩ := bounds_u64 wa
  obtain ⟨b0, b1⟩ := bounds_u64 wb
  obtain ⟨c0, c1⟩ := bounds_u64 wx
  obtain ⟨d0, d1⟩ := bounds_u64 wy
  clear h0 h1 h2 wa wb wx wy
  by_cases hz : ffold a = 0
  · have e0 : (ffold a == 0) = true := by simp [hz]
    have e1 : (lineI a b x == lineI a b y) = true := by simp [line_zero a b _ hz]
    have e2 : (lineI a b x == ffold b) = true := by simp [line_zero a b _ hz]
    clear hz
    go_enter Try.func8, Try.ntmps8
    go_wp2_with fail
    refine (shown04 _).mono ?_; rintro e w1 ⟨rfl, hb'⟩
    have k0 := keep_cell hb' 0
    have k1 := keep_cell hb' 1
    simp at k0 k1
    have hz := hb'.size
    simp at hz
    have hb : Below w.heap.size w w1 := ((Below.refl _ _).alloc (Nat.le_refl _) _).trans (hb'.mono (by simp))
    clear hb'
    go_wp2_with fail
    refine (line_any _ _ _ a0 a1 b0 b1 c0 c1 _).mono ?_; rintro e w2 ⟨rfl, hb2⟩
    have j0 := (hb2.cell (p := ⟨w.heap.size, 0, none⟩) (by simp; omega)).trans k0
    have j1 := (hb2.cell (p := ⟨w.heap.size, 1, none⟩) (by simp; omega)).trans k1
    replace hb := bel_trans' hb hb2
    clear hb2 k0 k1 hz
    go_wp2_with fail
    refine (line_any _ _ _ a0 a1 b0 b1 d0 d1 _).mono ?_; rintro e w3 ⟨rfl, hb2⟩
    replace hb := bel_trans' hb hb2
    clear hb2
    go_wp2_with (go_at_call 21; refine (fold_any _ (by omega) (by omega) _).mono ?_; rintro e w' ⟨rfl, rfl⟩)
    go_ret
    exact ⟨rfl, hb⟩
  · have e0 : (ffold a == 0) = false := by simp [hz]
    have hs : ((lineI a b x == lineI a b y) == (ffold x == ffold y)) = true := by
      rw [beq_iff_eq, Bool.eq_iff_iff, beq_iff_eq, beq_iff_eq]
      exact line_eq_iff a b x y hz
    clear hz
    go_enter Try.func8, Try.ntmps8
    go_wp2_with fail
    refine (shown04 _).mono ?_; rintro e w1 ⟨rfl, hb'⟩
    have k0 := keep_cell hb' 0
    have k1 := keep_cell hb' 1
    simp at k0 k1
    have hz := hb'.size
    simp at hz
    have hb : Below w.heap.size w w1 := ((Below.refl _ _).alloc (Nat.le_refl _) _).trans (hb'.mono (by simp))
    clear hb'
    go_wp2_with fail
    refine (line_any _ _ _ a0 a1 b0 b1 c0 c1 _).mono ?_; rintro e w2 ⟨rfl, hb2⟩
    have j0 := (hb2.cell (p := ⟨w.heap.size, 0, none⟩) (by simp; omega)).trans k0
    have j1 := (hb2.cell (p := ⟨w.heap.size, 1, none⟩) (by simp; omega)).trans k1
    have hz2 := hb2.size
    replace hb := bel_trans' hb hb2
    clear hb2 k0 k1
    go_wp2_with fail
    refine (line_any _ _ _ a0 a1 b0 b1 d0 d1 _).mono ?_; rintro e w3 ⟨rfl, hb2⟩
    have k0 := (hb2.cell (p := ⟨w.heap.size, 0, none⟩) (by simp; omega)).trans j0
    have k1 := (hb2.cell (p := ⟨w.heap.size, 1, none⟩) (by simp; omega)).trans j1
    replace hb := bel_trans' hb hb2
    clear hb2 j0 j1 hz hz2
    go_wp2_with (go_at_call 21; refine (fold_any _ (by omega) (by omega) _).mono ?_; rintro e w' ⟨rfl, rfl⟩)
    go_quiet ((go_at_call 21; exact Calls.quiet_of_same ((fold_any _ (by omega) (by omega) _).mono fun e w' ⟨p, q⟩ => ⟨p, q.symm⟩)))
    go_wp2
    go_ret
    exact ⟨rfl, below_drewN hb _⟩

theorem hold4 {B : Nat} {w wx w' : World} {a b c d : Int}
    (h : wx.cell? ⟨B, 0, none⟩ = some (.int .u64 a) ∧ wx.cell? ⟨B, 1, none⟩ = some (.int .u64 b) ∧ wx.cell? ⟨B, 2, none⟩ = some (.int .u64 c) ∧ wx.cell? ⟨B, 3, none⟩ = some (.int .u64 d) ∧ B < wx.heap.size ∧ Below B w wx)
    (k : Below wx.heap.size wx w') :
    w'.cell? ⟨B, 0, none⟩ = some (.int .u64 a) ∧ w'.cell? ⟨B, 1, none⟩ = some (.int .u64 b) ∧ w'.cell? ⟨B, 2, none⟩ = some (.int .u64 c) ∧ w'.cell? ⟨B, 3, none⟩ = some (.int .u64 d) ∧ B < w'.heap.size ∧ Below B w w' := by
  obtain ⟨h0, h1, h2, h5, h3, h4⟩ := h
  exact ⟨(k.cell (p := ⟨B, 0, none⟩) h3).trans h0, (k.cell (p := ⟨B, 1, none⟩) h3).trans h1, (k.cell (p := ⟨B, 2, none⟩) h3).trans h2, (k.cell (p := ⟨B, 3, none⟩) h3).trans h5, Nat.lt_of_lt_of_le h3 k.size, h4.trans (k.mono (by omega))⟩

theorem HashMeets_none (x u y v c d : Int) (a0 : 0 ≤ x) (a1 : x ≤ 18446744073709551615) (c0 : 0 ≤ y) (c1 : y ≤ 18446744073709551615) (hz : fsub y x = 0) (w : World) :
    Calls Try.prog 7 #[.agg #[.int .u64 x, .int .u64 u, .int .u64 y, .int .u64 v], .int .u64 c, .int .u64 d] w fun e w' => e = .returned (.bool true) ∧ Below w.heap.size w w' := by
  have e0 : (ffold x == ffold y) = true := by simp [(fsub_zero_iff y x).1 hz]
  have HZ := Lib.hid hz
  clear hz
  go_enter Try.func7, Try.ntmps7
  go_wp2_with fail
  refine (shown04 _).mono ?_; rintro e w1 ⟨rfl, hb'⟩
  have k0 := keep_cell hb' 0
  have k1 := keep_cell hb' 1
  have k2 := keep_cell hb' 2
  have k3 := keep_cell hb' 3
  simp at k0 k1 k2 k3
  have hb : Below w.heap.size w w1 := ((Below.refl _ _).alloc (Nat.le_refl _) _).trans (hb'.mono (by simp))
  clear hb'
  go_wp2_with fail
  refine (through_none _ _ _ _ a0 a1 c0 c1 HZ.out _).mono ?_; rintro e w' ⟨rfl, rfl⟩
  go_wp2_with fail
  go_quiet ((go_at_call 21; exact Calls.quiet_of_same ((fold_any _ (by omega) (by omega) _).mono fun e w' ⟨p, q⟩ => ⟨p, q.symm⟩)))
  go_wp2
  go_ret
  exact ⟨rfl, below_drewN hb _⟩

set_option maxRecDepth 100000 in
set_option maxHeartbeats 2000000 in
theorem HashMeets_both (x u y v c d : Int) (a0 : 0 ≤ x) (a1 : x ≤ 18446744073709551615) (b0 : 0 ≤ u) (b1 : u ≤ 18446744073709551615) (c0 : 0 ≤ y) (c1 : y ≤ 18446744073709551615) (d0 : 0 ≤ v) (d1 : v ≤ 18446744073709551615)
    (g0 : 0 ≤ c) (g1 : c ≤ 18446744073709551615) (i0 : 0 ≤ d) (i1 : d ≤ 18446744073709551615) (hz : fsub y x ≠ 0) (p1 : (lineI c d x == ffold u) = true) (p2 : (lineI c d y == ffold v) = true) (w : World) :
    Calls Try.prog 7 #[.agg #[.int .u64 x, .int .u64 u, .int .u64 y, .int .u64 v], .int .u64 c, .int .u64 d] w fun e w' => e = .returned (.bool true) ∧ Below w.heap.size w w' := by
  have q := (line_both x u y v c d hz).1 ⟨by simpa using p1, by simpa using p2⟩
  have q1 : (ffold c == slopeI x u y v) = true := by simp [q.1]
  have q2 : (ffold d == baseI x u y v) = true := by simp [q.2]
  clear q
  have q3 : (lineI (slopeI x u y v) (baseI x u y v) x == ffold u) = true := by simp [line_first]
  have q4 : (lineI (slopeI x u y v) (baseI x u y v) y == ffold v) = true := by simp [line_second x u y v hz]
  obtain ⟨s1, s2⟩ := slopeI_bd x u y v
  obtain ⟨s3, s4⟩ := baseI_bd x u y v
  have HZ := Lib.hid hz
  clear hz
  go_enter Try.func7, Try.ntmps7
  go_wp2_with fail
  refine (shown04 _).mono ?_; rintro e w1 ⟨rfl, hb'⟩
  have k0 := keep_cell hb' 0
  have k1 := keep_cell hb' 1
  have k2 := keep_cell hb' 2
  have k3 := keep_cell hb' 3
  simp at k0 k1 k2 k3
  have hz := hb'.size
  simp at hz
  have hb : Below w.heap.size w w1 := ((Below.refl _ _).alloc (Nat.le_refl _) _).trans (hb'.mono (by simp))
  clear hb'
  generalize hB : w.heap.size = B at *
  have HB := Lib.hid hB
  clear hB
  go_wp2_with fail
  refine (through_any _ _ _ _ a0 a1 b0 b1 c0 c1 d0 d1 HZ.out _).mono ?_; rintro e w' ⟨rfl, rfl⟩
  generalize slopeI x u y v = sl at *
  generalize baseI x u y v = ba at *
  have t1 : decide (sl < 2305843009213693951) = true := decide_eq_true (by omega)
  have t2 : decide (ba < 2305843009213693951) = true := decide_eq_true (by omega)
  go_wp2_with fail
  go_region_held3 (fun w' => w'.cell? ⟨B, 0, none⟩ = some (.int .u64 x) ∧ w'.cell? ⟨B, 1, none⟩ = some (.int .u64 u) ∧ w'.cell? ⟨B, 2, none⟩ = some (.int .u64 y) ∧ w'.cell? ⟨B, 3, none⟩ = some (.int .u64 v) ∧ B < w'.heap.size ∧ Below B w w') (first | exact ⟨k0, k1, k2, k3, hz, hb.drew⟩ | assumption | exact hold4 (by assumption) (by assumption))
      (first
        | (go_at_call 15; refine (line_any _ _ _ (by omega) (by omega) (by omega) (by omega) (by omega) (by omega) _).mono ?_; rintro e w' ⟨rfl, hb'⟩)
        | (go_at_call 21; refine (fold_any _ (by omega) (by omega) _).mono ?_; rintro e w' ⟨rfl, rfl⟩))
  all_goals
    have hh := hold4 (by assumption) (Below.refl _ _)
    clear k0 k1 k2 k3 hz hb
    obtain ⟨k0, k1, k2, k3, hz, hb⟩ := hh
    go_wp2_with fail
    go_region_held3 (fun w' => w'.cell? ⟨B, 0, none⟩ = some (.int .u64 x) ∧ w'.cell? ⟨B, 1, none⟩ = some (.int .u64 u) ∧ w'.cell? ⟨B, 2, none⟩ = some (.int .u64 y) ∧ w'.cell? ⟨B, 3, none⟩ = some (.int .u64 v) ∧ B < w'.heap.size ∧ Below B w w') (first | exact ⟨k0, k1, k2, k3, hz, hb.drew⟩ | assumption | exact hold4 (by assumption) (by assumption))
      (first
        | (go_at_call 15; refine (line_any _ _ _ (by omega) (by omega) (by omega) (by omega) (by omega) (by omega) _).mono ?_; rintro e w' ⟨rfl, hb'⟩)
        | (go_at_call 21; refine (fold_any _ (by omega) (by omega) _).mono ?_; rintro e w' ⟨rfl, rfl⟩))
    all_goals
      go_wp2
      go_ret
      exact ⟨rfl, by rw [HB.out]; exact (hold4 (by assumption) (Below.refl _ _)).2.2.2.2.2⟩

end Go.Proofs.Ytgcfopallncnlab
