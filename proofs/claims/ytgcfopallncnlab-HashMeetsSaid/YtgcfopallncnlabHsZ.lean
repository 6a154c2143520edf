/-
  The walks of the statements of layer 4: each returns true. Conditions: the arguments are of their types.
-/
import Derived.Test.YtgcfopallncnlabHsW
import Derived.Test.YtgcfopallncnlabSh
import Derived.Deep.RegionHeld3
import Derived.OpenShut
namespace Go.Proofs.Ytgcfopallncnlab
open Go.RowKit Go.ChangeShapes Go.WideShapes Go.ChangeAt
set_option linter.unusedVariables false
set_option linter.unusedSimpArgs false

def sh3 : Sh := .agg (.cons (.int .u64) (.cons (.int .u64) (.cons (.int .u64) .unit)))
def sh4 : Sh := .agg (.cons (.int .u64) (.cons (.int .u64) (.cons (.int .u64) (.cons (.int .u64) .unit))))
def sh2 : Sh := .agg (.cons (.int .u64) (.cons (.int .u64) .unit))
theorem val3 {w : World} {v : Value} (h : sh3.Val w v) : ∃ a b c : Int, v = .agg #[.int .u64 a, .int .u64 b, .int .u64 c] ∧ (Lit.int .u64 a).wf = true ∧ (Lit.int .u64 b).wf = true ∧ (Lit.int .u64 c).wf = true := by
  obtain ⟨cs, rfl, h1⟩ := h
  obtain ⟨a, d, e, wa, h2⟩ := Sh.reads_int h1
  obtain ⟨b, d, rfl, wb, h3⟩ := Sh.reads_int h2
  obtain ⟨c, d, rfl, wc, h4⟩ := Sh.reads_int h3
  obtain rfl := Sh.reads_unit h4
  exact ⟨a, b, c, by rw [agg_of_list e], wa, wb, wc⟩
theorem val4 {w : World} {v : Value} (h : sh4.Val w v) : ∃ a b c x : Int, v = .agg #[.int .u64 a, .int .u64 b, .int .u64 c, .int .u64 x] ∧ (Lit.int .u64 a).wf = true ∧ (Lit.int .u64 b).wf = true ∧ (Lit.int .u64 c).wf = true ∧ (Lit.int .u64 x).wf = true := by
  obtain ⟨cs, rfl, h1⟩ := h
  obtain ⟨a, d, e, wa, h2⟩ := Sh.reads_int h1
  obtain ⟨b, d, rfl, wb, h3⟩ := Sh.reads_int h2
  obtain ⟨c, d, rfl, wc, h4⟩ := Sh.reads_int h3
  obtain ⟨x, d, rfl, wx, h5⟩ := Sh.reads_int h4
  obtain rfl := Sh.reads_unit h5
  exact ⟨a, b, c, x, by rw [agg_of_list e], wa, wb, wc, wx⟩
theorem val2 {w : World} {v : Value} (h : sh2.Val w v) : ∃ a b : Int, v = .agg #[.int .u64 a, .int .u64 b] ∧ (Lit.int .u64 a).wf = true ∧ (Lit.int .u64 b).wf = true := by
  obtain ⟨cs, rfl, h1⟩ := h
  obtain ⟨a, d, e, wa, h2⟩ := Sh.reads_int h1
  obtain ⟨b, d, rfl, wb, h3⟩ := Sh.reads_int h2
  obtain rfl := Sh.reads_unit h3
  exact ⟨a, b, by rw [agg_of_list e], wa, wb⟩

/-- what a world keeps of a block that was laid as the first -/
theorem keep_cell {w w1 : World} {cs : Array Value} {t : TypeId} (h : Below (w.alloc (.cells cs t)).heap.size (w.alloc (.cells cs t)) w1) (j : Nat) : w1.cell? ⟨w.heap.size, j, none⟩ = cs[j]? := by
  rw [h.cell (p := ⟨w.heap.size, j, none⟩) (by simp)]
  simp [go_sem]

theorem hold3 {B : Nat} {w wx w' : World} {a b c : Int}
    (h : wx.cell? ⟨B, 0, none⟩ = some (.int .u64 a) ∧ wx.cell? ⟨B, 1, none⟩ = some (.int .u64 b) ∧ wx.cell? ⟨B, 2, none⟩ = some (.int .u64 c) ∧ B < wx.heap.size ∧ Below B w wx)
    (k : Below wx.heap.size wx w') :
    w'.cell? ⟨B, 0, none⟩ = some (.int .u64 a) ∧ w'.cell? ⟨B, 1, none⟩ = some (.int .u64 b) ∧ w'.cell? ⟨B, 2, none⟩ = some (.int .u64 c) ∧ B < w'.heap.size ∧ Below B w w' := by
  obtain ⟨h0, h1, h2, h3, h4⟩ := h
  exact ⟨(k.cell (p := ⟨B, 0, none⟩) h3).trans h0, (k.cell (p := ⟨B, 1, none⟩) h3).trans h1, (k.cell (p := ⟨B, 2, none⟩) h3).trans h2, Nat.lt_of_lt_of_le h3 k.size, h4.trans (k.mono (by omega))⟩

theorem held_bel {B : Nat} {w wx : World} {a b c : Int}
    (h : wx.cell? ⟨B, 0, none⟩ = some (.int .u64 a) ∧ wx.cell? ⟨B, 1, none⟩ = some (.int .u64 b) ∧ wx.cell? ⟨B, 2, none⟩ = some (.int .u64 c) ∧ B < wx.heap.size ∧ Below B w wx) : Below B w wx := h.2.2.2.2
theorem bel_of_eq {w w' : World} (h : w = w') : Below w.heap.size w w' := by subst h; exact Below.refl _ _
set_option maxHeartbeats 1000000 in
theorem HashTells_walk (v0 v1 : Value) (w : World) (h0 : sh3.Val w v0) (h1 : (Sh.int .i64).Val w v1) :
    Calls Try.prog 5 #[v0, v1] w fun e w' => e = .returned (.bool true) ∧ Below w.heap.size w w' := by
  obtain ⟨a, b, c, rfl, wa, wb, wc⟩ := val3 h0
  obtain ⟨n, rfl, wn⟩ := Sh.val_int h1
  obtain ⟨a0, a1⟩ := bounds_u64 wa
  obtain ⟨b0, b1⟩ := bounds_u64 wb
  obtain ⟨c0, c1⟩ := bounds_u64 wc
  obtain ⟨n0, n1⟩ := bounds_i64 wn
  clear h0 h1 wa wb wc wn
  by_cases hn : n < 1
  ·
    go_enter Try.func5, Try.ntmps5
    go_wp2_with fail
    refine (shown04 _).mono ?_; rintro e w1 ⟨rfl, hb'⟩
    have k0 := keep_cell hb' 0
    have k1 := keep_cell hb' 1
    have k2 := keep_cell hb' 2
    simp at k0 k1 k2
    have hz := hb'.size
    simp at hz
    have hb : Below w.heap.size w w1 := ((Below.refl _ _).alloc (Nat.le_refl _) _).trans (hb'.mono (by simp))
    clear hb'
    generalize hB : w.heap.size = B at *
    have HB := Lib.hid hB
    clear hB
    go_wp2_with fail
    go_region_held3 (fun w' => w'.cell? ⟨B, 0, none⟩ = some (.int .u64 a) ∧ w'.cell? ⟨B, 1, none⟩ = some (.int .u64 b) ∧ w'.cell? ⟨B, 2, none⟩ = some (.int .u64 c) ∧ B < w'.heap.size ∧ Below B w w') (first | exact ⟨k0, k1, k2, hz, hb.drew⟩ | assumption | exact hold3 (by assumption) (by assumption))
      (first
        | (go_at_call 15; refine (line_any _ _ _ a0 a1 b0 b1 c0 c1 _).mono ?_; rintro e w' ⟨rfl, hb'⟩)
        | (go_at_call 16; refine (rline_any _ _ _ a0 a1 b0 b1 c0 c1 _).mono ?_; rintro e w' ⟨rfl, rfl⟩)
        | (go_at_call 17; refine ((bucket_none _ _ _ _ hn _).mono fun e w' ⟨p, q⟩ => And.intro p (bel_of_eq q)).mono ?_; rintro e w' ⟨rfl, hb'⟩)
        | (go_at_call 18; refine (rbucket_none _ _ _ _ hn _).mono ?_; rintro e w' ⟨rfl, rfl⟩))
    go_wp2
    go_ret
    exact ⟨rfl, by rw [HB.out]; exact held_bel (by assumption)⟩
  · have hn' : 1 ≤ n := by omega
    go_enter Try.func5, Try.ntmps5
    go_wp2_with fail
    refine (shown04 _).mono ?_; rintro e w1 ⟨rfl, hb'⟩
    have k0 := keep_cell hb' 0
    have k1 := keep_cell hb' 1
    have k2 := keep_cell hb' 2
    simp at k0 k1 k2
    have hz := hb'.size
    simp at hz
    have hb : Below w.heap.size w w1 := ((Below.refl _ _).alloc (Nat.le_refl _) _).trans (hb'.mono (by simp))
    clear hb'
    generalize hB : w.heap.size = B at *
    have HB := Lib.hid hB
    clear hB
    go_wp2_with fail
    go_region_held3 (fun w' => w'.cell? ⟨B, 0, none⟩ = some (.int .u64 a) ∧ w'.cell? ⟨B, 1, none⟩ = some (.int .u64 b) ∧ w'.cell? ⟨B, 2, none⟩ = some (.int .u64 c) ∧ B < w'.heap.size ∧ Below B w w') (first | exact ⟨k0, k1, k2, hz, hb.drew⟩ | assumption | exact hold3 (by assumption) (by assumption))
      (first
        | (go_at_call 15; refine (line_any _ _ _ a0 a1 b0 b1 c0 c1 _).mono ?_; rintro e w' ⟨rfl, hb'⟩)
        | (go_at_call 16; refine (rline_any _ _ _ a0 a1 b0 b1 c0 c1 _).mono ?_; rintro e w' ⟨rfl, rfl⟩)
        | (go_at_call 17; refine (bucket_any _ _ _ _ a0 a1 b0 b1 c0 c1 hn' n1 _).mono ?_; rintro e w' ⟨rfl, hb'⟩)
        | (go_at_call 18; refine (rbucket_any _ _ _ _ a0 a1 b0 b1 c0 c1 hn' n1 _).mono ?_; rintro e w' ⟨rfl, rfl⟩))
    go_wp2
    go_ret
    exact ⟨rfl, by rw [HB.out]; exact held_bel (by assumption)⟩

theorem HashThrough_walk (v0 : Value) (w : World) (h0 : sh4.Val w v0) :
    Calls Try.prog 6 #[v0] w fun e w' => e = .returned (.bool true) ∧ Below w.heap.size w w' := by
  obtain ⟨x, u, y, v, rfl, wa, wb, wc, wd⟩ := val4 h0
  obtain ⟨a0, a1⟩ := bounds_u64 wa
  obtain ⟨b0, b1⟩ := bounds_u64 wb
  obtain ⟨c0, c1⟩ := bounds_u64 wc
  obtain ⟨d0, d1⟩ := bounds_u64 wd
  clear h0 wa wb wc wd
  by_cases hz : fsub y x = 0
  · have HZ := Lib.hid hz
    clear hz
    go_enter Try.func6, Try.ntmps6
    go_wp2_with fail
    refine (shown04 _).mono ?_; rintro e w1 ⟨rfl, hb'⟩
    have k0 := keep_cell hb' 0
    have k1 := keep_cell hb' 1
    have k2 := keep_cell hb' 2
    have k3 := keep_cell hb' 3
    simp at k0 k1 k2 k3
    have hb : Below w.heap.size w w1 := ((Below.refl _ _).alloc (Nat.le_refl _) _).trans (hb'.mono (by simp))
    clear hb'
    go_wp2_with fail
    refine (through_none _ _ _ _ a0 a1 c0 c1 HZ.out _).mono ?_; rintro e w' ⟨rfl, rfl⟩
    go_wp2_with fail
    refine (rthrough_none _ _ _ _ a0 a1 c0 c1 HZ.out _).mono ?_; rintro e w' ⟨rfl, rfl⟩
    go_wp2_with fail
    go_ret
    exact ⟨rfl, hb⟩
  · have HZ := Lib.hid hz
    clear hz
    go_enter Try.func6, Try.ntmps6
    go_wp2_with fail
    refine (shown04 _).mono ?_; rintro e w1 ⟨rfl, hb'⟩
    have k0 := keep_cell hb' 0
    have k1 := keep_cell hb' 1
    have k2 := keep_cell hb' 2
    have k3 := keep_cell hb' 3
    simp at k0 k1 k2 k3
    have hb : Below w.heap.size w w1 := ((Below.refl _ _).alloc (Nat.le_refl _) _).trans (hb'.mono (by simp))
    clear hb'
    go_wp2_with fail
    refine (through_any _ _ _ _ a0 a1 b0 b1 c0 c1 d0 d1 HZ.out _).mono ?_; rintro e w' ⟨rfl, rfl⟩
    go_wp2_with fail
    refine (rthrough_any _ _ _ _ a0 a1 b0 b1 c0 c1 d0 d1 HZ.out _).mono ?_; rintro e w' ⟨rfl, rfl⟩
    go_wp2_with fail
    go_ret
    exact ⟨rfl, hb⟩

theorem HashSteps_walk (v0 v1 v2 : Value) (w : World) (h0 : (Sh.int .u64).Val w v0) (h1 : (Sh.int .u64).Val w v1) (h2 : (Sh.int .u64).Val w v2) :
    Calls Try.prog 10 #[v0, v1, v2] w fun e w' => e = .returned (.bool true) ∧ Below w.heap.size w w' := by
  obtain ⟨a, rfl, wa⟩ := Sh.val_int h0
  obtain ⟨b, rfl, wb⟩ := Sh.val_int h1
  obtain ⟨x, rfl, wx⟩ := Sh.val_int h2
  obtain ⟨a0, a1⟩ := bounds_u64 wa
  obtain ⟨b0, b1⟩ := bounds_u64 wb
  obtain ⟨c0, c1⟩ := bounds_u64 wx
  clear h0 h1 h2 wa wb wx
  have hb := Below.refl w.heap.size w
  have m1 := fadd_bd x 1
  have m2 := lineI_bd a b x
  have e1 : (lineI a b (fadd x 1) == fadd (lineI a b x) a) = true := by simp [line_step]
  have e2 : (lineI a b 0 == ffold b) = true := by simp [line_at0]
  have e3 : (fsub (lineI a b x) b == fmul a x) = true := by simp [line_back]
  go_enter Try.func10, Try.ntmps10
  go_wp2_with (first
    | (go_at_call 14; refine (shown04 _).mono ?_; rintro e w' ⟨rfl, hb'⟩; replace hb := bel_trans' hb hb'; clear hb')
    | (go_at_call 15; refine (line_any _ _ _ (by omega) (by omega) (by omega) (by omega) (by omega) (by omega) _).mono ?_; rintro e w' ⟨rfl, hb'⟩; replace hb := bel_trans' hb hb'; clear hb')
    | (first
    | (go_at_call 21; refine (fold_any _ (by omega) (by omega) _).mono ?_; rintro e w' ⟨rfl, rfl⟩)
    | (go_at_call 31; refine (rfold_any _ (by omega) (by omega) _).mono ?_; rintro e w' ⟨rfl, rfl⟩)
    | (go_at_call 22; refine (add_any _ _ (by omega) (by omega) (by omega) (by omega) _).mono ?_; rintro e w' ⟨rfl, rfl⟩)
    | (go_at_call 28; refine (radd_any _ _ (by omega) (by omega) (by omega) (by omega) _).mono ?_; rintro e w' ⟨rfl, rfl⟩)
    | (go_at_call 23; refine (sub_any _ _ (by omega) (by omega) (by omega) (by omega) _).mono ?_; rintro e w' ⟨rfl, rfl⟩)
    | (go_at_call 32; refine (rsub_any _ _ (by omega) (by omega) (by omega) (by omega) _).mono ?_; rintro e w' ⟨rfl, rfl⟩)
    | (go_at_call 24; refine (mul_any _ _ (by omega) (by omega) (by omega) (by omega) _).mono ?_; rintro e w' ⟨rfl, rfl⟩)
    | (go_at_call 29; refine (rmul_any _ _ (by omega) (by omega) (by omega) (by omega) _).mono ?_; rintro e w' ⟨rfl, rfl⟩)
    | (go_at_call 38; refine (pow_any _ _ (by omega) (by omega) (by omega) (by omega) _).mono ?_; rintro e w' ⟨rfl, rfl⟩)
    | (go_at_call 30; refine (inv_any _ (by omega) (by omega) _).mono ?_; rintro e w' ⟨rfl, rfl⟩)
    | (go_at_call 33; refine (rinv_any _ (by omega) (by omega) _).mono ?_; rintro e w' ⟨rfl, rfl⟩)
  ))
  go_ret
  exact ⟨rfl, hb⟩
end Go.Proofs.Ytgcfopallncnlab
