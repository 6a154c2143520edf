/-
  The walks of gaugerref02's numbers of ten digits. Conditions: the arguments fit their kinds.
-/
import Derived.Test.YtcfmipgdhhogcaaLng
import Derived.Test.YtcfmipgdhhogcaaProg
import Derived.Outline
import Derived.WalkSmall
import Derived.OwnWalk
import Derived.Deep.QuietTactic
import Derived.BigQuiet
namespace Go.Proofs.Ytcfmipgdhhogcaa
open Go.RowKit
set_option linter.unusedVariables false
set_option linter.unusedSimpArgs false

theorem zeros_row {w : World} {b : Nat} {t : TypeId} (h : w.heap[b]? = some (.cells #[.int .i64 0, .int .i64 0, .int .i64 0, .int .i64 0, .int .i64 0, .int .i64 0, .int .i64 0, .int .i64 0, .int .i64 0, .int .i64 0] t)) : w.rowIs b t 10 (fun _ => .int .i64 0) :=
  ⟨_, h, rfl, fun i hi => by
    match i, hi with
    | 0, _ => rfl | 1, _ => rfl | 2, _ => rfl | 3, _ => rfl | 4, _ => rfl | 5, _ => rfl | 6, _ => rfl | 7, _ => rfl | 8, _ => rfl | 9, _ => rfl⟩
theorem long_info (n : Int) : (Try.prog.info? 77).map (·.size) = some (longA n).size := by rw [longA_size]; kernel_rfl
theorem longA_one (n : Int) : (longA n).all (·.oneCell') = true := by
  rw [Array.all_eq_true_iff_forall_mem]
  intro v hv
  simp [longA, intsV] at hv
  obtain ⟨a, _, rfl⟩ := hv
  rfl
theorem below_setRow {B : Nat} {a w : World} (h : Below B a w) {g : Nat} (hg : B ≤ g) (cs : Array Value) : Below B a (w.setRow g cs) :=
  h.trans ⟨rfl, rfl, rfl, by simp, fun k hk => setRow_other w g k cs (by omega)⟩
theorem Blk.of_digits {w : World} {b : Nat} {t : TypeId} {f : Nat → Value} (x : Int) (h : w.rowIs b t 10 f) (e : ∀ i, i < 10 → f i = .int .i64 (digit x i)) : Blk w b t (longA x) := by
  rw [← longA_size x] at h
  exact Blk.of_row h (fun i hi => by rw [longA_size] at hi; rw [longA_get x i hi, e i hi])

set_option maxRecDepth 100000 in
set_option maxHeartbeats 2000000 in
theorem ofint_any (n : Int) (n0 : -9223372036854775808 ≤ n) (n1 : n ≤ 9223372036854775807) (w : World) :
    Calls Try.prog 43 #[.int .i64 n] w fun e w' => e = .returned (.agg (longA n)) ∧ Below w.heap.size w w' := by
  have HN0 := Lib.hid n0
  have HN1 := Lib.hid n1
  clear n0 n1
  go_enter Try.func43, Try.ntmps43
  go_wp2
  obtain ⟨g1, g2, hbel, hsz⟩ := news2 w (.cells #[.int .i64 0, .int .i64 0, .int .i64 0, .int .i64 0, .int .i64 0, .int .i64 0, .int .i64 0, .int .i64 0, .int .i64 0, .int .i64 0] 77) (.cells #[.int .i64 0, .int .i64 0, .int .i64 0, .int .i64 0, .int .i64 0, .int .i64 0, .int .i64 0, .int .i64 0, .int .i64 0, .int .i64 0] 77)
  have hrow := RowUpTo.zeros (zeros_row g2) (digit n)
  generalize ((w.alloc (.cells #[.int .i64 0, .int .i64 0, .int .i64 0, .int .i64 0, .int .i64 0, .int .i64 0, .int .i64 0, .int .i64 0, .int .i64 0, .int .i64 0] 77)).alloc (.cells #[.int .i64 0, .int .i64 0, .int .i64 0, .int .i64 0, .int .i64 0, .int .i64 0, .int .i64 0, .int .i64 0, .int .i64 0, .int .i64 0] 77)) = wz at *
  generalize hA : w.heap.size = A at *
  have HA := Lib.hid hA
  have HG := Lib.hid g1
  have HR := Lib.hid hrow
  have HB := Lib.hid hbel
  clear hA g1 g2 hrow hbel
  go_loopw [4] (fun i wr => ∃ j : Nat, j ≤ 10 ∧ i = .int .i64 (j : Int) ∧ RowUpTo wr (A + 1) 77 10 (digit n) j ∧ wr.heap[A]? = some (.cells #[.int .i64 0, .int .i64 0, .int .i64 0, .int .i64 0, .int .i64 0, .int .i64 0, .int .i64 0, .int .i64 0, .int .i64 0, .int .i64 0] 77) ∧ Below A w wr) (fun i _ => 10 - (intOf i).toNat)
  case atStart => exact ⟨0, by omega, rfl, HR.out, HG.out, HB.out⟩
  case round =>
    obtain ⟨j, hj, rfl, hrow, hg, hbel⟩ := hrel
    clear HR HG HB
    have HR := Lib.hid hrow
    have HG := Lib.hid hg
    have HB := Lib.hid hbel
    clear hrow hg hbel
    by_cases hlt : j < 10
    · obtain ⟨v0, hc⟩ := HR.out.cell hlt
      have hf := HR.out.frozen j
      have hG1 : A ≠ A + 1 := by omega
      by_cases h4 : j < 4
      · have hjj : j = 0 ∨ j = 1 ∨ j = 2 ∨ j = 3 := by omega
        rcases hjj with rfl | rfl | rfl | rfl
        · have hv := Lib.hid (ofd0 n)
          by_cases hn : n < 0
          · go_wp2
            go_roundw
            case rel => exact ⟨0 + 1, by omega, rfl, ((HR.out.any _).any _).put hv.out, Blk.far (Blk.far (Blk.far HG.out hG1 _) hG1 _) hG1 _, ((HB.out.setCell (by simp) _).setCell (by simp) _).setCell (by simp) _⟩
            case measure => simp [intOf]
          · go_wp2
            go_roundw
            case rel => exact ⟨0 + 1, by omega, rfl, (HR.out.any _).put hv.out, Blk.far (Blk.far HG.out hG1 _) hG1 _, (HB.out.setCell (by simp) _).setCell (by simp) _⟩
            case measure => simp [intOf]
        · have hv := Lib.hid (ofd1 n)
          by_cases hn : n < 0
          · go_wp2
            go_roundw
            case rel => exact ⟨1 + 1, by omega, rfl, ((HR.out.any _).any _).put hv.out, Blk.far (Blk.far (Blk.far HG.out hG1 _) hG1 _) hG1 _, ((HB.out.setCell (by simp) _).setCell (by simp) _).setCell (by simp) _⟩
            case measure => simp [intOf]
          · go_wp2
            go_roundw
            case rel => exact ⟨1 + 1, by omega, rfl, (HR.out.any _).put hv.out, Blk.far (Blk.far HG.out hG1 _) hG1 _, (HB.out.setCell (by simp) _).setCell (by simp) _⟩
            case measure => simp [intOf]
        · have hv := Lib.hid (ofd2 n)
          by_cases hn : n < 0
          · go_wp2
            go_roundw
            case rel => exact ⟨2 + 1, by omega, rfl, ((HR.out.any _).any _).put hv.out, Blk.far (Blk.far (Blk.far HG.out hG1 _) hG1 _) hG1 _, ((HB.out.setCell (by simp) _).setCell (by simp) _).setCell (by simp) _⟩
            case measure => simp [intOf]
          · go_wp2
            go_roundw
            case rel => exact ⟨2 + 1, by omega, rfl, (HR.out.any _).put hv.out, Blk.far (Blk.far HG.out hG1 _) hG1 _, (HB.out.setCell (by simp) _).setCell (by simp) _⟩
            case measure => simp [intOf]
        · have hv := Lib.hid (ofd3 n)
          by_cases hn : n < 0
          · go_wp2
            go_roundw
            case rel => exact ⟨3 + 1, by omega, rfl, ((HR.out.any _).any _).put hv.out, Blk.far (Blk.far (Blk.far HG.out hG1 _) hG1 _) hG1 _, ((HB.out.setCell (by simp) _).setCell (by simp) _).setCell (by simp) _⟩
            case measure => simp [intOf]
          · go_wp2
            go_roundw
            case rel => exact ⟨3 + 1, by omega, rfl, (HR.out.any _).put hv.out, Blk.far (Blk.far HG.out hG1 _) hG1 _, (HB.out.setCell (by simp) _).setCell (by simp) _⟩
            case measure => simp [intOf]
      · have hdj := digit_hi n HN0.out HN1.out j (by omega)
        by_cases hn : n < 0
        · rw [if_pos hn] at hdj
          have HD : Hid (65535 = digit n j) := hdj.symm
          clear hdj
          go_wp2
          go_roundw
          case rel =>
            exact ⟨j + 1, by omega, by go_num, (HR.out.any _).put HD.out, Blk.far (Blk.far HG.out hG1 _) hG1 _, (HB.out.setCell (by simp) _).setCell (by simp) _⟩
          case measure => simp [intOf]; omega
        · rw [if_neg hn] at hdj
          have HD : Hid (0 = digit n j) := hdj.symm
          clear hdj
          go_wp2
          go_roundw
          case rel =>
            exact ⟨j + 1, by omega, by go_num, HR.out.put HD.out, Blk.far HG.out hG1 _, HB.out.setCell (by simp) _⟩
          case measure => simp [intOf]; omega
    · obtain rfl : j = 10 := by omega
      have hblk := Blk.of_digits n HR.out.full (fun i _ => rfl)
      have HR9 := Lib.hid hblk
      clear hblk
      have HIn := long_info n
      go_wp2_with (first | refine wpList_load_row rfl 77 _ rfl (A + 1) rfl 77 (longA n) (0, 0) _ HR9.out Try.underlying77 rfl HIn ?_ | refine wpList_store_row rfl 77 _ _ rfl A (longA n) rfl rfl 77 _ HG.out HIn (by rw [longA_size]; rfl) (longA_one n) ?_)
      have HZ : (wr.setRow A (longA n)).heap[A]? = some (.cells (longA n) 77 (0, 0)) := setRow_heap wr A _ _ _ _ HG.out
      have HB9 : Below A w (wr.setRow A (longA n)) := below_setRow HB.out (Nat.le_refl _) _
      generalize wr.setRow A (longA n) = w9 at *
      exact bodyPost_ret (results_cell_row rfl _ _ A 77 (longA n) (0, 0) _ rfl HZ Try.underlying77 rfl HIn) rfl ⟨rfl, by rw [HA.out]; exact HB9⟩

theorem wrapI_of (x : Int) (h0 : -9223372036854775808 ≤ x) (h1 : x ≤ 9223372036854775807) : IntKind.i64.wrap x = x := by
  simp [IntKind.wrap, IntKind.bits, IntKind.signed]; split <;> omega
set_option maxRecDepth 100000 in
set_option maxHeartbeats 2000000 in
theorem lplus_any (x y : Int) (w : World) :
    Calls Try.prog 46 #[.agg (longA x), .agg (longA y)] w fun e w' => e = .returned (.agg (longA (x + y))) ∧ Below w.heap.size w w' := by
  go_enter Try.func46, Try.ntmps46
  go_wp2
  obtain ⟨g1, g2, g3, g4, hbel, hsz⟩ := news4 w (.cells (longA x) 77) (.cells (longA y) 77) (.cells #[.int .i64 0, .int .i64 0, .int .i64 0, .int .i64 0, .int .i64 0, .int .i64 0, .int .i64 0, .int .i64 0, .int .i64 0, .int .i64 0] 77) (.cells #[.int .i64 0, .int .i64 0, .int .i64 0, .int .i64 0, .int .i64 0, .int .i64 0, .int .i64 0, .int .i64 0, .int .i64 0, .int .i64 0] 77)
  have hrow := RowUpTo.zeros (zeros_row g4) (digit (x + y))
  have h1 : Blk _ w.heap.size 77 (longA x) := g1
  have h2 : Blk _ (w.heap.size + 1) 77 (longA y) := g2
  clear g1 g2 g4
  generalize ((((w.alloc (.cells (longA x) 77)).alloc (.cells (longA y) 77)).alloc (.cells #[.int .i64 0, .int .i64 0, .int .i64 0, .int .i64 0, .int .i64 0, .int .i64 0, .int .i64 0, .int .i64 0, .int .i64 0, .int .i64 0] 77)).alloc (.cells #[.int .i64 0, .int .i64 0, .int .i64 0, .int .i64 0, .int .i64 0, .int .i64 0, .int .i64 0, .int .i64 0, .int .i64 0, .int .i64 0] 77)) = wz at *
  generalize hA : w.heap.size = A at *
  have HA := Lib.hid hA
  have HG := Lib.hid g3
  have HX := Lib.hid h1
  have HY := Lib.hid h2
  have HR := Lib.hid hrow
  have HB := Lib.hid hbel
  clear hA h1 h2 g3 hrow hbel
  go_loopw [6, 7] (fun c i wr => ∃ j : Nat, j ≤ 10 ∧ i = .int .i64 (j : Int) ∧ c = .int .i64 (carryI x y j) ∧ RowUpTo wr (A + 1 + 1 + 1) 77 10 (digit (x + y)) j ∧ Blk wr A 77 (longA x) ∧ Blk wr (A + 1) 77 (longA y) ∧
    wr.heap[A + 1 + 1]? = some (.cells #[.int .i64 0, .int .i64 0, .int .i64 0, .int .i64 0, .int .i64 0, .int .i64 0, .int .i64 0, .int .i64 0, .int .i64 0, .int .i64 0] 77) ∧ Below A w wr) (fun _ i _ => 10 - (intOf i).toNat)
  case atStart => exact ⟨0, by omega, rfl, by rw [carryI_zero], HR.out, HX.out, HY.out, HG.out, HB.out⟩
  case round =>
    obtain ⟨j, hj, rfl, rfl, hrow, hx, hy, hg, hbel⟩ := hrel
    clear HR HG HB HX HY
    have HR := Lib.hid hrow
    have HG := Lib.hid hg
    have HB := Lib.hid hbel
    have HX := Lib.hid hx
    have HY := Lib.hid hy
    clear hrow hg hbel hx hy
    by_cases hlt : j < 10
    · obtain ⟨v0, hc⟩ := HR.out.cell hlt
      have hf := HR.out.frozen j
      have cx := (HX.out.cell j).trans (longA_get x j hlt)
      have cy := (HY.out.cell j).trans (longA_get y j hlt)
      have bx := digit_bd x j
      have bY := digit_bd y j
      have bc := carryI_bd x y j
      have HD := Lib.hid (digit_add x y j)
      have HC := Lib.hid (carryI_succ x y j)
      generalize digit x j = dx at *
      generalize digit y j = dy at *
      generalize carryI x y j = cc at *
      have e1 : IntKind.i64.wrap (dx + dy) = dx + dy := wrapI_of _ (by omega) (by omega)
      have e2 : IntKind.i64.wrap (dx + dy + cc) = dx + dy + cc := wrapI_of _ (by omega) (by omega)
      have i0 : (0 : Int) ≤ (j : Int) := by omega
      have i1 : (j : Int) < 10 := by omega
      go_wp2_with fail
      go_quiet (fail)
      clear e1 e2
      go_wp2
      go_roundw
      case rel => exact ⟨j + 1, by omega, by go_num, by rw [HC.out], ((HR.out.drewN nq).put HD.out.symm), Blk.far (HX.out.drewN nq) (by simp; omega) _, Blk.far (HY.out.drewN nq) (by simp) _, Blk.far (Blk.drewN HG.out nq) (by simp) _, (below_drewN HB.out nq).setCell (by simp; omega) _⟩
      case measure => simp [intOf]; omega
    · obtain rfl : j = 10 := by omega
      have HR9 := Lib.hid (Blk.of_digits (x + y) HR.out.full (fun i _ => rfl))
      have HIn := long_info (x + y)
      go_wp2_with (first | refine wpList_load_row rfl 77 _ rfl (A + 1 + 1 + 1) rfl 77 (longA (x + y)) (0, 0) _ HR9.out Try.underlying77 rfl HIn ?_ | refine wpList_store_row rfl 77 _ _ rfl (A + 1 + 1) (longA (x + y)) rfl rfl 77 _ HG.out HIn (by rw [longA_size]; rfl) (longA_one _) ?_)
      have HZ : (wr.setRow (A + 1 + 1) (longA (x + y))).heap[A + 1 + 1]? = some (.cells (longA (x + y)) 77 (0, 0)) := setRow_heap wr _ _ _ _ _ HG.out
      have HB9 : Below A w (wr.setRow (A + 1 + 1) (longA (x + y))) := below_setRow HB.out (by omega) _
      generalize wr.setRow (A + 1 + 1) (longA (x + y)) = w9 at *
      exact bodyPost_ret (results_cell_row rfl _ _ (A + 1 + 1) 77 (longA (x + y)) (0, 0) _ rfl HZ Try.underlying77 rfl HIn) rfl ⟨rfl, by rw [HA.out]; exact HB9⟩

theorem longA_1 : longA 1 = #[.int .i64 1, .int .i64 0, .int .i64 0, .int .i64 0, .int .i64 0, .int .i64 0, .int .i64 0, .int .i64 0, .int .i64 0, .int .i64 0] := by kernel_rfl
set_option maxRecDepth 100000 in
set_option maxHeartbeats 2000000 in
theorem lminus_any (x : Int) (w : World) :
    Calls Try.prog 44 #[.agg (longA x)] w fun e w' => e = .returned (.agg (longA (-x))) ∧ Below w.heap.size w w' := by
  have hpl := fun w => lplus_any (-1 - x) 1 w
  rw [show -1 - x + 1 = -x by omega] at hpl
  generalize hD : -1 - x = D at *
  generalize -x = E at *
  go_enter Try.func44, Try.ntmps44
  go_wp2_with fail
  obtain ⟨g1, g3, g4, hbel, hsz⟩ := news3 w (.cells (longA x) 77) (.cells #[.int .i64 0, .int .i64 0, .int .i64 0, .int .i64 0, .int .i64 0, .int .i64 0, .int .i64 0, .int .i64 0, .int .i64 0, .int .i64 0] 77) (.cells #[.int .i64 0, .int .i64 0, .int .i64 0, .int .i64 0, .int .i64 0, .int .i64 0, .int .i64 0, .int .i64 0, .int .i64 0, .int .i64 0] 77)
  have hrow := RowUpTo.zeros (zeros_row g4) (digit D)
  have h1 : Blk _ w.heap.size 77 (longA x) := g1
  clear g1 g4
  generalize ((((w.alloc (.cells (longA x) 77)).alloc (.cells #[.int .i64 0, .int .i64 0, .int .i64 0, .int .i64 0, .int .i64 0, .int .i64 0, .int .i64 0, .int .i64 0, .int .i64 0, .int .i64 0] 77))).alloc (.cells #[.int .i64 0, .int .i64 0, .int .i64 0, .int .i64 0, .int .i64 0, .int .i64 0, .int .i64 0, .int .i64 0, .int .i64 0, .int .i64 0] 77)) = wz at *
  generalize hA : w.heap.size = A at *
  have HA := Lib.hid hA
  have HG := Lib.hid g3
  have HX := Lib.hid h1
  have HR := Lib.hid hrow
  have HB := Lib.hid hbel
  have HDD := Lib.hid hD
  have HPL := Lib.hid hpl
  clear hA h1 g3 hrow hbel hD hpl
  go_loopw [4] (fun i wr => ∃ j : Nat, j ≤ 10 ∧ i = .int .i64 (j : Int) ∧ RowUpTo wr (A + 1 + 1) 77 10 (digit D) j ∧ Blk wr A 77 (longA x) ∧
    wr.heap[A + 1]? = some (.cells #[.int .i64 0, .int .i64 0, .int .i64 0, .int .i64 0, .int .i64 0, .int .i64 0, .int .i64 0, .int .i64 0, .int .i64 0, .int .i64 0] 77) ∧ Below A w wr) (fun i _ => 10 - (intOf i).toNat)
  case atStart => exact ⟨0, by omega, rfl, HR.out, HX.out, HG.out, HB.out⟩
  case round =>
    obtain ⟨j, hj, rfl, hrow, hx, hg, hbel⟩ := hrel
    clear HR HG HB HX
    have HR := Lib.hid hrow
    have HG := Lib.hid hg
    have HB := Lib.hid hbel
    have HX := Lib.hid hx
    clear hrow hg hbel hx
    by_cases hlt : j < 10
    · obtain ⟨v0, hc⟩ := HR.out.cell hlt
      have hf := HR.out.frozen j
      have cx := (HX.out.cell j).trans (longA_get x j hlt)
      have bx := digit_bd x j
      have HDJ : Hid (65535 - digit x j = digit D j) := by rw [← HDD.out]; exact (digit_not x j).symm
      generalize digit x j = dx at *
      go_wp2
      go_roundw
      case rel => exact ⟨j + 1, by omega, by go_num, HR.out.put HDJ.out, Blk.far HX.out (by simp; omega) _, Blk.far HG.out (by simp) _, HB.out.setCell (by simp; omega) _⟩
      case measure => simp [intOf]; omega
    · obtain rfl : j = 10 := by omega
      have HR9 := Lib.hid (Blk.of_digits D HR.out.full (fun i _ => rfl))
      have HI1 := long_info D
      have HI2 := long_info 1
      have HI3 := long_info E
      have HN := news1 wr (.cells #[.int .i64 1, .int .i64 0, .int .i64 0, .int .i64 0, .int .i64 0, .int .i64 0, .int .i64 0, .int .i64 0, .int .i64 0, .int .i64 0] 77)
      rw [← longA_1] at HN
      have HH1 := Lib.hid (HR9.out.alloc (.cells (longA 1) 77))
      have HH2 := Lib.hid HN.1
      have HH3 := Lib.hid (Blk.alloc HG.out (.cells (longA 1) 77))
      have HH4 : Hid (Below A w (wr.alloc (.cells (longA 1) 77))) := Lib.hid (HB.out.alloc (by have := HX.out.lt; omega) _)
      have HH5 := HR.out.lt
      clear HN
      go_wp2_with (first
        | refine wpList_load_row rfl 77 _ rfl (A + 1 + 1) rfl 77 (longA D) (0, 0) _ HH1.out Try.underlying77 rfl HI1 ?_
        | refine wpList_load_row rfl 77 _ rfl wr.heap.size rfl 77 (longA 1) (0, 0) _ HH2.out Try.underlying77 rfl HI2 ?_
        | (go_at_call 46; refine (HPL.out _).mono ?_; rintro e w2 ⟨rfl, hb2⟩; have HH6 := Lib.hid (HH3.out.kept hb2); have HH7 : Hid (Below A w w2) := Lib.hid (HH4.out.trans (hb2.mono (by simp; omega))); clear hb2)
        | refine wpList_store_row rfl 77 _ _ rfl (A + 1) (longA E) rfl rfl 77 _ HH6.out HI3 (by rw [longA_size]; rfl) (longA_one _) ?_)
      have HZ : (w2.setRow (A + 1) (longA E)).heap[A + 1]? = some (.cells (longA E) 77 (0, 0)) := setRow_heap w2 _ _ _ _ _ HH6.out
      have HB9 : Below A w (w2.setRow (A + 1) (longA E)) := below_setRow HH7.out (by omega) _
      generalize w2.setRow (A + 1) (longA E) = w9 at *
      exact bodyPost_ret (results_cell_row rfl _ _ (A + 1) 77 (longA E) (0, 0) _ rfl HZ Try.underlying77 rfl HI3) rfl ⟨rfl, by rw [HA.out]; exact HB9⟩
end Go.Proofs.Ytcfmipgdhhogcaa
