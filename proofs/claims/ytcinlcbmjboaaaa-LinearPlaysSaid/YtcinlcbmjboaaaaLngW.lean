/-
  The walks of gaugerref02's numbers of ten digits. Conditions: the arguments fit their kinds.
-/
import Derived.Test.YtcinlcbmjboaaaaLng
import Derived.Test.YtcinlcbmjboaaaaProg
import Derived.Outline
import Derived.WalkSmall
import Derived.OwnWalk
import Derived.Deep.QuietTactic
import Derived.BigQuiet
namespace Go.Proofs.Ytcinlcbmjboaaaa
open Go.RowKit
set_option linter.unusedVariables false
set_option linter.unusedSimpArgs false

theorem zeros_row {w : World} {b : Nat} {t : TypeId} (h : w.heap[b]? = some (.cells #[.int .i64 0, .int .i64 0, .int .i64 0, .int .i64 0, .int .i64 0, .int .i64 0, .int .i64 0, .int .i64 0, .int .i64 0, .int .i64 0] t)) : w.rowIs b t 10 (fun _ => .int .i64 0) :=
  ⟨_, h, rfl, fun i hi => by
    match i, hi with
    | 0, _ => rfl | 1, _ => rfl | 2, _ => rfl | 3, _ => rfl | 4, _ => rfl | 5, _ => rfl | 6, _ => rfl | 7, _ => rfl | 8, _ => rfl | 9, _ => rfl⟩
theorem long_info (n : Int) : (Try.prog.info? 97).map (·.size) = some (longA n).size := by rw [longA_size]; kernel_rfl
theorem longA_one (n : Int) : (longA n).all (·.oneCell') = true := by
  rw [Array.all_eq_true_iff_forall_mem]
  intro v hv
  simp [longA, intsV] at hv
  obtain ⟨a, _, rfl⟩ := hv
  rfl
theorem below_setRow {B : Nat} {a w : World} (h : Below B a w) {g : Nat} (hg : B ≤ g) (cs : Array Value) : Below B a (w.setRow g cs) :=
  h.trans ⟨rfl, rfl, rfl, by simp, fun k hk => setRow_other w g k cs (by omega)⟩
theorem Blk.of_digits {w : World} {b : Nat} {t : TypeId} {f : Nat → Value} (x : Int) (h : w.rowIs b t 10 f) (e : ∀ i, i < 10 → f i = .int .i64 (digit x i)) : Blk w b t (longA x) := by
  rw [← longA_size x] at h
  exact Blk.of_row h (fun i hi => by rw [longA_size] at hi; rw [longA_get x i hi, e i hi])

set_option maxRecDepth 100000 in
set_option maxHeartbeats 2000000 in
theorem ofint_any (n : Int) (n0 : -9223372036854775808 ≤ n) (n1 : n ≤ 9223372036854775807) (w : World) :
    Calls Try.prog 63 #[.int .i64 n] w fun e w' => e = .returned (.agg (longA n)) ∧ Below w.heap.size w w' := by
  have HN0 := Lib.hid n0
  have HN1 := Lib.hid n1
  clear n0 n1
  go_enter Try.func63, Try.ntmps63
  go_wp2
  obtain ⟨g1, g2, hbel, hsz⟩ := news2 w (.cells #[.int .i64 0, .int .i64 0, .int .i64 0, .int .i64 0, .int .i64 0, .int .i64 0, .int .i64 0, .int .i64 0, .int .i64 0, .int .i64 0] 97) (.cells #[.int .i64 0, .int .i64 0, .int .i64 0, .int .i64 0, .int .i64 0, .int .i64 0, .int .i64 0, .int .i64 0, .int .i64 0, .int .i64 0] 97)
  have hrow := RowUpTo.zeros (zeros_row g2) (digit n)
  generalize ((w.alloc (.cells #[.int .i64 0, .int .i64 0, .int .i64 0, .int .i64 0, .int .i64 0, .int .i64 0, .int .i64 0, .int .i64 0, .int .i64 0, .int .i64 0] 97)).alloc (.cells #[.int .i64 0, .int .i64 0, .int .i64 0, .int .i64 0, .int .i64 0, .int .i64 0, .int .i64 0, .int .i64 0, .int .i64 0, .int .i64 0] 97)) = wz at *
  generalize hA : w.heap.size = A at *
  have HA := Lib.hid hA
  have HG := Lib.hid g1
  have HR := Lib.hid hrow
  have HB := Lib.hid hbel
  clear hA g1 g2 hrow hbel
  go_loopw [4] (fun i wr => ∃ j : Nat, j ≤ 10 ∧ i = .int .i64 (j : Int) ∧ RowUpTo wr (A + 1) 97 10 (digit n) j ∧ wr.heap[A]? = some (.cells #[.int .i64 0, .int .i64 0, .int .i64 0, .int .i64 0, .int .i64 0, .int .i64 0, .int .i64 0, .int .i64 0, .int .i64 0, .int .i64 0] 97) ∧ Below A w wr) (fun i _ => 10 - (intOf i).toNat)
  case atStart => exact ⟨0, by omega, rfl, HR.out, HG.out, HB.out⟩
  case round =>
    obtain ⟨j, hj, rfl, hrow, hg, hbel⟩ := hrel
    clear HR HG HB
    have HR := Lib.hid hrow
    have HG := Lib.hid hg
    have HB := Lib.hid hbel
    clear hrow hg hbel
    by_cases hlt : j < 10
    · obtain ⟨v0, hc⟩ := HR.out.cell hlt
      have hf := HR.out.frozen j
      have hG1 : A ≠ A + 1 := by omega
      by_cases h4 : j < 4
      · have hjj : j = 0 ∨ j = 1 ∨ j = 2 ∨ j = 3 := by omega
        rcases hjj with rfl | rfl | rfl | rfl
        · have hv := Lib.hid (ofd0 n)
          by_cases hn : n < 0
          · go_wp2
            go_roundw
            case rel => exact ⟨0 + 1, by omega, rfl, ((HR.out.any _).any _).put hv.out, Blk.far (Blk.far (Blk.far HG.out hG1 _) hG1 _) hG1 _, ((HB.out.setCell (by simp) _).setCell (by simp) _).setCell (by simp) _⟩
            case measure => simp [intOf]
          · go_wp2
            go_roundw
            case rel => exact ⟨0 + 1, by omega, rfl, (HR.out.any _).put hv.out, Blk.far (Blk.far HG.out hG1 _) hG1 _, (HB.out.setCell (by simp) _).setCell (by simp) _⟩
            case measure => simp [intOf]
        · have hv := Lib.hid (ofd1 n)
          by_cases hn : n < 0
          · go_wp2
            go_roundw
            case rel => exact ⟨1 + 1, by omega, rfl, ((HR.out.any _).any _).put hv.out, Blk.far (Blk.far (Blk.far HG.out hG1 _) hG1 _) hG1 _, ((HB.out.setCell (by simp) _).setCell (by simp) _).setCell (by simp) _⟩
            case measure => simp [intOf]
          · go_wp2
            go_roundw
            case rel => exact ⟨1 + 1, by omega, rfl, (HR.out.any _).put hv.out, Blk.far (Blk.far HG.out hG1 _) hG1 _, (HB.out.setCell (by simp) _).setCell (by simp) _⟩
            case measure => simp [intOf]
        · have hv := Lib.hid (ofd2 n)
          by_cases hn : n < 0
          · go_wp2
            go_roundw
            case rel => exact ⟨2 + 1, by omega, rfl, ((HR.out.any _).any _).put hv.out, Blk.far (Blk.far (Blk.far HG.out hG1 _) hG1 _) hG1 _, ((HB.out.setCell (by simp) _).setCell (by simp) _).setCell (by simp) _⟩
            case measure => simp [intOf]
          · go_wp2
            go_roundw
            case rel => exact ⟨2 + 1, by omega, rfl, (HR.out.any _).put hv.out, Blk.far (Blk.far HG.out hG1 _) hG1 _, (HB.out.setCell (by simp) _).setCell (by simp) _⟩
            case measure => simp [intOf]
        · have hv := Lib.hid (ofd3 n)
          by_cases hn : n < 0
          · go_wp2
            go_roundw
            case rel => exact ⟨3 + 1, by omega, rfl, ((HR.out.any _).any _).put hv.out, Blk.far (Blk.far (Blk.far HG.out hG1 _) hG1 _) hG1 _, ((HB.out.setCell (by simp) _).setCell (by simp) _).setCell (by simp) _⟩
            case measure => simp [intOf]
          · go_wp2
            go_roundw
            case rel => exact ⟨3 + 1, by omega, rfl, (HR.out.any _).put hv.out, Blk.far (Blk.far HG.out hG1 _) hG1 _, (HB.out.setCell (by simp) _).setCell (by simp) _⟩
            case measure => simp [intOf]
      · have hdj := digit_hi n HN0.out HN1.out j (by omega)
        by_cases hn : n < 0
        · rw [if_pos hn] at hdj
          have HD : Hid (65535 = digit n j) := hdj.symm
          clear hdj
          go_wp2
          go_roundw
          case rel =>
            exact ⟨j + 1, by omega, by go_num, (HR.out.any _).put HD.out, Blk.far (Blk.far HG.out hG1 _) hG1 _, (HB.out.setCell (by simp) _).setCell (by simp) _⟩
          case measure => simp [intOf]; omega
        · rw [if_neg hn] at hdj
          have HD : Hid (0 = digit n j) := hdj.symm
          clear hdj
          go_wp2
          go_roundw
          case rel =>
            exact ⟨j + 1, by omega, by go_num, HR.out.put HD.out, Blk.far HG.out hG1 _, HB.out.setCell (by simp) _⟩
          case measure => simp [intOf]; omega
    · obtain rfl : j = 10 := by omega
      have hblk := Blk.of_digits n HR.out.full (fun i _ => rfl)
      have HR9 := Lib.hid hblk
      clear hblk
      have HIn := long_info n
      go_wp2_with (first | refine wpList_load_row rfl 97 _ rfl (A + 1) rfl 97 (longA n) (0, 0) _ HR9.out Try.underlying97 rfl HIn ?_ | refine wpList_store_row rfl 97 _ _ rfl A (longA n) rfl rfl 97 _ HG.out HIn (by rw [longA_size]; rfl) (longA_one n) ?_)
      have HZ : (wr.setRow A (longA n)).heap[A]? = some (.cells (longA n) 97 (0, 0)) := setRow_heap wr A _ _ _ _ HG.out
      have HB9 : Below A w (wr.setRow A (longA n)) := below_setRow HB.out (Nat.le_refl _) _
      generalize wr.setRow A (longA n) = w9 at *
      exact bodyPost_ret (results_cell_row rfl _ _ A 97 (longA n) (0, 0) _ rfl HZ Try.underlying97 rfl HIn) rfl ⟨rfl, by rw [HA.out]; exact HB9⟩

theorem wrapI_of (x : Int) (h0 : -9223372036854775808 ≤ x) (h1 : x ≤ 9223372036854775807) : IntKind.i64.wrap x = x := by
  simp [IntKind.wrap, IntKind.bits, IntKind.signed]; split <;> omega
set_option maxRecDepth 100000 in
set_option maxHeartbeats 2000000 in
theorem lplus_any (x y : Int) (w : World) :
    Calls Try.prog 62 #[.agg (longA x), .agg (longA y)] w fun e w' => e = .returned (.agg (longA (x + y))) ∧ Below w.heap.size w w' := by
  go_enter Try.func62, Try.ntmps62
  go_wp2
  obtain ⟨g1, g2, g3, g4, hbel, hsz⟩ := news4 w (.cells (longA x) 97) (.cells (longA y) 97) (.cells #[.int .i64 0, .int .i64 0, .int .i64 0, .int .i64 0, .int .i64 0, .int .i64 0, .int .i64 0, .int .i64 0, .int .i64 0, .int .i64 0] 97) (.cells #[.int .i64 0, .int .i64 0, .int .i64 0, .int .i64 0, .int .i64 0, .int .i64 0, .int .i64 0, .int .i64 0, .int .i64 0, .int .i64 0] 97)
  have hrow := RowUpTo.zeros (zeros_row g4) (digit (x + y))
  have h1 : Blk _ w.heap.size 97 (longA x) := g1
  have h2 : Blk _ (w.heap.size + 1) 97 (longA y) := g2
  clear g1 g2 g4
  generalize ((((w.alloc (.cells (longA x) 97)).alloc (.cells (longA y) 97)).alloc (.cells #[.int .i64 0, .int .i64 0, .int .i64 0, .int .i64 0, .int .i64 0, .int .i64 0, .int .i64 0, .int .i64 0, .int .i64 0, .int .i64 0] 97)).alloc (.cells #[.int .i64 0, .int .i64 0, .int .i64 0, .int .i64 0, .int .i64 0, .int .i64 0, .int .i64 0, .int .i64 0, .int .i64 0, .int .i64 0] 97)) = wz at *
  generalize hA : w.heap.size = A at *
  have HA := Lib.hid hA
  have HG := Lib.hid g3
  have HX := Lib.hid h1
  have HY := Lib.hid h2
  have HR := Lib.hid hrow
  have HB := Lib.hid hbel
  clear hA h1 h2 g3 hrow hbel
  go_loopw [6, 7] (fun c i wr => ∃ j : Nat, j ≤ 10 ∧ i = .int .i64 (j : Int) ∧ c = .int .i64 (carryI x y j) ∧ RowUpTo wr (A + 1 + 1 + 1) 97 10 (digit (x + y)) j ∧ Blk wr A 97 (longA x) ∧ Blk wr (A + 1) 97 (longA y) ∧
    wr.heap[A + 1 + 1]? = some (.cells #[.int .i64 0, .int .i64 0, .int .i64 0, .int .i64 0, .int .i64 0, .int .i64 0, .int .i64 0, .int .i64 0, .int .i64 0, .int .i64 0] 97) ∧ Below A w wr) (fun _ i _ => 10 - (intOf i).toNat)
  case atStart => exact ⟨0, by omega, rfl, by rw [carryI_zero], HR.out, HX.out, HY.out, HG.out, HB.out⟩
  case round =>
    obtain ⟨j, hj, rfl, rfl, hrow, hx, hy, hg, hbel⟩ := hrel
    clear HR HG HB HX HY
    have HR := Lib.hid hrow
    have HG := Lib.hid hg
    have HB := Lib.hid hbel
    have HX := Lib.hid hx
    have HY := Lib.hid hy
    clear hrow hg hbel hx hy
    by_cases hlt : j < 10
    · obtain ⟨v0, hc⟩ := HR.out.cell hlt
      have hf := HR.out.frozen j
      have cx := (HX.out.cell j).trans (longA_get x j hlt)
      have cy := (HY.out.cell j).trans (longA_get y j hlt)
      have bx := digit_bd x j
      have bY := digit_bd y j
      have bc := carryI_bd x y j
      have HD := Lib.hid (digit_add x y j)
      have HC := Lib.hid (carryI_succ x y j)
      generalize digit x j = dx at *
      generalize digit y j = dy at *
      generalize carryI x y j = cc at *
      have e1 : IntKind.i64.wrap (dx + dy) = dx + dy := wrapI_of _ (by omega) (by omega)
      have e2 : IntKind.i64.wrap (dx + dy + cc) = dx + dy + cc := wrapI_of _ (by omega) (by omega)
      have i0 : (0 : Int) ≤ (j : Int) := by omega
      have i1 : (j : Int) < 10 := by omega
      go_wp2_with fail
      go_quiet (fail)
      clear e1 e2
      go_wp2
      go_roundw
      case rel => exact ⟨j + 1, by omega, by go_num, by rw [HC.out], ((HR.out.drewN nq).put HD.out.symm), Blk.far (HX.out.drewN nq) (by simp; omega) _, Blk.far (HY.out.drewN nq) (by simp) _, Blk.far (Blk.drewN HG.out nq) (by simp) _, (below_drewN HB.out nq).setCell (by simp; omega) _⟩
      case measure => simp [intOf]; omega
    · obtain rfl : j = 10 := by omega
      have HR9 := Lib.hid (Blk.of_digits (x + y) HR.out.full (fun i _ => rfl))
      have HIn := long_info (x + y)
      go_wp2_with (first | refine wpList_load_row rfl 97 _ rfl (A + 1 + 1 + 1) rfl 97 (longA (x + y)) (0, 0) _ HR9.out Try.underlying97 rfl HIn ?_ | refine wpList_store_row rfl 97 _ _ rfl (A + 1 + 1) (longA (x + y)) rfl rfl 97 _ HG.out HIn (by rw [longA_size]; rfl) (longA_one _) ?_)
      have HZ : (wr.setRow (A + 1 + 1) (longA (x + y))).heap[A + 1 + 1]? = some (.cells (longA (x + y)) 97 (0, 0)) := setRow_heap wr _ _ _ _ _ HG.out
      have HB9 : Below A w (wr.setRow (A + 1 + 1) (longA (x + y))) := below_setRow HB.out (by omega) _
      generalize wr.setRow (A + 1 + 1) (longA (x + y)) = w9 at *
      exact bodyPost_ret (results_cell_row rfl _ _ (A + 1 + 1) 97 (longA (x + y)) (0, 0) _ rfl HZ Try.underlying97 rfl HIn) rfl ⟨rfl, by rw [HA.out]; exact HB9⟩

theorem longA_1 : longA 1 = #[.int .i64 1, .int .i64 0, .int .i64 0, .int .i64 0, .int .i64 0, .int .i64 0, .int .i64 0, .int .i64 0, .int .i64 0, .int .i64 0] := by kernel_rfl
end Go.Proofs.Ytcinlcbmjboaaaa
