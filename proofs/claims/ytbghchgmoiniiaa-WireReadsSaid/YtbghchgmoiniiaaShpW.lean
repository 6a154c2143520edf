/-
  The walks of package shape: Right, Keys, Exact, Above. Conditions: the arguments fit their kinds.
-/
import Derived.Test.YtbghchgmoiniiaaShpP
import Derived.Test.YtbghchgmoiniiaaMem
import Derived.Test.YtbghchgmoiniiaaProg
import Derived.Outline
import Derived.LoopN
import Derived.WalkSmall
import Derived.Deep.QuietTactic
import Derived.BigQuiet
namespace Go.Proofs.Ytbghchgmoiniiaa
open Go.RowKit
set_option linter.unusedVariables false
set_option linter.unusedSimpArgs false

def withinB (n0 m0 n1 m1 n2 m2 n3 m3 : Int) : Bool := decide (1 ≤ n0 ∧ n0 ≤ m0 ∧ 1 ≤ n1 ∧ n1 ≤ m1 ∧ 1 ≤ n2 ∧ n2 ≤ m2 ∧ 1 ≤ n3 ∧ n3 ≤ m3)

theorem ret_bool {a b : Bool} (h : a = b) : Ending.returned (.bool a) = .returned (.bool b) := by rw [h]

theorem within_any (B : Nat) (n0 m0 n1 m1 n2 m2 n3 m3 : Int) (w : World)
    (hB : Blk w B 104 #[.int .i64 n0, .int .i64 m0, .int .i64 n1, .int .i64 m1, .int .i64 n2, .int .i64 m2, .int .i64 n3, .int .i64 m3]) :
    Calls Try.prog 51 #[.slice (some ⟨B, 0, none⟩) 4 4] w fun e w' => e = .returned (.bool (withinB n0 m0 n1 m1 n2 m2 n3 m3)) ∧ Below w.heap.size w w' := by
  have HB := Lib.hid hB
  clear hB
  go_enter Try.func51, Try.ntmps51
  go_wp2
  go_loopw [7] (fun i wr => ∃ k : Nat, k ≤ 4 ∧ i = .int .i64 (k : Int) ∧ Blk wr B 104 #[.int .i64 n0, .int .i64 m0, .int .i64 n1, .int .i64 m1, .int .i64 n2, .int .i64 m2, .int .i64 n3, .int .i64 m3] ∧ Below w.heap.size w wr ∧
      (0 < k → 1 ≤ n0 ∧ n0 ≤ m0) ∧ (1 < k → 1 ≤ n1 ∧ n1 ≤ m1) ∧ (2 < k → 1 ≤ n2 ∧ n2 ≤ m2) ∧ (3 < k → 1 ≤ n3 ∧ n3 ≤ m3)) (fun i _ => 4 - (intOf i).toNat)
  case atStart => exact ⟨0, by omega, rfl, HB.out, Below.refl _ _, by omega, by omega, by omega, by omega⟩
  case round =>
    obtain ⟨k, hk, rfl, hU, hb, q0, q1, q2, q3⟩ := hrel
    rcases (show k = 0 ∨ k = 1 ∨ k = 2 ∨ k = 3 ∨ k = 4 by omega) with rfl | rfl | rfl | rfl | rfl
    · have c0 := hU.cell 0
      have c1 := hU.cell 1
      simp at c0 c1
      have HU := Lib.hid hU
      have hlt := hU.lt
      have hsz := hb.size
      clear hU
      by_cases h0 : n0 < 1
      · have H : Hid (false = withinB n0 m0 n1 m1 n2 m2 n3 m3) := Lib.hid (by unfold withinB; symm; simp; omega)
        go_wp2
        go_ret
        exact ⟨ret_bool H.out, hb.alloc hsz _⟩
      · by_cases h1 : m0 < n0
        · have H : Hid (false = withinB n0 m0 n1 m1 n2 m2 n3 m3) := Lib.hid (by unfold withinB; symm; simp; omega)
          go_wp2
          go_ret
          exact ⟨ret_bool H.out, hb.alloc hsz _⟩
        · go_wp2
          exact ⟨⟨1, by omega, rfl, HU.out.alloc _, hb.alloc hsz _, by omega, by omega, by omega, by omega⟩, by simp [intOf]⟩
    · have c0 := hU.cell 2
      have c1 := hU.cell 3
      simp at c0 c1
      have HU := Lib.hid hU
      have hlt := hU.lt
      have hsz := hb.size
      clear hU
      by_cases h0 : n1 < 1
      · have H : Hid (false = withinB n0 m0 n1 m1 n2 m2 n3 m3) := Lib.hid (by unfold withinB; symm; simp; omega)
        go_wp2
        go_ret
        exact ⟨ret_bool H.out, hb.alloc hsz _⟩
      · by_cases h1 : m1 < n1
        · have H : Hid (false = withinB n0 m0 n1 m1 n2 m2 n3 m3) := Lib.hid (by unfold withinB; symm; simp; omega)
          go_wp2
          go_ret
          exact ⟨ret_bool H.out, hb.alloc hsz _⟩
        · go_wp2
          exact ⟨⟨2, by omega, rfl, HU.out.alloc _, hb.alloc hsz _, by omega, by omega, by omega, by omega⟩, by simp [intOf]⟩
    · have c0 := hU.cell 4
      have c1 := hU.cell 5
      simp at c0 c1
      have HU := Lib.hid hU
      have hlt := hU.lt
      have hsz := hb.size
      clear hU
      by_cases h0 : n2 < 1
      · have H : Hid (false = withinB n0 m0 n1 m1 n2 m2 n3 m3) := Lib.hid (by unfold withinB; symm; simp; omega)
        go_wp2
        go_ret
        exact ⟨ret_bool H.out, hb.alloc hsz _⟩
      · by_cases h1 : m2 < n2
        · have H : Hid (false = withinB n0 m0 n1 m1 n2 m2 n3 m3) := Lib.hid (by unfold withinB; symm; simp; omega)
          go_wp2
          go_ret
          exact ⟨ret_bool H.out, hb.alloc hsz _⟩
        · go_wp2
          exact ⟨⟨3, by omega, rfl, HU.out.alloc _, hb.alloc hsz _, by omega, by omega, by omega, by omega⟩, by simp [intOf]⟩
    · have c0 := hU.cell 6
      have c1 := hU.cell 7
      simp at c0 c1
      have HU := Lib.hid hU
      have hlt := hU.lt
      have hsz := hb.size
      clear hU
      by_cases h0 : n3 < 1
      · have H : Hid (false = withinB n0 m0 n1 m1 n2 m2 n3 m3) := Lib.hid (by unfold withinB; symm; simp; omega)
        go_wp2
        go_ret
        exact ⟨ret_bool H.out, hb.alloc hsz _⟩
      · by_cases h1 : m3 < n3
        · have H : Hid (false = withinB n0 m0 n1 m1 n2 m2 n3 m3) := Lib.hid (by unfold withinB; symm; simp; omega)
          go_wp2
          go_ret
          exact ⟨ret_bool H.out, hb.alloc hsz _⟩
        · go_wp2
          exact ⟨⟨4, by omega, rfl, HU.out.alloc _, hb.alloc hsz _, by omega, by omega, by omega, by omega⟩, by simp [intOf]⟩
    · have H : Hid (true = withinB n0 m0 n1 m1 n2 m2 n3 m3) := Lib.hid (by unfold withinB; symm; exact decide_eq_true (by omega))
      go_wp2
      go_ret
      exact ⟨ret_bool H.out, hb⟩

theorem right_any (b r d m s : Int) (w : World) :
    Calls Try.prog 33 #[.agg #[.int .i64 b, .int .i64 r, .int .i64 d, .int .i64 m, .int .u64 s]] w fun e w' => e = .returned (.bool (rightB b r d m)) ∧ Below w.heap.size w w' := by
  have H : Hid (withinB b 59 r 8 d 128 m 3 = rightB b r d m) := Lib.hid (by rfl)
  go_enter Try.func33, Try.ntmps33
  go_wp2_with fail
  refine (within_any (w.heap.size + 1) b 59 r 8 d 128 m 3 _ (by first | exact Blk.new _ _ _ | (have := Blk.new (w.alloc (.cells #[.int .i64 b, .int .i64 r, .int .i64 d, .int .i64 m, .int .u64 s] 36)) 104 #[.int .i64 b, .int .i64 59, .int .i64 r, .int .i64 8, .int .i64 d, .int .i64 128, .int .i64 m, .int .i64 3]; simpa using this))).mono ?_
  rintro e w' ⟨rfl, hb⟩
  go_wp2
  go_ret
  exact ⟨ret_bool H.out, (((Below.refl _ _).alloc (Nat.le_refl _) _).alloc (by simp) _).trans (hb.mono (by simp; omega))⟩

theorem ret_u64q {a b : Int} (h : a = b) : Ending.returned (.int .u64 a) = .returned (.int .u64 b) := by rw [h]

theorem keys_any (b r d m s l : Int) (w : World) :
    Calls Try.prog 45 #[.agg #[.int .i64 b, .int .i64 r, .int .i64 d, .int .i64 m, .int .u64 s], .int .i64 l] w fun e w' => e = .returned (.int .u64 (keysI b r d m l)) ∧ Below w.heap.size w w' := by
  cases hr : rightB b r d m
  · have H : Hid (0 = keysI b r d m l) := Lib.hid (keysI_no (fun h => by rw [hr] at h; exact absurd h.1 (by decide))).symm
    go_enter Try.func45, Try.ntmps45
    go_wp2_with fail
    refine (right_any b r d m s _).mono ?_; rintro e w' ⟨rfl, hb⟩
    obtain ⟨hk, hbb⟩ := box_kept hb
    have c0 := hk.cell 0
    simp at c0
    rw [hr]
    go_wp2
    go_ret
    exact ⟨ret_u64q H.out, hbb⟩
  · have HR := right_of hr
    by_cases h0 : l < 0
    · have H : Hid (0 = keysI b r d m l) := Lib.hid (keysI_no (fun h => by omega)).symm
      go_enter Try.func45, Try.ntmps45
      go_wp2_with fail
      refine (right_any b r d m s _).mono ?_; rintro e w' ⟨rfl, hb⟩
      obtain ⟨hk, hbb⟩ := box_kept hb
      have c0 := hk.cell 0
      simp at c0
      rw [hr]
      go_wp2
      go_ret
      exact ⟨ret_u64q H.out, hbb⟩
    · by_cases h1 : b < l
      · have H : Hid (0 = keysI b r d m l) := Lib.hid (keysI_no (fun h => by omega)).symm
        go_enter Try.func45, Try.ntmps45
        go_wp2_with fail
        refine (right_any b r d m s _).mono ?_; rintro e w' ⟨rfl, hb⟩
        obtain ⟨hk, hbb⟩ := box_kept hb
        have c0 := hk.cell 0
        simp at c0
        rw [hr]
        go_wp2
        go_ret
        exact ⟨ret_u64q H.out, hbb⟩
      · have H : Hid (2 ^ (b - l).toNat = keysI b r d m l) := Lib.hid (keysI_yes hr (by omega) (by omega)).symm
        have hp := pow_le (b - l).toNat (by omega)
        have g0 : 0 ≤ l := by omega
        have g1 : l ≤ b := by omega
        have g2 : 0 ≤ b - l := by omega
        have g3 : b - l ≤ 59 := by omega
        go_enter Try.func45, Try.ntmps45
        go_wp2_with fail
        refine (right_any b r d m s _).mono ?_; rintro e w' ⟨rfl, hb⟩
        obtain ⟨hk, hbb⟩ := box_kept hb
        have c0 := hk.cell 0
        simp at c0
        rw [hr]
        go_wp2
        go_ways
        go_ret
        go_show
        exact ⟨ret_u64q H.out, hbb⟩
end Go.Proofs.Ytbghchgmoiniiaa
