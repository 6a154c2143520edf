/-
  The walks of package gaugerref07: Right, Keys, Exact, Above, Same, Any, and of shape.Exact, shape.Above. Conditions: the arguments fit their kinds.
-/
import Derived.Test.YtbghchgmoiniiaaShpW
import Derived.Deep.DeepCutAuto
import Derived.Deep.RegionHeld3
namespace Go.Proofs.Ytbghchgmoiniiaa
open Go.RowKit
set_option linter.unusedVariables false
set_option linter.unusedSimpArgs false

/-- from 1 to n -/
def inB (x n : Int) : Bool := decide (1 ≤ x ∧ x ≤ n)
theorem inB_yes {x n : Int} (h : 1 ≤ x ∧ x ≤ n) : inB x n = true := decide_eq_true h
theorem inB_no {x n : Int} (h : ¬ (1 ≤ x ∧ x ≤ n)) : inB x n = false := decide_eq_false h

theorem rright_any (b r d m s : Int) (w : World) :
    Calls Try.prog 34 #[.agg #[.int .i64 b, .int .i64 r, .int .i64 d, .int .i64 m, .int .u64 s]] w fun e w' => e = .returned (.bool (rightB b r d m)) ∧ Below w.heap.size w w' := by
  go_enter Try.func34, Try.ntmps34
  go_upto_region 1 with fail
  go_cut [3] (fun s3 wx => s3 = .bool (inB b 59) ∧ wx = w.alloc (.cells #[.int .i64 b, .int .i64 r, .int .i64 d, .int .i64 m, .int .u64 s] 36))
  case first =>
    by_cases h1 : 1 ≤ b
    · by_cases h2 : b ≤ 59
      · have H : Hid (true = inB b 59) := Lib.hid (inB_yes (by omega)).symm
        go_wp2_with fail
        go_meet
        exact ⟨congrArg Value.bool H.out, rfl⟩
      · have H : Hid (false = inB b 59) := Lib.hid (inB_no (by omega)).symm
        go_wp2_with fail
        go_meet
        exact ⟨congrArg Value.bool H.out, rfl⟩
    · have H : Hid (false = inB b 59) := Lib.hid (inB_no (by omega)).symm
      go_wp2_with fail
      go_meet
      exact ⟨congrArg Value.bool H.out, rfl⟩
  case rest =>
    obtain ⟨rfl, rfl⟩ := hcut
    go_upto_region 2 with fail
    go_cut [4] (fun s3 wx => s3 = .bool (inB r 8) ∧ wx = w.alloc (.cells #[.int .i64 b, .int .i64 r, .int .i64 d, .int .i64 m, .int .u64 s] 36))
    case first =>
      by_cases h1 : 1 ≤ r
      · by_cases h2 : r ≤ 8
        · have H : Hid (true = inB r 8) := Lib.hid (inB_yes (by omega)).symm
          go_wp2_with fail
          go_meet
          exact ⟨congrArg Value.bool H.out, rfl⟩
        · have H : Hid (false = inB r 8) := Lib.hid (inB_no (by omega)).symm
          go_wp2_with fail
          go_meet
          exact ⟨congrArg Value.bool H.out, rfl⟩
      · have H : Hid (false = inB r 8) := Lib.hid (inB_no (by omega)).symm
        go_wp2_with fail
        go_meet
        exact ⟨congrArg Value.bool H.out, rfl⟩
    case rest =>
      obtain ⟨rfl, rfl⟩ := hcut
      go_upto_region 3 with fail
      go_cut [5] (fun s3 wx => s3 = .bool (inB d 128) ∧ wx = w.alloc (.cells #[.int .i64 b, .int .i64 r, .int .i64 d, .int .i64 m, .int .u64 s] 36))
      case first =>
        by_cases h1 : 1 ≤ d
        · by_cases h2 : d ≤ 128
          · have H : Hid (true = inB d 128) := Lib.hid (inB_yes (by omega)).symm
            go_wp2_with fail
            go_meet
            exact ⟨congrArg Value.bool H.out, rfl⟩
          · have H : Hid (false = inB d 128) := Lib.hid (inB_no (by omega)).symm
            go_wp2_with fail
            go_meet
            exact ⟨congrArg Value.bool H.out, rfl⟩
        · have H : Hid (false = inB d 128) := Lib.hid (inB_no (by omega)).symm
          go_wp2_with fail
          go_meet
          exact ⟨congrArg Value.bool H.out, rfl⟩
      case rest =>
        obtain ⟨rfl, rfl⟩ := hcut
        have hbel : Below w.heap.size w (w.alloc (.cells #[.int .i64 b, .int .i64 r, .int .i64 d, .int .i64 m, .int .u64 s] 36)) := (Below.refl _ _).alloc (Nat.le_refl _) _
        by_cases h1 : 1 ≤ b ∧ b ≤ 59
        · by_cases h2 : 1 ≤ r ∧ r ≤ 8
          · by_cases h3 : 1 ≤ d ∧ d ≤ 128
            · have d1 : inB b 59 = true := inB_yes h1
              have d2 : inB r 8 = true := inB_yes h2
              have d3 : inB d 128 = true := inB_yes h3
              rw [d1, d2, d3]
              by_cases m1 : m = 1
              · subst m1
                go_wp2
                go_ret
                exact ⟨ret_bool (right_mk (by omega)).symm, hbel⟩
              · by_cases m2 : m = 2
                · subst m2
                  go_wp2
                  go_ret
                  exact ⟨ret_bool (right_mk (by omega)).symm, hbel⟩
                · by_cases m3 : m = 3
                  · subst m3
                    go_wp2
                    go_ret
                    exact ⟨ret_bool (right_mk (by omega)).symm, hbel⟩
                  · have e1 : (m == 1) = false := by simp [m1]
                    have e2 : (m == 2) = false := by simp [m2]
                    have e3 : (m == 3) = false := by simp [m3]
                    have H : Hid (false = rightB b r d m) := Lib.hid (decide_eq_false (by omega)).symm
                    clear m1 m2 m3
                    go_wp2
                    go_ret
                    exact ⟨ret_bool H.out, hbel⟩
            · have d1 : inB b 59 = true := inB_yes h1
              have d2 : inB r 8 = true := inB_yes h2
              have d3 : inB d 128 = false := inB_no h3
              rw [d1, d2, d3]
              have H : Hid (false = rightB b r d m) := Lib.hid (decide_eq_false (by omega)).symm
              clear h1 h2 h3
              go_wp2
              go_ret
              exact ⟨ret_bool H.out, hbel⟩
          · have d1 : inB b 59 = true := inB_yes h1
            have d2 : inB r 8 = false := inB_no h2
            rw [d1, d2]
            have H : Hid (false = rightB b r d m) := Lib.hid (decide_eq_false (by omega)).symm
            clear h1 h2
            go_wp2
            go_ret
            exact ⟨ret_bool H.out, hbel⟩
        · have d1 : inB b 59 = false := inB_no h1
          rw [d1]
          have H : Hid (false = rightB b r d m) := Lib.hid (decide_eq_false (by omega)).symm
          clear h1
          go_wp2
          go_ret
          exact ⟨ret_bool H.out, hbel⟩

theorem pow_succ' (n : Nat) : (2 : Int) ^ n * 2 = 2 ^ (n + 1) := (Int.pow_succ ..).symm
theorem rkeys_any (b r d m s l : Int) (w : World) :
    Calls Try.prog 36 #[.agg #[.int .i64 b, .int .i64 r, .int .i64 d, .int .i64 m, .int .u64 s], .int .i64 l] w fun e w' => e = .returned (.int .u64 (keysI b r d m l)) ∧ Below w.heap.size w w' := by
  cases hr : rightB b r d m
  · have H : Hid (0 = keysI b r d m l) := Lib.hid (keysI_no (fun h => by rw [hr] at h; exact absurd h.1 (by decide))).symm
    go_enter Try.func36, Try.ntmps36
    go_wp2_with fail
    refine (rright_any b r d m s _).mono ?_; rintro e w' ⟨rfl, hb⟩
    obtain ⟨hk, hbb⟩ := box_kept hb
    have c0 := hk.cell 0
    simp at c0
    rw [hr]
    go_wp2
    go_ret
    exact ⟨ret_u64q H.out, hbb⟩
  · have HR := right_of hr
    by_cases h0 : l < 0
    · have H : Hid (0 = keysI b r d m l) := Lib.hid (keysI_no (fun h => by omega)).symm
      go_enter Try.func36, Try.ntmps36
      go_wp2_with fail
      refine (rright_any b r d m s _).mono ?_; rintro e w' ⟨rfl, hb⟩
      obtain ⟨hk, hbb⟩ := box_kept hb
      have c0 := hk.cell 0
      simp at c0
      rw [hr]
      go_wp2
      go_ret
      exact ⟨ret_u64q H.out, hbb⟩
    · by_cases h1 : b < l
      · have H : Hid (0 = keysI b r d m l) := Lib.hid (keysI_no (fun h => by omega)).symm
        go_enter Try.func36, Try.ntmps36
        go_wp2_with fail
        refine (rright_any b r d m s _).mono ?_; rintro e w' ⟨rfl, hb⟩
        obtain ⟨hk, hbb⟩ := box_kept hb
        have c0 := hk.cell 0
        simp at c0
        rw [hr]
        go_wp2
        go_ret
        exact ⟨ret_u64q H.out, hbb⟩
      · have H : Hid (2 ^ (b - l).toNat = keysI b r d m l) := Lib.hid (keysI_yes hr (by omega) (by omega)).symm
        have g0 : 0 ≤ l := by omega
        have g1 : l ≤ b := by omega
        have g3 : b ≤ 59 := by omega
        go_enter Try.func36, Try.ntmps36
        go_wp2_with fail
        refine (rright_any b r d m s _).mono ?_; rintro e w' ⟨rfl, hb⟩
        obtain ⟨hk, hbb⟩ := box_kept hb
        have c0 := hk.cell 0
        simp at c0
        rw [hr]
        clear HR hk hb
        go_wp2
        go_loop [5, 6] (fun n i => ∃ k : Nat, (k : Int) ≤ b - l ∧ i = .int .i64 (l + (k : Int)) ∧ n = .int .u64 (2 ^ k)) (fun _ i => (b - intOf i).toNat)
        case atStart => exact ⟨0, by omega, by simp, by simp⟩
        case round =>
          obtain ⟨k, hk, rfl, rfl⟩ := hrel
          have hp := pow_le k (by omega)
          have HP := Lib.hid (pow_succ' k)
          by_cases hlt : l + (k : Int) < b
          · have hp2 := pow_le (k + 1) (by omega)
            rw [← HP.out] at hp2
            go_wp2
            go_round
            case rel => exact ⟨k + 1, by omega, congrArg (Value.int IntKind.i64) (by omega), congrArg (Value.int IntKind.u64) HP.out⟩
            case measure => simp [intOf]; omega
          · go_wp2
            go_ret
            refine ⟨ret_u64q ?_, hbb⟩
            rw [← H.out]
            congr 1
            omega
end Go.Proofs.Ytbghchgmoiniiaa
