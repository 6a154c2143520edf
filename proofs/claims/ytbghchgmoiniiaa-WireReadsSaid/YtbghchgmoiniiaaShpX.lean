/-
  The walks of shape.Exact, shape.Above and of gaugerref07.Exact, gaugerref07.Above. Conditions: the arguments fit their kinds.
-/
import Derived.Test.YtbghchgmoiniiaaShpR
namespace Go.Proofs.Ytbghchgmoiniiaa
open Go.RowKit
set_option linter.unusedVariables false
set_option linter.unusedSimpArgs false

theorem keys_right {b r d m l : Int} (h : 0 < keysI b r d m l) : 1 ≤ d ∧ d ≤ 128 ∧ 1 ≤ b ∧ b ≤ 59 ∧ 0 ≤ l ∧ l ≤ b ∧ 1 ≤ r ∧ r ≤ 8 ∧ rightB b r d m = true := by
  unfold keysI at h
  by_cases c : rightB b r d m = true ∧ 0 ≤ l ∧ l ≤ b
  · have := right_of c.1
    exact ⟨by omega, by omega, by omega, by omega, by omega, by omega, by omega, by omega, c.1⟩
  · rw [if_neg c] at h; omega

theorem exact_any (b r d m s l : Int) (w : World) :
    Calls Try.prog 44 #[.agg #[.int .i64 b, .int .i64 r, .int .i64 d, .int .i64 m, .int .u64 s], .int .i64 l] w fun e w' => e = .returned (.bool (exactB b r d m l)) ∧ Below w.heap.size w w' := by
  obtain ⟨k0, k1⟩ := keysI_bd b r d m l
  by_cases hp : 0 < keysI b r d m l
  · obtain ⟨d0, d1, _⟩ := keys_right hp
    by_cases hd : keysI b r d m l ≤ d
    · have H : Hid (true = exactB b r d m l) := Lib.hid (decide_eq_true ⟨hp, hd⟩).symm
      go_enter Try.func44, Try.ntmps44
      go_wp2_with fail
      refine (keys_any b r d m s l _).mono ?_; rintro e w' ⟨rfl, hb⟩
      obtain ⟨hk, hbb⟩ := box_kept hb
      have c2 := hk.cell 2
      simp at c2
      go_wp2
      go_ret
      exact ⟨ret_bool H.out, hbb⟩
    · have H : Hid (false = exactB b r d m l) := Lib.hid (decide_eq_false (fun h => hd h.2)).symm
      go_enter Try.func44, Try.ntmps44
      go_wp2_with fail
      refine (keys_any b r d m s l _).mono ?_; rintro e w' ⟨rfl, hb⟩
      obtain ⟨hk, hbb⟩ := box_kept hb
      have c2 := hk.cell 2
      simp at c2
      have dd : decide (keysI b r d m l ≤ d) = false := decide_eq_false (by omega)
      go_wp2
      go_ret
      exact ⟨ret_bool H.out, hbb⟩
  · have H : Hid (false = exactB b r d m l) := Lib.hid (decide_eq_false (fun h => hp h.1)).symm
    go_enter Try.func44, Try.ntmps44
    go_wp2_with fail
    refine (keys_any b r d m s l _).mono ?_; rintro e w' ⟨rfl, hb⟩
    obtain ⟨hk, hbb⟩ := box_kept hb
    go_wp2
    go_ret
    exact ⟨ret_bool H.out, hbb⟩

theorem rexact_any (b r d m s l : Int) (w : World) :
    Calls Try.prog 35 #[.agg #[.int .i64 b, .int .i64 r, .int .i64 d, .int .i64 m, .int .u64 s], .int .i64 l] w fun e w' => e = .returned (.bool (exactB b r d m l)) ∧ Below w.heap.size w w' := by
  obtain ⟨k0, k1⟩ := keysI_bd b r d m l
  by_cases hp : 0 < keysI b r d m l
  · obtain ⟨d0, d1, _⟩ := keys_right hp
    have hp1 : 1 ≤ keysI b r d m l := by omega
    by_cases hd : keysI b r d m l ≤ d
    · have H : Hid (true = exactB b r d m l) := Lib.hid (decide_eq_true ⟨hp, hd⟩).symm
      go_enter Try.func35, Try.ntmps35
      go_wp2_with fail
      refine (rkeys_any b r d m s l _).mono ?_; rintro e w' ⟨rfl, hb⟩
      obtain ⟨hk, hbb⟩ := box_kept hb
      have c2 := hk.cell 2
      simp at c2
      go_wp2
      go_ret
      exact ⟨ret_bool H.out, hbb⟩
    · have H : Hid (false = exactB b r d m l) := Lib.hid (decide_eq_false (fun h => hd h.2)).symm
      go_enter Try.func35, Try.ntmps35
      go_wp2_with fail
      refine (rkeys_any b r d m s l _).mono ?_; rintro e w' ⟨rfl, hb⟩
      obtain ⟨hk, hbb⟩ := box_kept hb
      have c2 := hk.cell 2
      simp at c2
      have dd : decide (keysI b r d m l ≤ d) = false := decide_eq_false (by omega)
      go_wp2
      go_ret
      exact ⟨ret_bool H.out, hbb⟩
  · have H : Hid (false = exactB b r d m l) := Lib.hid (decide_eq_false (fun h => hp h.1)).symm
    go_enter Try.func35, Try.ntmps35
    go_wp2_with fail
    refine (rkeys_any b r d m s l _).mono ?_; rintro e w' ⟨rfl, hb⟩
    obtain ⟨hk, hbb⟩ := box_kept hb
    go_wp2
    go_ret
    exact ⟨ret_bool H.out, hbb⟩

theorem ret_ub {a b : Int} {x y : Bool} (h : a = b) (k : x = y) : Ending.returned (.tuple #[.int .u64 a, .bool x]) = .returned (.tuple #[.int .u64 b, .bool y]) := by rw [h, k]
theorem box_cells {w' : World} {g : Nat} {t : TypeId} {b r d m s : Int} (hk : Blk w' g t #[.int .i64 b, .int .i64 r, .int .i64 d, .int .i64 m, .int .u64 s]) :
    w'.cell? ⟨g, 0, none⟩ = some (.int .i64 b) ∧ w'.cell? ⟨g, 1, none⟩ = some (.int .i64 r) ∧ w'.cell? ⟨g, 2, none⟩ = some (.int .i64 d) ∧ w'.cell? ⟨g, 3, none⟩ = some (.int .i64 m) ∧ w'.cell? ⟨g, 4, none⟩ = some (.int .u64 s) :=
  ⟨hk.cell 0, hk.cell 1, hk.cell 2, hk.cell 3, hk.cell 4⟩


end Go.Proofs.Ytbghchgmoiniiaa
