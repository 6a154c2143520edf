/-
  The walks of shape.Exact, shape.Above and of gaugerref07.Exact, gaugerref07.Above. Conditions: the arguments fit their kinds.
-/
import Derived.Test.YtfjhecgicemoeaaShpR
namespace Go.Proofs.Ytfjhecgicemoeaa
open Go.RowKit
set_option linter.unusedVariables false
set_option linter.unusedSimpArgs false

theorem keys_right {b r d m l : Int} (h : 0 < keysI b r d m l) : 1 ≤ d ∧ d ≤ 128 ∧ 1 ≤ b ∧ b ≤ 59 ∧ 0 ≤ l ∧ l ≤ b ∧ 1 ≤ r ∧ r ≤ 8 ∧ rightB b r d m = true := by
  unfold keysI at h
  by_cases c : rightB b r d m = true ∧ 0 ≤ l ∧ l ≤ b
  · have := right_of c.1
    exact ⟨by omega, by omega, by omega, by omega, by omega, by omega, by omega, by omega, c.1⟩
  · rw [if_neg c] at h; omega

theorem exact_any (b r d m s l : Int) (w : World) :
    Calls Try.prog 20 #[.agg #[.int .i64 b, .int .i64 r, .int .i64 d, .int .i64 m, .int .u64 s], .int .i64 l] w fun e w' => e = .returned (.bool (exactB b r d m l)) ∧ Below w.heap.size w w' := by
  obtain ⟨k0, k1⟩ := keysI_bd b r d m l
  by_cases hp : 0 < keysI b r d m l
  · obtain ⟨d0, d1, _⟩ := keys_right hp
    by_cases hd : keysI b r d m l ≤ d
    · have H : Hid (true = exactB b r d m l) := Lib.hid (decide_eq_true ⟨hp, hd⟩).symm
      go_enter Try.func20, Try.ntmps20
      go_wp2_with fail
      refine (keys_any b r d m s l _).mono ?_; rintro e w' ⟨rfl, hb⟩
      obtain ⟨hk, hbb⟩ := box_kept hb
      have c2 := hk.cell 2
      simp at c2
      go_wp2
      go_ret
      exact ⟨ret_bool H.out, hbb⟩
    · have H : Hid (false = exactB b r d m l) := Lib.hid (decide_eq_false (fun h => hd h.2)).symm
      go_enter Try.func20, Try.ntmps20
      go_wp2_with fail
      refine (keys_any b r d m s l _).mono ?_; rintro e w' ⟨rfl, hb⟩
      obtain ⟨hk, hbb⟩ := box_kept hb
      have c2 := hk.cell 2
      simp at c2
      have dd : decide (keysI b r d m l ≤ d) = false := decide_eq_false (by omega)
      go_wp2
      go_ret
      exact ⟨ret_bool H.out, hbb⟩
  · have H : Hid (false = exactB b r d m l) := Lib.hid (decide_eq_false (fun h => hp h.1)).symm
    go_enter Try.func20, Try.ntmps20
    go_wp2_with fail
    refine (keys_any b r d m s l _).mono ?_; rintro e w' ⟨rfl, hb⟩
    obtain ⟨hk, hbb⟩ := box_kept hb
    go_wp2
    go_ret
    exact ⟨ret_bool H.out, hbb⟩

theorem rexact_any (b r d m s l : Int) (w : World) :
    Calls Try.prog 21 #[.agg #[.int .i64 b, .int .i64 r, .int .i64 d, .int .i64 m, .int .u64 s], .int .i64 l] w fun e w' => e = .returned (.bool (exactB b r d m l)) ∧ Below w.heap.size w w' := by
  obtain ⟨k0, k1⟩ := keysI_bd b r d m l
  by_cases hp : 0 < keysI b r d m l
  · obtain ⟨d0, d1, _⟩ := keys_right hp
    have hp1 : 1 ≤ keysI b r d m l := by omega
    by_cases hd : keysI b r d m l ≤ d
    · have H : Hid (true = exactB b r d m l) := Lib.hid (decide_eq_true ⟨hp, hd⟩).symm
      go_enter Try.func21, Try.ntmps21
      go_wp2_with fail
      refine (rkeys_any b r d m s l _).mono ?_; rintro e w' ⟨rfl, hb⟩
      obtain ⟨hk, hbb⟩ := box_kept hb
      have c2 := hk.cell 2
      simp at c2
      go_wp2
      go_ret
      exact ⟨ret_bool H.out, hbb⟩
    · have H : Hid (false = exactB b r d m l) := Lib.hid (decide_eq_false (fun h => hd h.2)).symm
      go_enter Try.func21, Try.ntmps21
      go_wp2_with fail
      refine (rkeys_any b r d m s l _).mono ?_; rintro e w' ⟨rfl, hb⟩
      obtain ⟨hk, hbb⟩ := box_kept hb
      have c2 := hk.cell 2
      simp at c2
      have dd : decide (keysI b r d m l ≤ d) = false := decide_eq_false (by omega)
      go_wp2
      go_ret
      exact ⟨ret_bool H.out, hbb⟩
  · have H : Hid (false = exactB b r d m l) := Lib.hid (decide_eq_false (fun h => hp h.1)).symm
    go_enter Try.func21, Try.ntmps21
    go_wp2_with fail
    refine (rkeys_any b r d m s l _).mono ?_; rintro e w' ⟨rfl, hb⟩
    obtain ⟨hk, hbb⟩ := box_kept hb
    go_wp2
    go_ret
    exact ⟨ret_bool H.out, hbb⟩

theorem ret_ub {a b : Int} {x y : Bool} (h : a = b) (k : x = y) : Ending.returned (.tuple #[.int .u64 a, .bool x]) = .returned (.tuple #[.int .u64 b, .bool y]) := by rw [h, k]
theorem box_cells {w' : World} {g : Nat} {t : TypeId} {b r d m s : Int} (hk : Blk w' g t #[.int .i64 b, .int .i64 r, .int .i64 d, .int .i64 m, .int .u64 s]) :
    w'.cell? ⟨g, 0, none⟩ = some (.int .i64 b) ∧ w'.cell? ⟨g, 1, none⟩ = some (.int .i64 r) ∧ w'.cell? ⟨g, 2, none⟩ = some (.int .i64 d) ∧ w'.cell? ⟨g, 3, none⟩ = some (.int .i64 m) ∧ w'.cell? ⟨g, 4, none⟩ = some (.int .u64 s) :=
  ⟨hk.cell 0, hk.cell 1, hk.cell 2, hk.cell 3, hk.cell 4⟩

theorem above_any (b r d m s l k : Int) (g0 : 0 ≤ k) (g1 : k ≤ 18446744073709551615) (w : World) :
    Calls Try.prog 22 #[.agg #[.int .i64 b, .int .i64 r, .int .i64 d, .int .i64 m, .int .u64 s], .int .i64 l, .int .u64 k] w fun e w' => e = .returned (.tuple #[.int .u64 (aboveI b r d m l k), .bool (aboveB b r d m l k)]) ∧ Below w.heap.size w w' := by
  obtain ⟨k0, k1⟩ := keysI_bd b r d m l
  obtain ⟨j0, j1⟩ := keysI_bd b r d m 0
  by_cases hz : keysI b r d m l = 0
  · have H1 : Hid (false = aboveB b r d m l k) := Lib.hid (decide_eq_false (fun h => h.1 hz)).symm
    have H2 : Hid (0 = aboveI b r d m l k) := Lib.hid (by unfold aboveI; rw [← H1.out]; rfl)
    have e0 : (keysI b r d m l == 0) = true := by simp [hz]
    clear hz
    go_enter Try.func22, Try.ntmps22
    go_wp2_with fail
    refine (keys_any b r d m s l _).mono ?_; rintro e w' ⟨rfl, hb⟩
    obtain ⟨hk, hbb⟩ := box_kept hb
    go_wp2
    go_ret2
    exact ⟨ret_ub H2.out H1.out, hbb⟩
  · have e0 : (keysI b r d m l == 0) = false := by simp [hz]
    by_cases hk : k < keysI b r d m 0
    · have HR := keys_right (b := b) (r := r) (d := d) (m := m) (l := l) (by omega)
      have H1 : Hid (true = aboveB b r d m l k) := Lib.hid (decide_eq_true ⟨hz, hk⟩).symm
      have H2 : Hid (k / 2 ^ l.toNat = aboveI b r d m l k) := Lib.hid (by unfold aboveI; rw [← H1.out]; rfl)
      have l0 : 0 ≤ l := by omega
      have l1 : l ≤ 59 := by omega
      have e1 : decide (keysI b r d m 0 ≤ k) = false := decide_eq_false (by omega)
      clear hz HR
      go_enter Try.func22, Try.ntmps22
      go_wp2_with fail
      refine (keys_any b r d m s l _).mono ?_; rintro e w' ⟨rfl, hb⟩
      obtain ⟨hk, hbb⟩ := box_kept hb
      obtain ⟨c0, c1, c2, c3, c4⟩ := box_cells hk
      go_wp2_with fail
      refine (keys_any b r d m s 0 _).mono ?_; rintro e w2 ⟨rfl, hb2⟩
      go_wp2
      go_ret2
      exact ⟨ret_ub H2.out H1.out, btr hbb hb2⟩
    · have H1 : Hid (false = aboveB b r d m l k) := Lib.hid (decide_eq_false (fun h => hk h.2)).symm
      have H2 : Hid (0 = aboveI b r d m l k) := Lib.hid (by unfold aboveI; rw [← H1.out]; rfl)
      have e1 : decide (keysI b r d m 0 ≤ k) = true := decide_eq_true (by omega)
      clear hz
      go_enter Try.func22, Try.ntmps22
      go_wp2_with fail
      refine (keys_any b r d m s l _).mono ?_; rintro e w' ⟨rfl, hb⟩
      obtain ⟨hk, hbb⟩ := box_kept hb
      obtain ⟨c0, c1, c2, c3, c4⟩ := box_cells hk
      go_wp2_with fail
      refine (keys_any b r d m s 0 _).mono ?_; rintro e w2 ⟨rfl, hb2⟩
      go_wp2
      go_ret2
      exact ⟨ret_ub H2.out H1.out, btr hbb hb2⟩

theorem half_step (k : Int) (j : Nat) : k / 2 ^ j / 2 = k / 2 ^ (j + 1) := by
  rw [Int.pow_succ, Int.ediv_ediv_of_nonneg (Int.pow_nonneg (by omega))]
theorem rabove_any (b r d m s l k : Int) (g0 : 0 ≤ k) (g1 : k ≤ 18446744073709551615) (w : World) :
    Calls Try.prog 23 #[.agg #[.int .i64 b, .int .i64 r, .int .i64 d, .int .i64 m, .int .u64 s], .int .i64 l, .int .u64 k] w fun e w' => e = .returned (.tuple #[.int .u64 (aboveI b r d m l k), .bool (aboveB b r d m l k)]) ∧ Below w.heap.size w w' := by
  obtain ⟨k0, k1⟩ := keysI_bd b r d m l
  obtain ⟨j0, j1⟩ := keysI_bd b r d m 0
  by_cases hz : keysI b r d m l = 0
  · have H1 : Hid (false = aboveB b r d m l k) := Lib.hid (decide_eq_false (fun h => h.1 hz)).symm
    have H2 : Hid (0 = aboveI b r d m l k) := Lib.hid (by unfold aboveI; rw [← H1.out]; rfl)
    have e0 : (keysI b r d m l == 0) = true := by simp [hz]
    clear hz
    go_enter Try.func23, Try.ntmps23
    go_wp2_with fail
    refine (rkeys_any b r d m s l _).mono ?_; rintro e w' ⟨rfl, hb⟩
    obtain ⟨hk, hbb⟩ := box_kept hb
    go_wp2
    go_ret2
    exact ⟨ret_ub H2.out H1.out, hbb⟩
  · have e0 : (keysI b r d m l == 0) = false := by simp [hz]
    by_cases hk : k < keysI b r d m 0
    · have HR := keys_right (b := b) (r := r) (d := d) (m := m) (l := l) (by omega)
      have H1 : Hid (true = aboveB b r d m l k) := Lib.hid (decide_eq_true ⟨hz, hk⟩).symm
      have H2 : Hid (k / 2 ^ l.toNat = aboveI b r d m l k) := Lib.hid (by unfold aboveI; rw [← H1.out]; rfl)
      have l0 : 0 ≤ l := by omega
      have l1 : l ≤ 59 := by omega
      have e1 : decide (keysI b r d m 0 ≤ k) = false := decide_eq_false (by omega)
      clear hz HR
      go_enter Try.func23, Try.ntmps23
      go_wp2_with fail
      refine (rkeys_any b r d m s l _).mono ?_; rintro e w' ⟨rfl, hb⟩
      obtain ⟨hk, hbb⟩ := box_kept hb
      obtain ⟨c0, c1, c2, c3, c4⟩ := box_cells hk
      go_wp2_with fail
      refine (rkeys_any b r d m s 0 _).mono ?_; rintro e w2 ⟨rfl, hb2⟩
      have hB := btr hbb hb2
      clear hbb hb2 hb hk c0 c1 c2 c3 c4 e0 e1 k0 k1 j0 j1
      go_wp2
      go_loop [2, 8] (fun n i => ∃ j : Nat, (j : Int) ≤ l ∧ i = .int .i64 (j : Int) ∧ n = .int .u64 (k / 2 ^ j)) (fun _ i => (l - intOf i).toNat)
      case atStart => exact ⟨0, by omega, by simp, by simp⟩
      case round =>
        obtain ⟨j, hj, rfl, rfl⟩ := hrel
        have HP := Lib.hid (half_step k j)
        have q0 : 0 ≤ k / 2 ^ j := Int.ediv_nonneg g0 (Int.pow_nonneg (by omega))
        have q1 : k / 2 ^ j ≤ 18446744073709551615 := by have := Int.ediv_le_self (2 ^ j) g0; omega
        by_cases hlt : (j : Int) < l
        · go_wp2
          go_round
          case rel => exact ⟨j + 1, by omega, by go_num, congrArg (Value.int IntKind.u64) HP.out⟩
          case measure => simp [intOf]; omega
        · go_wp2
          go_ret2
          refine ⟨ret_ub ?_ H1.out, hB⟩
          rw [← H2.out]
          congr 2
          omega
    · have H1 : Hid (false = aboveB b r d m l k) := Lib.hid (decide_eq_false (fun h => hk h.2)).symm
      have H2 : Hid (0 = aboveI b r d m l k) := Lib.hid (by unfold aboveI; rw [← H1.out]; rfl)
      have e1 : decide (keysI b r d m 0 ≤ k) = true := decide_eq_true (by omega)
      clear hz
      go_enter Try.func23, Try.ntmps23
      go_wp2_with fail
      refine (rkeys_any b r d m s l _).mono ?_; rintro e w' ⟨rfl, hb⟩
      obtain ⟨hk, hbb⟩ := box_kept hb
      obtain ⟨c0, c1, c2, c3, c4⟩ := box_cells hk
      go_wp2_with fail
      refine (rkeys_any b r d m s 0 _).mono ?_; rintro e w2 ⟨rfl, hb2⟩
      go_wp2
      go_ret2
      exact ⟨ret_ub H2.out H1.out, btr hbb hb2⟩
end Go.Proofs.Ytfjhecgicemoeaa
