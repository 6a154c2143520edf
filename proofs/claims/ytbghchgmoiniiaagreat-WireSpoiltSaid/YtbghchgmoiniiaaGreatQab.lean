import Derived.Test.YtbghchgmoiniiaaGreatQaa
import Derived.Deep.DeepCutAuto
import Derived.Deep.RegionHeld3
import Derived.WalkKit
import Derived.ProofKit
import Derived.OpenShut
import Derived.ChangeOld
import Derived.Below
import Derived.Deep.Slices
import Derived.StillTailTactics
import Derived.Laws.StructEq
/-
  The walks of package gaugerref07: Right, Keys, Exact, Above, Same, Any, and of shape.Exact, shape.Above. Conditions: the arguments fit their kinds.
-/
namespace Go.Proofs.YtbghchgmoiniiaaGreat
open Go.RowKit
set_option linter.unusedVariables false
set_option linter.unusedSimpArgs false

/-- from 1 to n -/
def inB (x n : Int) : Bool := decide (1 ≤ x ∧ x ≤ n)
theorem inB_yes {x n : Int} (h : 1 ≤ x ∧ x ≤ n) : inB x n = true := decide_eq_true h
theorem inB_no {x n : Int} (h : ¬ (1 ≤ x ∧ x ≤ n)) : inB x n = false := decide_eq_false h

theorem rright_any (b r d m s : Int) (w : World) :
    Calls Tryz.prog 31 #[.agg #[.int .i64 b, .int .i64 r, .int .i64 d, .int .i64 m, .int .u64 s]] w fun e w' => e = .returned (.bool (rightB b r d m)) ∧ Below w.heap.size w w' := by
  go_enter Tryz.func31, Tryz.ntmps31
  go_upto_region 1 with fail
  go_cut [3] (fun s3 wx => s3 = .bool (inB b 59) ∧ wx = w.alloc (.cells #[.int .i64 b, .int .i64 r, .int .i64 d, .int .i64 m, .int .u64 s] 24))
  case first =>
    by_cases h1 : 1 ≤ b
    · by_cases h2 : b ≤ 59
      · have H : Hid (true = inB b 59) := Lib.hid (inB_yes (by omega)).symm
        go_wp2_with fail
        go_meet
        exact ⟨congrArg Value.bool H.out, rfl⟩
      · have H : Hid (false = inB b 59) := Lib.hid (inB_no (by omega)).symm
        go_wp2_with fail
        go_meet
        exact ⟨congrArg Value.bool H.out, rfl⟩
    · have H : Hid (false = inB b 59) := Lib.hid (inB_no (by omega)).symm
      go_wp2_with fail
      go_meet
      exact ⟨congrArg Value.bool H.out, rfl⟩
  case rest =>
    obtain ⟨rfl, rfl⟩ := hcut
    go_upto_region 2 with fail
    go_cut [4] (fun s3 wx => s3 = .bool (inB r 8) ∧ wx = w.alloc (.cells #[.int .i64 b, .int .i64 r, .int .i64 d, .int .i64 m, .int .u64 s] 24))
    case first =>
      by_cases h1 : 1 ≤ r
      · by_cases h2 : r ≤ 8
        · have H : Hid (true = inB r 8) := Lib.hid (inB_yes (by omega)).symm
          go_wp2_with fail
          go_meet
          exact ⟨congrArg Value.bool H.out, rfl⟩
        · have H : Hid (false = inB r 8) := Lib.hid (inB_no (by omega)).symm
          go_wp2_with fail
          go_meet
          exact ⟨congrArg Value.bool H.out, rfl⟩
      · have H : Hid (false = inB r 8) := Lib.hid (inB_no (by omega)).symm
        go_wp2_with fail
        go_meet
        exact ⟨congrArg Value.bool H.out, rfl⟩
    case rest =>
      obtain ⟨rfl, rfl⟩ := hcut
      go_upto_region 3 with fail
      go_cut [5] (fun s3 wx => s3 = .bool (inB d 128) ∧ wx = w.alloc (.cells #[.int .i64 b, .int .i64 r, .int .i64 d, .int .i64 m, .int .u64 s] 24))
      case first =>
        by_cases h1 : 1 ≤ d
        · by_cases h2 : d ≤ 128
          · have H : Hid (true = inB d 128) := Lib.hid (inB_yes (by omega)).symm
            go_wp2_with fail
            go_meet
            exact ⟨congrArg Value.bool H.out, rfl⟩
          · have H : Hid (false = inB d 128) := Lib.hid (inB_no (by omega)).symm
            go_wp2_with fail
            go_meet
            exact ⟨congrArg Value.bool H.out, rfl⟩
        · have H : Hid (false = inB d 128) := Lib.hid (inB_no (by omega)).symm
          go_wp2_with fail
          go_meet
          exact ⟨congrArg Value.bool H.out, rfl⟩
      case rest =>
        obtain ⟨rfl, rfl⟩ := hcut
        have hbel : Below w.heap.size w (w.alloc (.cells #[.int .i64 b, .int .i64 r, .int .i64 d, .int .i64 m, .int .u64 s] 24)) := (Below.refl _ _).alloc (Nat.le_refl _) _
        by_cases h1 : 1 ≤ b ∧ b ≤ 59
        · by_cases h2 : 1 ≤ r ∧ r ≤ 8
          · by_cases h3 : 1 ≤ d ∧ d ≤ 128
            · have d1 : inB b 59 = true := inB_yes h1
              have d2 : inB r 8 = true := inB_yes h2
              have d3 : inB d 128 = true := inB_yes h3
              rw [d1, d2, d3]
              by_cases m1 : m = 1
              · subst m1
                go_wp2
                go_ret
                exact ⟨ret_bool (right_mk (by omega)).symm, hbel⟩
              · by_cases m2 : m = 2
                · subst m2
                  go_wp2
                  go_ret
                  exact ⟨ret_bool (right_mk (by omega)).symm, hbel⟩
                · by_cases m3 : m = 3
                  · subst m3
                    go_wp2
                    go_ret
                    exact ⟨ret_bool (right_mk (by omega)).symm, hbel⟩
                  · have e1 : (m == 1) = false := by simp [m1]
                    have e2 : (m == 2) = false := by simp [m2]
                    have e3 : (m == 3) = false := by simp [m3]
                    have H : Hid (false = rightB b r d m) := Lib.hid (decide_eq_false (by omega)).symm
                    clear m1 m2 m3
                    go_wp2
                    go_ret
                    exact ⟨ret_bool H.out, hbel⟩
            · have d1 : inB b 59 = true := inB_yes h1
              have d2 : inB r 8 = true := inB_yes h2
              have d3 : inB d 128 = false := inB_no h3
              rw [d1, d2, d3]
              have H : Hid (false = rightB b r d m) := Lib.hid (decide_eq_false (by omega)).symm
              clear h1 h2 h3
              go_wp2
              go_ret
              exact ⟨ret_bool H.out, hbel⟩
          · have d1 : inB b 59 = true := inB_yes h1
            have d2 : inB r 8 = false := inB_no h2
            rw [d1, d2]
            have H : Hid (false = rightB b r d m) := Lib.hid (decide_eq_false (by omega)).symm
            clear h1 h2
            go_wp2
            go_ret
            exact ⟨ret_bool H.out, hbel⟩
        · have d1 : inB b 59 = false := inB_no h1
          rw [d1]
          have H : Hid (false = rightB b r d m) := Lib.hid (decide_eq_false (by omega)).symm
          clear h1
          go_wp2
          go_ret
          exact ⟨ret_bool H.out, hbel⟩

theorem pow_succ' (n : Nat) : (2 : Int) ^ n * 2 = 2 ^ (n + 1) := (Int.pow_succ ..).symm
theorem rkeys_any (b r d m s l : Int) (w : World) :
    Calls Tryz.prog 33 #[.agg #[.int .i64 b, .int .i64 r, .int .i64 d, .int .i64 m, .int .u64 s], .int .i64 l] w fun e w' => e = .returned (.int .u64 (keysI b r d m l)) ∧ Below w.heap.size w w' := by
  cases hr : rightB b r d m
  · have H : Hid (0 = keysI b r d m l) := Lib.hid (keysI_no (fun h => by rw [hr] at h; exact absurd h.1 (by decide))).symm
    go_enter Tryz.func33, Tryz.ntmps33
    go_wp2_with fail
    refine (rright_any b r d m s _).mono ?_; rintro e w' ⟨rfl, hb⟩
    obtain ⟨hk, hbb⟩ := box_kept hb
    have c0 := hk.cell 0
    simp at c0
    rw [hr]
    go_wp2
    go_ret
    exact ⟨ret_u64q H.out, hbb⟩
  · have HR := right_of hr
    by_cases h0 : l < 0
    · have H : Hid (0 = keysI b r d m l) := Lib.hid (keysI_no (fun h => by omega)).symm
      go_enter Tryz.func33, Tryz.ntmps33
      go_wp2_with fail
      refine (rright_any b r d m s _).mono ?_; rintro e w' ⟨rfl, hb⟩
      obtain ⟨hk, hbb⟩ := box_kept hb
      have c0 := hk.cell 0
      simp at c0
      rw [hr]
      go_wp2
      go_ret
      exact ⟨ret_u64q H.out, hbb⟩
    · by_cases h1 : b < l
      · have H : Hid (0 = keysI b r d m l) := Lib.hid (keysI_no (fun h => by omega)).symm
        go_enter Tryz.func33, Tryz.ntmps33
        go_wp2_with fail
        refine (rright_any b r d m s _).mono ?_; rintro e w' ⟨rfl, hb⟩
        obtain ⟨hk, hbb⟩ := box_kept hb
        have c0 := hk.cell 0
        simp at c0
        rw [hr]
        go_wp2
        go_ret
        exact ⟨ret_u64q H.out, hbb⟩
      · have H : Hid (2 ^ (b - l).toNat = keysI b r d m l) := Lib.hid (keysI_yes hr (by omega) (by omega)).symm
        have g0 : 0 ≤ l := by omega
        have g1 : l ≤ b := by omega
        have g3 : b ≤ 59 := by omega
        go_enter Tryz.func33, Tryz.ntmps33
        go_wp2_with fail
        refine (rright_any b r d m s _).mono ?_; rintro e w' ⟨rfl, hb⟩
        obtain ⟨hk, hbb⟩ := box_kept hb
        have c0 := hk.cell 0
        simp at c0
        rw [hr]
        clear HR hk hb
        go_wp2
        go_loop [5, 6] (fun n i => ∃ k : Nat, (k : Int) ≤ b - l ∧ i = .int .i64 (l + (k : Int)) ∧ n = .int .u64 (2 ^ k)) (fun _ i => (b - intOf i).toNat)
        case atStart => exact ⟨0, by omega, by simp, by simp⟩
        case round =>
          obtain ⟨k, hk, rfl, rfl⟩ := hrel
          have hp := pow_le k (by omega)
          have HP := Lib.hid (pow_succ' k)
          by_cases hlt : l + (k : Int) < b
          · have hp2 := pow_le (k + 1) (by omega)
            rw [← HP.out] at hp2
            go_wp2
            go_round
            case rel => exact ⟨k + 1, by omega, congrArg (Value.int IntKind.i64) (by omega), congrArg (Value.int IntKind.u64) HP.out⟩
            case measure => simp [intOf]; omega
          · go_wp2
            go_ret
            refine ⟨ret_u64q ?_, hbb⟩
            rw [← H.out]
            congr 1
            omega
end Go.Proofs.YtbghchgmoiniiaaGreat

/-
  The walks of shape.Exact, shape.Above and of gaugerref07.Exact, gaugerref07.Above. Conditions: the arguments fit their kinds.
-/
namespace Go.Proofs.YtbghchgmoiniiaaGreat
open Go.RowKit
set_option linter.unusedVariables false
set_option linter.unusedSimpArgs false

theorem keys_right {b r d m l : Int} (h : 0 < keysI b r d m l) : 1 ≤ d ∧ d ≤ 128 ∧ 1 ≤ b ∧ b ≤ 59 ∧ 0 ≤ l ∧ l ≤ b ∧ 1 ≤ r ∧ r ≤ 8 ∧ rightB b r d m = true := by
  unfold keysI at h
  by_cases c : rightB b r d m = true ∧ 0 ≤ l ∧ l ≤ b
  · have := right_of c.1
    exact ⟨by omega, by omega, by omega, by omega, by omega, by omega, by omega, by omega, c.1⟩
  · rw [if_neg c] at h; omega

theorem exact_any (b r d m s l : Int) (w : World) :
    Calls Tryz.prog 58 #[.agg #[.int .i64 b, .int .i64 r, .int .i64 d, .int .i64 m, .int .u64 s], .int .i64 l] w fun e w' => e = .returned (.bool (exactB b r d m l)) ∧ Below w.heap.size w w' := by
  obtain ⟨k0, k1⟩ := keysI_bd b r d m l
  by_cases hp : 0 < keysI b r d m l
  · obtain ⟨d0, d1, _⟩ := keys_right hp
    by_cases hd : keysI b r d m l ≤ d
    · have H : Hid (true = exactB b r d m l) := Lib.hid (decide_eq_true ⟨hp, hd⟩).symm
      go_enter Tryz.func58, Tryz.ntmps58
      go_wp2_with fail
      refine (keys_any b r d m s l _).mono ?_; rintro e w' ⟨rfl, hb⟩
      obtain ⟨hk, hbb⟩ := box_kept hb
      have c2 := hk.cell 2
      simp at c2
      go_wp2
      go_ret
      exact ⟨ret_bool H.out, hbb⟩
    · have H : Hid (false = exactB b r d m l) := Lib.hid (decide_eq_false (fun h => hd h.2)).symm
      go_enter Tryz.func58, Tryz.ntmps58
      go_wp2_with fail
      refine (keys_any b r d m s l _).mono ?_; rintro e w' ⟨rfl, hb⟩
      obtain ⟨hk, hbb⟩ := box_kept hb
      have c2 := hk.cell 2
      simp at c2
      have dd : decide (keysI b r d m l ≤ d) = false := decide_eq_false (by omega)
      go_wp2
      go_ret
      exact ⟨ret_bool H.out, hbb⟩
  · have H : Hid (false = exactB b r d m l) := Lib.hid (decide_eq_false (fun h => hp h.1)).symm
    go_enter Tryz.func58, Tryz.ntmps58
    go_wp2_with fail
    refine (keys_any b r d m s l _).mono ?_; rintro e w' ⟨rfl, hb⟩
    obtain ⟨hk, hbb⟩ := box_kept hb
    go_wp2
    go_ret
    exact ⟨ret_bool H.out, hbb⟩

theorem rexact_any (b r d m s l : Int) (w : World) :
    Calls Tryz.prog 32 #[.agg #[.int .i64 b, .int .i64 r, .int .i64 d, .int .i64 m, .int .u64 s], .int .i64 l] w fun e w' => e = .returned (.bool (exactB b r d m l)) ∧ Below w.heap.size w w' := by
  obtain ⟨k0, k1⟩ := keysI_bd b r d m l
  by_cases hp : 0 < keysI b r d m l
  · obtain ⟨d0, d1, _⟩ := keys_right hp
    have hp1 : 1 ≤ keysI b r d m l := by omega
    by_cases hd : keysI b r d m l ≤ d
    · have H : Hid (true = exactB b r d m l) := Lib.hid (decide_eq_true ⟨hp, hd⟩).symm
      go_enter Tryz.func32, Tryz.ntmps32
      go_wp2_with fail
      refine (rkeys_any b r d m s l _).mono ?_; rintro e w' ⟨rfl, hb⟩
      obtain ⟨hk, hbb⟩ := box_kept hb
      have c2 := hk.cell 2
      simp at c2
      go_wp2
      go_ret
      exact ⟨ret_bool H.out, hbb⟩
    · have H : Hid (false = exactB b r d m l) := Lib.hid (decide_eq_false (fun h => hd h.2)).symm
      go_enter Tryz.func32, Tryz.ntmps32
      go_wp2_with fail
      refine (rkeys_any b r d m s l _).mono ?_; rintro e w' ⟨rfl, hb⟩
      obtain ⟨hk, hbb⟩ := box_kept hb
      have c2 := hk.cell 2
      simp at c2
      have dd : decide (keysI b r d m l ≤ d) = false := decide_eq_false (by omega)
      go_wp2
      go_ret
      exact ⟨ret_bool H.out, hbb⟩
  · have H : Hid (false = exactB b r d m l) := Lib.hid (decide_eq_false (fun h => hp h.1)).symm
    go_enter Tryz.func32, Tryz.ntmps32
    go_wp2_with fail
    refine (rkeys_any b r d m s l _).mono ?_; rintro e w' ⟨rfl, hb⟩
    obtain ⟨hk, hbb⟩ := box_kept hb
    go_wp2
    go_ret
    exact ⟨ret_bool H.out, hbb⟩

theorem ret_ub {a b : Int} {x y : Bool} (h : a = b) (k : x = y) : Ending.returned (.tuple #[.int .u64 a, .bool x]) = .returned (.tuple #[.int .u64 b, .bool y]) := by rw [h, k]
theorem box_cells {w' : World} {g : Nat} {t : TypeId} {b r d m s : Int} (hk : Blk w' g t #[.int .i64 b, .int .i64 r, .int .i64 d, .int .i64 m, .int .u64 s]) :
    w'.cell? ⟨g, 0, none⟩ = some (.int .i64 b) ∧ w'.cell? ⟨g, 1, none⟩ = some (.int .i64 r) ∧ w'.cell? ⟨g, 2, none⟩ = some (.int .i64 d) ∧ w'.cell? ⟨g, 3, none⟩ = some (.int .i64 m) ∧ w'.cell? ⟨g, 4, none⟩ = some (.int .u64 s) :=
  ⟨hk.cell 0, hk.cell 1, hk.cell 2, hk.cell 3, hk.cell 4⟩


end Go.Proofs.YtbghchgmoiniiaaGreat

/-
  The walks of exact: New. Conditions: none beyond those stated at each theorem.
-/
namespace Go.Proofs.YtbghchgmoiniiaaGreat
open Go.RowKit
set_option linter.unusedVariables false
set_option linter.unusedSimpArgs false

def cfgA (b r d m s : Int) : Array Value := #[.int .i64 b, .int .i64 r, .int .i64 d, .int .i64 m, .int .u64 s]
/-- block A is an exact array of a config and a level, its numbers are the one row of a grid -/
def ArrIs (w : World) (A G C : Nat) (b r d m s l : Int) (K : Nat) (zs : List Int) : Prop :=
  Blk w A 142 #[.int .i64 b, .int .i64 r, .int .i64 d, .int .i64 m, .int .u64 s, .int .i64 l, .pointer (some ⟨G, 0, none⟩)] ∧ GridIs w G C 1 K zs
def ExNewPost (w : World) (b r d m s l : Int) (e : Ending) (w' : World) : Prop :=
  ∃ A G C, e = .returned (.tuple #[.pointer (some ⟨A, 0, none⟩), .int .i64 0]) ∧ w.heap.size ≤ A ∧ w.heap.size ≤ G ∧ w.heap.size ≤ C ∧ ArrIs w' A G C b r d m s l (keysI b r d m l).toNat (List.replicate (1 * (keysI b r d m l).toNat) 0) ∧ Below w.heap.size w w'

set_option maxRecDepth 100000 in
set_option maxHeartbeats 4000000 in
theorem exnew_no (b r d m s l : Int) (h : exactB b r d m l = false) (w : World) :
    Calls Tryz.prog 63 #[.agg #[.int .i64 b, .int .i64 r, .int .i64 d, .int .i64 m, .int .u64 s], .int .i64 l] w fun e w' => e = .returned (.tuple #[.pointer none, .int .i64 1]) ∧ Below w.heap.size w w' := by
  have PE := fun w => exact_any b r d m s l w
  rw [h] at PE
  have HPE := Lib.hid PE
  clear PE h
  obtain ⟨g1, hb1, hsz1⟩ := news1 w (.cells #[.int .i64 b, .int .i64 r, .int .i64 d, .int .i64 m, .int .u64 s] 24)
  have hx1 : Blk _ w.heap.size 24 #[.int .i64 b, .int .i64 r, .int .i64 d, .int .i64 m, .int .u64 s] := g1
  have HB1 := Lib.hid hb1
  clear g1 hb1 hsz1
  go_enter Tryz.func63, Tryz.ntmps63
  go_wp2_with (refine wpList_load_row rfl 24 _ rfl w.heap.size rfl 24 _ (0, 0) _ hx1 Tryz.underlying24 rfl (by kernel_rfl) ?_)
  refine (HPE.out _).mono ?_
  rintro e w2 ⟨rfl, hb⟩
  have HB2 := Lib.hid (btr HB1.out hb)
  clear hb
  go_wp2
  go_ret2
  exact ⟨rfl, HB2.out⟩
set_option maxRecDepth 100000 in
set_option maxHeartbeats 4000000 in
theorem exnew_yes (b r d m s l : Int) (h : exactB b r d m l = true) (w : World) :
    Calls Tryz.prog 63 #[.agg #[.int .i64 b, .int .i64 r, .int .i64 d, .int .i64 m, .int .u64 s], .int .i64 l] w (ExNewPost w b r d m s l) := by
  have PE := fun w => exact_any b r d m s l w
  have hk := of_decide_eq_true h
  have hkr := keys_right hk.1
  have PK := Lib.hid (fun w => keys_any b r d m s l w)
  rw [h] at PE
  have HPE := Lib.hid PE
  clear PE h
  obtain ⟨K, hK⟩ : ∃ K : Nat, keysI b r d m l = (K : Int) := ⟨(keysI b r d m l).toNat, by omega⟩
  unfold ExNewPost
  rw [hK] at PK ⊢
  have hK1 : K ≤ 128 := by omega
  have PN := Lib.hid (fun w => new_any 1 (K : Int) w)
  have e1 : clampN 1 8 = 1 := rfl
  have e2 : clampN (K : Int) 128 = K := by unfold clampN; omega
  rw [e1, e2] at PN
  simp only [Int.toNat_natCast]
  clear hk hkr hK e1 e2
  obtain ⟨g1, hb1, hsz1⟩ := news1 w (.cells #[.int .i64 b, .int .i64 r, .int .i64 d, .int .i64 m, .int .u64 s] 24)
  have hx1 : Blk _ w.heap.size 24 #[.int .i64 b, .int .i64 r, .int .i64 d, .int .i64 m, .int .u64 s] := g1
  have HB1 := Lib.hid hb1
  have HX1 := Lib.hid hx1
  clear g1 hb1 hsz1
  go_enter Tryz.func63, Tryz.ntmps63
  go_wp2_with (refine wpList_load_row rfl 24 _ rfl w.heap.size rfl 24 _ (0, 0) _ hx1 Tryz.underlying24 rfl (by kernel_rfl) ?_)
  refine (HPE.out _).mono ?_
  rintro e w2 ⟨rfl, hb⟩
  have HB2 := Lib.hid (btr HB1.out hb)
  have HX2 := Lib.hid (HX1.out.kept hb)
  have ek : IntKind.i64.wrap (K : Int) = (K : Int) := by simp [IntKind.wrap, IntKind.bits, IntKind.signed]; split <;> omega
  clear hb hx1
  go_wp2_with fail
  refine wp_region_held_drew (S := fun w' => Blk w' w.heap.size 24 #[.int .i64 b, .int .i64 r, .int .i64 d, .int .i64 m, .int .u64 s] ∧ w.heap.size ≤ w'.heap.size) (by kernel_rfl) (by exact ⟨HX2.out.drewN 1, HB2.out.size⟩) (fun hHeld => ?_)
  refine wpAnyH_take (i := 0) (v := ?_) rfl (by kernel_rfl) (by kernel_rfl) (by kernel_rfl) (fun _ _ _ h => h) (Or.inl ⟨by rfl, ?_⟩) (by assumption) ?_
  rotate_left
  · intro w hSw
    refine (exec_load_row 24 _ rfl _ rfl 24 _ (0, 0) _ hSw.1 Tryz.underlying24 rfl (by kernel_rfl)).trans ?_
    go_simp
    try with_reducible rfl
  simp only [Act.put, List.setIfInBounds_toArray, List.set_cons_zero, List.set_cons_succ, List.getElem_toArray, List.getElem_cons_zero, List.getElem_cons_succ]
  refine wpAnyH_take (i := 1) (v := ?_) rfl (by kernel_rfl) (by kernel_rfl) (by kernel_rfl) (fun _ _ _ h => h) (Or.inl ⟨by rfl, ?_⟩) (by assumption) ?_
  rotate_left
  · intro w hSw
    try dsimp only at hSw
    go_simp
    try with_reducible rfl
  simp only [Act.put, List.setIfInBounds_toArray, List.set_cons_zero, List.set_cons_succ, List.getElem_toArray, List.getElem_cons_zero, List.getElem_cons_succ]
  refine wpAnyH_take (i := 2) (v := ?_) rfl (by kernel_rfl) (by kernel_rfl) (by kernel_rfl) (fun _ _ _ h => h) (Or.inl ⟨by rfl, ?_⟩) (by assumption) ?_
  rotate_left
  · intro w hSw
    refine (exec_load_row 24 _ rfl _ rfl 24 _ (0, 0) _ hSw.1 Tryz.underlying24 rfl (by kernel_rfl)).trans ?_
    go_simp
    try with_reducible rfl
  simp only [Act.put, List.setIfInBounds_toArray, List.set_cons_zero, List.set_cons_succ, List.getElem_toArray, List.getElem_cons_zero, List.getElem_cons_succ]
  refine wpAnyH_take (i := 3) (v := ?_) rfl (by kernel_rfl) (by kernel_rfl) (by kernel_rfl) (fun _ _ _ h => h) (Or.inl ⟨by rfl, ?_⟩) (by assumption) ?_
  rotate_left
  · intro w hSw
    try dsimp only at hSw
    go_simp
    try with_reducible rfl
  simp only [Act.put, List.setIfInBounds_toArray, List.set_cons_zero, List.set_cons_succ, List.getElem_toArray, List.getElem_cons_zero, List.getElem_cons_succ]
  refine wpAnyH_ready (rs := [4]) (by kernel_rfl) (by simp) ?_
  refine AllReadyH.cons rfl (fun Kc hKc => ?_) AllReadyH.nil
  go_simp
  go_wp2_with (first | (go_at_call 40; refine (PK.out _).mono ?_; rintro e w3 ⟨rfl, hb'⟩; have HB3 := Lib.hid (btr (below_drewN HB2.out 1) hb')) | (go_at_call 73; refine (PN.out _).mono ?_; rintro e w4 ⟨G, C, rfl, hG, hC, hg, hb'⟩; have HG4 := Lib.hid hg; have HB4 := Lib.hid (btr HB3.out hb'); have hGC : Hid (w.heap.size ≤ G ∧ w.heap.size ≤ C) := ⟨Nat.le_trans hHeld.2 hG, Nat.le_trans hHeld.2 hC⟩; clear hg))
  refine hKc.out _ _ ?_ (fun hHeld => ?_)
  · first | assumption | exact ⟨hHeld.1.kept hb', Nat.le_trans hHeld.2 hb'.size⟩ | exact ⟨hHeld.1.alloc _, by have := hHeld.2; simp; omega⟩
  clear hKc Kc
  refine wpAnyH_take (i := 5) (v := ?_) rfl (by kernel_rfl) (by kernel_rfl) (by kernel_rfl) (fun _ _ _ h => h) (Or.inl ⟨by rfl, ?_⟩) (by assumption) ?_
  rotate_left
  · intro w hSw
    try dsimp only at hSw
    go_simp
    try with_reducible rfl
  simp only [Act.put, List.setIfInBounds_toArray, List.set_cons_zero, List.set_cons_succ, List.getElem_toArray, List.getElem_cons_zero, List.getElem_cons_succ]
  refine wpAnyH_ready (rs := [6]) (by kernel_rfl) (by simp) ?_
  refine AllReadyH.cons rfl (fun Kc hKc => ?_) AllReadyH.nil
  go_simp
  go_wp2_with (first | (go_at_call 40; refine (PK.out _).mono ?_; rintro e w3 ⟨rfl, hb'⟩; have HB3 := Lib.hid (btr (below_drewN HB2.out 1) hb')) | (go_at_call 73; refine (PN.out _).mono ?_; rintro e w4 ⟨G, C, rfl, hG, hC, hg, hb'⟩; have HG4 := Lib.hid hg; have HB4 := Lib.hid (btr HB3.out hb'); have hGC : Hid (w.heap.size ≤ G ∧ w.heap.size ≤ C) := ⟨Nat.le_trans hHeld.2 hG, Nat.le_trans hHeld.2 hC⟩; clear hg))
  refine hKc.out _ _ ?_ (fun hHeld => ?_)
  · first | assumption | exact ⟨hHeld.1.kept hb', Nat.le_trans hHeld.2 hb'.size⟩ | exact ⟨hHeld.1.alloc _, by have := hHeld.2; simp; omega⟩
  clear hKc Kc
  refine wpAnyH_take (i := 7) (v := ?_) rfl (by kernel_rfl) (by kernel_rfl) (by kernel_rfl) (fun _ _ _ h => h) (Or.inl ⟨by rfl, ?_⟩) (by assumption) ?_
  rotate_left
  · intro w hSw
    try dsimp only at hSw
    go_simp
    try with_reducible rfl
  simp only [Act.put, List.setIfInBounds_toArray, List.set_cons_zero, List.set_cons_succ, List.getElem_toArray, List.getElem_cons_zero, List.getElem_cons_succ]
  refine wpAnyH_ready (rs := [8]) (by kernel_rfl) (by simp) ?_
  refine AllReadyH.cons rfl (fun Kc hKc => ?_) AllReadyH.nil
  go_simp
  refine hKc.out _ _ ?_ (fun hHeld => ?_)
  · first | assumption | exact ⟨hHeld.1.kept hb', Nat.le_trans hHeld.2 hb'.size⟩ | exact ⟨hHeld.1.alloc _, by have := hHeld.2; simp; omega⟩
  clear hKc Kc
  refine wpAnyH_take (i := 9) (v := ?_) rfl (by kernel_rfl) (by kernel_rfl) (by kernel_rfl) (fun _ _ _ h => h) (Or.inl ⟨by rfl, ?_⟩) (by assumption) ?_
  rotate_left
  · intro w hSw
    try dsimp only at hSw
    go_simp
    try with_reducible rfl
  simp only [Act.put, List.setIfInBounds_toArray, List.set_cons_zero, List.set_cons_succ, List.getElem_toArray, List.getElem_cons_zero, List.getElem_cons_succ]
  refine wpAnyH_take (i := 10) (v := ?_) rfl (by kernel_rfl) (by kernel_rfl) (by kernel_rfl) (fun _ _ _ h => h) (Or.inl ⟨by rfl, ?_⟩) (by assumption) ?_
  rotate_left
  · intro w hSw
    try dsimp only at hSw
    go_simp
    try with_reducible rfl
  simp only [Act.put, List.setIfInBounds_toArray, List.set_cons_zero, List.set_cons_succ, List.getElem_toArray, List.getElem_cons_zero, List.getElem_cons_succ]
  refine wpAnyH_done (by kernel_rfl) ?_ _
  have HNEW := Lib.hid (Blk.new w4 142 #[.int .i64 b, .int .i64 r, .int .i64 d, .int .i64 m, .int .u64 s, .int .i64 l, .pointer (some ⟨G, 0, none⟩)])
  have HAL : Hid (Below w4.heap.size w4 (w4.alloc (.cells #[.int .i64 b, .int .i64 r, .int .i64 d, .int .i64 m, .int .u64 s, .int .i64 l, .pointer (some ⟨G, 0, none⟩)] 142))) := Lib.hid ((Below.refl _ _).alloc (Nat.le_refl _) _)
  have HG5 := Lib.hid (HG4.out.kept HAL.out)
  have HB5 := Lib.hid (btr HB4.out HAL.out)
  clear hHeld
  go_wp2_with fail
  go_ret2
  exact ⟨w4.heap.size, G, C, rfl, HB4.out.size, hGC.out.1, hGC.out.2, ⟨HNEW.out, HG5.out⟩, HB5.out⟩
theorem excells (w : World) (A G C : Nat) (b r d m s l : Int) (K : Nat) (zs : List Int) (h : ArrIs w A G C b r d m s l K zs) :
    Calls Tryz.prog 119 #[.pointer (some ⟨A, 0, none⟩)] w (CellsPost w zs) := by
  have c6 := h.1.cell 6
  simp at c6
  have P := Lib.hid (cells_any w G C 1 K zs h.2)
  clear h
  go_enter Tryz.func119, Tryz.ntmps119
  go_wp2_with fail
  with_reducible refine P.out.mono ?_
  rintro e w2 ⟨v, rfl, hrest⟩
  have HR := Lib.hid hrest
  clear hrest
  go_wp2
  go_ret
  exact ⟨v, rfl, HR.out⟩
end Go.Proofs.YtbghchgmoiniiaaGreat

/-
  The walk of gaugerref02.Int. Conditions: the arguments fit their kinds.
-/
namespace Go.Proofs.YtbghchgmoiniiaaGreat
open Go.RowKit
set_option linter.unusedVariables false
set_option linter.unusedSimpArgs false

theorem Tryz.infoI : (Tryz.prog.info? 3).map (fun i => (i.zero, i.size, i.bytes)) = some (some (.int .i64 0), 1, 8) := by kernel_rfl
set_option maxRecDepth 100000 in
set_option maxHeartbeats 2000000 in
theorem lint_yes (x : Int) (x0 : -9223372036854775808 ≤ x) (x1 : x ≤ 9223372036854775807) (w : World) :
    Calls Tryz.prog 81 #[.agg (longA x)] w fun e w' => e = .returned (.tuple #[.int .i64 x, .bool true]) ∧ Below w.heap.size w w' := by
  obtain ⟨q, hq⟩ : ∃ q, low64 x = q := ⟨_, rfl⟩
  have HQ := Lib.hid hq
  have hqx : q = x := by rw [← hq]; exact low64_fit x0 x1
  have HR : Hid (decide (dig q = dig x) = true) := by rw [hqx]; exact decide_eq_true rfl
  have HQX := Lib.hid hqx
  clear x0 x1 hqx hq
  go_enter Tryz.func81, Tryz.ntmps81
  go_wp2_with fail
  obtain ⟨g1, hbel, hsz⟩ := news1 w (.cells (longA x) 158)
  have h1 : Blk _ w.heap.size 158 (longA x) := g1
  clear g1
  generalize (w.alloc (.cells (longA x) 158)) = wz at *
  generalize hA : w.heap.size = A at *
  have HA := Lib.hid hA
  have HX := Lib.hid h1
  have HB := Lib.hid hbel
  clear hA h1 hbel
  go_loopw [4, 5] (fun n i wr => ∃ j : Nat, j ≤ 4 ∧ i = .int .i64 (j : Int) ∧ n = .int .u64 (lows x j) ∧ Blk wr A 158 (longA x) ∧ Below A w wr) (fun _ i _ => 4 - (intOf i).toNat)
  case atStart => exact ⟨0, by omega, rfl, by rw [lows_zero], HX.out, HB.out⟩
  case round =>
    obtain ⟨j, hj, rfl, rfl, hx, hbel⟩ := hrel
    clear HB HX
    have HB := Lib.hid hbel
    have HX := Lib.hid hx
    clear hbel hx
    by_cases hlt : j < 4
    · have cx := (HX.out.cell j).trans (longA_get x j (by omega))
      have bx := digit_bd x j
      have bl := lows_bd x j
      have hjj : j = 0 ∨ j = 1 ∨ j = 2 ∨ j = 3 := by omega
      rcases hjj with rfl | rfl | rfl | rfl
      · have HE := Lib.hid (lor0 x)
        generalize digit x 0 = d at *
        go_wp2
        go_roundw
        case rel => exact ⟨0 + 1, by omega, rfl, by rw [HE.out], HX.out, HB.out⟩
        case measure => simp [intOf]
      · have HE := Lib.hid (lor1 x)
        generalize digit x 1 = d at *
        go_wp2
        go_roundw
        case rel => exact ⟨1 + 1, by omega, rfl, by rw [HE.out], HX.out, HB.out⟩
        case measure => simp [intOf]
      · have HE := Lib.hid (lor2 x)
        generalize digit x 2 = d at *
        go_wp2
        go_roundw
        case rel => exact ⟨2 + 1, by omega, rfl, by rw [HE.out], HX.out, HB.out⟩
        case measure => simp [intOf]
      · have HE := Lib.hid (lor3 x)
        generalize digit x 3 = d at *
        go_wp2
        go_roundw
        case rel => exact ⟨3 + 1, by omega, rfl, by rw [HE.out], HX.out, HB.out⟩
        case measure => simp [intOf]
    · obtain rfl : j = 4 := by omega
      have hlow := low64_lows x
      rw [HQ.out] at hlow
      have hlow2 : IntKind.i64.wrap (lows x 4) = q := (wrapI_eq64 _).trans hlow
      have bl := lows_bd x 4
      have bl0 : 0 ≤ lows x 4 := bl.1
      have bl1 : lows x 4 ≤ 18446744073709551615 := by have := bl.2; simp at this; omega
      generalize lows x 4 = lo at *
      have hqb : -9223372036854775808 ≤ q ∧ q ≤ 9223372036854775807 := by rw [← HQ.out]; exact low64_bd x
      obtain ⟨q0, q1⟩ := hqb
      have HINT := ofint_any q q0 q1
      have heq : ∀ w, Sem.run Tryz.prog (Op.equalIn 10000 158 (.agg (longA q)) (.agg (longA x))) w = .ok true w := fun w => by
        have := run_equalIn_ints 9998 Tryz.underlying158 Tryz.underlying3 (info_parts Tryz.infoI).choose_spec.1 (by kernel_rfl) (dig q) (dig x) (dig_len q) (dig_len x) w
        rw [HR.out] at this
        exact this
      clear bl q0 q1 bl0 bl1
      go_wp2_with fail
      refine wp_region_held_drew (S := fun w' => Blk w' A 158 (longA x) ∧ Below A w w') (by kernel_rfl) (by exact ⟨HX.out.drew, HB.out.drew⟩) (fun hHeld => ?_)
      refine wpAnyH_take (i := 0) (v := ?_) rfl (by kernel_rfl) (by kernel_rfl) (by kernel_rfl) (fun _ _ _ h => h) (Or.inl ⟨by rfl, ?_⟩) (by assumption) ?_
      rotate_left
      · intro w hSw
        try dsimp only at hSw
        go_simp
        try with_reducible rfl
      simp only [Act.put, List.setIfInBounds_toArray, List.set_cons_zero, List.set_cons_succ, List.getElem_toArray, List.getElem_cons_zero, List.getElem_cons_succ]
      refine wpAnyH_take (i := 1) (v := ?_) rfl (by kernel_rfl) (by kernel_rfl) (by kernel_rfl) (fun _ _ _ h => h) (Or.inl ⟨by rfl, ?_⟩) (by assumption) ?_
      rotate_left
      · intro w hSw
        try dsimp only at hSw
        go_simp
        try with_reducible rfl
      simp only [Act.put, List.setIfInBounds_toArray, List.set_cons_zero, List.set_cons_succ, List.getElem_toArray, List.getElem_cons_zero, List.getElem_cons_succ]
      refine wpAnyH_take (i := 3) (v := ?_) rfl (by kernel_rfl) (by kernel_rfl) (by kernel_rfl) (fun _ _ _ h => h) (Or.inl ⟨by rfl, ?_⟩) (by assumption) ?_
      rotate_left
      · intro w hSw
        refine (exec_load_row 158 _ rfl A rfl 158 (longA x) (0, 0) _ hSw.1 Tryz.underlying158 rfl (long_info x)).trans ?_
        go_simp
        try with_reducible rfl
      simp only [Act.put, List.setIfInBounds_toArray, List.set_cons_zero, List.set_cons_succ, List.getElem_toArray, List.getElem_cons_zero, List.getElem_cons_succ]
      refine wpAnyH_ready (rs := [2]) (by kernel_rfl) (by simp) ?_
      refine AllReadyH.cons rfl (fun Kc hKc => ?_) AllReadyH.nil
      go_simp
      go_wp2_with (go_at_call 83; refine (HINT _).mono ?_; rintro e w' ⟨rfl, hb'⟩)
      refine hKc.out _ _ ?_ (fun hHeld => ?_)
      · first | assumption | exact ⟨hHeld.1.kept hb', hHeld.2.trans (hb'.mono (by have := hHeld.1.lt; omega))⟩
      clear hKc Kc
      refine wpAnyH_take (i := 4) (v := ?_) rfl (by kernel_rfl) (by kernel_rfl) (by kernel_rfl) (fun _ _ _ h => h) (Or.inl ⟨by rfl, ?_⟩) (by assumption) ?_
      rotate_left
      · intro w hSw
        try dsimp only at hSw
        go_simp
        try with_reducible rfl
      simp only [Act.put, List.setIfInBounds_toArray, List.set_cons_zero, List.set_cons_succ, List.getElem_toArray, List.getElem_cons_zero, List.getElem_cons_succ]
      refine wpAnyH_done (by kernel_rfl) ?_ _
      have HB8 := Lib.hid hHeld.2
      clear hHeld
      go_wp2
      go_ret2
      exact ⟨by rw [HQX.out]; rfl, by rw [HA.out]; exact HB8.out⟩

set_option maxRecDepth 100000 in
set_option maxHeartbeats 2000000 in
theorem lint_no (x : Int) (x0 : -365375409332725729550921208179070754913983135744 ≤ x) (x1 : x ≤ 365375409332725729550921208179070754913983135744) (xn : ¬ (-9223372036854775808 ≤ x ∧ x ≤ 9223372036854775807)) (w : World) :
    Calls Tryz.prog 81 #[.agg (longA x)] w fun e w' => e = .returned (.tuple #[.int .i64 0, .bool false]) ∧ Below w.heap.size w w' := by
  obtain ⟨q, hq⟩ : ∃ q, low64 x = q := ⟨_, rfl⟩
  have HQ := Lib.hid hq
  have HR : Hid (decide (dig q = dig x) = false) := by rw [← hq]; exact decide_eq_false (dig_low64_ne x0 x1 xn)
  clear x0 x1 xn hq
  go_enter Tryz.func81, Tryz.ntmps81
  go_wp2_with fail
  obtain ⟨g1, hbel, hsz⟩ := news1 w (.cells (longA x) 158)
  have h1 : Blk _ w.heap.size 158 (longA x) := g1
  clear g1
  generalize (w.alloc (.cells (longA x) 158)) = wz at *
  generalize hA : w.heap.size = A at *
  have HA := Lib.hid hA
  have HX := Lib.hid h1
  have HB := Lib.hid hbel
  clear hA h1 hbel
  go_loopw [4, 5] (fun n i wr => ∃ j : Nat, j ≤ 4 ∧ i = .int .i64 (j : Int) ∧ n = .int .u64 (lows x j) ∧ Blk wr A 158 (longA x) ∧ Below A w wr) (fun _ i _ => 4 - (intOf i).toNat)
  case atStart => exact ⟨0, by omega, rfl, by rw [lows_zero], HX.out, HB.out⟩
  case round =>
    obtain ⟨j, hj, rfl, rfl, hx, hbel⟩ := hrel
    clear HB HX
    have HB := Lib.hid hbel
    have HX := Lib.hid hx
    clear hbel hx
    by_cases hlt : j < 4
    · have cx := (HX.out.cell j).trans (longA_get x j (by omega))
      have bx := digit_bd x j
      have bl := lows_bd x j
      have hjj : j = 0 ∨ j = 1 ∨ j = 2 ∨ j = 3 := by omega
      rcases hjj with rfl | rfl | rfl | rfl
      · have HE := Lib.hid (lor0 x)
        generalize digit x 0 = d at *
        go_wp2
        go_roundw
        case rel => exact ⟨0 + 1, by omega, rfl, by rw [HE.out], HX.out, HB.out⟩
        case measure => simp [intOf]
      · have HE := Lib.hid (lor1 x)
        generalize digit x 1 = d at *
        go_wp2
        go_roundw
        case rel => exact ⟨1 + 1, by omega, rfl, by rw [HE.out], HX.out, HB.out⟩
        case measure => simp [intOf]
      · have HE := Lib.hid (lor2 x)
        generalize digit x 2 = d at *
        go_wp2
        go_roundw
        case rel => exact ⟨2 + 1, by omega, rfl, by rw [HE.out], HX.out, HB.out⟩
        case measure => simp [intOf]
      · have HE := Lib.hid (lor3 x)
        generalize digit x 3 = d at *
        go_wp2
        go_roundw
        case rel => exact ⟨3 + 1, by omega, rfl, by rw [HE.out], HX.out, HB.out⟩
        case measure => simp [intOf]
    · obtain rfl : j = 4 := by omega
      have hlow := low64_lows x
      rw [HQ.out] at hlow
      have hlow2 : IntKind.i64.wrap (lows x 4) = q := (wrapI_eq64 _).trans hlow
      have bl := lows_bd x 4
      have bl0 : 0 ≤ lows x 4 := bl.1
      have bl1 : lows x 4 ≤ 18446744073709551615 := by have := bl.2; simp at this; omega
      generalize lows x 4 = lo at *
      have hqb : -9223372036854775808 ≤ q ∧ q ≤ 9223372036854775807 := by rw [← HQ.out]; exact low64_bd x
      obtain ⟨q0, q1⟩ := hqb
      have HINT := ofint_any q q0 q1
      have heq : ∀ w, Sem.run Tryz.prog (Op.equalIn 10000 158 (.agg (longA q)) (.agg (longA x))) w = .ok false w := fun w => by
        have := run_equalIn_ints 9998 Tryz.underlying158 Tryz.underlying3 (info_parts Tryz.infoI).choose_spec.1 (by kernel_rfl) (dig q) (dig x) (dig_len q) (dig_len x) w
        rw [HR.out] at this
        exact this
      clear bl q0 q1 bl0 bl1
      go_wp2_with fail
      refine wp_region_held_drew (S := fun w' => Blk w' A 158 (longA x) ∧ Below A w w') (by kernel_rfl) (by exact ⟨HX.out.drew, HB.out.drew⟩) (fun hHeld => ?_)
      refine wpAnyH_take (i := 0) (v := ?_) rfl (by kernel_rfl) (by kernel_rfl) (by kernel_rfl) (fun _ _ _ h => h) (Or.inl ⟨by rfl, ?_⟩) (by assumption) ?_
      rotate_left
      · intro w hSw
        try dsimp only at hSw
        go_simp
        try with_reducible rfl
      simp only [Act.put, List.setIfInBounds_toArray, List.set_cons_zero, List.set_cons_succ, List.getElem_toArray, List.getElem_cons_zero, List.getElem_cons_succ]
      refine wpAnyH_take (i := 1) (v := ?_) rfl (by kernel_rfl) (by kernel_rfl) (by kernel_rfl) (fun _ _ _ h => h) (Or.inl ⟨by rfl, ?_⟩) (by assumption) ?_
      rotate_left
      · intro w hSw
        try dsimp only at hSw
        go_simp
        try with_reducible rfl
      simp only [Act.put, List.setIfInBounds_toArray, List.set_cons_zero, List.set_cons_succ, List.getElem_toArray, List.getElem_cons_zero, List.getElem_cons_succ]
      refine wpAnyH_take (i := 3) (v := ?_) rfl (by kernel_rfl) (by kernel_rfl) (by kernel_rfl) (fun _ _ _ h => h) (Or.inl ⟨by rfl, ?_⟩) (by assumption) ?_
      rotate_left
      · intro w hSw
        refine (exec_load_row 158 _ rfl A rfl 158 (longA x) (0, 0) _ hSw.1 Tryz.underlying158 rfl (long_info x)).trans ?_
        go_simp
        try with_reducible rfl
      simp only [Act.put, List.setIfInBounds_toArray, List.set_cons_zero, List.set_cons_succ, List.getElem_toArray, List.getElem_cons_zero, List.getElem_cons_succ]
      refine wpAnyH_ready (rs := [2]) (by kernel_rfl) (by simp) ?_
      refine AllReadyH.cons rfl (fun Kc hKc => ?_) AllReadyH.nil
      go_simp
      go_wp2_with (go_at_call 83; refine (HINT _).mono ?_; rintro e w' ⟨rfl, hb'⟩)
      refine hKc.out _ _ ?_ (fun hHeld => ?_)
      · first | assumption | exact ⟨hHeld.1.kept hb', hHeld.2.trans (hb'.mono (by have := hHeld.1.lt; omega))⟩
      clear hKc Kc
      refine wpAnyH_take (i := 4) (v := ?_) rfl (by kernel_rfl) (by kernel_rfl) (by kernel_rfl) (fun _ _ _ h => h) (Or.inl ⟨by rfl, ?_⟩) (by assumption) ?_
      rotate_left
      · intro w hSw
        try dsimp only at hSw
        go_simp
        try with_reducible rfl
      simp only [Act.put, List.setIfInBounds_toArray, List.set_cons_zero, List.set_cons_succ, List.getElem_toArray, List.getElem_cons_zero, List.getElem_cons_succ]
      refine wpAnyH_done (by kernel_rfl) ?_ _
      have HB8 := Lib.hid hHeld.2
      clear hHeld
      go_wp2
      go_ret2
      exact ⟨rfl, by rw [HA.out]; exact HB8.out⟩

end Go.Proofs.YtbghchgmoiniiaaGreat

/-
  The walks of exact: Check, Update, Config, Load, Copy. Conditions: none beyond those stated at each theorem.
-/
namespace Go.Proofs.YtbghchgmoiniiaaGreat
open Go.RowKit
set_option linter.unusedVariables false
set_option linter.unusedSimpArgs false

theorem ArrIs.kept {w w' : World} {A G C : Nat} {b r d m s l : Int} {K : Nat} {zs : List Int} (h : ArrIs w A G C b r d m s l K zs) (hb : Below w.heap.size w w') : ArrIs w' A G C b r d m s l K zs := ⟨h.1.kept hb, h.2.kept hb⟩
theorem ArrIs.ltA {w : World} {A G C : Nat} {b r d m s l : Int} {K : Nat} {zs : List Int} (h : ArrIs w A G C b r d m s l K zs) : A < w.heap.size := h.1.lt
theorem ArrIs.grown {w w' : World} {A G C : Nat} {b r d m s l : Int} {K : Nat} {zs : List Int} {row : Option Nat} (h : ArrIs w A G C b r d m s l K zs) (hb : w.grownBy w' row) (h0 : some A ≠ row) (h1 : some G ≠ row) (h2 : some C ≠ row) : ArrIs w' A G C b r d m s l K zs := ⟨h.1.grown hb h0, h.2.grown hb h1 h2⟩
theorem ArrIs.drewN {w : World} {A G C : Nat} {b r d m s l : Int} {K : Nat} {zs : List Int} (h : ArrIs w A G C b r d m s l K zs) (n : Nat) : ArrIs (w.drewN n) A G C b r d m s l K zs := h.kept (below_drewN (Below.refl _ _) n)
theorem ArrIs.neAC {w : World} {A G C : Nat} {b r d m s l : Int} {K : Nat} {zs : List Int} (h : ArrIs w A G C b r d m s l K zs) : A ≠ C := by
  obtain ⟨cur, hc, _⟩ := h.2.cells
  exact h.1.ne_ hc (by decide)
/-- the same array, its numbers others, laid by what changes the numbers' block alone -/
theorem ArrIs.put {w w' : World} {A G C : Nat} {b r d m s l : Int} {K : Nat} {zs zs' : List Int} (h : ArrIs w A G C b r d m s l K zs) (hb : w.grownBy w' (some C)) (hg : GridIs w' G C 1 K zs') : ArrIs w' A G C b r d m s l K zs' := ⟨h.1.grown hb (by simpa using h.neAC), hg⟩

instance (x : Int) : Decidable (In64 x) := by unfold In64; infer_instance
def chkI (K : Nat) (m : Int) (zs : List Int) (k : Nat) (d : Int) : Int := if K ≤ k then 2 else if m = 2 ∧ d < 0 then 3 else if In64 (cellD zs k + d) then 0 else 4
def updZ (K : Nat) (m : Int) (zs : List Int) (k : Nat) (d : Int) : List Int := if chkI K m zs k d = 0 then zs.set k (cellD zs k + d) else zs
theorem fitC {zs : List Int} (h : Fit zs) (i : Nat) : In64 (cellD zs i) := by
  unfold cellD
  cases hz : zs[i]? with
  | none => exact ⟨by simp, by simp⟩
  | some x => exact h.get hz
theorem ret_i64q {a b : Int} (h : a = b) : Ending.returned (.int .i64 a) = .returned (.int .i64 b) := by rw [h]

set_option maxHeartbeats 2000000 in
theorem excheck (w : World) (A G C : Nat) (b r d m s l : Int) (K k : Nat) (zs : List Int) (x : Int) (h : ArrIs w A G C b r d m s l K zs) (hx : In64 x) (hk64 : k < 18446744073709551616) :
    Calls Tryz.prog 120 #[.pointer (some ⟨A, 0, none⟩), .int .u64 (k : Int), .int .i64 x] w fun e w' => e = .returned (.int .i64 (chkI K m zs k x)) ∧ Below w.heap.size w w' := by
  have c3 := h.1.cell 3
  have c6 := h.1.cell 6
  simp at c3 c6
  have hw := h.2.width
  have P := Lib.hid (width_any w G C 1 K zs h.2)
  have e2 : IntKind.u64.wrap (K : Int) = (K : Int) := by rw [wrapU_mod]; omega
  by_cases hlt : k < K
  · have P2 : Calls Tryz.prog 129 #[.pointer (some ⟨G, 0, none⟩), .int .i64 0, .int .i64 (k : Int)] w fun e w' => e = .returned (.int .i64 (cellD zs k)) ∧ w = w' := by
      have := at_in w G C 1 K 0 k zs h.2 (by decide) hlt
      simpa using this
    have P2 := Lib.hid P2
    have hz := fitC h.2.fit k
    have e1 : decide ((K : Int) ≤ (k : Int)) = false := decide_eq_false (by omega)
    have e1' : decide (K ≤ k) = false := decide_eq_false (by omega)
    have e3 : IntKind.i64.wrap (k : Int) = (k : Int) := by simp [IntKind.wrap, IntKind.bits, IntKind.signed]; split <;> omega
    obtain ⟨q, hq⟩ : ∃ q, q = chkI K m zs k x := ⟨_, rfl⟩
    rw [← hq]
    unfold chkI at hq
    rw [if_neg (by omega)] at hq
    clear h hlt hk64
    by_cases hm : m = 2 ∧ x < 0
    · obtain ⟨rfl, hx0⟩ := hm
      have e4 : decide (x < 0) = true := decide_eq_true hx0
      have HQ : Hid (q = 3) := by show _ = _; rw [hq, if_pos ⟨rfl, hx0⟩]
      clear hq hx0
      go_enter Tryz.func120, Tryz.ntmps120
      go_wp2_with fail
      with_reducible refine P.out.mono ?_
      rintro e w2 ⟨rfl, hw2⟩
      subst hw2
      go_wp2
      go_ret
      exact ⟨ret_i64q HQ.out.symm, Below.refl _ _⟩
    · rw [if_neg hm] at hq
      have hdec : (m ≠ 2 ∧ (m == 2) = false ∧ decide (m = 2) = false) ∨ ((m == 2) = true ∧ decide (m = 2) = true ∧ m = 2 ∧ decide (x < 0) = false) := by
        by_cases h2 : m = 2
        · right; exact ⟨by simp [h2], by simp [h2], h2, decide_eq_false (fun hh => hm ⟨h2, hh⟩)⟩
        · left; exact ⟨h2, by simp [h2], by simp [h2]⟩
      clear hm
      have P3 := fun w => opok_plus (cellD zs k) x w hz hx
      by_cases h64 : In64 (cellD zs k + x)
      · have P3 := fun w => (P3 w).1 h64
        have P3 := Lib.hid P3
        have HQ : Hid (q = 0) := by show _ = _; rw [hq, if_pos h64]
        clear hq h64 hz
        generalize cellD zs k = z at *
        rcases hdec with ⟨hm2, d1, d2⟩ | ⟨d1, d2, hm2, d3⟩
        all_goals
          first | subst hm2 | skip
          go_enter Tryz.func120, Tryz.ntmps120
          go_wp2_with fail
          with_reducible refine P.out.mono ?_
          rintro e w2 ⟨rfl, hw2⟩
          subst hw2
          go_wp2_with fail
          with_reducible refine P2.out.mono ?_
          rintro e w2 ⟨rfl, hw2⟩
          subst hw2
          go_wp2_with fail
          with_reducible refine (P3.out _).mono ?_
          rintro e w3 ⟨rfl, hb⟩
          have HB := Lib.hid hb
          clear hb
          go_wp2
          go_ret
          exact ⟨ret_i64q HQ.out.symm, HB.out⟩
      · have P3 := fun w => (P3 w).2 h64
        have P3 := Lib.hid P3
        have HQ : Hid (q = 4) := by show _ = _; rw [hq, if_neg h64]
        clear hq h64 hz
        generalize cellD zs k = z at *
        rcases hdec with ⟨hm2, d1, d2⟩ | ⟨d1, d2, hm2, d3⟩
        all_goals
          first | subst hm2 | skip
          go_enter Tryz.func120, Tryz.ntmps120
          go_wp2_with fail
          with_reducible refine P.out.mono ?_
          rintro e w2 ⟨rfl, hw2⟩
          subst hw2
          go_wp2_with fail
          with_reducible refine P2.out.mono ?_
          rintro e w2 ⟨rfl, hw2⟩
          subst hw2
          go_wp2_with fail
          with_reducible refine (P3.out _).mono ?_
          rintro e w3 ⟨rfl, hb⟩
          have HB := Lib.hid hb
          clear hb
          go_wp2
          go_ret
          exact ⟨ret_i64q HQ.out.symm, HB.out⟩
  · have HQ : Hid (chkI K m zs k x = 2) := by show _ = _; unfold chkI; rw [if_pos (by omega)]
    have e1 : decide ((K : Int) ≤ (k : Int)) = true := decide_eq_true (by omega)
    have e1' : decide (K ≤ k) = true := decide_eq_true (by omega)
    clear h hlt
    go_enter Tryz.func120, Tryz.ntmps120
    go_wp2_with fail
    with_reducible refine P.out.mono ?_
    rintro e w2 ⟨rfl, hw2⟩
    subst hw2
    go_wp2
    go_ret
    exact ⟨ret_i64q HQ.out.symm, Below.refl _ _⟩

def UpdPost (w : World) (A G C : Nat) (b r d m s l : Int) (K : Nat) (zs : List Int) (k : Nat) (x : Int) (e : Ending) (w' : World) : Prop :=
  e = .returned (.int .i64 (chkI K m zs k x)) ∧ ArrIs w' A G C b r d m s l K (updZ K m zs k x) ∧ w.grownBy w' (some C)
theorem below_gr {w w' : World} {row : Option Nat} (h : Below w.heap.size w w') : w.grownBy w' row := ⟨h.os, h.tape, h.output, h.size, fun k hk _ => h.block k hk⟩
theorem gr_trans {w w1 w2 : World} {row : Option Nat} (h : w.grownBy w1 row) (k : w1.grownBy w2 row) : w.grownBy w2 row :=
  ⟨k.os.trans h.os, k.tape.trans h.tape, k.output.trans h.output, Nat.le_trans h.size k.size, fun j hj hne => (k.block j (Nat.lt_of_lt_of_le hj h.size) hne).trans (h.block j hj hne)⟩
theorem chkI_ok {K : Nat} {m : Int} {zs : List Int} {k : Nat} {x : Int} (h : chkI K m zs k x = 0) : k < K ∧ In64 (cellD zs k + x) := by
  unfold chkI at h
  split at h
  · omega
  split at h
  · omega
  split at h
  · exact ⟨by omega, by assumption⟩
  · omega

set_option maxRecDepth 100000 in
set_option maxHeartbeats 4000000 in
theorem exupdate (w : World) (A G C : Nat) (b r d m s l : Int) (K k : Nat) (zs : List Int) (x : Int) (h : ArrIs w A G C b r d m s l K zs) (hx : In64 x) (hk64 : k < 18446744073709551616) :
    Calls Tryz.prog 125 #[.pointer (some ⟨A, 0, none⟩), .int .u64 (k : Int), .int .i64 x] w (UpdPost w A G C b r d m s l K zs k x) := by
  have PC := excheck w A G C b r d m s l K k zs x h hx hk64
  by_cases hc : chkI K m zs k x = 0
  · obtain ⟨hlt, h64⟩ := chkI_ok hc
    have hW := h.2.width
    have HU : Hid (UpdPost w A G C b r d m s l K zs k x = fun e w' => e = .returned (.int .i64 0) ∧ ArrIs w' A G C b r d m s l K (zs.set k (cellD zs k + x)) ∧ w.grownBy w' (some C)) := Lib.hid (by
      unfold UpdPost updZ; simp only [hc, if_pos])
    rw [HU.out]
    rw [hc] at PC
    have PC := Lib.hid PC
    have HA := Lib.hid h
    have P2 : Hid (∀ w', GridIs w' G C 1 K zs → Calls Tryz.prog 129 #[.pointer (some ⟨G, 0, none⟩), .int .i64 0, .int .i64 (k : Int)] w' fun e w'' => e = .returned (.int .i64 (cellD zs k)) ∧ w' = w'') := Lib.hid (fun w' h' => by
      have := at_in w' G C 1 K 0 k zs h' (by decide) hlt
      simpa using this)
    have P3 : Hid (∀ w', GridIs w' G C 1 K zs → Calls Tryz.prog 130 #[.pointer (some ⟨G, 0, none⟩), .int .i64 0, .int .i64 (k : Int), .int .i64 (cellD zs k + x)] w' fun e w'' => e = .returned (.bool true) ∧ w'' = w'.setCell ⟨C, k, none⟩ (.int .i64 (cellD zs k + x))) := Lib.hid (fun w' h' => by
      have := put_in w' G C 1 K 0 k (cellD zs k + x) zs h' (by decide) hlt
      simpa using this)
    have hAC : A ≠ C := h.neAC
    have e3 : IntKind.i64.wrap (k : Int) = (k : Int) := by simp [IntKind.wrap, IntKind.bits, IntKind.signed]; split <;> omega
    have H64 := Lib.hid h64
    have e5 : wrap64 (cellD zs k + x) = cellD zs k + x := by unfold wrap64; unfold In64 at h64; omega
    have e6 : IntKind.i64.wrap (cellD zs k + x) = cellD zs k + x := wrapI_of _ h64.1 h64.2
    clear h hlt h64 hk64 hc hW HU hx
    generalize hz : cellD zs k = z at *
    have HZ := Lib.hid hz
    clear hz
    go_enter Tryz.func125, Tryz.ntmps125
    go_wp2_with fail
    with_reducible refine PC.out.mono ?_
    rintro e w2 ⟨rfl, hb⟩
    have HA2 := Lib.hid (HA.out.kept hb)
    have HG2 : Hid (w.grownBy w2 (some C)) := Lib.hid (below_gr hb)
    clear hb
    go_wp2_with fail
    refine wp_region_held_drew (S := fun w' => Blk w' A 142 #[.int .i64 b, .int .i64 r, .int .i64 d, .int .i64 m, .int .u64 s, .int .i64 l, .pointer (some ⟨G, 0, none⟩)]) (by kernel_rfl) (by exact HA2.out.1.drewN 1) (fun hHeld => ?_)
    refine wpAnyH_take (i := 0) (v := ?_) rfl (by kernel_rfl) (by kernel_rfl) (by kernel_rfl) (fun _ _ _ h => h) (Or.inl ⟨by rfl, ?_⟩) (by assumption) ?_
    rotate_left
    · intro w hSw
      try dsimp only at hSw
      go_simp
      try with_reducible rfl
    simp only [Act.put, List.setIfInBounds_toArray, List.set_cons_zero, List.set_cons_succ, List.getElem_toArray, List.getElem_cons_zero, List.getElem_cons_succ]
    refine wpAnyH_take (i := 1) (v := ?_) rfl (by kernel_rfl) (by kernel_rfl) (by kernel_rfl) (fun _ _ _ h => h) (Or.inl ⟨by rfl, ?_⟩) (by assumption) ?_
    rotate_left
    · intro w hSw
      try dsimp only at hSw
      go_simp
      try with_reducible rfl
    simp only [Act.put, List.setIfInBounds_toArray, List.set_cons_zero, List.set_cons_succ, List.getElem_toArray, List.getElem_cons_zero, List.getElem_cons_succ]
    refine wpAnyH_take (i := 2) (v := ?_) rfl (by kernel_rfl) (by kernel_rfl) (by kernel_rfl) (fun _ _ _ h => h) (Or.inl ⟨by rfl, ?_⟩) (by assumption) ?_
    rotate_left
    · intro w hSw
      try dsimp only at hSw
      go_simp
      try with_reducible rfl
    simp only [Act.put, List.setIfInBounds_toArray, List.set_cons_zero, List.set_cons_succ, List.getElem_toArray, List.getElem_cons_zero, List.getElem_cons_succ]
    refine wpAnyH_take (i := 3) (v := ?_) rfl (by kernel_rfl) (by kernel_rfl) (by kernel_rfl) (fun _ _ _ h => h) (Or.inl ⟨by rfl, ?_⟩) (by assumption) ?_
    rotate_left
    · intro w hSw
      have q6 := hSw.cell 6
      simp at q6
      go_simp
      try with_reducible rfl
    simp only [Act.put, List.setIfInBounds_toArray, List.set_cons_zero, List.set_cons_succ, List.getElem_toArray, List.getElem_cons_zero, List.getElem_cons_succ]
    refine wpAnyH_take (i := 4) (v := ?_) rfl (by kernel_rfl) (by kernel_rfl) (by kernel_rfl) (fun _ _ _ h => h) (Or.inl ⟨by rfl, ?_⟩) (by assumption) ?_
    rotate_left
    · intro w hSw
      try dsimp only at hSw
      go_simp
      try with_reducible rfl
    simp only [Act.put, List.setIfInBounds_toArray, List.set_cons_zero, List.set_cons_succ, List.getElem_toArray, List.getElem_cons_zero, List.getElem_cons_succ]
    refine wpAnyH_take (i := 5) (v := ?_) rfl (by kernel_rfl) (by kernel_rfl) (by kernel_rfl) (fun _ _ _ h => h) (Or.inl ⟨by rfl, ?_⟩) (by assumption) ?_
    rotate_left
    · intro w hSw
      try dsimp only at hSw
      go_simp
      try with_reducible rfl
    simp only [Act.put, List.setIfInBounds_toArray, List.set_cons_zero, List.set_cons_succ, List.getElem_toArray, List.getElem_cons_zero, List.getElem_cons_succ]
    refine wpAnyH_take (i := 6) (v := ?_) rfl (by kernel_rfl) (by kernel_rfl) (by kernel_rfl) (fun _ _ _ h => h) (Or.inl ⟨by rfl, ?_⟩) (by assumption) ?_
    rotate_left
    · intro w hSw
      try dsimp only at hSw
      go_simp
      try with_reducible rfl
    simp only [Act.put, List.setIfInBounds_toArray, List.set_cons_zero, List.set_cons_succ, List.getElem_toArray, List.getElem_cons_zero, List.getElem_cons_succ]
    refine wpAnyH_take (i := 7) (v := ?_) rfl (by kernel_rfl) (by kernel_rfl) (by kernel_rfl) (fun _ _ _ h => h) (Or.inl ⟨by rfl, ?_⟩) (by assumption) ?_
    rotate_left
    · intro w hSw
      try dsimp only at hSw
      go_simp
      try with_reducible rfl
    simp only [Act.put, List.setIfInBounds_toArray, List.set_cons_zero, List.set_cons_succ, List.getElem_toArray, List.getElem_cons_zero, List.getElem_cons_succ]
    refine wpAnyH_take (i := 8) (v := ?_) rfl (by kernel_rfl) (by kernel_rfl) (by kernel_rfl) (fun _ _ _ h => h) (Or.inl ⟨by rfl, ?_⟩) (by assumption) ?_
    rotate_left
    · intro w hSw
      try dsimp only at hSw
      go_simp
      try with_reducible rfl
    simp only [Act.put, List.setIfInBounds_toArray, List.set_cons_zero, List.set_cons_succ, List.getElem_toArray, List.getElem_cons_zero, List.getElem_cons_succ]
    refine wpAnyH_take (i := 9) (v := ?_) rfl (by kernel_rfl) (by kernel_rfl) (by kernel_rfl) (fun _ _ _ h => h) (Or.inl ⟨by rfl, ?_⟩) (by assumption) ?_
    rotate_left
    · intro w hSw
      have q6 := hSw.cell 6
      simp at q6
      go_simp
      try with_reducible rfl
    simp only [Act.put, List.setIfInBounds_toArray, List.set_cons_zero, List.set_cons_succ, List.getElem_toArray, List.getElem_cons_zero, List.getElem_cons_succ]
    refine wpAnyH_take (i := 10) (v := ?_) rfl (by kernel_rfl) (by kernel_rfl) (by kernel_rfl) (fun _ _ _ h => h) (Or.inl ⟨by rfl, ?_⟩) (by assumption) ?_
    rotate_left
    · intro w hSw
      try dsimp only at hSw
      go_simp
      try with_reducible rfl
    simp only [Act.put, List.setIfInBounds_toArray, List.set_cons_zero, List.set_cons_succ, List.getElem_toArray, List.getElem_cons_zero, List.getElem_cons_succ]
    refine wpAnyH_take (i := 11) (v := ?_) rfl (by kernel_rfl) (by kernel_rfl) (by kernel_rfl) (fun _ _ _ h => h) (Or.inl ⟨by rfl, ?_⟩) (by assumption) ?_
    rotate_left
    · intro w hSw
      try dsimp only at hSw
      go_simp
      try with_reducible rfl
    simp only [Act.put, List.setIfInBounds_toArray, List.set_cons_zero, List.set_cons_succ, List.getElem_toArray, List.getElem_cons_zero, List.getElem_cons_succ]
    refine wpAnyH_take (i := 13) (v := ?_) rfl (by kernel_rfl) (by kernel_rfl) (by kernel_rfl) (fun _ _ _ h => h) (Or.inl ⟨by rfl, ?_⟩) (by assumption) ?_
    rotate_left
    · intro w hSw
      try dsimp only at hSw
      go_simp
      try with_reducible rfl
    simp only [Act.put, List.setIfInBounds_toArray, List.set_cons_zero, List.set_cons_succ, List.getElem_toArray, List.getElem_cons_zero, List.getElem_cons_succ]
    refine wpAnyH_ready (rs := [12]) (by kernel_rfl) (by simp) ?_
    refine AllReadyH.cons rfl (fun Kc hKc => ?_) AllReadyH.nil
    go_simp
    go_wp2_with (first | (go_at_call 129; refine (P2.out _ (HA2.out.2.drewN 1)).mono ?_; rintro e w' ⟨rfl, hw'⟩; subst hw') | (go_at_call 130; refine (P3.out _ (HA2.out.2.drewN 1)).mono ?_; rintro e w5 ⟨rfl, hw5⟩; have HW5 := Lib.hid hw5; clear hw5))
    refine hKc.out _ _ ?_ (fun hHeld => ?_)
    · first | exact hHeld | (rw [HW5.out]; exact hHeld.far hAC _)
    clear hKc Kc
    refine wpAnyH_take (i := 14) (v := ?_) rfl (by kernel_rfl) (by kernel_rfl) (by kernel_rfl) (fun _ _ _ h => h) (Or.inl ⟨by rfl, ?_⟩) (by assumption) ?_
    rotate_left
    · intro w hSw
      try dsimp only at hSw
      go_simp
      try with_reducible rfl
    simp only [Act.put, List.setIfInBounds_toArray, List.set_cons_zero, List.set_cons_succ, List.getElem_toArray, List.getElem_cons_zero, List.getElem_cons_succ]
    refine wpAnyH_ready (rs := [15]) (by kernel_rfl) (by simp) ?_
    refine AllReadyH.cons rfl (fun Kc hKc => ?_) AllReadyH.nil
    go_simp
    go_wp2_with (first | (go_at_call 129; refine (P2.out _ (HA2.out.2.drewN 1)).mono ?_; rintro e w' ⟨rfl, hw'⟩; subst hw') | (go_at_call 130; refine (P3.out _ (HA2.out.2.drewN 1)).mono ?_; rintro e w5 ⟨rfl, hw5⟩; have HW5 := Lib.hid hw5; clear hw5))
    refine hKc.out _ _ ?_ (fun hHeld => ?_)
    · first | exact hHeld | (rw [HW5.out]; exact hHeld.far hAC _)
    clear hKc Kc
    refine wpAnyH_done (by kernel_rfl) ?_ _
    clear hHeld
    go_wp2
    go_ret
    refine ⟨rfl, ?_, ?_⟩
    · rw [HW5.out]
      exact (HA2.out.drewN 1).put (grown_set _ _ _ _) ((HA2.out.2.drewN 1).set k _ H64.out.1 H64.out.2)
    · rw [HW5.out]
      exact gr_trans HG2.out (gr_trans (below_gr (below_drewN (Below.refl _ _) 1)) (grown_set _ _ _ _))
  · have HU : Hid (UpdPost w A G C b r d m s l K zs k x = fun e w' => e = .returned (.int .i64 (chkI K m zs k x)) ∧ ArrIs w' A G C b r d m s l K zs ∧ w.grownBy w' (some C)) := Lib.hid (by
      unfold UpdPost updZ; simp only [if_neg hc])
    rw [HU.out]
    have PC := Lib.hid PC
    have HA := Lib.hid h
    generalize chkI K m zs k x = q at *
    have d1 : (q == 0) = false := by simpa using hc
    have d2 : decide (q = 0) = false := by simpa using hc
    clear h hk64 HU hx
    go_enter Tryz.func125, Tryz.ntmps125
    go_wp2_with fail
    with_reducible refine PC.out.mono ?_
    rintro e w2 ⟨rfl, hb⟩
    have HA2 := Lib.hid (HA.out.kept hb)
    have HG2 : Hid (w.grownBy w2 (some C)) := Lib.hid (below_gr hb)
    clear hb
    go_wp2
    go_ret
    exact ⟨rfl, HA2.out, HG2.out⟩
end Go.Proofs.YtbghchgmoiniiaaGreat

/-
  Plain, no program: the shape of an argument's type, and what a reading of it tells of its cells. Conditions: none beyond those stated at each theorem.
-/
namespace Go.Proofs.YtbghchgmoiniiaaGreat
open Go.RowKit
set_option linter.unusedVariables false

/-- the shape of a type: integers, bools, slices, and rows of these (structs and arrays) -/
inductive Sh where
  | int (k : IntKind)
  | bool
  | slice (e : Sh)
  | unit
  | cons (a b : Sh)
  | agg (s : Sh)

def Sh.size : Sh → Nat
  | .int _ => 1
  | .bool => 1
  | .slice _ => 1
  | .unit => 0
  | .cons a b => a.size + b.size
  | .agg s => s.size

/-- does the type have the shape (first part); do the fields, from an offset on (second part)? -/
def Sh.chk (P : Program) : Sh → (TypeId → Bool) × (List (Nat × TypeId) → Nat → Bool)
  | .int k => (fun t => match P.underlying t with | some (.int k') => decide (k' = k) | _ => false, fun _ _ => false)
  | .bool => (fun t => match P.underlying t with | some .bool => true | _ => false, fun _ _ => false)
  | .slice e => (fun t => match P.underlying t with | some (.slice te) => decide (P.cellsOf te = e.size) && (decide (0 < e.size) && (e.chk P).1 te) | _ => false, fun _ _ => false)
  | .unit => (fun _ => false, fun l _ => l.isEmpty)
  | .cons a b => (fun _ => false, fun l off => match l with | (o, t) :: l => decide (o = off) && decide (P.cellsOf t = a.size) && (a.chk P).1 t && (b.chk P).2 l (off + a.size) | [] => false)
  | .agg s => (fun t => decide (P.cellsOf t = s.size) && match P.underlying t with
      | some (.struct fs) => (s.chk P).2 (fs.toList.map fun f => (f.offset, f.type)) 0
      | some (.array n te) => (s.chk P).2 ((List.range n).map fun i => (i * P.cellsOf te, te)) 0
      | _ => false, fun _ _ => false)

/-- what the cells of a thing of the shape are -/
def Sh.reads (w : World) : Sh → List Value → Prop
  | .int k, cs => ∃ n, cs = [.int k n] ∧ (Lit.int k n).wf = true
  | .bool, cs => ∃ b, cs = [.bool b]
  | .slice e, cs => ∃ (ao : Option Addr) (len cap : Nat), cs = [.slice ao len cap] ∧ len ≤ cap ∧ cap ≤ maxLen ∧
      (0 < len → ∃ b off, ao = some ⟨b, off, none⟩ ∧ b < w.heap.size ∧
        ∀ i, i < len → ∃ cs', cs'.length = e.size ∧ (∀ j, j < e.size → w.cell? ⟨b, off + (i * e.size + j), none⟩ = cs'[j]?) ∧ e.reads w cs')
  | .unit, cs => cs = []
  | .cons a b, cs => ∃ c d, cs = c ++ d ∧ a.reads w c ∧ b.reads w d
  | .agg s, cs => s.reads w cs

/-- the value of an argument of the shape -/
def Sh.Val (w : World) (sh : Sh) (v : Value) : Prop :=
  match sh with
  | .agg s => ∃ cs : Array Value, v = .agg cs ∧ s.reads w cs.toList
  | sh => sh.reads w [v]

section
variable {H : Type} {enc : TypeId × Value → H} {P : Program} {w : World} {spare : Nat → Bool} {held : Bool}

theorem cell_block {w : World} {a : Addr} {v : Value} (h : w.cell? a = some v) : a.block < w.heap.size := by
  rcases Nat.lt_or_ge a.block w.heap.size with h' | h'
  · exact h'
  · unfold World.cell? at h
    rw [Array.getElem?_eq_none h'] at h
    cases h

theorem addr_add (b off n : Nat) : (Addr.mk b off none).add n = ⟨b, off + n, none⟩ := by
  unfold Addr.add
  split <;> simp_all

theorem reads_of_trod : ∀ (sh : Sh),
    (∀ (t : TypeId) (fuel : Nat) (cs : List Value) (x : DataW H × List MemPlace), (sh.chk P).1 t = true → DataW.trod enc P w 0 spare held fuel t cs = some x → sh.reads w cs) ∧
    (∀ (l : List (Nat × TypeId)) (off fuel : Nat) (cs : List Value), (sh.chk P).2 l off = true → off + sh.size ≤ cs.length →
      (∀ q, q ∈ l → ∃ x, DataW.trod enc P w 0 spare held fuel q.2 ((cs.drop q.1).take (P.cellsOf q.2)) = some x) → sh.reads w ((cs.drop off).take sh.size)) := by
  intro sh
  induction sh with
  | int k =>
    refine ⟨fun t fuel cs x hc h => ?_, fun l off fuel cs hc => by simp [Sh.chk] at hc⟩
    cases hu : P.underlying t with
    | none => simp [Sh.chk, hu] at hc
    | some u =>
      simp only [Sh.chk, hu] at hc
      cases u <;> simp at hc
      subst hc
      obtain ⟨n, h1, _, h3⟩ := DataW.trod_int hu h
      exact ⟨n, h1, h3⟩
  | bool =>
    refine ⟨fun t fuel cs x hc h => ?_, fun l off fuel cs hc => by simp [Sh.chk] at hc⟩
    cases hu : P.underlying t with
    | none => simp [Sh.chk, hu] at hc
    | some u =>
      simp only [Sh.chk, hu] at hc
      cases u <;> simp at hc
      cases fuel with
      | zero => simp [DataW.trod] at h
      | succ n =>
        unfold DataW.trod at h
        rw [hu] at h
        split at h <;> simp_all
        exact ⟨_, rfl⟩
  | slice e ih =>
    refine ⟨fun t fuel cs x hc h => ?_, fun l off fuel cs hc => by simp [Sh.chk] at hc⟩
    cases hu : P.underlying t with
    | none => simp [Sh.chk, hu] at hc
    | some u =>
      simp only [Sh.chk, hu] at hc
      cases u <;> simp at hc
      rename_i te
      obtain ⟨hsz, hpos, hce⟩ := hc
      rcases Go.Deep.open_slice hu h with ⟨h1, _⟩ | ⟨a, len, cap, m, n, D, Pl, h1, _, hl, hm, hmm, _, hx⟩
      · exact ⟨none, 0, 0, h1, by omega, by unfold maxLen; omega, fun h => by omega⟩
      · have hlm : len ≤ m := by rw [hmm]; split <;> omega
        refine ⟨some a, len, cap, h1, hl, hm, fun h0 => ?_⟩
        obtain ⟨b, off, s⟩ := a
        obtain ⟨c0, g1, _⟩ := hx 0 (by omega)
        obtain ⟨_, g2, g3⟩ := World.cells?_some g1
        have g4 := g3 0 (by omega)
        have g5 : c0[0]? = some c0[0] := List.getElem?_eq_getElem (by omega)
        rw [g5] at g4
        have hb : b < w.heap.size := by
          have := cell_block g4
          simpa [Addr.add] using this
        have hs : s = none := by
          have := World.cell?_spot g4
          simpa [Addr.add] using this
        subst hs
        refine ⟨b, off, rfl, hb, fun i hi => ?_⟩
        obtain ⟨ci, k1, k2⟩ := hx i (by omega)
        obtain ⟨_, k3, k4⟩ := World.cells?_some k1
        refine ⟨ci, by rw [k3, hsz], fun j hj => ?_, ih.1 te n ci _ hce k2⟩
        have := k4 j (by omega)
        rw [addr_add, addr_add, hsz] at this
        rw [← this]
        congr 2
        omega
  | unit =>
    refine ⟨fun t fuel cs x hc => by simp [Sh.chk] at hc, fun l off fuel cs hc hl h => ?_⟩
    simp [Sh.reads, Sh.size]
  | cons a b iha ihb =>
    refine ⟨fun t fuel cs x hc => by simp [Sh.chk] at hc, fun l off fuel cs hc hl h => ?_⟩
    match l with
    | [] => simp [Sh.chk] at hc
    | (o, t) :: l =>
      simp [Sh.chk] at hc
      obtain ⟨⟨⟨rfl, h2⟩, h3⟩, h4⟩ := hc
      simp only [Sh.size] at hl ⊢
      obtain ⟨x, hx⟩ := h (o, t) (by simp)
      have r1 := iha.1 t fuel _ x h3 hx
      have r2 := ihb.2 l (o + a.size) fuel cs h4 (by omega) (fun q hq => h q (by simp [hq]))
      rw [h2] at r1
      refine ⟨_, _, ?_, r1, r2⟩
      rw [List.take_add, List.drop_drop, Nat.add_comm]
  | agg s ih =>
    refine ⟨fun t fuel cs x hc h => ?_, fun l off fuel cs hc => by simp [Sh.chk] at hc⟩
    cases hu : P.underlying t with
    | none => simp [Sh.chk, hu] at hc
    | some u =>
      simp only [Sh.chk, hu] at hc
      cases u <;> simp at hc
      · rename_i n te
        obtain ⟨hsz, hce⟩ := hc
        obtain ⟨xs, m, _, _, hl, hxs, hf⟩ := DataW.trod_array hu h
        have := ih.2 _ 0 m cs hce (by omega) (by
          intro q hq
          simp at hq
          obtain ⟨i, hi, rfl⟩ := hq
          have := hf i hi
          refine ⟨xs[i], ?_⟩
          rw [this]
          simp [hxs, hi])
        simp [← hsz, ← hl] at this
        exact this
      · rename_i fs
        obtain ⟨hsz, hce⟩ := hc
        obtain ⟨xs, n, _, _, hl, hxs, hf⟩ := DataW.trod_struct hu h
        have := ih.2 _ 0 n cs hce (by omega) (by
          intro q hq
          simp at hq
          obtain ⟨f, hf1, rfl⟩ := hq
          obtain ⟨i, hi', rfl⟩ := Array.getElem_of_mem hf1
          have := hf i fs[i] (by simp [hi'])
          refine ⟨xs[i], ?_⟩
          simp at this ⊢
          rw [this]
          simp [hxs, hi'])
        simp [← hsz, ← hl] at this
        exact this

theorem arg_val {sh : Sh} {r : Reach} {base : Nat} {t : TypeId} {v : Value} {d : DataW H} {p : List MemPlace} (hc : (sh.chk P).1 t = true)
    (hv : Value.okWide P w r base t v) (h : DataW.Trod enc P w 0 spare held t v d p) : sh.Val w v := by
  obtain ⟨fuel, hf⟩ := h
  have hr := (reads_of_trod sh).1 t fuel _ _ hc hf
  cases sh with
  | int k =>
    obtain ⟨n, h1, h2⟩ := hr
    cases hu : P.underlying t with
    | none => simp [Sh.chk, hu] at hc
    | some u =>
      simp only [Sh.chk, hu] at hc
      cases u <;> simp at hc
      subst hc
      obtain ⟨m, rfl⟩ := WideShapes.okWide_int hu hv
      exact ⟨n, by simpa [Value.cells] using h1, h2⟩
  | bool =>
    obtain ⟨n, h1⟩ := hr
    cases hu : P.underlying t with
    | none => simp [Sh.chk, hu] at hc
    | some u =>
      simp only [Sh.chk, hu] at hc
      cases u <;> simp at hc
      obtain ⟨m, rfl⟩ := WideShapes.okWide_bool hu hv
      exact ⟨n, by simpa [Value.cells] using h1⟩
  | slice e =>
    cases hu : P.underlying t with
    | none => simp [Sh.chk, hu] at hc
    | some u =>
      simp only [Sh.chk, hu] at hc
      cases u <;> simp at hc
      obtain ⟨a, l, c, rfl⟩ := WideShapes.okWide_slice hu hv
      exact hr
  | unit => simp [Sh.chk] at hc
  | cons a b => simp [Sh.chk] at hc
  | agg s =>
    cases hu : P.underlying t with
    | none => simp [Sh.chk, hu] at hc
    | some u =>
      simp only [Sh.chk, hu] at hc
      cases u <;> simp at hc
      all_goals
        simp only [Value.okWide, hu] at hv
        obtain ⟨cs, rfl, _⟩ := hv
        exact ⟨cs, rfl, hr⟩
end

/-! ### Opening -/
theorem Sh.val_int {w : World} {k : IntKind} {v : Value} (h : (Sh.int k).Val w v) : ∃ n, v = .int k n ∧ (Lit.int k n).wf = true := by
  obtain ⟨n, h1, h2⟩ := h
  exact ⟨n, by simpa using h1, h2⟩
theorem Sh.val_bool {w : World} {v : Value} (h : Sh.bool.Val w v) : ∃ b, v = .bool b := by
  obtain ⟨n, h1⟩ := h
  exact ⟨n, by simpa using h1⟩
theorem Sh.reads_int {w : World} {k : IntKind} {s : Sh} {cs : List Value} (h : (Sh.cons (.int k) s).reads w cs) : ∃ n d, cs = .int k n :: d ∧ (Lit.int k n).wf = true ∧ s.reads w d := by
  obtain ⟨c, d, h1, ⟨n, h2, h3⟩, h4⟩ := h
  exact ⟨n, d, by rw [h1, h2]; rfl, h3, h4⟩
theorem Sh.reads_slice {w : World} {e s : Sh} {cs : List Value} (h : (Sh.cons (.slice e) s).reads w cs) : ∃ v d, cs = v :: d ∧ (Sh.slice e).Val w v ∧ s.reads w d := by
  obtain ⟨c, d, h1, h2, h4⟩ := h
  obtain ⟨ao, len, cap, h5, h6⟩ := h2
  exact ⟨_, d, by rw [h1, h5]; rfl, ⟨ao, len, cap, rfl, h6⟩, h4⟩
theorem Sh.reads_agg {w : World} {e s : Sh} {cs : List Value} (h : (Sh.cons (.agg e) s).reads w cs) : ∃ c d, cs = c ++ d ∧ e.reads w c ∧ s.reads w d := h
theorem Sh.reads_unit {w : World} {cs : List Value} (h : Sh.unit.reads w cs) : cs = [] := h
theorem agg_of_list {cs : Array Value} {l : List Value} (h : cs.toList = l) : cs = l.toArray := by rw [← h]
end Go.Proofs.YtbghchgmoiniiaaGreat

/-
  The walks of gaugerref07.Any and of the laws' top; a config as an argument. Conditions: none beyond those stated at each theorem.
-/
namespace Go.Proofs.YtbghchgmoiniiaaGreat
open Go.RowKit Go.ChangeShapes Go.WideShapes Go.ChangeAt
set_option linter.unusedVariables false
set_option linter.unusedSimpArgs false
def shCfg : Sh := .agg (.cons (.int .i64) (.cons (.int .i64) (.cons (.int .i64) (.cons (.int .i64) (.cons (.int .u64) .unit)))))
theorem valCfg {w : World} {v : Value} (h : shCfg.Val w v) : ∃ b r d m s : Int, v = .agg #[.int .i64 b, .int .i64 r, .int .i64 d, .int .i64 m, .int .u64 s] ∧
    (Lit.int .i64 b).wf = true ∧ (Lit.int .i64 r).wf = true ∧ (Lit.int .i64 d).wf = true ∧ (Lit.int .i64 m).wf = true ∧ (Lit.int .u64 s).wf = true := by
  obtain ⟨cs, rfl, h1⟩ := h
  obtain ⟨b, q, e, wb, h2⟩ := Sh.reads_int h1
  obtain ⟨r, q, rfl, wr, h3⟩ := Sh.reads_int h2
  obtain ⟨d, q, rfl, wd, h4⟩ := Sh.reads_int h3
  obtain ⟨m, q, rfl, wm, h5⟩ := Sh.reads_int h4
  obtain ⟨s, q, rfl, ws, h6⟩ := Sh.reads_int h5
  obtain rfl := Sh.reads_unit h6
  exact ⟨b, r, d, m, s, by rw [agg_of_list e], wb, wr, wd, wm, ws⟩

def anyI (x n : Int) : Int := 1 + x % 65536 % n
theorem anyI_bd (x n : Int) (h : 1 ≤ n) : 1 ≤ anyI x n ∧ anyI x n ≤ n := by
  unfold anyI
  have h1 := Int.emod_nonneg (x % 65536) (show n ≠ 0 by omega)
  have h2 := Int.emod_lt_of_pos (x % 65536) (show 0 < n by omega)
  omega
theorem and16 (n : Int) : bits BinOp.and IntKind.i64 n 65535 = n % 65536 := by
  have h16 : (BitVec.ofInt 64 65535).toNat = 2 ^ 16 - 1 := by decide
  have key : (BitVec.ofInt 64 n &&& BitVec.ofInt 64 65535).toNat = (n % ((2 ^ 64 : Nat) : Int)).toNat % 2 ^ 16 := by
    rw [BitVec.toNat_and, BitVec.toNat_ofInt, h16, Nat.and_two_pow_sub_one_eq_mod]
  show IntKind.i64.wrap ((BitVec.ofInt 64 n &&& BitVec.ofInt 64 65535).toNat : Nat) = n % 65536
  rw [key, IntKind.wrap_i64]
  omega

set_option maxRecDepth 100000 in
set_option maxHeartbeats 1000000 in
theorem any_any (b r d m s p q : Int) (p0 : 1 ≤ p) (p1 : p ≤ 59) (q0 : 1 ≤ q) (q1 : q ≤ 128) (w : World) :
    Calls Tryz.prog 18 #[.agg #[.int .i64 b, .int .i64 r, .int .i64 d, .int .i64 m, .int .u64 s], .int .i64 p, .int .i64 q] w fun e w' =>
      e = .returned (.agg #[.int .i64 (anyI b p), .int .i64 (anyI r 4), .int .i64 (anyI d q), .int .i64 (anyI m 3), .int .u64 s]) ∧ Below w.heap.size w w' := by
  have e1 := and16 b
  have e2 := and16 r
  have e3 := and16 d
  have e4 := and16 m
  have z1 := Int.emod_nonneg (b % 65536) (show p ≠ 0 by omega)
  have z2 := Int.emod_lt_of_pos (b % 65536) (show 0 < p by omega)
  have z3 := Int.emod_nonneg (d % 65536) (show q ≠ 0 by omega)
  have z4 := Int.emod_lt_of_pos (d % 65536) (show 0 < q by omega)
  have y1 : (p == 0) = false := by simp; omega
  have y2 : (q == 0) = false := by simp; omega
  have t1 : (b % 65536).tmod p = b % 65536 % p := Int.tmod_eq_emod_of_nonneg (by omega)
  have t2 : (r % 65536).tmod 4 = r % 65536 % 4 := Int.tmod_eq_emod_of_nonneg (by omega)
  have t3 : (d % 65536).tmod q = d % 65536 % q := Int.tmod_eq_emod_of_nonneg (by omega)
  have t4 : (m % 65536).tmod 3 = m % 65536 % 3 := Int.tmod_eq_emod_of_nonneg (by omega)
  have u1 : IntKind.i64.wrap (b % 65536 % p) = b % 65536 % p := IntWalk.i64_in _ (by omega)
  have u2 : IntKind.i64.wrap (r % 65536 % 4) = r % 65536 % 4 := IntWalk.i64_in _ (by omega)
  have u3 : IntKind.i64.wrap (d % 65536 % q) = d % 65536 % q := IntWalk.i64_in _ (by omega)
  have u4 : IntKind.i64.wrap (m % 65536 % 3) = m % 65536 % 3 := IntWalk.i64_in _ (by omega)
  have v1 : IntKind.i64.wrap (1 + b % 65536 % p) = 1 + b % 65536 % p := IntWalk.i64_in _ (by omega)
  have v2 : IntKind.i64.wrap (1 + r % 65536 % 4) = 1 + r % 65536 % 4 := IntWalk.i64_in _ (by omega)
  have v3 : IntKind.i64.wrap (1 + d % 65536 % q) = 1 + d % 65536 % q := IntWalk.i64_in _ (by omega)
  have v4 : IntKind.i64.wrap (1 + m % 65536 % 3) = 1 + m % 65536 % 3 := IntWalk.i64_in _ (by omega)
  have p0' : ¬ p = 0 := by omega
  have q0' : ¬ q = 0 := by omega
  go_enter Tryz.func18, Tryz.ntmps18
  go_wp2_with fail
  have hk : Blk ((w.alloc (.cells #[.int .i64 b, .int .i64 r, .int .i64 d, .int .i64 m, .int .u64 s] 24)).alloc (.cells #[.int .i64 0, .int .i64 0, .int .i64 0, .int .i64 0, .int .u64 0] 24)) w.heap.size 24 #[.int .i64 b, .int .i64 r, .int .i64 d, .int .i64 m, .int .u64 s] := (Blk.new _ _ _).alloc _
  have hn : Blk ((w.alloc (.cells #[.int .i64 b, .int .i64 r, .int .i64 d, .int .i64 m, .int .u64 s] 24)).alloc (.cells #[.int .i64 0, .int .i64 0, .int .i64 0, .int .i64 0, .int .u64 0] 24)) (w.heap.size + 1) 24 #[.int .i64 0, .int .i64 0, .int .i64 0, .int .i64 0, .int .u64 0] := by
    have := Blk.new (w.alloc (.cells #[.int .i64 b, .int .i64 r, .int .i64 d, .int .i64 m, .int .u64 s] 24)) 24 #[.int .i64 0, .int .i64 0, .int .i64 0, .int .i64 0, .int .u64 0]
    simpa using this
  have hbel : Below w.heap.size w ((w.alloc (.cells #[.int .i64 b, .int .i64 r, .int .i64 d, .int .i64 m, .int .u64 s] 24)).alloc (.cells #[.int .i64 0, .int .i64 0, .int .i64 0, .int .i64 0, .int .u64 0] 24)) := ((Below.refl _ _).alloc (Nat.le_refl _) _).alloc (by simp) _
  generalize ((w.alloc (.cells #[.int .i64 b, .int .i64 r, .int .i64 d, .int .i64 m, .int .u64 s] 24)).alloc (.cells #[.int .i64 0, .int .i64 0, .int .i64 0, .int .i64 0, .int .u64 0] 24)) = wz at *
  refine wp_region_still_tail 25 (by kernel_rfl) (by kernel_rfl) ?_
  simp only [List.take_succ_cons, List.take_zero, List.drop_succ_cons, List.drop_zero]
  replace hk := hk.drew
  replace hn := hn.drew
  replace hbel := hbel.drew
  change Blk { heap := wz.heap, tape := wz.tape, drawn := wz.drawn + 1, os := wz.os, output := wz.output } _ _ _ at hk
  change Blk { heap := wz.heap, tape := wz.tape, drawn := wz.drawn + 1, os := wz.os, output := wz.output } _ _ _ at hn
  change Below _ _ { heap := wz.heap, tape := wz.tape, drawn := wz.drawn + 1, os := wz.os, output := wz.output } at hbel
  generalize ({ heap := wz.heap, tape := wz.tape, drawn := wz.drawn + 1, os := wz.os, output := wz.output } : World) = wd at *
  obtain ⟨c0, c1, c2, c3, c4⟩ := box_cells hk
  repeat still_step
  refine wpStill_nil ?_
  obtain ⟨n0, n1, n2, n3, n4⟩ := box_cells hn
  have f0 := hn.frozen 0
  have f1 := hn.frozen 1
  have f2 := hn.frozen 2
  have f3 := hn.frozen 3
  have f4 := hn.frozen 4
  generalize hG : w.heap.size + 1 = G at *
  go_wp2
  refine bodyPost_ret (v := .agg #[.int .i64 (anyI b p), .int .i64 (anyI r 4), .int .i64 (anyI d q), .int .i64 (anyI m 3), .int .u64 s]) (by simp [results, Tryz.results18, go_sem, n0, n1, n2, n3, n4]; exact ⟨rfl, by unfold anyI; omega, rfl, rfl⟩) rfl ⟨rfl, ?_⟩
  have hlow : w.heap.size ≤ G := by omega
  exact ((((hbel.setCell hlow _).setCell hlow _).setCell hlow _).setCell hlow _).setCell hlow _

section
variable {P : Program}
theorem wpList_load_row_g {ops : Array Oper} {rest : List Oper} {o : Oper} {a : Act} {w : World} {Q : Exit → Act → World → Prop} (hw : Region.wanted o (yielded ops a.tmps) = true) (ty : TypeId) (x : Operand) (ho : o.op = .load ty x)
    (g : Nat) (hx : a.eval x = .pointer (some ⟨g, 0, none⟩)) (t : TypeId) (cs : Array Value) (fr : Nat × Nat) (d : TypeDesc) (hg : w.heap[g]? = some (.cells cs t fr))
    (hu : P.underlying ty = some d) (hd : (match d with | .struct _ | .array _ _ => true | _ => false) = true) (hi : (P.info? ty).map (·.size) = some cs.size)
    (h : wpList P ops Q rest (a.put o.dst (.agg cs)) w) : wpList P ops Q (o :: rest) a w := by
  simp only [wpList, hw, if_true]
  exact .inl (wp_load_row ty x ho g hx t cs fr d hg hu hd hi h)
end

theorem exact_top {b r d m s : Int} (h : rightB b r d m = true) : exactB b r d m b = true := by
  have hr := right_of h
  unfold exactB
  rw [keysI_yes h (by omega) (by omega)]
  simp; omega

end Go.Proofs.YtbghchgmoiniiaaGreat

/-
  Two configs compared. Conditions: none beyond those stated at each theorem.
-/
namespace Go.Proofs.YtbghchgmoiniiaaGreat
open Go.RowKit
set_option linter.unusedVariables false
set_option linter.unusedSimpArgs false

def cfgEq (b r d m s b' r' d' m' s' : Int) : Bool := decide (b = b' ∧ r = r' ∧ d = d' ∧ m = m' ∧ s = s')
theorem eqCfg (b r d m s b' r' d' m' s' : Int) (w : World) : (Op.equalIn 10000 24 (.agg #[.int .i64 b, .int .i64 r, .int .i64 d, .int .i64 m, .int .u64 s]) (.agg #[.int .i64 b', .int .i64 r', .int .i64 d', .int .i64 m', .int .u64 s'])).run Tryz.prog w = .ok (cfgEq b r d m s b' r' d' m' s') w := by
  have u3 := Tryz.underlying3
  have u4 := Tryz.underlying22
  have a3 : ∀ w, (isAgg 3).run Tryz.prog w = .ok false w := fun w => by unfold isAgg; rw [Sem.run_bind, run_underlying Tryz.underlying3 w]; rfl
  have a4 : ∀ w, (isAgg 22).run Tryz.prog w = .ok false w := fun w => by unfold isAgg; rw [Sem.run_bind, run_underlying Tryz.underlying22 w]; rfl
  have hS : Tryz.prog.underlying 24 = some (.struct (Tryz.prog.fieldsOf 24)) := by kernel_rfl
  have hp : Tryz.prog.stoodInHeld 24 = false := by kernel_rfl
  rw [show (10000 : Nat) = 9999 + 1 from rfl, run_equalIn_agg w 9999 24 _ _ hS hp]
  simp only [Program.fieldsOf, Tryz.underlying24]
  go_simp
  unfold cfgEq
  by_cases h1 : b = b' <;> by_cases h2 : r = r' <;> by_cases h3 : d = d' <;> by_cases h4 : m = m' <;> by_cases h5 : s = s' <;> simp [h1, h2, h3, h4, h5]
end Go.Proofs.YtbghchgmoiniiaaGreat

/-
  The walks of exact: Load, Copy, join, Merge, Subtract. Conditions: none beyond those stated at each theorem.
-/
namespace Go.Proofs.YtbghchgmoiniiaaGreat
open Go.RowKit
set_option linter.unusedVariables false
set_option linter.unusedSimpArgs false

theorem width_kp (w : World) (G C R W : Nat) (zs : List Int) (h : GridIs w G C R W zs) :
    Calls Tryz.prog 127 #[.pointer (some ⟨G, 0, none⟩)] w fun e w' => e = .returned (.int .i64 (W : Int)) ∧ w = w' := (width_any w G C R W zs h).mono fun _ _ h => ⟨h.1, h.2.symm⟩
theorem take_drop_set {cs zs : List Int} {j : Nat} {u : Int} (hc : cs[j]? = some u) (hl : cs.length = zs.length) : (cs.take j ++ zs.drop j).set j u = cs.take (j + 1) ++ zs.drop (j + 1) := by
  have hj : j < cs.length := (List.getElem?_eq_some_iff.1 hc).1
  have hu : u = cs[j] := by
    have := (List.getElem?_eq_some_iff.1 hc).2
    exact this.symm
  apply List.ext_getElem?
  intro i
  rw [List.getElem?_set]
  simp only [List.length_append, List.length_take, List.length_drop]
  by_cases e : j = i
  · subst e
    rw [if_pos rfl, if_pos (by omega), List.getElem?_append_left (by simp; omega), List.getElem?_take, if_pos (by omega), hc]
  · rw [if_neg e]
    by_cases h : i < j
    · rw [List.getElem?_append_left (by simp; omega), List.getElem?_append_left (by simp; omega), List.getElem?_take, List.getElem?_take, if_pos h, if_pos (by omega)]
    · rw [List.getElem?_append_right (by simp; omega), List.getElem?_append_right (by simp; omega), List.getElem?_drop, List.getElem?_drop]
      simp only [List.length_take]
      congr 1
      omega

set_option maxRecDepth 100000 in
set_option maxHeartbeats 4000000 in
theorem exload_yes (w : World) (A G C : Nat) (b r d m s l : Int) (K : Nat) (zs cs : List Int) (v : Value) (h : ArrIs w A G C b r d m s l K zs) (hv : IntsAt w v cs) (hl : cs.length = K) (hfit : Fit cs) (hvc : v.ownBlock ≠ some C) :
    Calls Tryz.prog 123 #[.pointer (some ⟨A, 0, none⟩), v] w fun e w' => e = .returned (.bool true) ∧ ArrIs w' A G C b r d m s l K cs ∧ w.grownBy w' (some C) := by
  have hW := h.2.width
  have P := Lib.hid (width_kp w G C 1 K zs h.2)
  have c6 := h.1.cell 6
  simp at c6
  have hzl : zs.length = K := by have := h.2.len; omega
  have HA := Lib.hid h
  obtain ⟨ao, cap, rfl, hcap, hcells⟩ := hv
  have HC := Lib.hid hcells
  have HF := Lib.hid hfit
  have HVC := Lib.hid hvc
  have HLL := Lib.hid (show cs.length = zs.length by omega)
  have HL := Lib.hid hl
  rw [hl] at hcap ⊢
  clear hcells hfit h hzl hvc hl
  go_enter Tryz.func123, Tryz.ntmps123
  go_wp2_with fail
  with_reducible refine P.out.mono ?_
  rintro e w2 ⟨rfl, hw2⟩
  subst hw2
  go_wp2_with fail
  go_loopw [17] (fun i wr => ∃ j : Nat, j ≤ K ∧ i = .int .i64 (j : Int) ∧ ArrIs wr A G C b r d m s l K (cs.take j ++ zs.drop j) ∧ w.grownBy wr (some C)) (fun i _ => K - (intOf i).toNat)
  case atStart => exact ⟨0, by omega, rfl, by simpa using HA.out, below_gr (Below.refl _ _)⟩
  case round =>
    obtain ⟨j, hj, rfl, ha, hgr⟩ := hrel
    have HA2 := Lib.hid ha
    have HG := Lib.hid hgr
    have q6 := ha.1.cell 6
    simp at q6
    clear c6
    by_cases hlt : j < K
    · obtain ⟨g, rfl, hg, hc⟩ := HC.out (by have := HL.out; omega)
      have hgC : g ≠ C := fun e => HVC.out (by simp [Value.ownBlock, e])
      have hcj : cs[j]? = some (cellD cs j) := by
        have : j < cs.length := by have := HL.out; omega
        simp [cellD, this]
      have cx := hgr.cell (hc j _ hcj) (by simpa using hgC)
      have P3 : Calls Tryz.prog 130 #[.pointer (some ⟨G, 0, none⟩), .int .i64 0, .int .i64 (j : Int), .int .i64 (cellD cs j)] wr fun e w'' => e = .returned (.bool true) ∧ w'' = wr.setCell ⟨C, j, none⟩ (.int .i64 (cellD cs j)) := by
        have := put_in wr G C 1 K 0 j (cellD cs j) _ ha.2 (by decide) hlt
        simpa using this
      have P3 := Lib.hid P3
      have HS := Lib.hid (take_drop_set (zs := zs) hcj HLL.out)
      have HX := Lib.hid (fitC HF.out j)
      have i0 : (0 : Int) ≤ (j : Int) := by omega
      have i1 : (j : Int) < (K : Int) := by omega
      clear ha hgr hc hcj
      generalize cellD cs j = x at *
      go_wp2_with fail
      with_reducible refine P3.out.mono ?_
      rintro e w3 ⟨rfl, hw3⟩
      have HW3 := Lib.hid hw3
      clear hw3
      go_wp2
      go_roundw
      case rel => exact ⟨j + 1, by omega, by go_num, by rw [← HS.out, HW3.out]; exact HA2.out.put (grown_set _ _ _ _) (HA2.out.2.set j x HX.out.1 HX.out.2), by rw [HW3.out]; exact gr_trans HG.out (grown_set _ _ _ _)⟩
      case measure => simp [intOf]; omega
    · obtain rfl : j = K := by omega
      have HE : Hid (cs.take j ++ zs.drop j = cs) := Lib.hid (by rw [List.take_of_length_le (by have := HL.out; omega), List.drop_eq_nil_of_le (by have := HL.out; have := HLL.out; omega)]; simp)
      clear ha hgr
      go_wp2
      go_ret
      exact ⟨rfl, by have := HA2.out; rw [HE.out] at this; exact this, HG.out⟩

theorem exload_no (w : World) (A G C : Nat) (b r d m s l : Int) (K : Nat) (zs cs : List Int) (v : Value) (h : ArrIs w A G C b r d m s l K zs) (hv : IntsAt w v cs) (hl : cs.length ≠ K) (hs : cs.length ≤ 100000) :
    Calls Tryz.prog 123 #[.pointer (some ⟨A, 0, none⟩), v] w fun e w' => e = .returned (.bool false) ∧ w = w' := by
  have hW := h.2.width
  have P := Lib.hid (width_kp w G C 1 K zs h.2)
  have c6 := h.1.cell 6
  simp at c6
  obtain ⟨ao, cap, rfl, hcap, hcells⟩ := hv
  clear hcells h hcap
  generalize cs.length = n at *
  have e1 : ((n : Int) != (K : Int)) = true := by simp; omega
  clear hl
  go_enter Tryz.func123, Tryz.ntmps123
  go_wp2_with fail
  with_reducible refine P.out.mono ?_
  rintro e w2 ⟨rfl, hw2⟩
  subst hw2
  go_wp2
  go_ret
  exact ⟨rfl, rfl⟩

def ExCopyPost (w : World) (b r d m s l : Int) (K : Nat) (zs : List Int) (e : Ending) (w' : World) : Prop :=
  ∃ A G C, e = .returned (.pointer (some ⟨A, 0, none⟩)) ∧ w.heap.size ≤ A ∧ w.heap.size ≤ G ∧ w.heap.size ≤ C ∧ ArrIs w' A G C b r d m s l K zs ∧ Below w.heap.size w w'

end Go.Proofs.YtbghchgmoiniiaaGreat

/-
  The walks of wire.low and the reference's bytes, Signed. Conditions: none beyond those stated at each theorem.
-/
namespace Go.Proofs.YtbghchgmoiniiaaGreat
open Go.RowKit
set_option linter.unusedVariables false
set_option linter.unusedSimpArgs false

/-- the bytes of a number, the lowest one first -/
def leB (u : Int) (n : Nat) : List Int := (List.range n).map fun i => u / 256 ^ i % 256
theorem leB_len (u : Int) (n : Nat) : (leB u n).length = n := by simp [leB]
theorem leB_byts (u : Int) (n : Nat) : Byts (leB u n) := fun x hx => by
  simp [leB] at hx
  obtain ⟨i, _, rfl⟩ := hx
  omega
theorem leB_succ (u : Int) (n : Nat) : leB u (n + 1) = leB u n ++ [u / 256 ^ n % 256] := by simp [leB, List.range_succ]
def OwnB (w : World) (base : Nat) (v : Value) (bs : List Int) : Prop := w.ownsRow base 5 1 v bs.length (bs.map (Value.int .u8))
theorem OwnB.at {w : World} {base : Nat} {v : Value} {bs : List Int} (h : OwnB w base v bs) : BytesAt w v bs := BytesAt.of_own h
theorem gr_new {w w1 w2 : World} {row : Option Nat} {o : Option Nat} (h : w.grownBy w1 row) (k : w1.grownBy w2 o) (ho : o = row ∨ ∃ g, o = some g ∧ w.heap.size ≤ g) : w.grownBy w2 row :=
  ⟨k.os.trans h.os, k.tape.trans h.tape, k.output.trans h.output, Nat.le_trans h.size k.size, fun j hj hne => (k.block j (Nat.lt_of_lt_of_le hj h.size) (by
    rcases ho with rfl | ⟨g, rfl, hg⟩
    · exact hne
    · intro e; have := Option.some.inj e; omega)).trans (h.block j hj hne)⟩
/-- what an append to a row of one's own leaves: its own block, or a new one -/
def Owned (w : World) (o o' : Option Nat) : Prop := o' = o ∨ ∃ g, o' = some g ∧ w.heap.size ≤ g
theorem Owned.refl (w : World) (o : Option Nat) : Owned w o o := .inl rfl
theorem Owned.next {w : World} {ob o1 o2 : Option Nat} {n : Nat} (h : Owned w ob o1) (k : o2 = o1 ∨ o2 = some n) (hs : w.heap.size ≤ n) : Owned w ob o2 := by
  rcases k with rfl | rfl
  · exact h
  · exact .inr ⟨_, rfl, hs⟩
theorem Owned.trans {w w1 : World} {o0 o1 o2 : Option Nat} (h : Owned w o0 o1) (k : Owned w1 o1 o2) (hs : w.heap.size ≤ w1.heap.size) : Owned w o0 o2 := by
  rcases k with rfl | ⟨g, rfl, hg⟩
  · exact h
  · exact .inr ⟨g, rfl, Nat.le_trans hs hg⟩
theorem OwnB.kept {w w' : World} {base : Nat} {v : Value} {bs : List Int} (h : OwnB w base v bs) (hb : Below w.heap.size w w') : OwnB w' base v bs := World.ownsRow.kept h (below_gr (row := none) hb) (by cases v.ownBlock <;> simp)
theorem OwnB.lt {w : World} {base : Nat} {v : Value} {bs : List Int} (h : OwnB w base v bs) : ∀ k, v.ownBlock = some k → base ≤ k ∧ k < w.heap.size := World.ownsRow.lt h
theorem OwnB.open_ {w : World} {base : Nat} {v : Value} {bs : List Int} (h : OwnB w base v bs) : ∃ ao cap, v = .slice ao bs.length cap ∧ bs.length ≤ cap ∧ cap ≤ maxLen := by
  obtain ⟨ao, cap, e, h1, h2, -⟩ := h.at
  exact ⟨ao, cap, e, h1, h2⟩
def OwnPost (w : World) (base : Nat) (v : Value) (bs : List Int) (e : Ending) (w' : World) : Prop :=
  ∃ v', e = .returned v' ∧ OwnB w' base v' bs ∧ w.grownBy w' v.ownBlock ∧ Owned w v.ownBlock v'.ownBlock
set_option maxRecDepth 100000 in
set_option maxHeartbeats 4000000 in
theorem low_any (w : World) (base : Nat) (v : Value) (bs : List Int) (u : Int) (n : Nat) (hv : OwnB w base v bs) (hb : base ≤ w.heap.size) (u0 : 0 ≤ u) (u1 : u ≤ 18446744073709551615) (hn : n ≤ 8) (hl : bs.length ≤ 100000000) :
    Calls Tryz.prog 22 #[v, .int .u64 u, .int .i64 (n : Int)] w (OwnPost w base v (bs ++ leB u n)) := by
  obtain ⟨i0', hi, hz0, hz1, hz2⟩ := info_parts Tryz.info8
  have HV := Lib.hid hv
  have HL := Lib.hid hl
  obtain ⟨ob, hob⟩ : ∃ ob, ob = v.ownBlock := ⟨_, rfl⟩
  unfold OwnPost
  rw [← hob]
  have HOB := Lib.hid hob
  clear hv hob
  go_enter Tryz.func22, Tryz.ntmps22
  go_wp2_with fail
  go_loopw [0, 9] (fun x i wr => ∃ j : Nat, j ≤ n ∧ i = .int .i64 (j : Int) ∧ OwnB wr base x (bs ++ leB u j) ∧ w.grownBy wr ob ∧ Owned w ob x.ownBlock) (fun _ i _ => n - (intOf i).toNat)
  case atStart => exact ⟨0, by omega, rfl, by simpa [leB] using HV.out, below_gr (Below.refl _ _), by rw [HOB.out]; exact Owned.refl _ _⟩
  case round =>
    obtain ⟨j, hj, rfl, hown, hgr, hq⟩ := hrel
    have HO := Lib.hid hown
    have HGR := Lib.hid hgr
    have HQ := Lib.hid hq
    clear hown hgr hq
    by_cases hlt : j < n
    · have i0 : (0 : Int) ≤ (j : Int) := by omega
      have i1 : (j : Int) < (n : Int) := by omega
      have hsz := HGR.out.size
      have HNX : Hid ((bs ++ leB u j).map (Value.int .u8) ++ [.int .u8 (u / 2 ^ (8 * j) % 256)] = (bs ++ leB u (j + 1)).map (Value.int .u8)) := Lib.hid (by
        rw [leB_succ, Int.pow_mul, ← List.append_assoc, List.map_append (l₂ := [_])]
        rfl)
      have HLN : Hid ((bs ++ leB u j).length + 1 = (bs ++ leB u (j + 1)).length) := Lib.hid (by simp only [List.length_append, leB_len]; omega)
      have hcl : (bs ++ leB u j).length ≤ 100000008 := by simp only [List.length_append, leB_len]; omega
      have hc1 : (bs ++ leB u j).length + 1 ≤ maxLen := by unfold maxLen; omega
      go_wp2_with (at_builtin; go_loud (refine wpList_append_own_at _ rfl _ _ 33 rfl base 5 i0' (.int .u8 0) 1 1 Tryz.underlying33 hi hz0 hz1 hz2 rfl (by decide) _ (bs ++ leB u j).length _ rfl (World.ownsRow.alloc HO.out _) ⟨wr.heap.size, 0, none⟩ 1 1 [.int .u8 (u / 2 ^ (8 * j) % 256)] rfl rfl (cell_one_new _ _ _) ?c2 hc1 ?c4 ?c5 ?_))
      case c2 => simp [Value.oneCell']
      case c4 => omega
      case c5 => simp; omega
      intro v8 w8 hown' hgrow hnil' hq9
      have HO8 : Hid (OwnB w8 base v8 (bs ++ leB u (j + 1))) := Lib.hid (by unfold OwnB; rw [← HNX.out, ← HLN.out]; simpa using hown')
      have HG8 := Lib.hid (gr_new (gr_trans HGR.out (below_gr ((Below.refl _ _).alloc (Nat.le_refl _) _))) hgrow HQ.out)
      have HQ8 := Lib.hid (HQ.out.next hq9 (by omega))
      clear hown' hgrow hnil' hq9
      go_wp2
      go_roundw
      case rel => exact ⟨j + 1, by omega, by go_num, HO8.out, HG8.out, HQ8.out⟩
      case measure => simp [intOf]; omega
    · obtain rfl : j = n := by omega
      go_wp2
      go_ret
      exact ⟨_, rfl, HO.out, HGR.out, HQ.out⟩
def NewB (w : World) (bs : List Int) (e : Ending) (w' : World) : Prop :=
  ∃ v', e = .returned v' ∧ OwnB w' w.heap.size v' bs ∧ v' ≠ .slice none 0 0 ∧ Below w.heap.size w w'
set_option maxRecDepth 100000 in
set_option maxHeartbeats 4000000 in
theorem rbytes_any (w : World) (u : Int) (n : Nat) (u0 : 0 ≤ u) (u1 : u ≤ 18446744073709551615) (hn : n ≤ 8) :
    Calls Tryz.prog 43 #[.int .u64 u, .int .i64 (n : Int)] w (NewB w (leB u n)) := by
  obtain ⟨i0', hi, hz0, hz1, hz2⟩ := info_parts Tryz.info8
  have hown0 := World.ownsRow_lit (base := w.heap.size) (e := 5) (size := 1) w #[] 0 (by exact Nat.le_refl _) (by unfold maxLen; omega) (by simp)
  have HO1 := Lib.hid hown0
  have HB1 : Hid (Below w.heap.size w (w.alloc (.cells #[] 5))) := Lib.hid ((Below.refl _ _).alloc (Nat.le_refl _) _)
  clear hown0
  go_enter Tryz.func43, Tryz.ntmps43
  go_wp2_with fail
  go_loopw [0, 5, 6] (fun y x i wr => ∃ j : Nat, j ≤ n ∧ i = .int .i64 (j : Int) ∧ y = .int .u64 (u / 256 ^ j) ∧ OwnB wr w.heap.size x (leB u j) ∧ x ≠ .slice none 0 0 ∧ Below w.heap.size w wr) (fun _ _ i _ => n - (intOf i).toNat)
  case atStart => exact ⟨0, by omega, rfl, by simp, HO1.out, by simp, HB1.out⟩
  case round =>
    obtain ⟨j, hj, rfl, rfl, hown, hnil, hbel⟩ := hrel
    have HO := Lib.hid hown
    have HNIL := Lib.hid hnil
    have HB := Lib.hid hbel
    clear hown hnil hbel HO1 HB1
    by_cases hlt : j < n
    · have i0 : (0 : Int) ≤ (j : Int) := by omega
      have i1 : (j : Int) < (n : Int) := by omega
      have x0 : 0 ≤ u / 256 ^ j := Int.ediv_nonneg u0 (Int.pow_nonneg (by decide))
      have x1 : u / 256 ^ j ≤ 18446744073709551615 := Int.le_trans (Int.ediv_le_self _ u0) u1
      have hsz := HB.out.size
      have HNX : Hid ((leB u j).map (Value.int .u8) ++ [.int .u8 (u / 256 ^ j % 256)] = (leB u (j + 1)).map (Value.int .u8)) := Lib.hid (by
        rw [leB_succ, List.map_append (l₂ := [_])]
        rfl)
      have HDV : Hid (u / 256 ^ j / 256 = u / 256 ^ (j + 1)) := Lib.hid (by rw [Int.pow_succ, Int.ediv_ediv_of_nonneg (Int.pow_nonneg (by decide))])
      have hll : (leB u j).length = j := leB_len u j
      have HLL := Lib.hid hll
      clear hll
      generalize u / 256 ^ j = x at *
      have e1 : x.tmod 256 = x % 256 := Int.tmod_eq_emod_of_nonneg x0
      have e2 : x.tdiv 256 = x / 256 := Int.tdiv_eq_ediv_of_nonneg x0
      have e3 : x % 256 % 256 = x % 256 := by omega
      have e4 : x / 256 % (18446744073709551616 : Int) = x / 256 := by omega
      have hc1 : (leB u j).length + 1 ≤ maxLen := by have := HLL.out; unfold maxLen; omega
      have hc4 : ((leB u j).length + 1) * 1 ≤ 140737488355328 := by have := HLL.out; omega
      go_wp2_with (at_builtin; refine wpList_append_own_at _ rfl _ _ 33 rfl w.heap.size 5 i0' (.int .u8 0) 1 1 Tryz.underlying33 hi hz0 hz1 hz2 rfl (by decide) _ (leB u j).length _ rfl (World.ownsRow.alloc HO.out _) ⟨wr.heap.size, 0, none⟩ 1 1 [.int .u8 (x % 256)] rfl rfl (cell_one_new _ _ _) ?c2 hc1 hc4 ?c5 ?_)
      case c2 => simp [Value.oneCell']
      case c5 => simp; omega
      intro v8 w8 hown' hgrow hnil' hq9
      have HO8 : Hid (OwnB w8 w.heap.size v8 (leB u (j + 1))) := Lib.hid (by unfold OwnB; rw [← HNX.out, show (leB u (j + 1)).length = (leB u j).length + 1 by rw [leB_len, leB_len]]; simpa using hown')
      have HB8 : Hid (Below w.heap.size w w8) := Lib.hid ((HB.out.alloc HB.out.size _).grown hgrow (by simp; omega) (fun k e => (HO.out.lt k e).1))
      have HNIL' : Hid (v8 ≠ .slice none 0 0) := Lib.hid hnil'
      clear hown' hgrow hnil' hq9
      go_wp2
      go_roundw
      case rel => exact ⟨j + 1, by omega, by go_num, by first | rw [← HDV.out] | (rw [← HDV.out, e4]), HO8.out, HNIL'.out, HB8.out⟩
      case measure => simp [intOf]; omega
    · obtain rfl : j = n := by omega
      go_wp2
      go_ret
      exact ⟨_, rfl, HO.out, HNIL.out, HB.out⟩
theorem BytesAt.news {w : World} {ao : Option Addr} {n cap : Nat} {bs : List Int} (h : BytesAt w (.slice ao n cap) bs) (hn : n = bs.length) (w' : World) (hb : Below w.heap.size w w') :
    0 < n → ∃ ad, ao = some ad ∧ ∀ j u, (bs.map (Value.int .u8))[j]? = some u → w'.cell? (ad.add j) = some u := by
  intro h0
  obtain ⟨ao2, cap2, e, h1, h2, h3⟩ := h
  simp only [Value.slice.injEq] at e
  obtain ⟨rfl, -, rfl⟩ := e
  rcases h3 with ⟨rfl, rfl⟩ | ⟨g, off, rfl, hg, hcc⟩
  · simp at hn; omega
  · refine ⟨_, rfl, fun j u hu => ?_⟩
    rw [List.getElem?_map] at hu
    cases hz : bs[j]? with
    | none => rw [hz] at hu; simp at hu
    | some z =>
      rw [hz] at hu
      simp at hu
      subst hu
      rw [addr_add]
      exact (hb.cell (p := ⟨g, off + j, none⟩) hg).trans (hcc j z hz)
section
variable {P : Program}
theorem run_append_none (w : World) (t ty e : TypeId) (i : TypeInfo) (ht : P.underlying t = some (.slice e)) (hi : P.info? e = some i) (g cap : Nat) (ao : Option Addr) (c : Nat) :
    (Builtin.append_ #[t, t] ty #[.slice (some ⟨g, 0, none⟩) 0 cap, .slice ao 0 c]).run P w = .ok (.slice (some ⟨g, 0, none⟩) 0 cap) w := by
  cases ao <;> simp [Builtin.append_, run_underlying ht, sizeOf, typeInfo, hi, Builtin.lenOf, Builtin.firstCells, loadCells, loadCellsFrom, storeCells]
/-- 'append([]T{}, s...)' -/
theorem wpList_append_lit {ops : Array Oper} {rest : List Oper} {o : Oper} {w : World} {a : Act} {Q : Exit → Act → World → Prop} (hgd : o.guard = none) (s x : Operand) (t : TypeId)
    (ho : o.op = .call { callee := .builtin .append, args := #[s, x], argTypes := #[t, t] })
    (base : Nat) (e : TypeId) (i : TypeInfo) (z : Value) (bytes : Nat) (ht : P.underlying t = some (.slice e)) (hi : P.info? e = some i) (hz : i.zero = some z)
    (hsize : i.size = 1) (hby : i.bytes = bytes) (hzs : z.cells.size = 1)
    (g cap : Nat) (hs : a.eval s = .slice (some ⟨g, 0, none⟩) 0 cap) (hown : w.ownsRow base e 1 (.slice (some ⟨g, 0, none⟩) 0 cap) 0 [])
    (ao : Option Addr) (m c : Nat) (news : List Value) (hx : a.eval x = .slice ao m c) (hl : news.length = m) (hnews : 0 < m → ∃ ad, ao = some ad ∧ ∀ j u, news[j]? = some u → w.cell? (ad.add j) = some u) (h1 : ∀ u ∈ news, u.oneCell' = true)
    (h63 : m ≤ maxLen) (hbytes : m * bytes ≤ 140737488355328) (hbase : base ≤ w.heap.size)
    (h : ∀ v' w', w'.ownsRow base e 1 v' m news → w.grownBy w' (some g) → v' ≠ .slice none 0 0 → (v'.ownBlock = some g ∨ v'.ownBlock = some w.heap.size) → wpList P ops Q rest (a.put o.dst v') w') :
    wpList P ops Q (o :: rest) a w := by
  by_cases h0 : 0 < m
  · obtain ⟨ad, rfl, hc⟩ := hnews h0
    refine wpList_append_own_at _ hgd s x t ho base e i z 1 bytes ht hi hz hsize hby hzs (by decide) _ 0 [] hs hown ad m c news hx (by omega) hc h1 (by omega) (by rw [Nat.zero_add]; exact hbytes) hbase ?_
    intro v' w' h2 h3 h4 h5
    refine h v' w' (by simpa using h2) h3 ?_ h5
    intro hv
    have := (h4.1 hv).1
    cases this
  · obtain rfl : m = 0 := by omega
    obtain rfl : news = [] := List.eq_nil_of_length_eq_zero hl
    refine wpList_plain hgd fun K hK => ?_
    unfold Oper.wp execOp
    simp only [ho, resolve, invoke, builtin, Sem.run_bind, Sem.run_pure, Result.andThen_ok, List.map_toArray, List.map_cons, List.map_nil, hs, hx, run_append_none w t o.type e i ht hi g cap ao c]
    exact hK _ _ (h _ w hown ⟨rfl, rfl, rfl, Nat.le_refl _, fun _ _ _ => rfl⟩ (by simp) (.inl rfl))
end
/-- bytes with their sum behind them -/
def signB (bs : List Int) : List Int := bs ++ leB (sumI 0 bs) 4
theorem signB_byts {bs : List Int} (h : Byts bs) : Byts (signB bs) := h.append (leB_byts _ _)
theorem signB_len (bs : List Int) : (signB bs).length = bs.length + 4 := by simp [signB, leB_len]
set_option maxRecDepth 100000 in
set_option maxHeartbeats 4000000 in
theorem signed_any (w : World) (v : Value) (bs : List Int) (hv : BytesAt w v bs) (hb : Byts bs) (hl : bs.length ≤ 100000) :
    Calls Tryz.prog 16 #[v] w (NewB w (signB bs)) := by
  obtain ⟨i0', hi, hz0, hz1, hz2⟩ := info_parts Tryz.info8
  have HV := Lib.hid hv
  have HBY := Lib.hid hb
  have hown0 := World.ownsRow_lit (base := w.heap.size) (e := 5) (size := 1) w #[] 0 (by exact Nat.le_refl _) (by unfold maxLen; omega) (by simp)
  have HO1 := Lib.hid hown0
  have HB1 : Hid (Below w.heap.size w (w.alloc (.cells #[] 5))) := Lib.hid ((Below.refl _ _).alloc (Nat.le_refl _) _)
  clear hown0
  obtain ⟨ao, cap, rfl, hcap, hmx, hc⟩ := hv
  obtain ⟨n, hn⟩ : ∃ n, n = bs.length := ⟨_, rfl⟩
  have HN := Lib.hid hn
  have HNEWS := Lib.hid (HV.out.news rfl _ HB1.out)
  have HPE := Lib.hid (fun w' (hb' : Below w.heap.size w w') => rext_any 0 _ bs w' (HV.out.kept hb') hb (by decide) (by decide) hl)
  rw [← hn] at hcap hl HNEWS HPE ⊢
  have hsb := sumI_bd 0 bs
  have e1 : IntKind.u64.wrap (sumI 0 bs) = sumI 0 bs := by rw [wrapU_mod]; omega
  have e2 : sumI 0 bs % (18446744073709551616 : Int) = sumI 0 bs := by omega
  have HPB : Hid (∀ w', Calls Tryz.prog 43 #[.int .u64 (sumI 0 bs), .int .i64 4] w' (NewB w' (leB (sumI 0 bs) 4))) := Lib.hid (fun w' => rbytes_any w' (sumI 0 bs) 4 hsb.1 (by omega) (by omega))
  have HSG : Hid (signB bs = bs ++ leB (sumI 0 bs) 4) := Lib.hid rfl
  have HLL : Hid ((leB (sumI 0 bs) 4).length = 4) := Lib.hid (leB_len _ _)
  clear hn hc hsb hb
  generalize leB (sumI 0 bs) 4 = tb at *
  generalize sumI 0 bs = sm at *
  go_enter Tryz.func16, Tryz.ntmps16
  go_wp2_with (at_builtin; refine wpList_append_lit rfl _ _ 33 rfl w.heap.size 5 i0' (.int .u8 0) 1 Tryz.underlying33 hi hz0 hz1 hz2 rfl w.heap.size 0 rfl HO1.out ao n cap (bs.map (Value.int .u8)) rfl (by rw [List.length_map]; exact HN.out.symm) HNEWS.out (fun u hu => by obtain ⟨z, -, rfl⟩ := List.mem_map.1 hu; rfl) (by unfold maxLen; omega) (by omega) (by simp) ?_)
  intro v5 w5 o5 g5 n5 q5
  have HO5 : Hid (OwnB w5 w.heap.size v5 bs) := Lib.hid (by unfold OwnB; rw [← HN.out]; exact o5)
  have HB5 : Hid (Below w.heap.size w w5) := Lib.hid (HB1.out.grown g5 (by simp) (fun k e => by have := Option.some.inj e; omega))
  have HNIL := Lib.hid n5
  clear o5 g5 n5 q5 HO1 HB1
  go_wp2_with fail
  with_reducible refine (HPE.out _ HB5.out).mono ?_
  rintro e w6 ⟨rfl, hw6⟩
  subst hw6
  go_wp2_with fail
  with_reducible refine (HPB.out _).mono ?_
  rintro e w7 ⟨v7, rfl, ho7, hn7, hb7⟩
  have HO7 := Lib.hid (HO5.out.kept hb7)
  have HB7 := Lib.hid (btr HB5.out hb7)
  have hat := ho7.at
  obtain ⟨ao7, cap7, e7, hc7, hm7, -⟩ := hat
  have HNW := Lib.hid (BytesAt.news (n := tb.length) (by rw [← e7]; exact ho7.at) rfl w7 (Below.refl _ _))
  subst e7
  rw [HLL.out] at HNW hc7 ⊢
  clear ho7 hn7 hb7
  obtain ⟨ad7, ead, hnw⟩ := HNW.out (by omega)
  subst ead
  have HNW2 := Lib.hid hnw
  have hc1 : bs.length + 4 ≤ maxLen := by have := HN.out; unfold maxLen; omega
  have hc4 : (bs.length + 4) * 1 ≤ 140737488355328 := by have := HN.out; omega
  clear hnw
  go_wp2_with (at_builtin; refine wpList_append_own_at _ rfl _ _ 33 rfl w.heap.size 5 i0' (.int .u8 0) 1 1 Tryz.underlying33 hi hz0 hz1 hz2 rfl (by decide) _ bs.length _ rfl HO7.out ad7 4 cap7 (tb.map (Value.int .u8)) rfl (by rw [List.length_map]; exact HLL.out) HNW2.out ?c2 hc1 hc4 ?c5 ?_)
  case c2 => exact fun u hu => by obtain ⟨z, -, rfl⟩ := List.mem_map.1 hu; rfl
  case c5 => exact HB7.out.size
  intro v8 w8 hown' hgrow hnil' hq9
  have HO8 : Hid (OwnB w8 w.heap.size v8 (signB bs)) := Lib.hid (by unfold OwnB; rw [HSG.out, List.length_append, HLL.out, List.map_append]; exact hown')
  have HB8 : Hid (Below w.heap.size w w8) := Lib.hid (HB7.out.grown hgrow HB7.out.size (fun k e => (HO7.out.lt k e).1))
  have HNIL' : Hid (v8 ≠ .slice none 0 0) := Lib.hid (fun h => by have := hnil'; simp_all)
  clear hown' hgrow hnil' hq9
  go_wp2
  go_ret
  exact ⟨_, rfl, HO8.out, HNIL'.out, HB8.out⟩
end Go.Proofs.YtbghchgmoiniiaaGreat

/-
  The walk of the reference's grid: New. Conditions: none beyond those stated at each theorem.
-/
namespace Go.Proofs.YtbghchgmoiniiaaGreat
open Go.RowKit
set_option linter.unusedVariables false
set_option linter.unusedSimpArgs false

def RNewPost (w : World) (R W : Nat) (e : Ending) (w' : World) : Prop :=
  ∃ G v B K, e = .returned (.pointer (some ⟨G, 0, none⟩)) ∧ RefIs w' w.heap.size G v B K R W (List.replicate (R * W) 0) ∧ Below w.heap.size w w'

/-- the rows that are laid: j of them -/
structure RowsZ (w : World) (A : Nat) (v : Value) (B K : Nat → Nat) (j W : Nat) : Prop where
  box : Blk w A 136 #[v]
  own : w.ownsRow (A + 1) 62 1 v j ((List.range j).map fun r => Value.slice (some ⟨B r, 0, none⟩) W (K r))
  cap : ∀ r, r < j → W ≤ K r
  cells : ∀ r, r < j → ∃ cur : Array Value, Blk w (B r) 2 cur ∧ ∀ (c : Nat), c < W → cur[c]? = some (Value.int .i64 0)
  inj : ∀ r r', r < j → r' < j → B r = B r' → r = r'
  lo : ∀ r, r < j → A + 1 ≤ B r
theorem RowsZ.grown {w w' : World} {A : Nat} {v : Value} {B K : Nat → Nat} {j W : Nat} {row : Option Nat} (h : RowsZ w A v B K j W) (hb : w.grownBy w' row) (h1 : some A ≠ row) (h2 : v.ownBlock = none ∨ v.ownBlock ≠ row) (h3 : ∀ r, r < j → some (B r) ≠ row) : RowsZ w' A v B K j W :=
  ⟨h.box.grown hb h1, h.own.kept hb h2, h.cap, fun r hr => by obtain ⟨cur, hc, hcur⟩ := h.cells r hr; exact ⟨cur, hc.grown hb (h3 r hr), hcur⟩, h.inj, h.lo⟩
theorem RowsZ.kept {w w' : World} {A : Nat} {v : Value} {B K : Nat → Nat} {j W : Nat} (h : RowsZ w A v B K j W) (hb : Below w.heap.size w w') : RowsZ w' A v B K j W :=
  h.grown (row := none) ⟨hb.os, hb.tape, hb.output, hb.size, fun k hk _ => hb.block k hk⟩ (by simp) (by cases v.ownBlock <;> simp) (by simp)
theorem RowsZ.ltB {w : World} {A : Nat} {v : Value} {B K : Nat → Nat} {j W : Nat} (h : RowsZ w A v B K j W) {r : Nat} (hr : r < j) : B r < w.heap.size := by
  obtain ⟨cur, hc, _⟩ := h.cells r hr; exact hc.lt

theorem own_ne {w : World} {base : Nat} {e t : TypeId} {v : Value} {n : Nat} {xs : List Value} {b : Nat} {cs : Array Value} (h : w.ownsRow base e 1 v n xs) (hb : Blk w b t cs) (hne : e ≠ t) : v.ownBlock ≠ some b := by
  rcases h.2 with ⟨rfl, _⟩ | ⟨g, cap, cur, rfl, _, hg, _⟩
  · simp [Value.ownBlock]
  · simp only [Value.ownBlock]
    intro e2
    have e2 : g = b := Option.some.inj e2
    exact Blk.ne_ (w := w) (g := g) (g' := b) hg hb hne e2
theorem RowsZ.push {w w3 : World} {A : Nat} {v v' : Value} {B K : Nat → Nat} {j W b cp : Nat} {cur : Array Value} (h : RowsZ w A v B K j W) (hg : w.grownBy w3 v.ownBlock)
    (hown : w3.ownsRow (A + 1) 62 1 v' (j + 1) (((List.range j).map fun r => Value.slice (some ⟨B r, 0, none⟩) W (K r)) ++ [.slice (some ⟨b, 0, none⟩) W cp]))
    (hrow : Blk w b 2 cur) (hcur : ∀ c, c < W → cur[c]? = some (Value.int .i64 0)) (hW : W ≤ cp) (hA : A + 1 ≤ b) (hnB : ∀ r, r < j → B r ≠ b) :
    RowsZ (w3.setCell ⟨A, 0, none⟩ v') A v' (fun r => if r = j then b else B r) (fun r => if r = j then cp else K r) (j + 1) W := by
  have hvA : v.ownBlock ≠ some A := fun e => by have := (h.own.lt A e).1; omega
  have hbox3 : Blk w3 A 136 #[v] := h.box.grown hg (fun e => hvA e.symm)
  have hvA' : v'.ownBlock ≠ some A := fun e => by have := (hown.lt A e).1; omega
  have hgs := grown_set w3 A 0 v'
  have hr3 : ∀ r, r < j + 1 → ∃ cur : Array Value, Blk w3 (if r = j then b else B r) 2 cur ∧ ∀ (c : Nat), c < W → cur[c]? = some (Value.int .i64 0) := by
    intro r hr
    by_cases e : r = j
    · rw [if_pos e]; exact ⟨cur, hrow.grown hg (fun e2 => own_ne h.own hrow (by decide) e2.symm), hcur⟩
    · rw [if_neg e]
      obtain ⟨c2, h2, h3⟩ := h.cells r (by omega)
      exact ⟨c2, h2.grown hg (fun e2 => own_ne h.own h2 (by decide) e2.symm), h3⟩
  have hloB : ∀ r, r < j + 1 → A + 1 ≤ (if r = j then b else B r) := by
    intro r hr
    by_cases e : r = j
    · rw [if_pos e]; exact hA
    · rw [if_neg e]; exact h.lo r (by omega)
  refine ⟨by simpa using hbox3.set_ 0 v', ?_, fun r hr => ?_, fun r hr => ?_, fun r r' hr hr' e => ?_, hloB⟩
  · have := hown.kept hgs (.inr hvA')
    have e : (List.range (j + 1)).map (fun r => Value.slice (some ⟨(if r = j then b else B r), 0, none⟩) W (if r = j then cp else K r)) = ((List.range j).map fun r => Value.slice (some ⟨B r, 0, none⟩) W (K r)) ++ [.slice (some ⟨b, 0, none⟩) W cp] := by
      rw [List.range_succ, List.map_append]
      congr 1
      · apply List.map_congr_left
        intro r hr
        have : r ≠ j := by have := List.mem_range.1 hr; omega
        rw [if_neg this, if_neg this]
      · simp
    rw [e]
    exact this
  · by_cases e : r = j
    · simp only [if_pos e]; exact hW
    · simp only [if_neg e]; exact h.cap r (by omega)
  · obtain ⟨c2, h2, h3⟩ := hr3 r hr
    have := hloB r hr
    exact ⟨c2, h2.far (by simp; omega) _, h3⟩
  · by_cases e1 : r = j
    · by_cases e2 : r' = j
      · omega
      · simp only [if_pos e1, if_neg e2] at e
        exact absurd e.symm (hnB r' (by omega))
    · by_cases e2 : r' = j
      · simp only [if_neg e1, if_pos e2] at e
        exact absurd e (hnB r (by omega))
      · simp only [if_neg e1, if_neg e2] at e
        exact h.inj r r' (by omega) (by omega) e
theorem RowsZ.ref {w : World} {A : Nat} {v : Value} {B K : Nat → Nat} {R W : Nat} (h : RowsZ w A v B K R W) (hR : R ≤ 8) (hW : W ≤ 128) : RefIs w A A v B K R W (List.replicate (R * W) 0) := by
  refine ⟨h.box, ⟨h.own.1, ?_⟩, h.cap, fun r hr => ?_, h.inj, ⟨Nat.le_refl _, fun r hr => by have := h.lo r hr; omega⟩, by simp, hR, hW⟩
  · rcases h.own.2 with h1 | ⟨g, cap, cur, h1, h2, h3⟩
    · exact .inl h1
    · exact .inr ⟨g, cap, cur, h1, by omega, h3⟩
  · obtain ⟨cur, h1, h2⟩ := h.cells r hr
    refine ⟨cur, h1, fun c u hc hu => ?_⟩
    have := List.mem_of_getElem? hu
    simp at this
    rw [h2 c hc, this.2]

theorem Tryz.infoSl : (Tryz.prog.info? 62).map (fun i => (i.zero, i.size, i.bytes)) = some (some (.slice none 0 0), 1, 24) := by kernel_rfl

set_option maxRecDepth 100000 in
set_option maxHeartbeats 4000000 in
theorem rnew_any (rI cI : Int) (w : World) : Calls Tryz.prog 74 #[.int .i64 rI, .int .i64 cI] w (RNewPost w (clampN rI 8) (clampN cI 128)) := by
  have hR := clampN_le rI 8
  have hW := clampN_le cI 128
  have eR : ∀ j : Nat, (decide ((j : Int) < rI) = true ∧ decide ((j : Int) < 8) = true) ↔ j < clampN rI 8 := by intro j; simp only [decide_eq_true_eq, clampN]; omega
  have eW : ∀ j : Nat, (decide ((j : Int) < cI) = true ∧ decide ((j : Int) < 128) = true) ↔ j < clampN cI 128 := by intro j; simp only [decide_eq_true_eq, clampN]; omega
  generalize clampN rI 8 = R at *
  generalize clampN cI 128 = W at *
  have ER := Lib.hid eR
  have EW := Lib.hid eW
  clear eR eW
  obtain ⟨i0, hi, hz0, hz1, hz2⟩ := info_parts Tryz.info64
  obtain ⟨i1, hj, hy0, hy1, hy2⟩ := info_parts Tryz.infoSl
  go_enter Tryz.func74, Tryz.ntmps74
  go_wp2_with fail
  obtain ⟨g1, hbel, hsz⟩ := news1 w (.cells #[.slice none 0 0] 136)
  have hz : RowsZ (w.alloc (.cells #[.slice none 0 0] 136)) w.heap.size (.slice none 0 0) (fun _ => 0) (fun _ => 0) 0 W :=
    ⟨g1, World.ownsRow_nil _ _ _ _, fun r hr => by omega, fun r hr => by omega, fun r r' hr => by omega, fun r hr => by omega⟩
  clear g1
  generalize (w.alloc (.cells #[.slice none 0 0] 136)) = wz at *
  generalize hA : w.heap.size = A at *
  have HA := Lib.hid hA
  have HZ := Lib.hid hz
  have HB := Lib.hid hbel
  clear hA hz hbel
  go_loopw [6] (fun i wr => ∃ (j : Nat) (v : Value) (B K : Nat → Nat), j ≤ R ∧ i = .int .i64 (j : Int) ∧ RowsZ wr A v B K j W ∧ Below A w wr ∧ A + 1 ≤ wr.heap.size) (fun i _ => R - (intOf i).toNat)
  case atStart => exact ⟨0, _, _, _, by omega, rfl, HZ.out, HB.out, by omega⟩
  case round =>
    obtain ⟨j, v, B, K, hjr, rfl, hz, hbel, hsz⟩ := hrel
    clear HZ HB
    have HZ := Lib.hid hz
    have HB := Lib.hid hbel
    clear hz hbel
    by_cases hlt : j < R
    · obtain ⟨d1, d2⟩ := (ER.out j).2 hlt
      go_wp2_with fail
      obtain ⟨g1, hb1, hsz1⟩ := news1 wr (.cells #[] 2)
      have hown0 := World.ownsRow_lit (base := wr.heap.size) (e := 2) (size := 1) wr #[] 0 (by simp) (by unfold maxLen; omega) (by simp)
      have hz1 := HZ.out.kept hb1
      have hbel1 : Below A w (wr.alloc (.cells #[] 2)) := HB.out.trans (hb1.mono (by omega))
      generalize hwn : (wr.alloc (.cells #[] 2)) = wn at *
      clear hwn g1 hb1
      have HLT : Hid (∀ r, r < j → B r < wr.heap.size) := Lib.hid (fun r hr => HZ.out.ltB hr)
      have HLV : Hid (∀ k, v.ownBlock = some k → k < wr.heap.size) := Lib.hid (fun k hk => (HZ.out.own.lt k hk).2)
      generalize hM : wr.heap.size = M at *
      clear hM
      have HZ1 := Lib.hid hz1
      have HB1 := Lib.hid hbel1
      have HO1 := Lib.hid hown0
      clear hz1 hbel1 hown0 HZ HB
      go_loopw [7, 8] (fun x i wr => ∃ (c : Nat), c ≤ W ∧ i = .int .i64 (c : Int) ∧ x ≠ .slice none 0 0 ∧ wr.ownsRow M 2 1 x c (List.replicate c (Value.int .i64 0)) ∧ RowsZ wr A v B K j W ∧ Below A w wr ∧ M ≤ wr.heap.size) (fun _ i _ => W - (intOf i).toNat)
      case atStart => exact ⟨0, by omega, rfl, by simp, HO1.out, HZ1.out, HB1.out, by omega⟩
      case round =>
        obtain ⟨c, hcw, rfl, hnil, hown, hz, hbel, hszM⟩ := hrel
        clear HZ1 HB1 HO1
        have HZ := Lib.hid hz
        have HB := Lib.hid hbel
        have HO := Lib.hid hown
        have HNIL := Lib.hid hnil
        clear hz hbel hown hnil
        by_cases hltc : c < W
        · obtain ⟨d3, d4⟩ := (EW.out c).2 hltc
          have hlen : c + 1 ≤ maxLen := by unfold maxLen; omega
          go_wp2_with (at_builtin; refine wpList_append_own_at _ rfl _ _ 62 rfl M 2 i0 (.int .i64 0) 1 8 Tryz.underlying62 hi hz0 hz1 hz2 rfl (by decide) _ c _ rfl (HO.out.alloc _) ⟨wr.heap.size, 0, none⟩ 1 1 [.int .i64 0] rfl rfl (cell_one_new _ _ _) ?c2 hlen ?c4 ?c5 ?_)
          case c2 => simp [Value.oneCell']
          case c4 => omega
          case c5 => simp; omega
          intro v' w3 hown' hgrow hnil' hq9
          have HNIL' : Hid (v' ≠ .slice none 0 0) := Lib.hid (fun h => by have := HNIL.out; simp_all)
          have HO3 : Hid (w3.ownsRow M 2 1 v' (c + 1) (List.replicate (c + 1) (Value.int .i64 0))) := Lib.hid (by rw [List.replicate_succ']; exact hown')
          have hown2 := HO.out
          have hMk : ∀ k, Value.ownBlock u7 = some k → M ≤ k := fun k hk => (hown2.lt k hk).1
          have HZ3 : Hid (RowsZ w3 A v B K j W) := Lib.hid ((HZ.out.kept ((Below.refl _ _).alloc (Nat.le_refl _) _)).grown hgrow (fun e => by have := hMk A e.symm; omega)
            (by cases hv : v.ownBlock with
              | none => exact .inl rfl
              | some k => exact .inr (fun e => by have := hMk k e.symm; have := HLV.out k hv; omega))
            (fun r hr e => by have := hMk _ e.symm; have := HLT.out r hr; omega))
          have HB3 : Hid (Below A w w3) := Lib.hid ((HB.out.alloc (by omega) _).grown hgrow (by simp; omega) (fun k e => by have := hMk k e; omega))
          have hsz3 : M ≤ w3.heap.size := by have := hgrow.size; simp at this; omega
          clear hown' hgrow hnil' hq9 hown2 hMk
          go_wp2
          go_roundw
          case rel => exact ⟨c + 1, by omega, by go_num, HNIL'.out, HO3.out, HZ3.out, HB3.out, hsz3⟩
          case measure => simp [intOf]; omega
        · obtain rfl : c = W := by omega
          have hd : decide ((c : Int) < cI) = false ∨ (decide ((c : Int) < cI) = true ∧ decide ((c : Int) < 128) = false) := by
            cases h1 : decide ((c : Int) < cI) with
            | false => exact .inl rfl
            | true =>
              cases h2 : decide ((c : Int) < 128) with
              | false => exact .inr ⟨rfl, rfl⟩
              | true => exact absurd ((EW.out c).1 ⟨h1, h2⟩) hltc
          have hrow := HO.out
          rw [show List.replicate c (Value.int .i64 0) = (List.replicate c (0 : Int)).map (Value.int .i64) by simp] at hrow
          obtain ⟨b, cp, rfl, hMb, hcp, cur, hcur, hz0'⟩ := own_row (zs := List.replicate c 0) (by simpa using hrow) HNIL.out
          simp only [List.length_replicate] at hcp ⊢
          have HCUR := Lib.hid hcur
          have HZ0 : Hid (∀ k, k < c → cur[k]? = some (Value.int .i64 0)) := Lib.hid (fun k hk => hz0' k 0 (by simp [hk]))
          have hbx := HZ.out.box.cell 0
          have hbf := HZ.out.box.frozen 0
          simp at hbx
          have HOV := Lib.hid HZ.out.own
          have hjm : j + 1 ≤ maxLen := by unfold maxLen; omega
          have hAlt := HZ.out.box.lt
          clear hrow hcur hz0' HO
          rcases hd with d3 | ⟨d3, d4⟩
          all_goals
            go_wp2_with (at_builtin; refine wpList_append_own_at _ rfl _ _ 134 rfl (A + 1) 62 i1 (.slice none 0 0) 1 24 Tryz.underlying134 hj hy0 hy1 hy2 rfl (by decide) _ j _ rfl (HOV.out.alloc _) ⟨wr.heap.size, 0, none⟩ 1 1 [.slice (some ⟨b, 0, none⟩) c cp] rfl rfl (cell_one_new _ _ _) ?c2 hjm ?c4 ?c5 ?_)
            case c2 => simp [Value.oneCell']
            case c4 => omega
            case c5 => simp; omega
            intro v' w3 hown' hgrow hnil' hq9
            obtain ⟨L, capL, rfl⟩ : ∃ L capL, v' = .slice (some ⟨L, 0, none⟩) (j + 1) capL := by
              rcases hown'.2 with ⟨_, h0⟩ | ⟨L, capL, curL, h1, _⟩
              · omega
              · exact ⟨L, capL, h1⟩
            have hpush := RowsZ.push (HZ.out.kept ((Below.refl _ _).alloc (Nat.le_refl _) (.cells #[.slice (some ⟨b, 0, none⟩) c cp] 62))) hgrow hown' (HCUR.out.alloc _) HZ0.out hcp (by omega) (fun r hr => by have := HLT.out r hr; omega)
            have HP := Lib.hid hpush
            have hvk : ∀ k, v.ownBlock = some k → A + 1 ≤ k := fun k hk => (HOV.out.lt k hk).1
            have HB3 : Hid (Below A w w3) := Lib.hid ((HB.out.alloc (by omega) _).grown hgrow (by simp; omega) (fun k e => by have := hvk k e; omega))
            have hbx3 : w3.cell? ⟨A, 0, none⟩ = some v := by
              have h1 := (hgrow.block A (by simp; omega) (fun e => by have := hvk A e.symm; omega))
              have h2 := Blk.alloc HZ.out.box (.cells #[.slice (some ⟨b, 0, none⟩) c cp] 62)
              exact (Blk.cell (w := w3) (h1.trans h2) 0)
            have hbf3 : w3.frozen? ⟨A, 0, none⟩ = false := by
              have h1 := (hgrow.block A (by simp; omega) (fun e => by have := hvk A e.symm; omega))
              have h2 := Blk.alloc HZ.out.box (.cells #[.slice (some ⟨b, 0, none⟩) c cp] 62)
              exact (Blk.frozen (w := w3) (h1.trans h2) 0)
            have hs3 : A + 1 ≤ w3.heap.size := by have := hgrow.size; simp at this; omega
            clear hown' hgrow hnil' hq9 hpush hvk hbx hbf
            go_wp2
            go_roundw
            case rel => exact ⟨j + 1, _, _, _, by omega, by go_num, HP.out, HB3.out.setCell (Nat.le_refl _) _, by simp [World.setCell]; omega⟩
            case measure => simp [intOf]; omega
    · obtain rfl : j = R := by omega
      have hd : decide ((j : Int) < rI) = false ∨ (decide ((j : Int) < rI) = true ∧ decide ((j : Int) < 8) = false) := by
        cases h1 : decide ((j : Int) < rI) with
        | false => exact .inl rfl
        | true =>
          cases h2 : decide ((j : Int) < 8) with
          | false => exact .inr ⟨rfl, rfl⟩
          | true => exact absurd ((ER.out j).1 ⟨h1, h2⟩) hlt
      have HP : Hid (RNewPost w j W (.returned (.pointer (some ⟨A, 0, none⟩))) wr) := ⟨A, v, B, K, rfl, by rw [HA.out]; exact HZ.out.ref hR hW, by rw [HA.out]; exact HB.out⟩
      rcases hd with d3 | ⟨d3, d4⟩
      all_goals
        go_wp2
        go_ret
        exact HP.out
end Go.Proofs.YtbghchgmoiniiaaGreat

/-
  The walks of the document's array: New, Point, Copy, Update. Conditions: none beyond those stated at each theorem.
-/
namespace Go.Proofs.YtbghchgmoiniiaaGreat
open Go.RowKit
set_option linter.unusedVariables false
set_option linter.unusedSimpArgs false

theorem ladd_yes (a b : Int) (ha : In64 a) (hb : In64 b) (h : In64 (a + b)) (w : World) : Calls Tryz.prog 77 #[.int .i64 a, .int .i64 b] w (TwoPost w (a + b) true) := by
  have P1 := Lib.hid (ofint_any a ha.1 ha.2)
  have P2 := Lib.hid (ofint_any b hb.1 hb.2)
  have P3 := Lib.hid (lplus_any a b)
  have P4 := Lib.hid (lint_yes (a + b) h.1 h.2)
  clear ha hb h
  unfold TwoPost
  generalize a + b = x at *
  go_enter Tryz.func77, Tryz.ntmps77
  go_wp2_with fail
  with_reducible refine (P1.out _).mono ?_
  rintro e w1 ⟨rfl, h1⟩
  have H1 := Lib.hid h1
  clear h1
  go_wp2_with fail
  with_reducible refine (P2.out _).mono ?_
  rintro e w2 ⟨rfl, h2⟩
  have H2 := Lib.hid (btr H1.out h2)
  clear h2
  go_wp2_with fail
  with_reducible refine (P3.out _).mono ?_
  rintro e w3 ⟨rfl, h3⟩
  have H3 := Lib.hid (btr H2.out h3)
  clear h3
  go_wp2_with fail
  with_reducible refine (P4.out _).mono ?_
  rintro e w4 ⟨rfl, h4⟩
  have H4 := Lib.hid (btr H3.out h4)
  clear h4
  go_wp2
  go_ret2
  exact ⟨rfl, H4.out⟩
theorem ladd_no (a b : Int) (ha : In64 a) (hb : In64 b) (h : ¬ In64 (a + b)) (w : World) : Calls Tryz.prog 77 #[.int .i64 a, .int .i64 b] w (TwoPost w 0 false) := by
  have P1 := Lib.hid (ofint_any a ha.1 ha.2)
  have P2 := Lib.hid (ofint_any b hb.1 hb.2)
  have P3 := Lib.hid (lplus_any a b)
  have P4 := Lib.hid (lint_no (a + b) (by have := ha.1; have := hb.1; omega) (by have := ha.2; have := hb.2; omega) h)
  clear ha hb h
  unfold TwoPost
  generalize a + b = x at *
  go_enter Tryz.func77, Tryz.ntmps77
  go_wp2_with fail
  with_reducible refine (P1.out _).mono ?_
  rintro e w1 ⟨rfl, h1⟩
  have H1 := Lib.hid h1
  clear h1
  go_wp2_with fail
  with_reducible refine (P2.out _).mono ?_
  rintro e w2 ⟨rfl, h2⟩
  have H2 := Lib.hid (btr H1.out h2)
  clear h2
  go_wp2_with fail
  with_reducible refine (P3.out _).mono ?_
  rintro e w3 ⟨rfl, h3⟩
  have H3 := Lib.hid (btr H2.out h3)
  clear h3
  go_wp2_with fail
  with_reducible refine (P4.out _).mono ?_
  rintro e w4 ⟨rfl, h4⟩
  have H4 := Lib.hid (btr H3.out h4)
  clear h4
  go_wp2
  go_ret2
  exact ⟨rfl, H4.out⟩

section
variable {P : Program}
theorem wp_append_own_at {o : Oper} {a : Act} {w : World} {K : Act → World → Prop} {Q : Exit → Act → World → Prop} (s x : Operand) (t : TypeId)
    (ho : o.op = .call { callee := .builtin .append, args := #[s, x], argTypes := #[t, t] })
    (base : Nat) (e : TypeId) (i : TypeInfo) (z : Value) (size bytes : Nat) (ht : P.underlying t = some (.slice e)) (hi : P.info? e = some i) (hz : i.zero = some z)
    (hsize : i.size = size) (hby : i.bytes = bytes) (hzs : z.cells.size = size) (hsz : 0 < size)
    (v : Value) (n : Nat) (xs : List Value) (hs : a.eval s = v) (hown : w.ownsRow base e size v n xs)
    (ad : Addr) (m c : Nat) (news : List Value) (hx : a.eval x = .slice (some ad) m c) (hl : news.length = m * size) (hnews : ∀ j u, news[j]? = some u → w.cell? (ad.add j) = some u) (h1 : ∀ u ∈ news, u.oneCell' = true)
    (h63 : n + m ≤ maxLen) (hbytes : (n + m) * bytes ≤ 140737488355328) (hbase : base ≤ w.heap.size)
    (h : ∀ v' w', w'.ownsRow base e size v' (n + m) (xs ++ news) → w.grownBy w' v.ownBlock → (v' = .slice none 0 0 ↔ v = .slice none 0 0 ∧ m = 0) → (v'.ownBlock = v.ownBlock ∨ v'.ownBlock = some w.heap.size) → K (a.put o.dst v') w') :
    o.wp P a w K Q := by
  obtain ⟨v', w', hr, h2, h3, h4, h5⟩ := run_append_own_at (P := P) w base t o.type e i z size bytes ht hi hz hsize hby hzs hsz v n xs hown ad m c news hl hnews h1 h63 hbytes hbase
  unfold Oper.wp execOp
  simp only [ho, resolve, invoke, builtin, Sem.run_bind, Sem.run_pure, Result.andThen_ok, List.map_toArray, List.map_cons, List.map_nil, hs, hx, hr]
  exact h v' w' h2 h3 h4 h5
/-- 'append([]T{}, s...)' in a region that draws its order -/
theorem wp_append_lit {o : Oper} {w : World} {a : Act} {K : Act → World → Prop} {Q : Exit → Act → World → Prop} (s x : Operand) (t : TypeId)
    (ho : o.op = .call { callee := .builtin .append, args := #[s, x], argTypes := #[t, t] })
    (base : Nat) (e : TypeId) (i : TypeInfo) (z : Value) (bytes : Nat) (ht : P.underlying t = some (.slice e)) (hi : P.info? e = some i) (hz : i.zero = some z)
    (hsize : i.size = 1) (hby : i.bytes = bytes) (hzs : z.cells.size = 1)
    (g cap : Nat) (hs : a.eval s = .slice (some ⟨g, 0, none⟩) 0 cap) (hown : w.ownsRow base e 1 (.slice (some ⟨g, 0, none⟩) 0 cap) 0 [])
    (ao : Option Addr) (m c : Nat) (news : List Value) (hx : a.eval x = .slice ao m c) (hl : news.length = m) (hnews : 0 < m → ∃ ad, ao = some ad ∧ ∀ j u, news[j]? = some u → w.cell? (ad.add j) = some u) (h1 : ∀ u ∈ news, u.oneCell' = true)
    (h63 : m ≤ maxLen) (hbytes : m * bytes ≤ 140737488355328) (hbase : base ≤ w.heap.size)
    (h : ∀ v' w', w'.ownsRow base e 1 v' m news → w.grownBy w' (some g) → v' ≠ .slice none 0 0 → (v'.ownBlock = some g ∨ v'.ownBlock = some w.heap.size) → K (a.put o.dst v') w') :
    o.wp P a w K Q := by
  by_cases h0 : 0 < m
  · obtain ⟨ad, rfl, hc⟩ := hnews h0
    refine wp_append_own_at s x t ho base e i z 1 bytes ht hi hz hsize hby hzs (by decide) _ 0 [] hs hown ad m c news hx (by omega) hc h1 (by omega) (by rw [Nat.zero_add]; exact hbytes) hbase ?_
    intro v' w' h2 h3 h4 h5
    refine h v' w' (by simpa using h2) h3 ?_ h5
    intro hv
    have := (h4.1 hv).1
    cases this
  · obtain rfl : m = 0 := by omega
    obtain rfl : news = [] := List.eq_nil_of_length_eq_zero hl
    unfold Oper.wp execOp
    simp only [ho, resolve, invoke, builtin, Sem.run_bind, Sem.run_pure, Result.andThen_ok, List.map_toArray, List.map_cons, List.map_nil, hs, hx, run_append_none w t o.type e i ht hi g cap ao c]
    exact h _ w hown ⟨rfl, rfl, rfl, Nat.le_refl _, fun _ _ _ => rfl⟩ (by simp) (.inl rfl)
end

theorem below_grown {w w' : World} {row : Option Nat} (h : Below w.heap.size w w') : w.grownBy w' row := ⟨h.os, h.tape, h.output, h.size, fun k hk _ => h.block k hk⟩
theorem grown_tr {w w1 w2 : World} {row : Option Nat} (h : w.grownBy w1 row) (k : w1.grownBy w2 row) : w.grownBy w2 row :=
  ⟨k.os.trans h.os, k.tape.trans h.tape, k.output.trans h.output, Nat.le_trans h.size k.size, fun j hj hne => (k.block j (Nat.lt_of_lt_of_le hj h.size) hne).trans (h.block j hj hne)⟩
/-- block R is the document's array, its numbers lie in block L -/
def RArr (w : World) (R L : Nat) (b r d m s l : Int) (zs : List Int) : Prop :=
  ∃ (cap : Nat) (cur : Array Value), zs.length ≤ cap ∧ Blk w R 106 #[.int .i64 b, .int .i64 r, .int .i64 d, .int .i64 m, .int .u64 s, .int .i64 l, .slice (some ⟨L, 0, none⟩) zs.length cap] ∧ Blk w L 2 cur ∧ ∀ (i : Nat) (u : Int), zs[i]? = some u → cur[i]? = some (Value.int .i64 u)
theorem RArr.grown {w w' : World} {R L : Nat} {b r d m s l : Int} {zs : List Int} {row : Option Nat} (h : RArr w R L b r d m s l zs) (hb : w.grownBy w' row) (h1 : some R ≠ row) (h2 : some L ≠ row) : RArr w' R L b r d m s l zs := by
  obtain ⟨cap, cur, h3, h4, h5, h6⟩ := h
  exact ⟨cap, cur, h3, h4.grown hb h1, h5.grown hb h2, h6⟩
theorem RArr.kept {w w' : World} {R L : Nat} {b r d m s l : Int} {zs : List Int} (h : RArr w R L b r d m s l zs) (hb : Below w.heap.size w w') : RArr w' R L b r d m s l zs := by
  obtain ⟨cap, cur, h3, h4, h5, h6⟩ := h
  exact ⟨cap, cur, h3, h4.kept hb, h5.kept hb, h6⟩
theorem RArr.ltR {w : World} {R L : Nat} {b r d m s l : Int} {zs : List Int} (h : RArr w R L b r d m s l zs) : R < w.heap.size := by
  obtain ⟨cap, cur, h3, h4, h5, h6⟩ := h
  exact h4.lt
theorem RArr.ltL {w : World} {R L : Nat} {b r d m s l : Int} {zs : List Int} (h : RArr w R L b r d m s l zs) : L < w.heap.size := by
  obtain ⟨cap, cur, h3, h4, h5, h6⟩ := h
  exact h5.lt
theorem RArr.ne {w : World} {R L : Nat} {b r d m s l : Int} {zs : List Int} (h : RArr w R L b r d m s l zs) : R ≠ L := by
  obtain ⟨cap, cur, h3, h4, h5, h6⟩ := h
  exact h4.ne_ h5 (by decide)
/-- of what was there, at most one block has changed -/
def RxPost (w : World) (b r d m s l : Int) (zs : List Int) (e : Ending) (w' : World) : Prop :=
  ∃ R L, e = .returned (.pointer (some ⟨R, 0, none⟩)) ∧ w.heap.size ≤ R ∧ w.heap.size ≤ L ∧ RArr w' R L b r d m s l zs ∧ Below w.heap.size w w'

set_option maxRecDepth 100000 in
set_option maxHeartbeats 4000000 in
theorem rxnew (b r d m s l : Int) (K : Nat) (hK : K ≤ 128) (w : World) :
    Calls Tryz.prog 65 #[.agg #[.int .i64 b, .int .i64 r, .int .i64 d, .int .i64 m, .int .u64 s], .int .i64 l, .int .u64 (K : Int)] w (RxPost w b r d m s l (List.replicate K 0)) := by
  obtain ⟨g1, hb1, hsz1⟩ := news1 w (.cells #[.int .i64 b, .int .i64 r, .int .i64 d, .int .i64 m, .int .u64 s] 24)
  have hx1 : Blk _ w.heap.size 24 #[.int .i64 b, .int .i64 r, .int .i64 d, .int .i64 m, .int .u64 s] := g1
  have HB1 := Lib.hid hb1
  have HX1 := Lib.hid hx1
  have HZ1 : Hid (w.heap.size ≤ (w.alloc (.cells #[.int .i64 b, .int .i64 r, .int .i64 d, .int .i64 m, .int .u64 s] 24)).heap.size) := Lib.hid (by simp)
  clear g1 hb1 hsz1 hx1
  have emk : (if (128 : Int) < (K : Int) then (128 : Int) else (K : Int)) = (K : Int) := by split <;> omega
  have hmk := fun W => run_make_row' (P := Tryz.prog) 62 2 (.int .i64 0) 8 Tryz.underlying62 Tryz.info64 rfl .u64 .u64 K (by omega) (by omega) W
  go_enter Tryz.func65, Tryz.ntmps65
  go_wp2_with fail
  refine wp_region_held_drew (S := fun w' => Blk w' w.heap.size 24 #[.int .i64 b, .int .i64 r, .int .i64 d, .int .i64 m, .int .u64 s] ∧ Below w.heap.size w w') (by kernel_rfl) (by exact ⟨HX1.out.drewN 1, below_drewN HB1.out 1⟩) (fun hHeld => ?_)
  refine wpAnyH_take (i := 0) (v := ?_) rfl (by kernel_rfl) (by kernel_rfl) (by kernel_rfl) (fun _ _ _ h => h) (Or.inl ⟨by rfl, ?_⟩) (by assumption) ?_
  rotate_left
  · intro w hSw
    refine (exec_load_row 24 _ rfl _ rfl 24 _ (0, 0) _ hSw.1 Tryz.underlying24 rfl (by kernel_rfl)).trans ?_
    go_simp
    try with_reducible rfl
  simp only [Act.put, List.setIfInBounds_toArray, List.set_cons_zero, List.set_cons_succ, List.getElem_toArray, List.getElem_cons_zero, List.getElem_cons_succ]
  refine wpAnyH_take (i := 1) (v := ?_) rfl (by kernel_rfl) (by kernel_rfl) (by kernel_rfl) (fun _ _ _ h => h) (Or.inl ⟨by rfl, ?_⟩) (by assumption) ?_
  rotate_left
  · intro w hSw
    try dsimp only at hSw
    go_simp
    try with_reducible rfl
  simp only [Act.put, List.setIfInBounds_toArray, List.set_cons_zero, List.set_cons_succ, List.getElem_toArray, List.getElem_cons_zero, List.getElem_cons_succ]
  refine wpAnyH_take (i := 2) (v := ?_) rfl (by kernel_rfl) (by kernel_rfl) (by kernel_rfl) (fun _ _ _ h => h) (Or.inl ⟨by rfl, ?_⟩) (by assumption) ?_
  rotate_left
  · intro w hSw
    try dsimp only at hSw
    go_simp
    try with_reducible rfl
  simp only [Act.put, List.setIfInBounds_toArray, List.set_cons_zero, List.set_cons_succ, List.getElem_toArray, List.getElem_cons_zero, List.getElem_cons_succ]
  refine wpAnyH_take (i := 3) (v := ?_) rfl (by kernel_rfl) (by kernel_rfl) (by kernel_rfl) (fun _ _ _ h => h) (Or.inl ⟨by rfl, ?_⟩) (by assumption) ?_
  rotate_left
  · intro w hSw
    try dsimp only at hSw
    go_simp
    try with_reducible rfl
  simp only [Act.put, List.setIfInBounds_toArray, List.set_cons_zero, List.set_cons_succ, List.getElem_toArray, List.getElem_cons_zero, List.getElem_cons_succ]
  refine wpAnyH_ready (rs := [4]) (by kernel_rfl) (by simp) ?_
  refine AllReadyH.cons rfl (fun Kc hKc => ?_) AllReadyH.nil
  go_simp
  refine hKc.out _ _ ?_ (fun hHeld => ?_)
  · first | exact hHeld | exact ⟨hHeld.1.alloc _, hHeld.2.alloc hHeld.2.size _⟩
  clear hKc Kc
  refine wpAnyH_take (i := 5) (v := ?_) rfl (by kernel_rfl) (by kernel_rfl) (by kernel_rfl) (fun _ _ _ h => h) (Or.inl ⟨by rfl, ?_⟩) (by assumption) ?_
  rotate_left
  · intro w hSw
    try dsimp only at hSw
    go_simp
    try with_reducible rfl
  simp only [Act.put, List.setIfInBounds_toArray, List.set_cons_zero, List.set_cons_succ, List.getElem_toArray, List.getElem_cons_zero, List.getElem_cons_succ]
  refine wpAnyH_ready (rs := [6]) (by kernel_rfl) (by simp) ?_
  refine AllReadyH.cons rfl (fun Kc hKc => ?_) AllReadyH.nil
  go_simp
  refine hKc.out _ _ ?_ (fun hHeld => ?_)
  · first | exact hHeld | exact ⟨hHeld.1.alloc _, hHeld.2.alloc hHeld.2.size _⟩
  clear hKc Kc
  refine wpAnyH_take (i := 7) (v := ?_) rfl (by kernel_rfl) (by kernel_rfl) (by kernel_rfl) (fun _ _ _ h => h) (Or.inl ⟨by rfl, ?_⟩) (by assumption) ?_
  rotate_left
  · intro w hSw
    try dsimp only at hSw
    go_simp
    try with_reducible rfl
  simp only [Act.put, List.setIfInBounds_toArray, List.set_cons_zero, List.set_cons_succ, List.getElem_toArray, List.getElem_cons_zero, List.getElem_cons_succ]
  refine wpAnyH_done (by kernel_rfl) ?_ _
  have HBL : Hid (Blk (((w.alloc (.cells #[.int .i64 b, .int .i64 r, .int .i64 d, .int .i64 m, .int .u64 s] 24)).alloc (.cells (madeCells #[.int .i64 0] K) 2)).alloc (.cells #[.int .i64 b, .int .i64 r, .int .i64 d, .int .i64 m, .int .u64 s, .int .i64 l, .slice (some ⟨w.heap.size + 1, 0, none⟩) K K] 106)).drew (w.heap.size + 1) 2 (madeCells #[.int .i64 0] K)) := Lib.hid (by
    have h1 := (Blk.new (w.alloc (.cells #[.int .i64 b, .int .i64 r, .int .i64 d, .int .i64 m, .int .u64 s] 24)) 2 (madeCells #[.int .i64 0] K)).alloc (.cells #[.int .i64 b, .int .i64 r, .int .i64 d, .int .i64 m, .int .u64 s, .int .i64 l, .slice (some ⟨w.heap.size + 1, 0, none⟩) K K] 106)
    rw [show (w.alloc (.cells #[.int .i64 b, .int .i64 r, .int .i64 d, .int .i64 m, .int .u64 s] 24)).heap.size = w.heap.size + 1 by simp] at h1
    exact h1.drew)
  have HBR : Hid (Blk (((w.alloc (.cells #[.int .i64 b, .int .i64 r, .int .i64 d, .int .i64 m, .int .u64 s] 24)).alloc (.cells (madeCells #[.int .i64 0] K) 2)).alloc (.cells #[.int .i64 b, .int .i64 r, .int .i64 d, .int .i64 m, .int .u64 s, .int .i64 l, .slice (some ⟨w.heap.size + 1, 0, none⟩) K K] 106)).drew (w.heap.size + 1 + 1) 106 #[.int .i64 b, .int .i64 r, .int .i64 d, .int .i64 m, .int .u64 s, .int .i64 l, .slice (some ⟨w.heap.size + 1, 0, none⟩) K K]) := Lib.hid (by
    have h1 := (Blk.new ((w.alloc (.cells #[.int .i64 b, .int .i64 r, .int .i64 d, .int .i64 m, .int .u64 s] 24)).alloc (.cells (madeCells #[.int .i64 0] K) 2)) 106 #[.int .i64 b, .int .i64 r, .int .i64 d, .int .i64 m, .int .u64 s, .int .i64 l, .slice (some ⟨w.heap.size + 1, 0, none⟩) K K])
    rw [show ((w.alloc (.cells #[.int .i64 b, .int .i64 r, .int .i64 d, .int .i64 m, .int .u64 s] 24)).alloc (.cells (madeCells #[.int .i64 0] K) 2)).heap.size = w.heap.size + 1 + 1 by simp] at h1
    exact h1.drew)
  have HMC : Hid (∀ (i : Nat) (u : Int), (List.replicate K (0 : Int))[i]? = some u → (madeCells #[.int .i64 0] K)[i]? = some (Value.int .i64 u)) := Lib.hid (fun i u hi => by
    have hin : i < K := by
      have := (List.getElem?_eq_some_iff.1 hi).1
      simp at this
      omega
    have hu : u = 0 := by
      have := List.mem_of_getElem? hi
      simp at this
      exact this.2
    subst hu
    have h1 := (World.rowIs_made w (.int .i64 0) K 2).cell hin
    rw [(Blk.new w 2 (madeCells #[.int .i64 0] K)).cell i] at h1
    exact h1)
  have HBB := Lib.hid hHeld.2
  clear hHeld
  go_wp2
  go_ret
  exact ⟨w.heap.size + 1 + 1, w.heap.size + 1, rfl, by omega, by omega, ⟨K, _, by simp, by rw [List.length_replicate]; exact HBR.out, HBL.out, HMC.out⟩, HBB.out⟩

set_option maxRecDepth 100000 in
set_option maxHeartbeats 8000000 in
theorem rxcopy (w : World) (R L : Nat) (b r d m s l : Int) (zs : List Int) (h : RArr w R L b r d m s l zs) (hl : zs.length ≤ 128) :
    Calls Tryz.prog 75 #[.pointer (some ⟨R, 0, none⟩)] w (RxPost w b r d m s l zs) := by
  obtain ⟨cap, cur, hcap, hR, hL, hcur⟩ := h
  have HRL := Lib.hid hR.lt
  have HLL := Lib.hid hL.lt
  have c0 := hR.cell 0
  have c1 := hR.cell 1
  have c2 := hR.cell 2
  have c3 := hR.cell 3
  have c4 := hR.cell 4
  have c5 := hR.cell 5
  have c6 := hR.cell 6
  simp at c0 c1 c2 c3 c4 c5 c6
  have HC : Hid (∀ i u, zs[i]? = some u → w.cell? ⟨L, i, none⟩ = some (.int .i64 u)) := Lib.hid (fun i u hu => (hL.cell i).trans (hcur i u hu))
  obtain ⟨i0, hi, hz0, hz1, hz2⟩ := info_parts Tryz.info64
  obtain ⟨n, hn⟩ : ∃ n, n = zs.length := ⟨_, rfl⟩
  have HN := Lib.hid hn
  rw [← hn] at hl hcap c6
  have HCAP := Lib.hid hcap
  have hown0 := World.ownsRow_lit (base := w.heap.size) (e := 2) (size := 1) (w.drewN 1) #[] 0 (by exact Nat.le_refl _) (by unfold maxLen; omega) (by simp)
  have HO := Lib.hid hown0
  have HNEWS : Hid (∀ w', Below w.heap.size w w' → (0 < n → ∃ ad, (some ⟨L, 0, none⟩ : Option Addr) = some ad ∧ ∀ j u, (zs.map (Value.int .i64))[j]? = some u → w'.cell? (ad.add j) = some u)) := Lib.hid (fun w' hb _ => ⟨_, rfl, fun j u hu => by
    rw [addr_add, Nat.zero_add]
    rw [List.getElem?_map] at hu
    cases hz : zs[j]? with
    | none => rw [hz] at hu; simp at hu
    | some z =>
      rw [hz] at hu
      simp at hu
      subst hu
      exact (hb.cell (p := ⟨L, j, none⟩) HLL.out).trans (HC.out j z hz)⟩)
  clear hR hL hcur hn hown0 hcap
  go_enter Tryz.func75, Tryz.ntmps75
  go_wp2_with fail
  refine wp_region_held_drew (S := fun w' => Below w.heap.size w w') (by kernel_rfl) (by exact below_drewN (Below.refl _ _) 1) (fun hHeld => ?_)
  refine wpAnyH_take (i := 0) (v := ?_) rfl (by kernel_rfl) (by kernel_rfl) (by kernel_rfl) (fun _ _ _ h => h) (Or.inl ⟨by rfl, ?_⟩) (by assumption) ?_
  rotate_left
  · intro w hSw
    try dsimp only at hSw
    go_simp
    try with_reducible rfl
  simp only [Act.put, List.setIfInBounds_toArray, List.set_cons_zero, List.set_cons_succ, List.getElem_toArray, List.getElem_cons_zero, List.getElem_cons_succ]
  refine wpAnyH_take (i := 1) (v := ?_) rfl (by kernel_rfl) (by kernel_rfl) (by kernel_rfl) (fun _ _ _ h => h) (Or.inl ⟨by rfl, ?_⟩) (by assumption) ?_
  rotate_left
  · intro w hSw
    try dsimp only at hSw
    go_simp
    try with_reducible rfl
  simp only [Act.put, List.setIfInBounds_toArray, List.set_cons_zero, List.set_cons_succ, List.getElem_toArray, List.getElem_cons_zero, List.getElem_cons_succ]
  refine wpAnyH_take (i := 2) (v := ?_) rfl (by kernel_rfl) (by kernel_rfl) (by kernel_rfl) (fun _ _ _ h => h) (Or.inl ⟨by rfl, ?_⟩) (by assumption) ?_
  rotate_left
  · intro w hSw
    try dsimp only at hSw
    go_simp
    try with_reducible rfl
  simp only [Act.put, List.setIfInBounds_toArray, List.set_cons_zero, List.set_cons_succ, List.getElem_toArray, List.getElem_cons_zero, List.getElem_cons_succ]
  refine wpAnyH_take (i := 3) (v := ?_) rfl (by kernel_rfl) (by kernel_rfl) (by kernel_rfl) (fun _ _ _ h => h) (Or.inl ⟨by rfl, ?_⟩) (by assumption) ?_
  rotate_left
  · intro w hSw
    have q0 := (hSw.cell (p := ⟨R, 0, none⟩) HRL.out).trans c0
    have q1 := (hSw.cell (p := ⟨R, 1, none⟩) HRL.out).trans c1
    have q2 := (hSw.cell (p := ⟨R, 2, none⟩) HRL.out).trans c2
    have q3 := (hSw.cell (p := ⟨R, 3, none⟩) HRL.out).trans c3
    have q4 := (hSw.cell (p := ⟨R, 4, none⟩) HRL.out).trans c4
    have q5 := (hSw.cell (p := ⟨R, 5, none⟩) HRL.out).trans c5
    have q6 := (hSw.cell (p := ⟨R, 6, none⟩) HRL.out).trans c6
    go_simp
    try with_reducible rfl
  simp only [Act.put, List.setIfInBounds_toArray, List.set_cons_zero, List.set_cons_succ, List.getElem_toArray, List.getElem_cons_zero, List.getElem_cons_succ]
  refine wpAnyH_take (i := 4) (v := ?_) rfl (by kernel_rfl) (by kernel_rfl) (by kernel_rfl) (fun _ _ _ h => h) (Or.inl ⟨by rfl, ?_⟩) (by assumption) ?_
  rotate_left
  · intro w hSw
    try dsimp only at hSw
    go_simp
    try with_reducible rfl
  simp only [Act.put, List.setIfInBounds_toArray, List.set_cons_zero, List.set_cons_succ, List.getElem_toArray, List.getElem_cons_zero, List.getElem_cons_succ]
  refine wpAnyH_take (i := 5) (v := ?_) rfl (by kernel_rfl) (by kernel_rfl) (by kernel_rfl) (fun _ _ _ h => h) (Or.inl ⟨by rfl, ?_⟩) (by assumption) ?_
  rotate_left
  · intro w hSw
    try dsimp only at hSw
    go_simp
    try with_reducible rfl
  simp only [Act.put, List.setIfInBounds_toArray, List.set_cons_zero, List.set_cons_succ, List.getElem_toArray, List.getElem_cons_zero, List.getElem_cons_succ]
  refine wpAnyH_take (i := 6) (v := ?_) rfl (by kernel_rfl) (by kernel_rfl) (by kernel_rfl) (fun _ _ _ h => h) (Or.inl ⟨by rfl, ?_⟩) (by assumption) ?_
  rotate_left
  · intro w hSw
    try dsimp only at hSw
    go_simp
    try with_reducible rfl
  simp only [Act.put, List.setIfInBounds_toArray, List.set_cons_zero, List.set_cons_succ, List.getElem_toArray, List.getElem_cons_zero, List.getElem_cons_succ]
  refine wpAnyH_take (i := 7) (v := ?_) rfl (by kernel_rfl) (by kernel_rfl) (by kernel_rfl) (fun _ _ _ h => h) (Or.inl ⟨by rfl, ?_⟩) (by assumption) ?_
  rotate_left
  · intro w hSw
    have q0 := (hSw.cell (p := ⟨R, 0, none⟩) HRL.out).trans c0
    have q1 := (hSw.cell (p := ⟨R, 1, none⟩) HRL.out).trans c1
    have q2 := (hSw.cell (p := ⟨R, 2, none⟩) HRL.out).trans c2
    have q3 := (hSw.cell (p := ⟨R, 3, none⟩) HRL.out).trans c3
    have q4 := (hSw.cell (p := ⟨R, 4, none⟩) HRL.out).trans c4
    have q5 := (hSw.cell (p := ⟨R, 5, none⟩) HRL.out).trans c5
    have q6 := (hSw.cell (p := ⟨R, 6, none⟩) HRL.out).trans c6
    go_simp
    try with_reducible rfl
  simp only [Act.put, List.setIfInBounds_toArray, List.set_cons_zero, List.set_cons_succ, List.getElem_toArray, List.getElem_cons_zero, List.getElem_cons_succ]
  refine wpAnyH_take (i := 9) (v := ?_) rfl (by kernel_rfl) (by kernel_rfl) (by kernel_rfl) (fun _ _ _ h => h) (Or.inl ⟨by rfl, ?_⟩) (by assumption) ?_
  rotate_left
  · intro w hSw
    try dsimp only at hSw
    go_simp
    try with_reducible rfl
  simp only [Act.put, List.setIfInBounds_toArray, List.set_cons_zero, List.set_cons_succ, List.getElem_toArray, List.getElem_cons_zero, List.getElem_cons_succ]
  refine wpAnyH_take (i := 10) (v := ?_) rfl (by kernel_rfl) (by kernel_rfl) (by kernel_rfl) (fun _ _ _ h => h) (Or.inl ⟨by rfl, ?_⟩) (by assumption) ?_
  rotate_left
  · intro w hSw
    try dsimp only at hSw
    go_simp
    try with_reducible rfl
  simp only [Act.put, List.setIfInBounds_toArray, List.set_cons_zero, List.set_cons_succ, List.getElem_toArray, List.getElem_cons_zero, List.getElem_cons_succ]
  refine wpAnyH_take (i := 11) (v := ?_) rfl (by kernel_rfl) (by kernel_rfl) (by kernel_rfl) (fun _ _ _ h => h) (Or.inl ⟨by rfl, ?_⟩) (by assumption) ?_
  rotate_left
  · intro w hSw
    try dsimp only at hSw
    go_simp
    try with_reducible rfl
  simp only [Act.put, List.setIfInBounds_toArray, List.set_cons_zero, List.set_cons_succ, List.getElem_toArray, List.getElem_cons_zero, List.getElem_cons_succ]
  refine wpAnyH_take (i := 12) (v := ?_) rfl (by kernel_rfl) (by kernel_rfl) (by kernel_rfl) (fun _ _ _ h => h) (Or.inl ⟨by rfl, ?_⟩) (by assumption) ?_
  rotate_left
  · intro w hSw
    have q0 := (hSw.cell (p := ⟨R, 0, none⟩) HRL.out).trans c0
    have q1 := (hSw.cell (p := ⟨R, 1, none⟩) HRL.out).trans c1
    have q2 := (hSw.cell (p := ⟨R, 2, none⟩) HRL.out).trans c2
    have q3 := (hSw.cell (p := ⟨R, 3, none⟩) HRL.out).trans c3
    have q4 := (hSw.cell (p := ⟨R, 4, none⟩) HRL.out).trans c4
    have q5 := (hSw.cell (p := ⟨R, 5, none⟩) HRL.out).trans c5
    have q6 := (hSw.cell (p := ⟨R, 6, none⟩) HRL.out).trans c6
    go_simp
    try with_reducible rfl
  simp only [Act.put, List.setIfInBounds_toArray, List.set_cons_zero, List.set_cons_succ, List.getElem_toArray, List.getElem_cons_zero, List.getElem_cons_succ]
  refine wpAnyH_ready (rs := [8]) (by kernel_rfl) (by simp) ?_
  refine AllReadyH.cons rfl (fun Kc hKc => ?_) AllReadyH.nil
  go_simp
  refine hKc.out _ _ ?_ (fun hHeld => ?_)
  · first | exact hHeld.alloc hHeld.size _ | exact hHeld.grown hgrow hHeld.size (fun k e => by have := Option.some.inj e; omega)
  clear hKc Kc
  refine wpAnyH_ready (rs := [13]) (by kernel_rfl) (by simp) ?_
  refine AllReadyH.cons rfl (fun Kc hKc => ?_) AllReadyH.nil
  refine wp_append_lit _ _ 62 rfl w.heap.size 2 i0 (.int .i64 0) 8 Tryz.underlying62 hi hz0 hz1 hz2 rfl w.heap.size 0 rfl HO.out (some ⟨L, 0, none⟩) n cap (zs.map (Value.int .i64)) rfl (by rw [List.length_map]; exact HN.out.symm) (HNEWS.out _ hHeld) (fun u hu => by obtain ⟨z, -, rfl⟩ := List.mem_map.1 hu; rfl) (by unfold maxLen; omega) (by omega) (by simp) ?_; intro v' w5 hown' hgrow hnil' hq9; have HLO : Hid (w5.ownsRow w.heap.size 2 1 v' zs.length (zs.map (Value.int .i64))) := Lib.hid (by rw [← HN.out]; exact hown'); obtain ⟨L', cp', rfl, hL', hcp', curL, hcL, hcLz⟩ := own_row HLO.out hnil'; have HCL := Lib.hid hcL; have HCLZ := Lib.hid hcLz; rw [← HN.out] at hcp' ⊢
  refine hKc.out _ _ ?_ (fun hHeld => ?_)
  · first | exact hHeld.alloc hHeld.size _ | exact hHeld.grown hgrow hHeld.size (fun k e => by have := Option.some.inj e; omega)
  clear hKc Kc
  refine wpAnyH_take (i := 14) (v := ?_) rfl (by kernel_rfl) (by kernel_rfl) (by kernel_rfl) (fun _ _ _ h => h) (Or.inl ⟨by rfl, ?_⟩) (by assumption) ?_
  rotate_left
  · intro w hSw
    try dsimp only at hSw
    go_simp
    try with_reducible rfl
  simp only [Act.put, List.setIfInBounds_toArray, List.set_cons_zero, List.set_cons_succ, List.getElem_toArray, List.getElem_cons_zero, List.getElem_cons_succ]
  refine wpAnyH_ready (rs := [15]) (by kernel_rfl) (by simp) ?_
  refine AllReadyH.cons rfl (fun Kc hKc => ?_) AllReadyH.nil
  go_simp
  refine hKc.out _ _ ?_ (fun hHeld => ?_)
  · first | exact hHeld.alloc hHeld.size _ | exact hHeld.grown hgrow hHeld.size (fun k e => by have := Option.some.inj e; omega)
  clear hKc Kc
  refine wpAnyH_take (i := 16) (v := ?_) rfl (by kernel_rfl) (by kernel_rfl) (by kernel_rfl) (fun _ _ _ h => h) (Or.inl ⟨by rfl, ?_⟩) (by assumption) ?_
  rotate_left
  · intro w hSw
    try dsimp only at hSw
    go_simp
    try with_reducible rfl
  simp only [Act.put, List.setIfInBounds_toArray, List.set_cons_zero, List.set_cons_succ, List.getElem_toArray, List.getElem_cons_zero, List.getElem_cons_succ]
  refine wpAnyH_done (by kernel_rfl) ?_ _
  have HBR := Lib.hid (Blk.new w5 106 #[.int .i64 b, .int .i64 r, .int .i64 d, .int .i64 m, .int .u64 s, .int .i64 l, .slice (some ⟨L', 0, none⟩) n cp'])
  have HBL := Lib.hid (HCL.out.alloc (.cells #[.int .i64 b, .int .i64 r, .int .i64 d, .int .i64 m, .int .u64 s, .int .i64 l, .slice (some ⟨L', 0, none⟩) n cp'] 106))
  have HBB := Lib.hid hHeld
  have HSZ : Hid (w.heap.size ≤ w5.heap.size) := Lib.hid (by have := hgrow.size; simp at this; omega)
  clear hHeld hown' hgrow hq9 hcL hcLz
  go_wp2
  go_ret
  exact ⟨w5.heap.size, L', rfl, HSZ.out, hL', ⟨cp', curL, by rw [← HN.out]; exact hcp', by rw [← HN.out]; exact HBR.out, HBL.out, HCLZ.out⟩, HBB.out⟩

theorem RArr.set {w : World} {R L : Nat} {b r d m s l : Int} {zs : List Int} (h : RArr w R L b r d m s l zs) (i : Nat) (u : Int) : RArr (w.setCell ⟨L, i, none⟩ (.int .i64 u)) R L b r d m s l (zs.set i u) := by
  have hne := h.ne
  obtain ⟨cap, cur, hcap, hR, hL, hcur⟩ := h
  refine ⟨cap, _, by rw [List.length_set]; exact hcap, by rw [List.length_set]; exact hR.far (by simpa using hne) _, hL.set_ i _, fun j v hv => ?_⟩
  rw [List.getElem?_set] at hv
  rw [Array.getElem?_setIfInBounds]
  split at hv
  · rename_i e
    subst e
    split at hv
    · rename_i hlt
      have := (Array.getElem?_eq_some_iff.1 (hcur i _ (List.getElem?_eq_getElem hlt))).1
      rw [if_pos rfl, if_pos this]
      simp at hv
      rw [hv]
    · cases hv
  · rename_i e
    rw [if_neg e]
    exact hcur j v hv
def RUpPost (w : World) (R L : Nat) (b r d m s l : Int) (zs : List Int) (k : Nat) (x : Int) (e : Ending) (w' : World) : Prop :=
  e = .returned (.int .i64 (chkI zs.length m zs k x)) ∧ RArr w' R L b r d m s l (updZ zs.length m zs k x) ∧ w.grownBy w' (some L)
set_option maxRecDepth 100000 in
set_option maxHeartbeats 4000000 in
theorem rxupdate (w : World) (R L : Nat) (b r d m s l : Int) (k : Nat) (zs : List Int) (x : Int) (h : RArr w R L b r d m s l zs) (hlen : zs.length ≤ 128) (hfit : Fit zs) (hx : In64 x) (hk64 : k < 18446744073709551616) :
    Calls Tryz.prog 68 #[.pointer (some ⟨R, 0, none⟩), .int .u64 (k : Int), .int .i64 x] w (RUpPost w R L b r d m s l zs k x) := by
  have HA := Lib.hid h
  obtain ⟨cap, cur, hcap, hR, hL, hcur⟩ := h
  have c3 := hR.cell 3
  have c6 := hR.cell 6
  simp at c3 c6
  have HRL := Lib.hid hR.lt
  have HLL := Lib.hid hL.lt
  obtain ⟨K, hK⟩ : ∃ K, K = zs.length := ⟨_, rfl⟩
  have HK := Lib.hid hK
  rw [← hK] at c6 hcap hlen
  have e2 : IntKind.u64.wrap (K : Int) = (K : Int) := by rw [wrapU_mod]; omega
  obtain ⟨q, hq⟩ : ∃ q, q = chkI zs.length m zs k x := ⟨_, rfl⟩
  have HQ0 := Lib.hid hq
  have HSAME : Hid (q ≠ 0 → ∀ w', Below w.heap.size w w' → RUpPost w R L b r d m s l zs k x (.returned (.int .i64 q)) w') := Lib.hid (fun hq0 w' hb => by
    refine ⟨by rw [HQ0.out], ?_, below_grown hb⟩
    unfold updZ
    rw [if_neg (by rw [← HQ0.out]; exact hq0)]
    exact HA.out.kept hb)
  rw [← hK] at hq
  clear hK
  by_cases hlt : k < K
  · have hkz : k < zs.length := by have := HK.out; omega
    have ck := (hL.cell k).trans (hcur k (cellD zs k) (by simp [cellD, hkz]))
    clear hkz
    have cf := hL.frozen k
    have hz := fitC hfit k
    have e1 : decide ((K : Int) ≤ (k : Int)) = false := decide_eq_false (by omega)
    have e1' : decide (K ≤ k) = false := decide_eq_false (by omega)
    have e3 : (0 : Int) ≤ (k : Int) := by omega
    have e4 : (k : Int) < (K : Int) := by omega
    unfold chkI at hq
    rw [if_neg (by omega)] at hq
    clear hR hL hcur hfit hlt hk64
    by_cases hm : m = 2 ∧ x < 0
    · obtain ⟨rfl, hx0⟩ := hm
      have e5 : decide (x < 0) = true := decide_eq_true hx0
      have HQ : Hid (q = 3) := by show _ = _; rw [hq, if_pos ⟨rfl, hx0⟩]
      clear hq hx0
      have HP := Lib.hid (HSAME.out (by rw [HQ.out]; decide) w (Below.refl _ _))
      rw [HQ.out] at HP
      go_enter Tryz.func68, Tryz.ntmps68
      go_wp2
      go_ret
      exact HP.out
    · rw [if_neg hm] at hq
      have hdec : (m ≠ 2 ∧ (m == 2) = false ∧ decide (m = 2) = false) ∨ ((m == 2) = true ∧ decide (m = 2) = true ∧ m = 2 ∧ decide (x < 0) = false) := by
        by_cases h2 : m = 2
        · right; exact ⟨by simp [h2], by simp [h2], h2, decide_eq_false (fun hh => hm ⟨h2, hh⟩)⟩
        · left; exact ⟨h2, by simp [h2], by simp [h2]⟩
      clear hm
      by_cases h64 : In64 (cellD zs k + x)
      · have P3 := Lib.hid (fun w => ladd_yes (cellD zs k) x hz hx h64 w)
        have HQ : Hid (q = 0) := by show _ = _; rw [hq, if_pos h64]
        have HDONE : Hid (∀ w', Below w.heap.size w w' → RUpPost w R L b r d m s l zs k x (.returned (.int .i64 0)) (w'.setCell ⟨L, k, none⟩ (.int .i64 (cellD zs k + x)))) := Lib.hid (fun w' hb => by
          refine ⟨by rw [← HQ.out, HQ0.out], ?_, ?_⟩
          · unfold updZ
            rw [if_pos (by rw [← HQ0.out]; exact HQ.out)]
            exact (HA.out.kept hb).set k _
          · exact grown_tr (below_grown (row := some L) hb) (grown_set w' L k _))
        clear hq h64 hz
        unfold TwoPost at P3
        generalize cellD zs k + x = y at *
        generalize cellD zs k = z at *
        rcases hdec with ⟨hm2, d1, d2⟩ | ⟨d1, d2, hm2, d3⟩
        all_goals
          first | subst hm2 | skip
          go_enter Tryz.func68, Tryz.ntmps68
          go_wp2_with fail
          with_reducible refine (P3.out _).mono ?_
          rintro e w3 ⟨rfl, hb⟩
          have HP := Lib.hid (HDONE.out _ hb)
          have q6 := (hb.cell (p := ⟨R, 6, none⟩) HRL.out).trans c6
          have qk := (hb.cell (p := ⟨L, k, none⟩) HLL.out).trans ck
          have qf : w3.frozen? ⟨L, k, none⟩ = false := by rw [← cf]; exact hb.frozen (p := ⟨L, k, none⟩) HLL.out
          clear hb
          go_wp2
          go_ret
          exact HP.out
      · have P3 := Lib.hid (fun w => ladd_no (cellD zs k) x hz hx h64 w)
        have HQ : Hid (q = 4) := by show _ = _; rw [hq, if_neg h64]
        clear hq h64 hz
        unfold TwoPost at P3
        generalize cellD zs k = z at *
        rcases hdec with ⟨hm2, d1, d2⟩ | ⟨d1, d2, hm2, d3⟩
        all_goals
          first | subst hm2 | skip
          go_enter Tryz.func68, Tryz.ntmps68
          go_wp2_with fail
          with_reducible refine (P3.out _).mono ?_
          rintro e w3 ⟨rfl, hb⟩
          have HP := Lib.hid (HSAME.out (by rw [HQ.out]; decide) w3 hb)
          rw [HQ.out] at HP
          clear hb
          go_wp2
          go_ret
          exact HP.out
  · have HQ : Hid (q = 2) := by show _ = _; rw [hq]; unfold chkI; rw [if_pos (by omega)]
    have e1 : decide ((K : Int) ≤ (k : Int)) = true := decide_eq_true (by omega)
    have e1' : decide (K ≤ k) = true := decide_eq_true (by omega)
    have HP := Lib.hid (HSAME.out (by rw [HQ.out]; decide) w (Below.refl _ _))
    rw [HQ.out] at HP
    clear hlt hR hL hcur hq
    go_enter Tryz.func68, Tryz.ntmps68
    go_wp2
    go_ret
    exact HP.out
end Go.Proofs.YtbghchgmoiniiaaGreat

/-
  The walk of linear.Change. Conditions: none beyond those stated at each theorem.
-/
namespace Go.Proofs.YtbghchgmoiniiaaGreat
open Go.RowKit
set_option linter.unusedVariables false
set_option linter.unusedSimpArgs false

/-- the cells with the first k rows' numbers laid -/
def setsZ (W : Nat) (zs : List Int) (cf : Nat → Nat) (vf : Nat → Int) : Nat → List Int
  | 0 => zs
  | k + 1 => (setsZ W zs cf vf k).set (k * W + cf k) (vf k)
theorem setsZ_len {W : Nat} {zs : List Int} {cf : Nat → Nat} {vf : Nat → Int} (k : Nat) : (setsZ W zs cf vf k).length = zs.length := by
  induction k with
  | zero => rfl
  | succ k ih => rw [setsZ, List.length_set, ih]
theorem setsZ_get {R W : Nat} {zs : List Int} {cf : Nat → Nat} {vf : Nat → Int} (hl : zs.length = R * W) (hcf : ∀ r, r < R → cf r < W) (k : Nat) (hk : k ≤ R) (r c : Nat) (hr : r < R) (hc : c < W) :
    cellD (setsZ W zs cf vf k) (r * W + c) = if r < k ∧ c = cf r then vf r else cellD zs (r * W + c) := by
  induction k with
  | zero => simp [setsZ]
  | succ k ih =>
    have hlt : k * W + cf k < (setsZ W zs cf vf k).length := by
      rw [setsZ_len, hl]
      have h1 : (k + 1) * W ≤ R * W := Nat.mul_le_mul_right W hk
      rw [Nat.add_mul] at h1
      have := hcf k (by omega)
      omega
    have ih := ih (by omega)
    unfold cellD at ih ⊢
    rw [setsZ, List.getElem?_set]
    by_cases e : k * W + cf k = r * W + c
    · obtain ⟨rfl, rfl⟩ := place_eq (hcf k (by omega)) hc e
      simp [hlt]
    · rw [if_neg e, ih]
      by_cases hrk : r = k
      · subst hrk
        have : ¬ c = cf r := fun h => e (by rw [h])
        simp [this]
      · have : (r < k + 1 ∧ c = cf r) ↔ (r < k ∧ c = cf r) := by omega
        simp only [this]
def changeZ (W : Nat) (zs cs : List Int) (d : Int) : List Int := setsZ W zs (colN cs) (fun r => cellD zs (r * W + colN cs r) + d) cs.length
/-- does each sum fit? -/
def changeFits (W : Nat) (zs cs : List Int) (d : Int) : Prop := ∀ r, r < cs.length → In64 (cellD zs (r * W + colN cs r) + d)
def ChangeYes (w : World) (G C R W : Nat) (zs cs : List Int) (d : Int) (e : Ending) (w' : World) : Prop :=
  e = .returned (.int .i64 0) ∧ GridIs w' G C R W (changeZ W zs cs d) ∧ w.grownBy w' (some C)
def ChangePost (w : World) (G C R W : Nat) (zs cs : List Int) (d : Int) (e : Ending) (w' : World) : Prop :=
  (changeFits W zs cs d ∧ ChangeYes w G C R W zs cs d e w') ∨ (¬ changeFits W zs cs d ∧ e = .returned (.int .i64 4) ∧ Below w.heap.size w w')
theorem grown_trans {w w1 w2 : World} {row : Option Nat} (h : w.grownBy w1 row) (k : w1.grownBy w2 row) : w.grownBy w2 row :=
  ⟨k.os.trans h.os, k.tape.trans h.tape, k.output.trans h.output, Nat.le_trans h.size k.size, fun j hj hne => (k.block j (Nat.lt_of_lt_of_le hj h.size) hne).trans (h.block j hj hne)⟩
theorem cell_fit {zs : List Int} (h : Fit zs) (i : Nat) : In64 (cellD zs i) := by
  unfold cellD
  cases hz : zs[i]? with
  | none => exact ⟨by simp, by simp⟩
  | some x => exact h.get hz

set_option maxRecDepth 100000 in
set_option maxHeartbeats 4000000 in
theorem change_yes (w : World) (G C R W : Nat) (zs cs : List Int) (d : Int) (v : Value) (h : GridIs w G C R W zs) (hv : IntsAt w v cs) (hm : meetB R W cs = true) (hd : In64 d) (hvc : v.ownBlock ≠ some C) :
    Calls Tryz.prog 149 #[.pointer (some ⟨G, 0, none⟩), v, .int .i64 d] w (ChangePost w G C R W zs cs d) := by
  have hR8 := h.rows
  have hfit := h.fit
  obtain ⟨h0R, hlR, hcol⟩ := meetB_of hm
  have P1 := read_yes w G C R W zs cs v h hv hm
  have HG := Lib.hid h
  have HV := Lib.hid hv
  have HCOL := Lib.hid hcol
  have HFIT := Lib.hid hfit
  clear h hcol hm hfit
  obtain ⟨ao, cap, rfl, hcap, hcells⟩ := hv
  obtain ⟨g, rfl, hg, hc⟩ := hcells (by omega)
  have HC := Lib.hid hc
  have hgC : g ≠ C := fun e => hvc (by simp [Value.ownBlock, e])
  clear hcells hc hvc
  obtain ⟨n, hlen⟩ : ∃ n, n = cs.length := ⟨_, rfl⟩
  unfold ReadPost at P1
  have hCP : ChangePost w G C R W zs cs d = fun e w' => (changeFits W zs cs d ∧ (e = .returned (.int .i64 0) ∧ GridIs w' G C R W (setsZ W zs (colN cs) (fun r => cellD zs (r * W + colN cs r) + d) n) ∧ w.grownBy w' (some C))) ∨ (¬ changeFits W zs cs d ∧ e = .returned (.int .i64 4) ∧ Below w.heap.size w w') := by
    funext e w'; rw [hlen]; rfl
  rw [hCP]
  have HFITS : Hid (changeFits W zs cs d ↔ ∀ r, r < n → In64 (cellD zs (r * W + colN cs r) + d)) := Lib.hid (by rw [hlen]; exact Iff.rfl)
  clear hCP
  rw [← hlen] at hcap
  simp only [← hlen] at P1 ⊢
  have hn8 : n ≤ 8 := by omega
  have hnR : Hid (n = R) := by show _ = _; omega
  have HLEN := Lib.hid hlen
  clear hlen hlR hR8
  generalize changeFits W zs cs d = FITS at *
  obtain ⟨f, hf⟩ : ∃ f : Nat → Int, f = fun r => cellD zs (r * W + colN cs r) := ⟨_, rfl⟩
  have HF64 : Hid (∀ r, In64 (f r)) := Lib.hid (fun r => by rw [hf]; exact cell_fit HFIT.out _)
  rw [show (fun r => Value.int .i64 (cellD zs (r * W + colN cs r))) = fun r => Value.int .i64 (f r) by rw [hf]] at P1
  rw [show (fun r => cellD zs (r * W + colN cs r) + d) = fun r => f r + d by rw [hf]]
  have HFITS : Hid (FITS ↔ ∀ r, r < n → In64 (f r + d)) := Lib.hid (by rw [HFITS.out, hf])
  clear hf
  go_enter Tryz.func149, Tryz.ntmps149
  go_wp2_with (go_at_call 146; refine P1.mono ?_; rintro e w2 ⟨b, rfl, hb0, hrow, hb⟩; have HB0 := Lib.hid hb0; have HROW := Lib.hid hrow; have HB := Lib.hid hb; clear hrow hb hb0)
  go_loopw [26] (fun i wr => ∃ j : Nat, j ≤ n ∧ i = .int .i64 (j : Int) ∧ wr.rowIs b 2 n (fun k => .int .i64 (if k < j then f k + d else f k)) ∧ (∀ k, k < j → In64 (f k + d)) ∧ Below w.heap.size w wr) (fun i _ => n - (intOf i).toNat)
  case atStart => exact ⟨0, by omega, rfl, HROW.out.congr (fun k _ => by simp), fun k hk => by omega, HB.out⟩
  case round =>
    obtain ⟨j, hj, rfl, hrow, hok, hbel⟩ := hrel
    clear HROW HB
    have HROW := Lib.hid hrow
    have HB := Lib.hid hbel
    have HOK := Lib.hid hok
    by_cases hlt : j < n
    · have cx := hrow.cell hlt
      simp only [Nat.lt_irrefl, if_false] at cx
      have i0 : (0 : Int) ≤ (j : Int) := by omega
      have i1 : (j : Int) < (n : Int) := by omega
      clear hrow hbel hok
      have h64 := HF64.out j
      by_cases hj64 : In64 (f j + d)
      · have P2 := (opok_plus (f j) d wr h64 hd).1 hj64
        have HOK2 : Hid (∀ k, k < j + 1 → In64 (f k + d)) := Lib.hid (fun k hk => by
          by_cases e : k = j
          · subst e; exact hj64
          · exact HOK.out k (by omega))
        have HE : Hid (∀ k, (if k = j then f j + d else if k < j then f k + d else f k) = if k < j + 1 then f k + d else f k) := Lib.hid (fun k => by
          by_cases e : k = j
          · subst e; simp
          · have : k < j + 1 ↔ k < j := by omega
            simp [e, this])
        unfold TwoPost at P2
        generalize f j + d = x at *
        clear h64 hj64
        go_wp2_with (go_at_call 128; refine P2.mono ?_; rintro e w3 ⟨rfl, hb⟩; have hr3 := HROW.out.of_block (hb.block b HROW.out.lt); have HR3 := Lib.hid hr3; have HB3 := Lib.hid (btr HB.out hb); obtain ⟨ov, hov⟩ : ∃ ov, w3.cell? ⟨b, j, none⟩ = some ov := ⟨_, hr3.cell hlt⟩; have hfr := hr3.frozen j; clear hr3 hb)
        go_roundw
        case rel => exact ⟨j + 1, by omega, by go_num, (HR3.out.set j _).congr (fun k _ => by have := HE.out k; by_cases e : k = j <;> simp [e] at this ⊢ <;> simp [this]), HOK2.out, HB3.out.setCell HB0.out _⟩
        case measure => simp [intOf]; omega
      · have P2 := (opok_plus (f j) d wr h64 hd).2 hj64
        have HNF : Hid (¬ FITS) := Lib.hid (fun h => hj64 (HFITS.out.1 h j hlt))
        unfold TwoPost at P2
        clear h64 hj64
        go_wp2_with (go_at_call 128; refine P2.mono ?_; rintro e w3 ⟨rfl, hb⟩; have HB3 := Lib.hid (btr HB.out hb); clear hb)
        go_ret
        exact .inr ⟨HNF.out, rfl, HB3.out⟩
    · obtain rfl : j = n := by omega
      have hrow2 : wr.rowIs b 2 j (fun k => .int .i64 (f k + d)) := hrow.congr (fun k hk => by rw [if_pos hk])
      have HYES : Hid FITS := HFITS.out.2 hok
      have HROW := Lib.hid hrow2
      have HGR := Lib.hid (HG.out.kept hbel)
      have HGB := Lib.hid (below_grown (row := some C) hbel)
      have hbC : b ≠ C := by have := HG.out.ltC; have := HB0.out; omega
      have hgk : g < wr.heap.size := by have := hbel.size; omega
      clear hrow hrow2 hbel hok
      go_wp2_with fail
      go_loopw [46] (fun i ws => ∃ k : Nat, k ≤ j ∧ i = .int .i64 (k : Int) ∧ GridIs ws G C R W (setsZ W zs (colN cs) (fun r => f r + d) k) ∧ w.grownBy ws (some C) ∧ wr.grownBy ws (some C)) (fun i _ => j - (intOf i).toNat)
      case atStart => exact ⟨0, by omega, rfl, HGR.out, HGB.out, ⟨rfl, rfl, rfl, Nat.le_refl _, fun _ _ _ => rfl⟩⟩
      case round =>
        obtain ⟨k, hk, rfl, hgs, hgr, hgr2⟩ := hrel
        have HGS := Lib.hid hgs
        have HG1 := Lib.hid hgr
        have HG2 := Lib.hid hgr2
        by_cases hlk : k < j
        · have cx := hgr2.cell (HROW.out.cell hlk) (by simpa using hbC)
          obtain ⟨hck, hcw⟩ := HCOL.out k (by have := hnR.out; omega)
          have cc := hgr.cell (HC.out k _ hck) (by simpa using hgC)
          have P3 := put_in _ G C R W k (colN cs k) (f k + d) _ hgs (by have := hnR.out; omega) hcw
          have i0 : (0 : Int) ≤ (k : Int) := by omega
          have i1 : (k : Int) < (j : Int) := by omega
          have HX : Hid (In64 (f k + d)) := HOK.out k hlk
          have HST : Hid (setsZ W zs (colN cs) (fun r => f r + d) (k + 1) = (setsZ W zs (colN cs) (fun r => f r + d) k).set (k * W + colN cs k) (f k + d)) := rfl
          clear hgs hgr hgr2 hck hcw
          generalize f k + d = x at *
          generalize hy : colN cs k = y at *
          have HY := Lib.hid hy
          clear hy
          go_wp2_with (go_at_call 130; refine P3.mono ?_; rintro e w3 ⟨rfl, hw3⟩; have HW3 := Lib.hid hw3; clear hw3)
          go_roundw
          case rel => exact ⟨k + 1, by omega, by go_num, by rw [HST.out, HW3.out]; exact HGS.out.set _ _ HX.out.1 HX.out.2, by rw [HW3.out]; exact grown_trans HG1.out (grown_set _ _ _ _), by rw [HW3.out]; exact grown_trans HG2.out (grown_set _ _ _ _)⟩
          case measure => simp [intOf]; omega
        · obtain rfl : k = j := by omega
          clear hgs hgr hgr2
          go_wp2
          go_ret
          exact .inl ⟨HYES.out, rfl, HGS.out, HG1.out⟩
theorem change_no (w : World) (G C R W : Nat) (zs cs : List Int) (d : Int) (v : Value) (h : GridIs w G C R W zs) (hv : IntsAt w v cs) (hl : cs.length ≤ 100000) (hm : meetB R W cs = false) :
    Calls Tryz.prog 149 #[.pointer (some ⟨G, 0, none⟩), v, .int .i64 d] w fun e w' => e = .returned (.int .i64 1) ∧ w = w' := by
  have P1 := read_no w G C R W zs cs v h hv hl hm
  obtain ⟨ao, cap, rfl, hcap, hcells⟩ := hv
  clear hcells h
  generalize cs.length = n at *
  go_enter Tryz.func149, Tryz.ntmps149
  go_wp2_with (go_at_call 146; refine P1.mono ?_; rintro e w2 ⟨rfl, hw2⟩; subst hw2)
  go_ret
  exact ⟨rfl, rfl⟩
end Go.Proofs.YtbghchgmoiniiaaGreat

/-
  The walks of linear.Least, Middle. Conditions: none beyond those stated at each theorem.
-/
namespace Go.Proofs.YtbghchgmoiniiaaGreat
open Go.RowKit
set_option linter.unusedVariables false
set_option linter.unusedSimpArgs false

def TellPost (w : World) (W : Nat) (zs cs : List Int) (k : Nat) (e : Ending) (w' : World) : Prop :=
  ∃ u, e = .returned (.tuple #[.int .i64 u, .int .i64 0]) ∧ IsKth (readZ W zs cs) k u ∧ Below w.heap.size w w'

set_option maxRecDepth 100000 in
theorem of_least (w : World) (G C R W : Nat) (zs cs : List Int) (v : Value) (h : GridIs w G C R W zs) (hv : IntsAt w v cs) (hm : meetB R W cs = true) :
    Calls Tryz.prog 155 #[.agg #[.func (Fn.func 154) #[] #[]], .pointer (some ⟨G, 0, none⟩), v] w (TellPost w W zs cs 0) := by
  obtain ⟨h0R, hlR, hcol⟩ := meetB_of hm
  have hR8 := h.rows
  have HK := Lib.hid (box_kept (w := w) (cs := #[.func (Fn.func 154) #[] #[]]) (t := 209) (Below.refl _ _))
  have P1 := read_yes _ G C R W zs cs v (h.kept HK.out.2) (hv.kept HK.out.2) hm
  obtain ⟨ao, cap, rfl, hcap, hcells⟩ := hv
  clear hcells hcol h
  obtain ⟨n, hlen⟩ : ∃ n, n = cs.length := ⟨_, rfl⟩
  unfold ReadPost at P1
  rw [← hlen] at hcap hlR
  simp only [← hlen] at P1 ⊢
  have HLEN := Lib.hid hlen
  have h0n : 0 < n := by omega
  have hn8 : n ≤ 8 := by omega
  clear hlen hlR
  go_enter Tryz.func155, Tryz.ntmps155
  go_wp2_with (go_at_call 146; refine P1.mono ?_; rintro e w2 ⟨g, rfl, hg, hrow, hb⟩; have HROW := Lib.hid hrow; have HB := Lib.hid (HK.out.2.trans (hb.mono HK.out.2.size)); have hbx := HK.out.1.kept hb; have hbc := hbx.cell 0; simp at hbc; clear hrow hb hbx)
  have hints : IntsAt w2 (.slice (some ⟨g, 0, none⟩) n n) (readZ W zs cs) := by have := IntsAt.of_row HROW.out; rw [HLEN.out] at this ⊢; exact this
  have hrl : (readZ W zs cs).length = n := by rw [readZ, List.length_map, List.length_range, HLEN.out]
  have P2 := min_any _ _ w2 hints (by omega) (by omega)
  have HRL := Lib.hid hrl
  clear hrl hints
  go_wp2_with (go_at_call 154; refine P2.mono ?_; rintro e w3 ⟨u, rfl, hu, hb⟩; have HU := Lib.hid hu; have HB3 := Lib.hid (btr HB.out hb); clear hu hb)
  go_ret2
  exact ⟨u, rfl, by have := HU.out; first | exact this | (rw [HRL.out] at this; exact this), HB3.out⟩
theorem least_yes (w : World) (G C R W : Nat) (zs cs : List Int) (v : Value) (h : GridIs w G C R W zs) (hv : IntsAt w v cs) (hm : meetB R W cs = true) :
    Calls Tryz.prog 147 #[.pointer (some ⟨G, 0, none⟩), v] w (TellPost w W zs cs 0) := by
  have P1 := of_least w G C R W zs cs v h hv hm
  obtain ⟨ao, cap, rfl, hcap, hcells⟩ := hv
  clear hcells h
  go_enter Tryz.func147, Tryz.ntmps147
  go_wp2_with (go_at_call 155; refine P1.mono ?_; rintro e w2 ⟨u, rfl, hu, hb⟩; have HP : Hid (TellPost w W zs cs 0 (.returned (.tuple #[.int .i64 u, .int .i64 0])) w2) := ⟨u, rfl, hu, hb⟩; clear hu hb)
  go_ret2
  exact HP.out
set_option maxRecDepth 100000 in
theorem least_no (w : World) (G C R W : Nat) (zs cs : List Int) (v : Value) (h : GridIs w G C R W zs) (hv : IntsAt w v cs) (hl : cs.length ≤ 100000) (hm : meetB R W cs = false) :
    Calls Tryz.prog 147 #[.pointer (some ⟨G, 0, none⟩), v] w fun e w' => e = .returned (.tuple #[.int .i64 0, .int .i64 1]) ∧ Below w.heap.size w w' := by
  have HK := Lib.hid (box_kept (w := w) (cs := #[.func (Fn.func 154) #[] #[]]) (t := 209) (Below.refl _ _))
  have P0 := read_no _ G C R W zs cs v (h.kept HK.out.2) (hv.kept HK.out.2) hl hm
  obtain ⟨ao, cap, rfl, hcap, hcells⟩ := hv
  clear hcells h
  have P1 : Calls Tryz.prog 155 #[.agg #[.func (Fn.func 154) #[] #[]], .pointer (some ⟨G, 0, none⟩), .slice ao cs.length cap] w fun e w' => e = .returned (.tuple #[.int .i64 0, .int .i64 1]) ∧ Below w.heap.size w w' := by
    generalize cs.length = n at *
    go_enter Tryz.func155, Tryz.ntmps155
    go_wp2_with (go_at_call 146; refine P0.mono ?_; rintro e w2 ⟨rfl, hw2⟩; subst hw2)
    go_ret2
    exact ⟨rfl, HK.out.2⟩
  generalize cs.length = n at *
  go_enter Tryz.func147, Tryz.ntmps147
  go_wp2_with (go_at_call 155; refine P1.mono ?_; rintro e w2 ⟨rfl, hb⟩)
  go_ret2
  exact ⟨rfl, hb⟩

end Go.Proofs.YtbghchgmoiniiaaGreat

/-
  Columns as arguments, and the walks of gaugerref08.Cut, Same, and of what the laws of the layers 8 and 9 begin with. Conditions: none beyond those stated at each theorem.
-/
namespace Go.Proofs.YtbghchgmoiniiaaGreat
open Go.RowKit
set_option linter.unusedVariables false
set_option linter.unusedSimpArgs false

theorem and16' (n : Int) : bits BinOp.and IntKind.i64 n 65535 = n % 65536 := by
  have h16 : (BitVec.ofInt 64 65535).toNat = 2 ^ 16 - 1 := by decide
  have key : (BitVec.ofInt 64 n &&& BitVec.ofInt 64 65535).toNat = (n % ((2 ^ 64 : Nat) : Int)).toNat % 2 ^ 16 := by
    rw [BitVec.toNat_and, BitVec.toNat_ofInt, h16, Nat.and_two_pow_sub_one_eq_mod]
  show IntKind.i64.wrap ((BitVec.ofInt 64 n &&& BitVec.ofInt 64 65535).toNat : Nat) = n % 65536
  rw [key, IntKind.wrap_i64]
  omega

/-- a slice of integers, anywhere in a block -/
def ColsAt (w : World) (v : Value) (cs : List Int) : Prop :=
  ∃ (ao : Option Addr) (cap : Nat), v = .slice ao cs.length cap ∧ cs.length ≤ cap ∧ cap ≤ maxLen ∧ (0 < cs.length → ∃ b off, ao = some ⟨b, off, none⟩ ∧ b < w.heap.size ∧ ∀ i u, cs[i]? = some u → w.cell? ⟨b, off + i, none⟩ = some (.int .i64 u))
theorem ColsAt.kept {w w' : World} {v : Value} {cs : List Int} (h : ColsAt w v cs) (hb : Below w.heap.size w w') : ColsAt w' v cs := by
  obtain ⟨ao, cap, e, hc, hm, h⟩ := h
  refine ⟨ao, cap, e, hc, hm, fun h0 => ?_⟩
  obtain ⟨b, off, e2, hg, hc⟩ := h h0
  exact ⟨b, off, e2, Nat.lt_of_lt_of_le hg hb.size, fun i u hu => (hb.cell (p := ⟨b, off + i, none⟩) hg).trans (hc i u hu)⟩
theorem ints_of_len {w : World} {b off len : Nat} (f : Nat → Int) (hc : ∀ i, i < len → w.cell? ⟨b, off + i, none⟩ = some (.int .i64 (f i))) : ∀ i u, ((List.range len).map f)[i]? = some u → w.cell? ⟨b, off + i, none⟩ = some (.int .i64 u) := by
  intro i u hu
  have hi : i < len := by
    have := (List.getElem?_eq_some_iff.1 hu).1
    simpa using this
  simp [hi] at hu
  rw [hc i hi, hu]
theorem cols_of_val {w : World} {v : Value} (h : (Sh.slice (.int .i64)).Val w v) : ∃ cs, ColsAt w v cs := by
  obtain ⟨ao, len, cap, h1, hl, hm, hx⟩ := h
  have h1 : v = .slice ao len cap := by simpa using h1
  subst h1
  by_cases h0 : 0 < len
  · obtain ⟨b, off, rfl, hb, hc⟩ := hx h0
    have key : ∀ i, i < len → ∃ x : Int, w.cell? ⟨b, off + i, none⟩ = some (.int .i64 x) := by
      intro i hi
      obtain ⟨cs', hcl, hcell, hr⟩ := hc i hi
      obtain ⟨n, rfl, _⟩ := hr
      have := hcell 0 (by decide)
      exact ⟨n, by simpa [Sh.size] using this⟩
    refine ⟨(List.range len).map fun i => if h : i < len then (key i h).choose else 0, some ⟨b, off, none⟩, cap, by simp, by simpa using hl, hm, fun _ => ⟨b, off, rfl, hb, ints_of_len _ fun i hi => ?_⟩⟩
    simp only [dif_pos hi]
    exact (key i hi).choose_spec
  · obtain rfl : len = 0 := by omega
    exact ⟨[], ao, cap, rfl, by simp, hm, fun h => by simp at h⟩

def cutV (W : Nat) (cs : List Int) (r : Nat) : Int := if r < cs.length then cellD cs r % 65536 % (W : Int) else 0
def cutZ (cs : List Int) (R W : Nat) : List Int := (List.range R).map (cutV W cs)
theorem cutZ_len {cs : List Int} {R W : Nat} : (cutZ cs R W).length = R := by simp [cutZ]
theorem cutV_bd {W : Nat} (h : 0 < W) (cs : List Int) (r : Nat) : 0 ≤ cutV W cs r ∧ cutV W cs r < (W : Int) := by
  unfold cutV
  split
  · exact ⟨Int.emod_nonneg _ (by omega), Int.emod_lt_of_pos _ (by omega)⟩
  · omega
theorem cut_meet {cs : List Int} {R W : Nat} (hR : 0 < R) (hW : 0 < W) : meetB R W (cutZ cs R W) = true := by
  refine meetB_all hR cutZ_len (fun j c hc => ?_)
  have := List.mem_of_getElem? hc
  simp [cutZ] at this
  obtain ⟨r, _, rfl⟩ := this
  exact cutV_bd hW cs r
theorem cut_col {cs : List Int} {R W r : Nat} (hr : r < R) : colN (cutZ cs R W) r = (cutV W cs r).toNat := by simp [colN, cellD, cutZ, hr]
theorem cut_colW {cs : List Int} {R W r : Nat} (hW : 0 < W) (hr : r < R) : colN (cutZ cs R W) r < W := by
  rw [cut_col hr]
  have := cutV_bd hW cs r
  omega

/-- a row of integers that fills a block from its start on -/
def RowI (w : World) (v : Value) (cs : List Int) : Prop :=
  ∃ (g cap : Nat) (cur : Array Value), v = .slice (some ⟨g, 0, none⟩) cs.length cap ∧ cs.length ≤ cap ∧ Blk w g 3 cur ∧ ∀ (i : Nat) (u : Int), cs[i]? = some u → cur[i]? = some (Value.int .i64 u)
theorem RowI.ints {w : World} {v : Value} {cs : List Int} (h : RowI w v cs) : IntsAt w v cs := by
  obtain ⟨g, cap, cur, rfl, hc, hb, hx⟩ := h
  exact ⟨_, _, rfl, hc, fun _ => ⟨g, rfl, hb.lt, fun i u hu => (hb.cell i).trans (hx i u hu)⟩⟩
theorem RowI.kept {w w' : World} {v : Value} {cs : List Int} (h : RowI w v cs) (hb : Below w.heap.size w w') : RowI w' v cs := by
  obtain ⟨g, cap, cur, rfl, hc, hg, hx⟩ := h
  exact ⟨g, cap, cur, rfl, hc, hg.kept hb, hx⟩
theorem RowI.grown {w w' : World} {v : Value} {cs : List Int} {row : Option Nat} (h : RowI w v cs) (hb : w.grownBy w' row) (hne : v.ownBlock ≠ row) : RowI w' v cs := by
  obtain ⟨g, cap, cur, rfl, hc, hg, hx⟩ := h
  exact ⟨g, cap, cur, rfl, hc, hg.grown hb hne, hx⟩
theorem RowI.far {w w' : World} {v : Value} {cs : List Int} {C : Nat} {t : TypeId} {cur : Array Value} (h : RowI w v cs) (hb : w.grownBy w' (some C)) (hC : Blk w C t cur) (ht : 3 ≠ t) : RowI w' v cs := by
  refine h.grown hb ?_
  obtain ⟨g, cap, cur', rfl, hc, hg, hx⟩ := h
  exact fun e => hg.ne_ hC ht (Option.some.inj e)
theorem RowI.own {w : World} {v : Value} {cs : List Int} (h : RowI w v cs) : ∃ k, v.ownBlock = some k ∧ k < w.heap.size := by
  obtain ⟨g, cap, cur, rfl, hc, hg, hx⟩ := h
  exact ⟨g, rfl, hg.lt⟩
theorem RowI.neC {w : World} {v : Value} {cs : List Int} {C : Nat} {t : TypeId} {cur : Array Value} (h : RowI w v cs) (hC : Blk w C t cur) (ht : 3 ≠ t) : v.ownBlock ≠ some C := by
  obtain ⟨g, cap, cur', rfl, hc, hg, hx⟩ := h
  exact fun e => hg.ne_ hC ht (Option.some.inj e)
theorem own_rowI {w : World} {base : Nat} {v : Value} {zs : List Int} (h : w.ownsRow base 3 1 v zs.length (zs.map (Value.int .i64))) (hv : v ≠ .slice none 0 0) : RowI w v zs := by
  rcases h.2 with ⟨rfl, h0⟩ | ⟨g, cap, cur, rfl, hb, hg, hnc, hcm, hsz, htake⟩
  · exact absurd rfl hv
  · refine ⟨g, cap, cur, rfl, hnc, hg, fun i u hu => ?_⟩
    have hi : i < zs.length := (List.getElem?_eq_some_iff.1 hu).1
    have h2 : (cur.toList.take (zs.length * 1))[i]? = (zs.map (Value.int .i64))[i]? := by rw [htake]
    rw [List.getElem?_take, if_pos (by omega)] at h2
    simp only [List.getElem?_map, hu, Option.map_some] at h2
    simpa using h2

def CutPost (w : World) (cs : List Int) (R W : Nat) (e : Ending) (w' : World) : Prop :=
  ∃ v', e = .returned v' ∧ RowI w' v' (cutZ cs R W) ∧ (∀ k, v'.ownBlock = some k → w.heap.size ≤ k) ∧ Below w.heap.size w w'
end Go.Proofs.YtbghchgmoiniiaaGreat

/-
  The walk of conserve.Raise. Conditions: none beyond those stated at each theorem.
-/
namespace Go.Proofs.YtbghchgmoiniiaaGreat
open Go.RowKit
set_option linter.unusedVariables false
set_option linter.unusedSimpArgs false

theorem below_alloc1 (w : World) (o : Obj) : Below w.heap.size w (w.alloc o) := (Below.refl _ _).alloc (Nat.le_refl _) _
def riseV (W : Nat) (zs cs : List Int) (n : Int) (r : Nat) : Int := if cellD zs (r * W + colN cs r) < n then n else cellD zs (r * W + colN cs r)
/-- the cells behind a raise up to n -/
def raiseZ (W : Nat) (zs cs : List Int) (n : Int) : List Int := setsZ W zs (colN cs) (riseV W zs cs n) cs.length
def RaisePost (w : World) (G C R W : Nat) (zs cs : List Int) (d : Int) (e : Ending) (w' : World) : Prop :=
  ∃ u, IsKth (readZ W zs cs) 0 u ∧ ((d < 0 ∧ e = .returned (.int .i64 3) ∧ Below w.heap.size w w') ∨ (0 ≤ d ∧ ¬ In64 (u + d) ∧ e = .returned (.int .i64 4) ∧ Below w.heap.size w w') ∨
    (0 ≤ d ∧ In64 (u + d) ∧ e = .returned (.int .i64 0) ∧ GridIs w' G C R W (raiseZ W zs cs (u + d)) ∧ w.grownBy w' (some C)))

theorem set_same {zs : List Int} {i : Nat} (h : i < zs.length) : zs.set i (cellD zs i) = zs := by
  apply List.ext_getElem?
  intro k
  rw [List.getElem?_set]
  by_cases e : i = k
  · subst e; simp [h, cellD]
  · rw [if_neg e]
def RisePost (w : World) (G C R W r c : Nat) (zs : List Int) (nn : Int) (e : Ending) (w' : World) : Prop :=
  (∃ v, e = .returned v) ∧ GridIs w' G C R W (zs.set (r * W + c) (if cellD zs (r * W + c) < nn then nn else cellD zs (r * W + c))) ∧ w.grownBy w' (some C)
set_option maxRecDepth 100000 in
set_option maxHeartbeats 4000000 in
theorem rise_any (w : World) (A NB G C R W r c : Nat) (zs : List Int) (nn : Int) (h : GridIs w G C R W zs) (hr : r < R) (hc : c < W) (hn : In64 nn) (hA : Blk w A 139 #[.pointer (some ⟨G, 0, none⟩)]) (hN : Blk w NB 2 #[.int .i64 nn]) :
    Calls Tryz.prog 156 #[.int .i64 (r : Int), .int .i64 (c : Int), .pointer (some ⟨A, 0, none⟩), .pointer (some ⟨NB, 0, none⟩)] w (RisePost w G C R W r c zs nn) := by
  obtain ⟨b1, b2, b3⟩ := placeBd hr hc h.rows h.width
  have hlen : r * W + c < zs.length := by rw [h.len]; omega
  have PA := Lib.hid (at_in (w.drewN 1) G C R W r c zs (h.drewN 1) hr hc)
  have PP := Lib.hid (put_in (w.drewN 1) G C R W r c nn zs (h.drewN 1) hr hc)
  have HG := Lib.hid (h.drewN 1)
  have HA := Lib.hid (hA.drewN 1)
  have HN := Lib.hid (hN.drewN 1)
  have HSAME := Lib.hid (set_same hlen)
  have hgr0 : Hid (w.grownBy (w.drewN 1) (some C)) := Lib.hid (below_grown (below_drewN (Below.refl _ _) 1))
  have a0 := (hA.drewN 1).cell 0
  have n0 := (hN.drewN 1).cell 0
  simp at a0 n0
  unfold RisePost
  clear hlen h b1 b2 b3 hA hN
  generalize cellD zs (r * W + c) = x at *
  go_enter Tryz.func156, Tryz.ntmps156
  go_wp2_with fail
  refine wp_region_held_drew (S := fun w' => Blk w' A 139 #[.pointer (some ⟨G, 0, none⟩)] ∧ Blk w' NB 2 #[.int .i64 nn]) (by kernel_rfl) (by exact ⟨HA.out, HN.out⟩) (fun hHeld => ?_)
  refine wpAnyH_take (i := 0) (v := ?_) rfl (by kernel_rfl) (by kernel_rfl) (by kernel_rfl) (fun _ _ _ h => h) (Or.inl ⟨by rfl, ?_⟩) (by assumption) ?_
  rotate_left
  · intro w hSw
    have c1 := hSw.1.cell 0
    have c2 := hSw.2.cell 0
    simp at c1 c2
    go_simp
    try with_reducible rfl
  simp only [Act.put, List.setIfInBounds_toArray, List.set_cons_zero, List.set_cons_succ, List.getElem_toArray, List.getElem_cons_zero, List.getElem_cons_succ]
  refine wpAnyH_take (i := 1) (v := ?_) rfl (by kernel_rfl) (by kernel_rfl) (by kernel_rfl) (fun _ _ _ h => h) (Or.inl ⟨by rfl, ?_⟩) (by assumption) ?_
  rotate_left
  · intro w hSw
    try dsimp only at hSw
    go_simp
    try with_reducible rfl
  simp only [Act.put, List.setIfInBounds_toArray, List.set_cons_zero, List.set_cons_succ, List.getElem_toArray, List.getElem_cons_zero, List.getElem_cons_succ]
  refine wpAnyH_take (i := 2) (v := ?_) rfl (by kernel_rfl) (by kernel_rfl) (by kernel_rfl) (fun _ _ _ h => h) (Or.inl ⟨by rfl, ?_⟩) (by assumption) ?_
  rotate_left
  · intro w hSw
    try dsimp only at hSw
    go_simp
    try with_reducible rfl
  simp only [Act.put, List.setIfInBounds_toArray, List.set_cons_zero, List.set_cons_succ, List.getElem_toArray, List.getElem_cons_zero, List.getElem_cons_succ]
  refine wpAnyH_take (i := 4) (v := ?_) rfl (by kernel_rfl) (by kernel_rfl) (by kernel_rfl) (fun _ _ _ h => h) (Or.inl ⟨by rfl, ?_⟩) (by assumption) ?_
  rotate_left
  · intro w hSw
    have c1 := hSw.1.cell 0
    have c2 := hSw.2.cell 0
    simp at c1 c2
    go_simp
    try with_reducible rfl
  simp only [Act.put, List.setIfInBounds_toArray, List.set_cons_zero, List.set_cons_succ, List.getElem_toArray, List.getElem_cons_zero, List.getElem_cons_succ]
  refine wpAnyH_ready (rs := [3]) (by kernel_rfl) (by simp) ?_
  refine AllReadyH.cons rfl (fun Kc hKc => ?_) AllReadyH.nil
  go_simp
  go_wp2_with (go_at_call 129; refine PA.out.mono ?_; rintro e w' ⟨rfl, hw'⟩; subst hw')
  refine hKc.out _ _ ?_ (fun hHeld => ?_)
  · assumption
  clear hKc Kc
  refine wpAnyH_take (i := 5) (v := ?_) rfl (by kernel_rfl) (by kernel_rfl) (by kernel_rfl) (fun _ _ _ h => h) (Or.inl ⟨by rfl, ?_⟩) (by assumption) ?_
  rotate_left
  · intro w hSw
    try dsimp only at hSw
    go_simp
    try with_reducible rfl
  simp only [Act.put, List.setIfInBounds_toArray, List.set_cons_zero, List.set_cons_succ, List.getElem_toArray, List.getElem_cons_zero, List.getElem_cons_succ]
  refine wpAnyH_done (by kernel_rfl) ?_ _
  clear hHeld
  by_cases hlt : x < nn
  · have e1 : decide (x < nn) = true := decide_eq_true hlt
    have a1 : w.drew.cell? ⟨A, 0, none⟩ = some (.pointer (some ⟨G, 0, none⟩)) := a0
    have n1 : w.drew.cell? ⟨NB, 0, none⟩ = some (.int .i64 nn) := n0
    go_wp2_with fail
    refine PP.out.mono ?_; rintro e w' ⟨rfl, hw'⟩
    have HW := Lib.hid hw'
    clear hw'
    go_wp2
    (try simp only [Exit.inBlock, Exit.then])
    refine bodyPost_end (results_none rfl _ _ _) rfl ?_
    refine ⟨⟨_, rfl⟩, ?_, ?_⟩
    · rw [HW.out]; first | exact HG.out.set _ _ hn.1 hn.2 | (rw [if_pos (by omega)]; exact HG.out.set _ _ hn.1 hn.2)
    · rw [HW.out]; exact grown_trans hgr0.out (grown_set _ _ _ _)
  · have e1 : decide (x < nn) = false := decide_eq_false hlt
    go_wp2
    (try simp only [Exit.inBlock, Exit.then])
    refine bodyPost_end (results_none rfl _ _ _) rfl ?_
    exact ⟨⟨_, rfl⟩, by first | (rw [HSAME.out]; exact HG.out) | (rw [if_neg (by omega), HSAME.out]; exact HG.out), hgr0.out⟩

set_option maxRecDepth 100000 in
set_option maxHeartbeats 4000000 in
theorem raise_yes (w : World) (G C R W : Nat) (zs cs : List Int) (d : Int) (v : Value) (h : GridIs w G C R W zs) (hv : IntsAt w v cs) (hm : meetB R W cs = true) (hd : In64 d) (hvc : v.ownBlock ≠ some C) :
    Calls Tryz.prog 148 #[.pointer (some ⟨G, 0, none⟩), v, .int .i64 d] w (RaisePost w G C R W zs cs d) := by
  have hR8 := h.rows
  have hfit := h.fit
  obtain ⟨h0R, hlR, hcol⟩ := meetB_of hm
  have HK := Lib.hid (box_kept (w := w) (cs := #[.pointer (some ⟨G, 0, none⟩)]) (t := 139) (Below.refl _ _))
  have P1 := least_yes _ G C R W zs cs v (h.kept HK.out.2) (hv.kept HK.out.2) hm
  unfold TellPost at P1
  have HG := Lib.hid h
  have HCOL := Lib.hid hcol
  have HFIT := Lib.hid hfit
  have HV := Lib.hid hv
  clear h hcol hm hfit
  obtain ⟨ao, cap, rfl, hcap, hcells⟩ := hv
  obtain ⟨g, rfl, hg, hc⟩ := hcells (by omega)
  have HC := Lib.hid hc
  have hgC : g ≠ C := fun e => hvc (by simp [Value.ownBlock, e])
  clear hcells hc hvc
  obtain ⟨n, hlen⟩ : ∃ n, n = cs.length := ⟨_, rfl⟩
  rw [← hlen] at hcap P1 ⊢
  have HLEN := Lib.hid hlen
  have hn8 : n ≤ 8 := by omega
  have hnR : Hid (n = R) := by show _ = _; omega
  clear hlen hlR
  have hbx := HK.out.1
  have q0 := hbx.cell 0
  simp at q0
  go_enter Tryz.func148, Tryz.ntmps148
  go_wp2_with fail
  refine P1.mono ?_; clear P1; rintro e w2 ⟨u, rfl, hu, hb⟩
  have HU := Lib.hid hu
  have HX2 := Lib.hid (hbx.kept hb)
  have HB2 := Lib.hid (HK.out.2.trans (hb.mono HK.out.2.size))
  have hu64 : In64 u := by
    have := (kth_zero hu).1
    simp only [readZ, List.mem_map] at this
    obtain ⟨r, _, rfl⟩ := this
    exact cell_fit HFIT.out _
  clear hu hb q0
  by_cases hneg : d < 0
  · have e1 : decide (d < 0) = true := decide_eq_true hneg
    go_wp2
    go_ret
    exact ⟨u, HU.out, .inl ⟨hneg, rfl, HB2.out⟩⟩
  · have e1 : decide (d < 0) = false := decide_eq_false hneg
    by_cases hs64 : In64 (u + d)
    · have P2 := (opok_plus u d w2 hu64 hd).1 hs64
      unfold TwoPost at P2
      go_wp2_with fail
      refine P2.mono ?_; clear P2; rintro e w3 ⟨rfl, hb⟩
      have HX3 := Lib.hid (HX2.out.kept hb)
      have HB3 := Lib.hid (btr HB2.out hb)
      have hA3 := HX3.out.lt
      clear hb
      go_wp2_with fail
      obtain ⟨nn, hnn⟩ : ∃ nn, nn = u + d := ⟨_, rfl⟩
      rw [← hnn]
      have hn64 : In64 nn := by rw [hnn]; exact hs64
      have HNN := Lib.hid hnn
      have hnb := Blk.new w3 2 #[.int .i64 nn]
      have HX4 := Lib.hid (HX3.out.alloc (.cells #[.int .i64 nn] 2))
      have hb4 : Below w.heap.size w (w3.alloc (.cells #[.int .i64 nn] 2)) := btr HB3.out (below_alloc1 _ _)
      have HG4 := Lib.hid (HG.out.kept hb4)
      have HGR4 := Lib.hid (below_grown (row := some C) hb4)
      have HNB := Lib.hid hnb
      have hne1 : w3.heap.size ≠ C := by have := HG.out.ltC; have := HB3.out.size; omega
      have hne2 : w.heap.size ≠ C := by have := HG.out.ltC; omega
      clear hnn hs64 hnb hb4
      generalize (w3.alloc (.cells #[.int .i64 nn] 2)) = w5 at *
      generalize hNB : w3.heap.size = NB at *
      clear hNB
      go_loopw [36] (fun i wr => ∃ j : Nat, j ≤ n ∧ i = .int .i64 (j : Int) ∧ GridIs wr G C R W (setsZ W zs (colN cs) (riseV W zs cs nn) j) ∧ Blk wr w.heap.size 139 #[.pointer (some ⟨G, 0, none⟩)] ∧ Blk wr NB 2 #[.int .i64 nn] ∧ w.grownBy wr (some C)) (fun i _ => n - (intOf i).toNat)
      case atStart => exact ⟨0, by omega, rfl, HG4.out, HX4.out, HNB.out, HGR4.out⟩
      case round =>
        obtain ⟨j, hj, rfl, hg', hx', hnb', hgr'⟩ := hrel
        clear HG4 HX4 HNB HGR4
        have HG5 := Lib.hid hg'
        have HX5 := Lib.hid hx'
        have HN5 := Lib.hid hnb'
        have HGR := Lib.hid hgr'
        by_cases hlt : j < n
        · obtain ⟨hcj, hcw⟩ := HCOL.out j (by have := hnR.out; omega)
          have cx := hgr'.cell (HC.out j _ hcj) (by simpa using hgC)
          have i0 : (0 : Int) ≤ (j : Int) := by omega
          have i1 : (j : Int) < (n : Int) := by omega
          have PR := Lib.hid (rise_any wr w.heap.size NB G C R W j (colN cs j) _ nn hg' (by have := hnR.out; omega) hcw hn64 hx' hnb')
          have HST : Hid ((setsZ W zs (colN cs) (riseV W zs cs nn) j).set (j * W + colN cs j) (if cellD (setsZ W zs (colN cs) (riseV W zs cs nn) j) (j * W + colN cs j) < nn then nn else cellD (setsZ W zs (colN cs) (riseV W zs cs nn) j) (j * W + colN cs j)) = setsZ W zs (colN cs) (riseV W zs cs nn) (j + 1)) := Lib.hid (by
            have e := setsZ_get (cf := colN cs) (vf := riseV W zs cs nn) HG.out.len (fun r hr => (HCOL.out r hr).2) j (by have := hnR.out; omega) j (colN cs j) (by have := hnR.out; omega) hcw
            rw [if_neg (by omega)] at e
            rw [e]; rfl)
          unfold RisePost at PR
          clear hg' hx' hnb' hgr' hcj hcw
          rw [HST.out] at PR
          generalize hy : colN cs j = y at *
          clear hy HST
          go_wp2_with fail
          refine PR.out.mono ?_; rintro e w6 ⟨⟨v, rfl⟩, hg6, hgr6⟩
          have HG6 := Lib.hid hg6
          have HX6 := Lib.hid (HX5.out.grown hgr6 (by simpa using hne2))
          have HN6 := Lib.hid (HN5.out.grown hgr6 (by simpa using hne1))
          have HGR6 := Lib.hid (grown_trans HGR.out hgr6)
          clear hg6 hgr6
          go_wp2
          go_roundw
          case rel => exact ⟨j + 1, by omega, by go_num, HG6.out, HX6.out, HN6.out, HGR6.out⟩
          case measure => simp [intOf]; omega
        · obtain rfl : j = n := by omega
          have HP : Hid (RaisePost w G C R W zs cs d (.returned (.int .i64 0)) wr) := ⟨u, HU.out, .inr (.inr ⟨by omega, by rw [← HNN.out]; exact hn64, rfl, by rw [← HNN.out, raiseZ, ← HLEN.out]; exact HG5.out, HGR.out⟩)⟩
          clear hg' hx' hnb' hgr'
          go_wp2
          go_ret
          exact HP.out
    · have P2 := (opok_plus u d w2 hu64 hd).2 hs64
      unfold TwoPost at P2
      go_wp2_with fail
      refine P2.mono ?_; clear P2; rintro e w3 ⟨rfl, hb⟩
      have HB3 := Lib.hid (btr HB2.out hb)
      have HB4 : Hid (Below w.heap.size w (w3.alloc (.cells #[.int .i64 0] 2))) := Lib.hid (btr HB3.out (below_alloc1 _ _))
      clear hb
      go_wp2
      go_ret
      exact ⟨u, HU.out, .inr (.inl ⟨by omega, hs64, rfl, HB4.out⟩)⟩
end Go.Proofs.YtbghchgmoiniiaaGreat

/-
  The walks of gaugerref02.Add, of the document's Cells, Meet. Conditions: none beyond those stated at each theorem.
-/
namespace Go.Proofs.YtbghchgmoiniiaaGreat
open Go.RowKit
set_option linter.unusedVariables false
set_option linter.unusedSimpArgs false

def rowZ (zs : List Int) (W r : Nat) : List Int := (zs.drop (r * W)).take W
theorem rowZ_len {zs : List Int} {R W r : Nat} (h : zs.length = R * W) (hr : r < R) : (rowZ zs W r).length = W := by
  have h1 : (r + 1) * W ≤ R * W := Nat.mul_le_mul_right W hr
  rw [Nat.add_mul] at h1
  simp [rowZ]; omega
theorem rowZ_get {zs : List Int} {W r c : Nat} (hc : c < W) : (rowZ zs W r)[c]? = zs[r * W + c]? := by
  simp [rowZ, List.getElem?_take, hc, List.getElem?_drop]
theorem rowZ_next (zs : List Int) (W r : Nat) : zs.take ((r + 1) * W) = zs.take (r * W) ++ rowZ zs W r := by
  rw [Nat.add_mul, Nat.one_mul, List.take_add]; rfl

theorem RefIs.below {w w' : World} {N G : Nat} {v : Value} {B K : Nat → Nat} {R W : Nat} {zs : List Int} {M : Nat} (h : RefIs w N G v B K R W zs) (hb : Below M w w') (hM : w.heap.size ≤ M) : RefIs w' N G v B K R W zs := h.kept (hb.mono hM)

set_option maxRecDepth 100000 in
set_option maxHeartbeats 4000000 in
theorem rcells_any (w : World) (N G : Nat) (v : Value) (B K : Nat → Nat) (R W : Nat) (zs : List Int) (h : RefIs w N G v B K R W zs) :
    Calls Tryz.prog 56 #[.pointer (some ⟨G, 0, none⟩)] w fun e w' => ∃ g cap, e = .returned (.slice (some ⟨g, 0, none⟩) zs.length cap) ∧ zs.length ≤ cap ∧ w.heap.size ≤ g ∧ IntsAt w' (.slice (some ⟨g, 0, none⟩) zs.length cap) zs ∧ Below w.heap.size w w' := by
  have H := Lib.hid h
  have hR := h.rows
  have hW := h.width
  have hlen := Lib.hid h.len
  have hsmall : R * W ≤ 8 * 128 := Nat.mul_le_mul hR hW
  obtain ⟨ao, vcap, rfl, hvc, hao⟩ := h.openG
  have HAO := Lib.hid hao
  clear h hao
  obtain ⟨i0, hi, hz0, hz1, hz2⟩ := info_parts Tryz.info64
  go_enter Tryz.func56, Tryz.ntmps56
  go_wp2_with fail
  obtain ⟨g1, hb1, hsz1⟩ := news1 w (.cells #[] 2)
  have hown0 := World.ownsRow_lit (base := w.heap.size) (e := 2) (size := 1) w #[] 0 (by simp) (by unfold maxLen; omega) (by simp)
  generalize hwn : (w.alloc (.cells #[] 2)) = wn at *
  clear hwn g1
  have HO1 := Lib.hid hown0
  have HB1 := Lib.hid hb1
  clear hown0 hb1
  have hsz2 : w.heap.size ≤ wn.heap.size := by omega
  clear hsz1
  go_loopw [3, 4] (fun x i wr => ∃ r : Nat, r ≤ R ∧ i = .int .i64 (r : Int) ∧ x ≠ .slice none 0 0 ∧ wr.ownsRow w.heap.size 2 1 x (r * W) ((zs.take (r * W)).map (Value.int .i64)) ∧ Below w.heap.size w wr ∧ w.heap.size ≤ wr.heap.size) (fun _ i _ => R - (intOf i).toNat)
  case atStart => exact ⟨0, by omega, rfl, by simp, by simpa using HO1.out, HB1.out, hsz2⟩
  case round =>
    obtain ⟨r, hr, rfl, hnil, hown, hbel, hszr⟩ := hrel
    clear HO1 HB1 hsz2
    have HB := Lib.hid hbel
    have HO := Lib.hid hown
    have HNIL := Lib.hid hnil
    have HR := Lib.hid (H.out.kept hbel)
    have c0 := HR.out.box.cell 0
    simp at c0
    clear hbel hown hnil
    by_cases hlt : r < R
    · obtain ⟨L, cur, rfl, _, _, _⟩ := HAO.out (by omega)
      obtain ⟨ao2, vcap2, e2, _, hao2⟩ := HR.out.openG
      simp only [Value.slice.injEq] at e2
      obtain ⟨rfl, _, rfl⟩ := e2
      obtain ⟨L2, cur2, e3, _, hL2, hcur2⟩ := hao2 (by omega)
      simp only [Option.some.injEq, Addr.mk.injEq, and_true] at e3
      subst e3
      have cl := (hL2.cell r).trans (hcur2 r hlt)
      obtain ⟨curB, hCB, hcurB⟩ := HR.out.cells r hlt
      have HCELL : Hid (∀ j u, ((rowZ zs W r).map (Value.int .i64))[j]? = some u → wr.cell? ((⟨B r, 0, none⟩ : Addr).add j) = some u) := Lib.hid (by
        intro j u hu
        have hj : j < W := by
          have := (List.getElem?_eq_some_iff.1 hu).1
          simp [rowZ_len hlen.out hlt] at this
          exact this
        rw [List.getElem?_map, rowZ_get hj] at hu
        cases hz : zs[r * W + j]? with
        | none => rw [hz] at hu; simp at hu
        | some z =>
          rw [hz] at hu
          simp at hu
          subst hu
          have : ((⟨B r, 0, none⟩ : Addr).add j) = ⟨B r, j, none⟩ := by simp [Addr.add]; intro h; omega
          rw [this]
          exact (hCB.cell j).trans (hcurB j z hj hz))
      have hrl : Hid ((rowZ zs W r).length = W) := Lib.hid (rowZ_len hlen.out hlt)
      have HNX : Hid (zs.take ((r + 1) * W) = zs.take (r * W) ++ rowZ zs W r) := Lib.hid (rowZ_next zs W r)
      have hnx : (r + 1) * W = r * W + W := by rw [Nat.add_mul, Nat.one_mul]
      have HNX2 := Lib.hid hnx
      have hlm : (r + 1) * W ≤ R * W := Nat.mul_le_mul_right W hlt
      rw [hnx] at hlm
      have hmx : r * W + W ≤ maxLen := by unfold maxLen; omega
      clear hL2 hcur2 hCB hcurB hao2 hnx
      generalize rowZ zs W r = zr at *
      generalize B r = Br at *
      generalize K r = Kr at *
      have d1 : (0 : Int) ≤ (r : Int) := by omega
      have d2 : (r : Int) < (R : Int) := by omega
      go_wp2_with (at_builtin; refine wpList_append_own_at _ rfl _ _ 62 rfl w.heap.size 2 i0 (.int .i64 0) 1 8 Tryz.underlying62 hi hz0 hz1 hz2 rfl (by decide) _ (r * W) _ rfl HO.out ⟨Br, 0, none⟩ W Kr (zr.map (Value.int .i64)) rfl ?c1 HCELL.out ?c3 hmx ?c5 hszr ?_)
      case c1 => simp [hrl.out]
      case c3 =>
        intro u hu
        simp at hu
        obtain ⟨z, _, rfl⟩ := hu
        simp [Value.oneCell']
      case c5 => omega
      intro v' w3 hown' hgrow hnil' hq9
      have HNIL' : Hid (v' ≠ .slice none 0 0) := Lib.hid (fun h => HNIL.out (hnil'.1 h).1)
      have HO3 : Hid (w3.ownsRow w.heap.size 2 1 v' ((r + 1) * W) ((zs.take ((r + 1) * W)).map (Value.int .i64))) := Lib.hid (by rw [HNX.out, HNX2.out, List.map_append, List.map_take]; exact hown')
      have hMk := fun k hk => (HO.out.lt k hk).1
      have HB3 : Hid (Below w.heap.size w w3) := Lib.hid (HB.out.grown hgrow hszr (fun k e => hMk k e))
      have hsz3 : w.heap.size ≤ w3.heap.size := by have := hgrow.size; omega
      clear hown' hgrow hnil' hq9 hMk
      go_wp2
      go_roundw
      case rel => exact ⟨r + 1, by omega, by go_num, HNIL'.out, HO3.out, HB3.out, hsz3⟩
      case measure => simp [intOf]; omega
    · obtain rfl : r = R := by omega
      have hrow := HO.out
      rw [← hlen.out, List.take_length] at hrow
      have hi := IntsAt.of_own hrow rfl
      obtain ⟨g, cap, rfl, hg, hc, _⟩ := own_row hrow HNIL.out
      have HI := Lib.hid hi
      clear hi hrow
      go_wp2
      go_ret
      exact ⟨g, cap, rfl, hc, hg, HI.out, HB.out⟩



/-- what lies at a place of the document's grid -/
theorem RefIs.look {w : World} {N G L vcap : Nat} {B K : Nat → Nat} {R W r c : Nat} {zs : List Int} (h : RefIs w N G (.slice (some ⟨L, 0, none⟩) R vcap) B K R W zs) (hr : r < R) (hc : c < W) :
    w.cell? ⟨G, 0, none⟩ = some (.slice (some ⟨L, 0, none⟩) R vcap) ∧ w.cell? ⟨L, r, none⟩ = some (.slice (some ⟨B r, 0, none⟩) W (K r)) ∧ w.cell? ⟨B r, c, none⟩ = some (.int .i64 (cellD zs (r * W + c))) ∧ w.frozen? ⟨B r, c, none⟩ = false := by
  obtain ⟨b1, -, -⟩ := placeBd hr hc h.rows h.width
  obtain ⟨ao, cap, e, _, hao⟩ := h.openG
  simp only [Value.slice.injEq] at e
  obtain ⟨rfl, -, rfl⟩ := e
  obtain ⟨L', cur, e, -, hL, hcur⟩ := hao (by omega)
  simp only [Option.some.injEq, Addr.mk.injEq, and_true] at e
  subst e
  obtain ⟨curB, hB, hcurB⟩ := h.cells r hr
  have hz : zs[r * W + c]? = some (cellD zs (r * W + c)) := by
    have : r * W + c < zs.length := by rw [h.len]; omega
    simp [cellD, this]
  exact ⟨h.box.cell 0, (hL.cell r).trans (hcur r hr), (hB.cell c).trans (hcurB c _ hc hz), hB.frozen c⟩
theorem RefIs.lookR {w : World} {N G L vcap : Nat} {B K : Nat → Nat} {R W r : Nat} {zs : List Int} (h : RefIs w N G (.slice (some ⟨L, 0, none⟩) R vcap) B K R W zs) (hr : r < R) :
    w.cell? ⟨G, 0, none⟩ = some (.slice (some ⟨L, 0, none⟩) R vcap) ∧ w.cell? ⟨L, r, none⟩ = some (.slice (some ⟨B r, 0, none⟩) W (K r)) := by
  obtain ⟨ao, cap, e, _, hao⟩ := h.openG
  simp only [Value.slice.injEq] at e
  obtain ⟨rfl, -, rfl⟩ := e
  obtain ⟨L', cur, e, -, hL, hcur⟩ := hao (by omega)
  simp only [Option.some.injEq, Addr.mk.injEq, and_true] at e
  subst e
  exact ⟨h.box.cell 0, (hL.cell r).trans (hcur r hr)⟩
theorem RefIs.openL {w : World} {N G : Nat} {v : Value} {B K : Nat → Nat} {R W : Nat} {zs : List Int} (h : RefIs w N G v B K R W zs) (hR : 0 < R) : ∃ L vcap, v = .slice (some ⟨L, 0, none⟩) R vcap := by
  obtain ⟨ao, cap, e, _, hao⟩ := h.openG
  obtain ⟨L, cur, rfl, -⟩ := hao hR
  exact ⟨L, cap, e⟩

set_option maxRecDepth 100000 in
set_option maxHeartbeats 4000000 in
theorem rmeet_any (w : World) (N G : Nat) (v : Value) (B K : Nat → Nat) (R W : Nat) (zs cs : List Int) (vc : Value) (h : RefIs w N G v B K R W zs) (hv : IntsAt w vc cs) (hl : cs.length ≤ 100000) :
    Calls Tryz.prog 87 #[.pointer (some ⟨G, 0, none⟩), vc] w fun e w' => e = .returned (.bool (meetB R W cs)) ∧ Below w.heap.size w w' := by
  have hR8 := h.rows
  have hW8 := h.width
  have HV := Lib.hid hv
  obtain ⟨ao, cap, rfl, hcap, hcells⟩ := hv
  have HC := Lib.hid hcells
  clear hcells
  obtain ⟨n, hlen⟩ : ∃ n, n = cs.length := ⟨_, rfl⟩
  rw [← hlen] at hcap hl HC ⊢
  have HLEN := Lib.hid hlen
  by_cases hR : R = 0
  · have HM : Hid (meetB R W cs = false) := Lib.hid (by rw [hR]; exact meetB_zero)
    obtain ⟨ao', cap', rfl, _, _⟩ := h.openG
    have c0 := h.box.cell 0
    simp at c0
    have d0 : decide ((R : Int) = 0) = true := decide_eq_true (by omega)
    have d1 : ((R : Int) == 0) = true := by simp [hR]
    have d2 : (R == 0) = true := by simp [hR]
    have d3 : decide (R = 0) = true := by simp [hR]
    clear hR h HC hlen
    go_enter Tryz.func87, Tryz.ntmps87
    go_wp2
    go_ret
    exact ⟨ret_boolq HM.out.symm, Below.refl _ _⟩
  have h0R : 0 < R := by omega
  obtain ⟨L, vcap, rfl⟩ := h.openL h0R
  have c0 := h.box.cell 0
  simp at c0
  have d0 : decide ((R : Int) = 0) = false := decide_eq_false (by omega)
  have d1 : ((R : Int) == 0) = false := by simp [hR]
  have d2 : (R == 0) = false := by simp [hR]
  have d3 : decide (R = 0) = false := by simp [hR]
  by_cases hn : n = R
  · have HN := Lib.hid hn
    have d4 : ((n : Int) != (R : Int)) = false := by simp [hn]
    have d4' : (n != R) = false := by simp [hn]
    have HG := Lib.hid h
    have hn8 : n ≤ 8 := by omega
    clear hn hR h hlen
    go_enter Tryz.func87, Tryz.ntmps87
    go_wp2_with fail
    go_loopw [5] (fun i wr => ∃ j : Nat, j ≤ n ∧ i = .int .i64 (j : Int) ∧ (∀ k c, k < j → cs[k]? = some c → 0 ≤ c ∧ c < (W : Int)) ∧ Below w.heap.size w wr) (fun i _ => n - (intOf i).toNat)
    case atStart => exact ⟨0, by omega, rfl, fun k c hk => by omega, Below.refl _ _⟩
    case round =>
      obtain ⟨j, hj, rfl, hok, hbel⟩ := hrel
      have HOK := Lib.hid hok
      have HB := Lib.hid hbel
      clear hok hbel c0
      by_cases hlt : j < n
      · obtain ⟨g, rfl, hg, hc⟩ := HC.out (by have := HLEN.out; omega)
        have hcj : cs[j]? = some (cellD cs j) := by
          have : j < cs.length := by have := HLEN.out; omega
          simp [cellD, this]
        have cx := (HB.out.cell (p := ⟨g, j, none⟩) hg).trans (hc j _ hcj)
        have hjR : j < R := by have := HN.out; omega
        obtain ⟨l0, l1⟩ := (HG.out.kept HB.out).lookR hjR
        have HCJ := Lib.hid hcj
        clear hc hcj
        generalize cellD cs j = x at *
        generalize B j = Bj at *
        generalize K j = Kj at *
        have i0 : (0 : Int) ≤ (j : Int) := by omega
        have i1 : (j : Int) < (n : Int) := by omega
        have i2 : (j : Int) < (R : Int) := by omega
        have HBD := Lib.hid (fun k => below_drewN HB.out k)
        by_cases h1 : x < 0
        · have HM : Hid (meetB R W cs = false) := Lib.hid (meetB_bad HCJ.out (.inl h1))
          have e1 : decide (x < 0) = true := decide_eq_true h1
          clear h1
          go_wp2_with fail
          go_quiet (fail)
          go_wp2
          go_ret
          exact ⟨ret_boolq HM.out.symm, HBD.out _⟩
        by_cases h2 : (W : Int) ≤ x
        · have HM : Hid (meetB R W cs = false) := Lib.hid (meetB_bad HCJ.out (.inr h2))
          have e1 : decide (x < 0) = false := decide_eq_false h1
          have e2 : decide ((W : Int) ≤ x) = true := decide_eq_true h2
          clear h1 h2
          go_wp2_with fail
          go_quiet (fail)
          go_wp2
          go_ret
          exact ⟨ret_boolq HM.out.symm, HBD.out _⟩
        have HX : Hid (∀ k c, k < j + 1 → cs[k]? = some c → 0 ≤ c ∧ c < (W : Int)) := Lib.hid (fun k c hk hc => by
          by_cases e : k = j
          · subst e; rw [HCJ.out] at hc; have := Option.some.inj hc; omega
          · exact HOK.out k c (by omega) hc)
        have e1 : decide (x < 0) = false := decide_eq_false h1
        have e2 : decide ((W : Int) ≤ x) = false := decide_eq_false h2
        clear h1 h2
        go_wp2_with fail
        go_quiet (fail)
        go_wp2
        go_roundw
        case rel => exact ⟨j + 1, by omega, by go_num, HX.out, HBD.out _⟩
        case measure => simp [intOf]; omega
      · obtain rfl : j = n := by omega
        have HM : Hid (meetB R W cs = true) := Lib.hid (meetB_all h0R (by rw [← HLEN.out, HN.out]) (fun k c hc => HOK.out k c (by
          have := (List.getElem?_eq_some_iff.1 hc).1
          have := HLEN.out
          omega) hc))
        go_wp2
        go_ret
        exact ⟨ret_boolq HM.out.symm, HB.out⟩
  · have HM : Hid (meetB R W cs = false) := Lib.hid (meetB_len (by have := HLEN.out; omega))
    have d4 : ((n : Int) != (R : Int)) = true := by simp; omega
    have d4' : (n != R) = true := by simp; omega
    clear hn hR h hlen
    go_enter Tryz.func87, Tryz.ntmps87
    go_wp2
    go_ret
    exact ⟨ret_boolq HM.out.symm, Below.refl _ _⟩
end Go.Proofs.YtbghchgmoiniiaaGreat

/-
  Sketches in memory; the walks of sketch.New, Cells, Load. Conditions: none beyond those stated at each theorem.
-/
namespace Go.Proofs.YtbghchgmoiniiaaGreat
open Go.RowKit
set_option linter.unusedVariables false
set_option linter.unusedSimpArgs false

/-- block A is a sketch of a config and a level, over a grid -/
structure SkIs (w : World) (A G C : Nat) (b r d m s l : Int) (zs : List Int) : Prop where
  box : Blk w A 146 #[.pointer (some ⟨G, 0, none⟩), .int .i64 b, .int .i64 r, .int .i64 d, .int .i64 m, .int .u64 s, .int .i64 l]
  grid : GridIs w G C r.toNat d.toNat zs
theorem SkIs.kept {w w' : World} {A G C : Nat} {b r d m s l : Int} {zs : List Int} (h : SkIs w A G C b r d m s l zs) (hb : Below w.heap.size w w') : SkIs w' A G C b r d m s l zs := ⟨h.box.kept hb, h.grid.kept hb⟩
theorem SkIs.grown {w w' : World} {A G C : Nat} {b r d m s l : Int} {zs : List Int} {row : Option Nat} (h : SkIs w A G C b r d m s l zs) (hb : w.grownBy w' row) (h1 : some A ≠ row) (h2 : some G ≠ row) (h3 : some C ≠ row) : SkIs w' A G C b r d m s l zs := ⟨h.box.grown hb h1, h.grid.grown hb h2 h3⟩
theorem SkIs.neA {w : World} {A G C : Nat} {b r d m s l : Int} {zs : List Int} (h : SkIs w A G C b r d m s l zs) : A ≠ C := by
  obtain ⟨cur, hc, -⟩ := h.grid.cells
  exact h.box.ne_ hc (by decide)
def SkNewPost (w : World) (b r d m s l : Int) (e : Ending) (w' : World) : Prop :=
  ∃ A G C, e = .returned (.tuple #[.pointer (some ⟨A, 0, none⟩), .int .i64 0]) ∧ w.heap.size ≤ A ∧ w.heap.size ≤ G ∧ w.heap.size ≤ C ∧ SkIs w' A G C b r d m s l (List.replicate (r.toNat * d.toNat) 0) ∧ Below w.heap.size w w'
theorem clampN_of {n : Int} {top : Nat} (h : n ≤ (top : Int)) : clampN n top = n.toNat := by unfold clampN; omega
set_option maxRecDepth 100000 in
set_option maxHeartbeats 4000000 in
theorem sknew_yes (b r d m s l : Int) (hr : rightB b r d m = true) (h0 : 0 ≤ l) (h1 : l ≤ b) (w : World) :
    Calls Tryz.prog 64 #[.agg #[.int .i64 b, .int .i64 r, .int .i64 d, .int .i64 m, .int .u64 s], .int .i64 l] w (SkNewPost w b r d m s l) := by
  have hR := right_of hr
  have hk : 0 < keysI b r d m l := by
    rw [keysI_yes hr h0 h1]
    have := pow_le (b - l).toNat (by omega)
    omega
  have PK := Lib.hid (fun w => keys_any b r d m s l w)
  have PN := Lib.hid (fun w => new_any r d w)
  rw [clampN_of (by omega), clampN_of (by omega)] at PN
  have e1 : (keysI b r d m l == 0) = false := by simp; omega
  generalize keysI b r d m l = kk at *
  clear hk hr hR h0 h1
  obtain ⟨g1, hb1, hsz1⟩ := news1 w (.cells #[.int .i64 b, .int .i64 r, .int .i64 d, .int .i64 m, .int .u64 s] 24)
  have hx1 : Blk _ w.heap.size 24 #[.int .i64 b, .int .i64 r, .int .i64 d, .int .i64 m, .int .u64 s] := g1
  have HB1 := Lib.hid hb1
  have HX1 := Lib.hid hx1
  clear g1 hb1 hsz1
  go_enter Tryz.func64, Tryz.ntmps64
  go_wp2_with (refine wpList_load_row rfl 24 _ rfl w.heap.size rfl 24 _ (0, 0) _ hx1 Tryz.underlying24 rfl (by kernel_rfl) ?_)
  with_reducible refine (PK.out _).mono ?_
  rintro e w2 ⟨rfl, hb⟩
  have HB2 := Lib.hid (btr HB1.out hb)
  have HX2 := Lib.hid (HX1.out.kept hb)
  clear hb hx1
  go_wp2_with fail
  refine wp_region_held_drew (S := fun w' => Blk w' w.heap.size 24 #[.int .i64 b, .int .i64 r, .int .i64 d, .int .i64 m, .int .u64 s] ∧ w.heap.size ≤ w'.heap.size) (by kernel_rfl) (by exact ⟨HX2.out.drewN 1, HB2.out.size⟩) (fun hHeld => ?_)
  refine wpAnyH_take (i := 0) (v := ?_) rfl (by kernel_rfl) (by kernel_rfl) (by kernel_rfl) (fun _ _ _ h => h) (Or.inl ⟨by rfl, ?_⟩) (by assumption) ?_
  rotate_left
  · intro w hSw
    try dsimp only at hSw
    go_simp
    try with_reducible rfl
  simp only [Act.put, List.setIfInBounds_toArray, List.set_cons_zero, List.set_cons_succ, List.getElem_toArray, List.getElem_cons_zero, List.getElem_cons_succ]
  refine wpAnyH_take (i := 1) (v := ?_) rfl (by kernel_rfl) (by kernel_rfl) (by kernel_rfl) (fun _ _ _ h => h) (Or.inl ⟨by rfl, ?_⟩) (by assumption) ?_
  rotate_left
  · intro w hSw
    have q0 := hSw.1.cell 0
    have q1 := hSw.1.cell 1
    have q2 := hSw.1.cell 2
    simp at q0 q1 q2
    try refine (exec_load_row 24 _ rfl _ rfl 24 _ (0, 0) _ hSw.1 Tryz.underlying24 rfl (by kernel_rfl)).trans ?_
    go_simp
    try with_reducible rfl
  simp only [Act.put, List.setIfInBounds_toArray, List.set_cons_zero, List.set_cons_succ, List.getElem_toArray, List.getElem_cons_zero, List.getElem_cons_succ]
  refine wpAnyH_take (i := 2) (v := ?_) rfl (by kernel_rfl) (by kernel_rfl) (by kernel_rfl) (fun _ _ _ h => h) (Or.inl ⟨by rfl, ?_⟩) (by assumption) ?_
  rotate_left
  · intro w hSw
    try dsimp only at hSw
    go_simp
    try with_reducible rfl
  simp only [Act.put, List.setIfInBounds_toArray, List.set_cons_zero, List.set_cons_succ, List.getElem_toArray, List.getElem_cons_zero, List.getElem_cons_succ]
  refine wpAnyH_take (i := 3) (v := ?_) rfl (by kernel_rfl) (by kernel_rfl) (by kernel_rfl) (fun _ _ _ h => h) (Or.inl ⟨by rfl, ?_⟩) (by assumption) ?_
  rotate_left
  · intro w hSw
    have q0 := hSw.1.cell 0
    have q1 := hSw.1.cell 1
    have q2 := hSw.1.cell 2
    simp at q0 q1 q2
    try refine (exec_load_row 24 _ rfl _ rfl 24 _ (0, 0) _ hSw.1 Tryz.underlying24 rfl (by kernel_rfl)).trans ?_
    go_simp
    try with_reducible rfl
  simp only [Act.put, List.setIfInBounds_toArray, List.set_cons_zero, List.set_cons_succ, List.getElem_toArray, List.getElem_cons_zero, List.getElem_cons_succ]
  refine wpAnyH_take (i := 6) (v := ?_) rfl (by kernel_rfl) (by kernel_rfl) (by kernel_rfl) (fun _ _ _ h => h) (Or.inl ⟨by rfl, ?_⟩) (by assumption) ?_
  rotate_left
  · intro w hSw
    have q0 := hSw.1.cell 0
    have q1 := hSw.1.cell 1
    have q2 := hSw.1.cell 2
    simp at q0 q1 q2
    try refine (exec_load_row 24 _ rfl _ rfl 24 _ (0, 0) _ hSw.1 Tryz.underlying24 rfl (by kernel_rfl)).trans ?_
    go_simp
    try with_reducible rfl
  simp only [Act.put, List.setIfInBounds_toArray, List.set_cons_zero, List.set_cons_succ, List.getElem_toArray, List.getElem_cons_zero, List.getElem_cons_succ]
  refine wpAnyH_take (i := 7) (v := ?_) rfl (by kernel_rfl) (by kernel_rfl) (by kernel_rfl) (fun _ _ _ h => h) (Or.inl ⟨by rfl, ?_⟩) (by assumption) ?_
  rotate_left
  · intro w hSw
    try dsimp only at hSw
    go_simp
    try with_reducible rfl
  simp only [Act.put, List.setIfInBounds_toArray, List.set_cons_zero, List.set_cons_succ, List.getElem_toArray, List.getElem_cons_zero, List.getElem_cons_succ]
  refine wpAnyH_ready (rs := [4]) (by kernel_rfl) (by simp) ?_
  refine AllReadyH.cons rfl (fun Kc hKc => ?_) AllReadyH.nil
  go_simp
  go_wp2_with (go_at_call 73; refine (PN.out _).mono ?_; rintro e w4 ⟨G, C, rfl, hG, hC, hg, hb'⟩; have HG4 := Lib.hid hg; have HB4 := Lib.hid (btr (below_drewN HB2.out 1) hb'); have hGC : Hid (w.heap.size ≤ G ∧ w.heap.size ≤ C) := ⟨Nat.le_trans hHeld.2 hG, Nat.le_trans hHeld.2 hC⟩; clear hg)
  refine hKc.out _ _ ?_ (fun hHeld => ?_)
  · first | assumption | exact ⟨hHeld.1.kept hb', Nat.le_trans hHeld.2 hb'.size⟩ | exact ⟨hHeld.1.alloc _, by have := hHeld.2; simp; omega⟩
  clear hKc Kc
  refine wpAnyH_take (i := 5) (v := ?_) rfl (by kernel_rfl) (by kernel_rfl) (by kernel_rfl) (fun _ _ _ h => h) (Or.inl ⟨by rfl, ?_⟩) (by assumption) ?_
  rotate_left
  · intro w hSw
    try dsimp only at hSw
    go_simp
    try with_reducible rfl
  simp only [Act.put, List.setIfInBounds_toArray, List.set_cons_zero, List.set_cons_succ, List.getElem_toArray, List.getElem_cons_zero, List.getElem_cons_succ]
  refine wpAnyH_take (i := 8) (v := ?_) rfl (by kernel_rfl) (by kernel_rfl) (by kernel_rfl) (fun _ _ _ h => h) (Or.inl ⟨by rfl, ?_⟩) (by assumption) ?_
  rotate_left
  · intro w hSw
    try dsimp only at hSw
    go_simp
    try with_reducible rfl
  simp only [Act.put, List.setIfInBounds_toArray, List.set_cons_zero, List.set_cons_succ, List.getElem_toArray, List.getElem_cons_zero, List.getElem_cons_succ]
  refine wpAnyH_ready (rs := [9]) (by kernel_rfl) (by simp) ?_
  refine AllReadyH.cons rfl (fun Kc hKc => ?_) AllReadyH.nil
  go_simp
  refine hKc.out _ _ ?_ (fun hHeld => ?_)
  · first | assumption | exact ⟨hHeld.1.kept hb', Nat.le_trans hHeld.2 hb'.size⟩ | exact ⟨hHeld.1.alloc _, by have := hHeld.2; simp; omega⟩
  clear hKc Kc
  refine wpAnyH_take (i := 10) (v := ?_) rfl (by kernel_rfl) (by kernel_rfl) (by kernel_rfl) (fun _ _ _ h => h) (Or.inl ⟨by rfl, ?_⟩) (by assumption) ?_
  rotate_left
  · intro w hSw
    try dsimp only at hSw
    go_simp
    try with_reducible rfl
  simp only [Act.put, List.setIfInBounds_toArray, List.set_cons_zero, List.set_cons_succ, List.getElem_toArray, List.getElem_cons_zero, List.getElem_cons_succ]
  refine wpAnyH_take (i := 11) (v := ?_) rfl (by kernel_rfl) (by kernel_rfl) (by kernel_rfl) (fun _ _ _ h => h) (Or.inl ⟨by rfl, ?_⟩) (by assumption) ?_
  rotate_left
  · intro w hSw
    try dsimp only at hSw
    go_simp
    try with_reducible rfl
  simp only [Act.put, List.setIfInBounds_toArray, List.set_cons_zero, List.set_cons_succ, List.getElem_toArray, List.getElem_cons_zero, List.getElem_cons_succ]
  refine wpAnyH_done (by kernel_rfl) ?_ _
  have HNEW := Lib.hid (Blk.new w4 146 #[.pointer (some ⟨G, 0, none⟩), .int .i64 b, .int .i64 r, .int .i64 d, .int .i64 m, .int .u64 s, .int .i64 l])
  have HAL : Hid (Below w4.heap.size w4 (w4.alloc (.cells #[.pointer (some ⟨G, 0, none⟩), .int .i64 b, .int .i64 r, .int .i64 d, .int .i64 m, .int .u64 s, .int .i64 l] 146))) := Lib.hid ((Below.refl _ _).alloc (Nat.le_refl _) _)
  have HG5 := Lib.hid (HG4.out.kept HAL.out)
  have HB5 := Lib.hid (btr HB4.out HAL.out)
  clear hHeld
  go_wp2_with fail
  go_ret2
  exact ⟨w4.heap.size, G, C, rfl, HB4.out.size, hGC.out.1, hGC.out.2, ⟨HNEW.out, HG5.out⟩, HB5.out⟩
theorem skcells (w : World) (A G C : Nat) (b r d m s l : Int) (zs : List Int) (h : SkIs w A G C b r d m s l zs) :
    Calls Tryz.prog 138 #[.pointer (some ⟨A, 0, none⟩)] w (CellsPost w zs) := by
  have c0 := h.box.cell 0
  simp at c0
  have P := Lib.hid (cells_any w G C _ _ zs h.grid)
  clear h
  go_enter Tryz.func138, Tryz.ntmps138
  go_wp2_with fail
  with_reducible refine P.out.mono ?_
  rintro e w2 ⟨v, rfl, hrest⟩
  have HR := Lib.hid hrest
  clear hrest
  go_wp2
  go_ret
  exact ⟨v, rfl, HR.out⟩
set_option maxRecDepth 100000 in
set_option maxHeartbeats 4000000 in
theorem skload_yes (w : World) (A G C : Nat) (b : Int) (R W : Nat) (m s l : Int) (zs cs : List Int) (v : Value) (h : SkIs w A G C b R W m s l zs) (hW : 0 < W) (hv : IntsAt w v cs) (hl : cs.length = R * W) (hfit : Fit cs) (hvc : v.ownBlock ≠ some C) :
    Calls Tryz.prog 142 #[.pointer (some ⟨A, 0, none⟩), v] w fun e w' => e = .returned (.bool true) ∧ SkIs w' A G C b R W m s l cs ∧ w.grownBy w' (some C) := by
  have hR8 := h.grid.rows
  have hW8 := h.grid.width
  rw [Int.toNat_natCast] at hR8 hW8
  have hzl : zs.length = R * W := by have := h.grid.len; simpa using this
  have HA := Lib.hid h
  have HNE := Lib.hid h.neA
  obtain ⟨ao, cap, rfl, hcap, hcells⟩ := hv
  have HC := Lib.hid hcells
  have HF := Lib.hid hfit
  have HVC := Lib.hid hvc
  have HLL := Lib.hid (show cs.length = zs.length by omega)
  have HL := Lib.hid hl
  rw [hl] at hcap ⊢
  obtain ⟨n, hn⟩ : ∃ n, n = R * W := ⟨_, rfl⟩
  have hm : (R : Int) * (W : Int) = (n : Int) := by simp [hn]
  have hp : n ≤ 1024 := by rw [hn]; exact Nat.mul_le_mul hR8 hW8
  have HN := Lib.hid hn
  rw [← hn] at hcap ⊢
  have e1 : ((n : Int) != (n : Int)) = false := by simp
  have c2 := h.box.cell 2
  have c3 := h.box.cell 3
  simp at c2 c3
  clear hcells hfit h hzl hvc hl hn
  go_enter Tryz.func142, Tryz.ntmps142
  go_wp2_with fail
  go_quiet (fail)
  go_wp2_with fail
  go_loopw [23] (fun i wr => ∃ j : Nat, j ≤ n ∧ i = .int .i64 (j : Int) ∧ SkIs wr A G C b R W m s l (cs.take j ++ zs.drop j) ∧ w.grownBy wr (some C)) (fun i _ => n - (intOf i).toNat)
  case atStart => exact ⟨0, by omega, rfl, by simpa using HA.out.kept (below_drewN (Below.refl _ _) nq), below_gr (below_drewN (Below.refl _ _) nq)⟩
  case round =>
    obtain ⟨j, hj, rfl, ha, hgr⟩ := hrel
    have HA2 := Lib.hid ha
    have HG := Lib.hid hgr
    clear c2 c3
    by_cases hlt : j < n
    · obtain ⟨g, rfl, hg, hc⟩ := HC.out (by have := HL.out; have := HN.out; omega)
      have hgC : g ≠ C := fun e => HVC.out (by simp [Value.ownBlock, e])
      have hcj : cs[j]? = some (cellD cs j) := by
        have : j < cs.length := by have := HL.out; have := HN.out; omega
        simp [cellD, this]
      have cx := hgr.cell (hc j _ hcj) (by simpa using hgC)
      have hrow : j / W < R := Nat.div_lt_of_lt_mul (by have := HN.out; rw [Nat.mul_comm] at this; omega)
      have hcol : j % W < W := Nat.mod_lt _ hW
      have P3 : Hid (∀ wd, SkIs wd A G C b R W m s l (cs.take j ++ zs.drop j) → Calls Tryz.prog 130 #[.pointer (some ⟨G, 0, none⟩), .int .i64 ((j / W : Nat) : Int), .int .i64 ((j % W : Nat) : Int), .int .i64 (cellD cs j)] wd fun e w'' => e = .returned (.bool true) ∧ w'' = wd.setCell ⟨C, j, none⟩ (.int .i64 (cellD cs j))) := Lib.hid (fun wd hd => by
        have hgd := hd.grid
        rw [Int.toNat_natCast, Int.toNat_natCast] at hgd
        have := put_in wd G C R W (j / W) (j % W) (cellD cs j) _ hgd hrow hcol
        rw [show j / W * W + j % W = j by rw [Nat.mul_comm]; exact Nat.div_add_mod j W] at this
        exact this)
      have HS := Lib.hid (take_drop_set (zs := zs) hcj HLL.out)
      have HX := Lib.hid (fitC HF.out j)
      have i0 : (0 : Int) ≤ (j : Int) := by omega
      have i1 : (j : Int) < (n : Int) := by omega
      have f5 : IntKind.i64.wrap ((j : Int) / (W : Int)) = ((j / W : Nat) : Int) := by
        have h1 : (j : Int) / (W : Int) = ((j / W : Nat) : Int) := (Int.natCast_ediv ..).symm
        have h2 : j / W ≤ j := Nat.div_le_self j W
        rw [h1, wrapI_eq64]
        generalize j / W = q at *
        unfold wrap64; omega
      have f6 : IntKind.i64.wrap ((j : Int) % (W : Int)) = ((j % W : Nat) : Int) := by
        have h1 : (j : Int) % (W : Int) = ((j % W : Nat) : Int) := (Int.natCast_emod ..).symm
        have h2 : j % W ≤ j := Nat.mod_le j W
        rw [h1, wrapI_eq64]
        generalize j % W = q at *
        unfold wrap64; omega
      have f6' : (j : Int) % (W : Int) = ((j % W : Nat) : Int) := (Int.natCast_emod ..).symm
      have e8 : ¬ W = 0 := by omega
      clear ha hgr hc hcj hrow hcol
      generalize cellD cs j = x at *
      generalize j / W = jq at *
      generalize j % W = jr at *
      go_wp2_with fail
      refine wp_region_still_tail 20 (by kernel_rfl) (by kernel_rfl) ?_
      simp only [List.take_succ_cons, List.take_zero, List.drop_succ_cons, List.drop_zero]
      have HA3 : Hid (SkIs { heap := wr.heap, tape := wr.tape, drawn := wr.drawn + 1, os := wr.os, output := wr.output } A G C b R W m s l (cs.take j ++ zs.drop j)) := Lib.hid (HA2.out.kept (below_drewN (Below.refl _ _) 1))
      have HG3 : Hid (w.grownBy { heap := wr.heap, tape := wr.tape, drawn := wr.drawn + 1, os := wr.os, output := wr.output } (some C)) := Lib.hid (gr_trans HG.out (below_gr (below_drewN (Below.refl _ _) 1)))
      generalize ({ heap := wr.heap, tape := wr.tape, drawn := wr.drawn + 1, os := wr.os, output := wr.output } : World) = wd at *
      have q0 := HA3.out.box.cell 0
      have q3 := HA3.out.box.cell 3
      simp at q0 q3
      repeat still_step
      refine wpStill_nil ?_
      go_wp2_with fail
      try simp only [f6']
      with_reducible refine (P3.out _ HA3.out).mono ?_
      rintro e w3 ⟨rfl, hw3⟩
      have HW3 := Lib.hid hw3
      clear hw3 q0 q3 f5 f6 f6'
      go_wp2
      go_roundw
      case rel => exact ⟨j + 1, by omega, by go_num, by rw [← HS.out, HW3.out]; exact ⟨HA3.out.box.far (by have := HNE.out; simpa using this) _, HA3.out.grid.set j x HX.out.1 HX.out.2⟩, by rw [HW3.out]; exact gr_trans HG3.out (grown_set _ _ _ _)⟩
      case measure => simp [intOf]; omega
    · obtain rfl : j = n := by omega
      have HE : Hid (cs.take j ++ zs.drop j = cs) := Lib.hid (by rw [List.take_of_length_le (by have := HL.out; have := HN.out; omega), List.drop_eq_nil_of_le (by have := HL.out; have := HN.out; have := HLL.out; omega)]; simp)
      clear ha hgr
      go_wp2
      go_ret
      exact ⟨rfl, by rw [← HE.out]; exact HA2.out, HG.out⟩
end Go.Proofs.YtbghchgmoiniiaaGreat

/-
  Levels behind an interface; the walk of level.New. Conditions: none beyond those stated at each theorem.
-/
namespace Go.Proofs.YtbghchgmoiniiaaGreat
open Go.RowKit
set_option linter.unusedVariables false
set_option linter.unusedSimpArgs false

/-- how many cells a level has -/
def cellsN (b r d m l : Int) : Nat := if exactB b r d m l = true then (keysI b r d m l).toNat else r.toNat * d.toNat
/-- x is a level, an array or a sketch, and its cells read as zs -/
def LevIs (w : World) (x : Value) (A G C : Nat) (b r d m s l : Int) (zs : List Int) : Prop :=
  (exactB b r d m l = true ∧ x = .iface 122 (.pointer (some ⟨A, 0, none⟩)) ∧ ArrIs w A G C b r d m s l (keysI b r d m l).toNat zs) ∨
  (exactB b r d m l = false ∧ x = .iface 125 (.pointer (some ⟨A, 0, none⟩)) ∧ SkIs w A G C b r d m s l zs)
theorem LevIs.kept {w w' : World} {x : Value} {A G C : Nat} {b r d m s l : Int} {zs : List Int} (h : LevIs w x A G C b r d m s l zs) (hb : Below w.heap.size w w') : LevIs w' x A G C b r d m s l zs := by
  rcases h with ⟨h1, h2, h3⟩ | ⟨h1, h2, h3⟩
  · exact .inl ⟨h1, h2, h3.kept hb⟩
  · exact .inr ⟨h1, h2, h3.kept hb⟩
theorem LevIs.len {w : World} {x : Value} {A G C : Nat} {b r d m s l : Int} {zs : List Int} (h : LevIs w x A G C b r d m s l zs) : zs.length = cellsN b r d m l := by
  unfold cellsN
  rcases h with ⟨h1, h2, h3⟩ | ⟨h1, h2, h3⟩
  · rw [if_pos h1, h3.2.len, Nat.one_mul]
  · rw [h1]; simpa using h3.grid.len
theorem LevIs.fit {w : World} {x : Value} {A G C : Nat} {b r d m s l : Int} {zs : List Int} (h : LevIs w x A G C b r d m s l zs) : Fit zs := by
  rcases h with ⟨h1, h2, h3⟩ | ⟨h1, h2, h3⟩
  · exact h3.2.fit
  · exact h3.grid.fit
theorem LevIs.le {w : World} {x : Value} {A G C : Nat} {b r d m s l : Int} {zs : List Int} (h : LevIs w x A G C b r d m s l zs) : zs.length ≤ 1024 := by
  rcases h with ⟨h1, h2, h3⟩ | ⟨h1, h2, h3⟩
  · rw [h3.2.len]; exact Nat.mul_le_mul h3.2.rows h3.2.width
  · rw [h3.grid.len]; exact Nat.mul_le_mul h3.grid.rows h3.grid.width
/-- the block of the cells is of numbers -/
theorem LevIs.cells {w : World} {x : Value} {A G C : Nat} {b r d m s l : Int} {zs : List Int} (h : LevIs w x A G C b r d m s l zs) : ∃ cur, Blk w C 2 cur := by
  rcases h with ⟨h1, h2, h3⟩ | ⟨h1, h2, h3⟩
  · obtain ⟨cur, hc, -⟩ := h3.2.cells; exact ⟨cur, hc⟩
  · obtain ⟨cur, hc, -⟩ := h3.grid.cells; exact ⟨cur, hc⟩
/-- what changes the cells' block of another level alone leaves a level as it was -/
theorem LevIs.other {w w' : World} {x : Value} {A G C D : Nat} {b r d m s l : Int} {zs : List Int} {cur : Array Value} (h : LevIs w x A G C b r d m s l zs) (hg : w.grownBy w' (some D)) (hD : Blk w D 2 cur) (hne : C ≠ D) : LevIs w' x A G C b r d m s l zs := by
  rcases h with ⟨h1, h2, h3⟩ | ⟨h1, h2, h3⟩
  · obtain ⟨cap, hG, -⟩ := h3.2.fields
    exact .inl ⟨h1, h2, h3.grown hg (by simpa using h3.1.ne_ hD (by decide)) (by simpa using hG.ne_ hD (by decide)) (by simpa using hne)⟩
  · obtain ⟨cap, hG, -⟩ := h3.grid.fields
    exact .inr ⟨h1, h2, h3.grown hg (by simpa using h3.box.ne_ hD (by decide)) (by simpa using hG.ne_ hD (by decide)) (by simpa using hne)⟩
theorem keysI_pos {b r d m l : Int} (hr : rightB b r d m = true) (h0 : 0 ≤ l) (h1 : l ≤ b) : 0 < keysI b r d m l := by
  have hR := right_of hr
  rw [keysI_yes hr h0 h1]
  have := pow_le (b - l).toNat (by omega)
  omega
theorem cellsN_pos {b r d m l : Int} (hr : rightB b r d m = true) (h0 : 0 ≤ l) (h1 : l ≤ b) : 0 < cellsN b r d m l := by
  have hR := right_of hr
  have := keysI_pos hr h0 h1
  unfold cellsN
  split
  · omega
  · exact Nat.mul_pos (by omega) (by omega)
theorem cellsN_le {b r d m l : Int} (hr : rightB b r d m = true) : cellsN b r d m l ≤ 1024 := by
  have hR := right_of hr
  unfold cellsN
  split
  · rename_i h
    have := of_decide_eq_true h
    omega
  · exact Nat.mul_le_mul (show r.toNat ≤ 8 by omega) (show d.toNat ≤ 128 by omega)
def LvNewPost (w : World) (b r d m s l : Int) (e : Ending) (w' : World) : Prop :=
  ∃ x A G C, e = .returned (.tuple #[x, .int .i64 0]) ∧ w.heap.size ≤ C ∧ LevIs w' x A G C b r d m s l (List.replicate (cellsN b r d m l) 0) ∧ Below w.heap.size w w'
set_option maxRecDepth 100000 in
set_option maxHeartbeats 4000000 in
theorem lvnew_yes (b r d m s l : Int) (hr : rightB b r d m = true) (h0 : 0 ≤ l) (h1 : l ≤ b) (w : World) :
    Calls Tryz.prog 45 #[.agg #[.int .i64 b, .int .i64 r, .int .i64 d, .int .i64 m, .int .u64 s], .int .i64 l] w (LvNewPost w b r d m s l) := by
  have PE := fun w => exact_any b r d m s l w
  obtain ⟨g1, hb1, hsz1⟩ := news1 w (.cells #[.int .i64 b, .int .i64 r, .int .i64 d, .int .i64 m, .int .u64 s] 24)
  have hx1 : Blk _ w.heap.size 24 #[.int .i64 b, .int .i64 r, .int .i64 d, .int .i64 m, .int .u64 s] := g1
  have HB1 := Lib.hid hb1
  have HX1 := Lib.hid hx1
  clear g1 hb1 hsz1
  cases he : exactB b r d m l
  · rw [he] at PE
    have PE := Lib.hid PE
    have PS := Lib.hid (fun w => sknew_yes b r d m s l hr h0 h1 w)
    have HEX := Lib.hid he
    have HCN : Hid (cellsN b r d m l = r.toNat * d.toNat) := Lib.hid (by unfold cellsN; rw [he]; simp)
    clear he hr h0 h1
    go_enter Tryz.func45, Tryz.ntmps45
    go_wp2_with (refine wpList_load_row rfl 24 _ rfl w.heap.size rfl 24 _ (0, 0) _ hx1 Tryz.underlying24 rfl (by kernel_rfl) ?_)
    with_reducible refine (PE.out _).mono ?_
    rintro e w2 ⟨rfl, hb⟩
    have HB2 := Lib.hid (btr HB1.out hb)
    have HX2 := Lib.hid (HX1.out.kept hb)
    clear hb hx1
    go_wp2_with (refine wpList_load_row rfl 24 _ rfl w.heap.size rfl 24 _ (0, 0) _ HX2.out Tryz.underlying24 rfl (by kernel_rfl) ?_)
    with_reducible refine (PS.out _).mono ?_
    rintro e w3 ⟨A, G, C, rfl, hA, hG, hC, hsk, hb⟩
    have HB3 := Lib.hid (btr HB2.out hb)
    have HSK := Lib.hid hsk
    have HC3 : Hid (w.heap.size ≤ C) := Lib.hid (Nat.le_trans HB2.out.size hC)
    clear hb hsk hA hG hC
    go_wp2
    go_ret2
    exact ⟨_, A, G, C, rfl, HC3.out, .inr ⟨HEX.out, rfl, by rw [HCN.out]; exact HSK.out⟩, HB3.out⟩
  · rw [he] at PE
    have PE := Lib.hid PE
    have PS := Lib.hid (fun w => exnew_yes b r d m s l he w)
    have HEX := Lib.hid he
    have HCN : Hid (cellsN b r d m l = 1 * (keysI b r d m l).toNat) := Lib.hid (by unfold cellsN; rw [he]; simp)
    clear he hr h0 h1
    go_enter Tryz.func45, Tryz.ntmps45
    go_wp2_with (refine wpList_load_row rfl 24 _ rfl w.heap.size rfl 24 _ (0, 0) _ hx1 Tryz.underlying24 rfl (by kernel_rfl) ?_)
    with_reducible refine (PE.out _).mono ?_
    rintro e w2 ⟨rfl, hb⟩
    have HB2 := Lib.hid (btr HB1.out hb)
    have HX2 := Lib.hid (HX1.out.kept hb)
    clear hb hx1
    go_wp2_with (refine wpList_load_row rfl 24 _ rfl w.heap.size rfl 24 _ (0, 0) _ HX2.out Tryz.underlying24 rfl (by kernel_rfl) ?_)
    with_reducible refine (PS.out _).mono ?_
    rintro e w3 ⟨A, G, C, rfl, hA, hG, hC, hsk, hb⟩
    have HB3 := Lib.hid (btr HB2.out hb)
    have HSK := Lib.hid hsk
    have HC3 : Hid (w.heap.size ≤ C) := Lib.hid (Nat.le_trans HB2.out.size hC)
    clear hb hsk hA hG hC
    go_wp2
    go_ret2
    exact ⟨_, A, G, C, rfl, HC3.out, .inl ⟨HEX.out, rfl, by rw [HCN.out]; exact HSK.out⟩, HB3.out⟩
end Go.Proofs.YtbghchgmoiniiaaGreat
