import Derived.Test.YthbkljeibmkimaaQha
import Derived.Deep.DeepCutAuto
import Derived.Deep.RegionHeld3
import Derived.StillTailTactics
import Derived.OpenShut
import Derived.Laws.StructEq
import Derived.Shelf.Bits.Mul64
import Derived.Test.YthbkljeibmkimaaProg
import Derived.WalkKit
import Derived.ProofKit
import Derived.Lib.Hide
import Derived.Outline
import Derived.Below
import Derived.WalkSmall
import Derived.Deep.QuietTactic
import Derived.BigQuiet
import Derived.LoopN
import Derived.Deep.OwnRows
import Derived.OwnWalk
/-
  The walks of package gaugerref07: Right, Keys, Exact, Above, Same, Any, and of shape.Exact, shape.Above. Conditions: the arguments fit their kinds.
-/
namespace Go.Proofs.Ythbkljeibmkimaa
open Go.RowKit
set_option linter.unusedVariables false
set_option linter.unusedSimpArgs false

/-- from 1 to n -/
def inB (x n : Int) : Bool := decide (1 ≤ x ∧ x ≤ n)
theorem inB_yes {x n : Int} (h : 1 ≤ x ∧ x ≤ n) : inB x n = true := decide_eq_true h
theorem inB_no {x n : Int} (h : ¬ (1 ≤ x ∧ x ≤ n)) : inB x n = false := decide_eq_false h

theorem rright_any (b r d m s : Int) (w : World) :
    Calls Try.prog 38 #[.agg #[.int .i64 b, .int .i64 r, .int .i64 d, .int .i64 m, .int .u64 s]] w fun e w' => e = .returned (.bool (rightB b r d m)) ∧ Below w.heap.size w w' := by
  go_enter Try.func38, Try.ntmps38
  go_upto_region 1 with fail
  go_cut [3] (fun s3 wx => s3 = .bool (inB b 59) ∧ wx = w.alloc (.cells #[.int .i64 b, .int .i64 r, .int .i64 d, .int .i64 m, .int .u64 s] 24))
  case first =>
    by_cases h1 : 1 ≤ b
    · by_cases h2 : b ≤ 59
      · have H : Hid (true = inB b 59) := Lib.hid (inB_yes (by omega)).symm
        go_wp2_with fail
        go_meet
        exact ⟨congrArg Value.bool H.out, rfl⟩
      · have H : Hid (false = inB b 59) := Lib.hid (inB_no (by omega)).symm
        go_wp2_with fail
        go_meet
        exact ⟨congrArg Value.bool H.out, rfl⟩
    · have H : Hid (false = inB b 59) := Lib.hid (inB_no (by omega)).symm
      go_wp2_with fail
      go_meet
      exact ⟨congrArg Value.bool H.out, rfl⟩
  case rest =>
    obtain ⟨rfl, rfl⟩ := hcut
    go_upto_region 2 with fail
    go_cut [4] (fun s3 wx => s3 = .bool (inB r 8) ∧ wx = w.alloc (.cells #[.int .i64 b, .int .i64 r, .int .i64 d, .int .i64 m, .int .u64 s] 24))
    case first =>
      by_cases h1 : 1 ≤ r
      · by_cases h2 : r ≤ 8
        · have H : Hid (true = inB r 8) := Lib.hid (inB_yes (by omega)).symm
          go_wp2_with fail
          go_meet
          exact ⟨congrArg Value.bool H.out, rfl⟩
        · have H : Hid (false = inB r 8) := Lib.hid (inB_no (by omega)).symm
          go_wp2_with fail
          go_meet
          exact ⟨congrArg Value.bool H.out, rfl⟩
      · have H : Hid (false = inB r 8) := Lib.hid (inB_no (by omega)).symm
        go_wp2_with fail
        go_meet
        exact ⟨congrArg Value.bool H.out, rfl⟩
    case rest =>
      obtain ⟨rfl, rfl⟩ := hcut
      go_upto_region 3 with fail
      go_cut [5] (fun s3 wx => s3 = .bool (inB d 128) ∧ wx = w.alloc (.cells #[.int .i64 b, .int .i64 r, .int .i64 d, .int .i64 m, .int .u64 s] 24))
      case first =>
        by_cases h1 : 1 ≤ d
        · by_cases h2 : d ≤ 128
          · have H : Hid (true = inB d 128) := Lib.hid (inB_yes (by omega)).symm
            go_wp2_with fail
            go_meet
            exact ⟨congrArg Value.bool H.out, rfl⟩
          · have H : Hid (false = inB d 128) := Lib.hid (inB_no (by omega)).symm
            go_wp2_with fail
            go_meet
            exact ⟨congrArg Value.bool H.out, rfl⟩
        · have H : Hid (false = inB d 128) := Lib.hid (inB_no (by omega)).symm
          go_wp2_with fail
          go_meet
          exact ⟨congrArg Value.bool H.out, rfl⟩
      case rest =>
        obtain ⟨rfl, rfl⟩ := hcut
        have hbel : Below w.heap.size w (w.alloc (.cells #[.int .i64 b, .int .i64 r, .int .i64 d, .int .i64 m, .int .u64 s] 24)) := (Below.refl _ _).alloc (Nat.le_refl _) _
        by_cases h1 : 1 ≤ b ∧ b ≤ 59
        · by_cases h2 : 1 ≤ r ∧ r ≤ 8
          · by_cases h3 : 1 ≤ d ∧ d ≤ 128
            · have d1 : inB b 59 = true := inB_yes h1
              have d2 : inB r 8 = true := inB_yes h2
              have d3 : inB d 128 = true := inB_yes h3
              rw [d1, d2, d3]
              by_cases m1 : m = 1
              · subst m1
                go_wp2
                go_ret
                exact ⟨ret_bool (right_mk (by omega)).symm, hbel⟩
              · by_cases m2 : m = 2
                · subst m2
                  go_wp2
                  go_ret
                  exact ⟨ret_bool (right_mk (by omega)).symm, hbel⟩
                · by_cases m3 : m = 3
                  · subst m3
                    go_wp2
                    go_ret
                    exact ⟨ret_bool (right_mk (by omega)).symm, hbel⟩
                  · have e1 : (m == 1) = false := by simp [m1]
                    have e2 : (m == 2) = false := by simp [m2]
                    have e3 : (m == 3) = false := by simp [m3]
                    have H : Hid (false = rightB b r d m) := Lib.hid (decide_eq_false (by omega)).symm
                    clear m1 m2 m3
                    go_wp2
                    go_ret
                    exact ⟨ret_bool H.out, hbel⟩
            · have d1 : inB b 59 = true := inB_yes h1
              have d2 : inB r 8 = true := inB_yes h2
              have d3 : inB d 128 = false := inB_no h3
              rw [d1, d2, d3]
              have H : Hid (false = rightB b r d m) := Lib.hid (decide_eq_false (by omega)).symm
              clear h1 h2 h3
              go_wp2
              go_ret
              exact ⟨ret_bool H.out, hbel⟩
          · have d1 : inB b 59 = true := inB_yes h1
            have d2 : inB r 8 = false := inB_no h2
            rw [d1, d2]
            have H : Hid (false = rightB b r d m) := Lib.hid (decide_eq_false (by omega)).symm
            clear h1 h2
            go_wp2
            go_ret
            exact ⟨ret_bool H.out, hbel⟩
        · have d1 : inB b 59 = false := inB_no h1
          rw [d1]
          have H : Hid (false = rightB b r d m) := Lib.hid (decide_eq_false (by omega)).symm
          clear h1
          go_wp2
          go_ret
          exact ⟨ret_bool H.out, hbel⟩

theorem pow_succ' (n : Nat) : (2 : Int) ^ n * 2 = 2 ^ (n + 1) := (Int.pow_succ ..).symm
theorem rkeys_any (b r d m s l : Int) (w : World) :
    Calls Try.prog 22 #[.agg #[.int .i64 b, .int .i64 r, .int .i64 d, .int .i64 m, .int .u64 s], .int .i64 l] w fun e w' => e = .returned (.int .u64 (keysI b r d m l)) ∧ Below w.heap.size w w' := by
  cases hr : rightB b r d m
  · have H : Hid (0 = keysI b r d m l) := Lib.hid (keysI_no (fun h => by rw [hr] at h; exact absurd h.1 (by decide))).symm
    go_enter Try.func22, Try.ntmps22
    go_wp2_with fail
    refine (rright_any b r d m s _).mono ?_; rintro e w' ⟨rfl, hb⟩
    obtain ⟨hk, hbb⟩ := box_kept hb
    have c0 := hk.cell 0
    simp at c0
    rw [hr]
    go_wp2
    go_ret
    exact ⟨ret_u64q H.out, hbb⟩
  · have HR := right_of hr
    by_cases h0 : l < 0
    · have H : Hid (0 = keysI b r d m l) := Lib.hid (keysI_no (fun h => by omega)).symm
      go_enter Try.func22, Try.ntmps22
      go_wp2_with fail
      refine (rright_any b r d m s _).mono ?_; rintro e w' ⟨rfl, hb⟩
      obtain ⟨hk, hbb⟩ := box_kept hb
      have c0 := hk.cell 0
      simp at c0
      rw [hr]
      go_wp2
      go_ret
      exact ⟨ret_u64q H.out, hbb⟩
    · by_cases h1 : b < l
      · have H : Hid (0 = keysI b r d m l) := Lib.hid (keysI_no (fun h => by omega)).symm
        go_enter Try.func22, Try.ntmps22
        go_wp2_with fail
        refine (rright_any b r d m s _).mono ?_; rintro e w' ⟨rfl, hb⟩
        obtain ⟨hk, hbb⟩ := box_kept hb
        have c0 := hk.cell 0
        simp at c0
        rw [hr]
        go_wp2
        go_ret
        exact ⟨ret_u64q H.out, hbb⟩
      · have H : Hid (2 ^ (b - l).toNat = keysI b r d m l) := Lib.hid (keysI_yes hr (by omega) (by omega)).symm
        have g0 : 0 ≤ l := by omega
        have g1 : l ≤ b := by omega
        have g3 : b ≤ 59 := by omega
        go_enter Try.func22, Try.ntmps22
        go_wp2_with fail
        refine (rright_any b r d m s _).mono ?_; rintro e w' ⟨rfl, hb⟩
        obtain ⟨hk, hbb⟩ := box_kept hb
        have c0 := hk.cell 0
        simp at c0
        rw [hr]
        clear HR hk hb
        go_wp2
        go_loop [5, 6] (fun n i => ∃ k : Nat, (k : Int) ≤ b - l ∧ i = .int .i64 (l + (k : Int)) ∧ n = .int .u64 (2 ^ k)) (fun _ i => (b - intOf i).toNat)
        case atStart => exact ⟨0, by omega, by simp, by simp⟩
        case round =>
          obtain ⟨k, hk, rfl, rfl⟩ := hrel
          have hp := pow_le k (by omega)
          have HP := Lib.hid (pow_succ' k)
          by_cases hlt : l + (k : Int) < b
          · have hp2 := pow_le (k + 1) (by omega)
            rw [← HP.out] at hp2
            go_wp2
            go_round
            case rel => exact ⟨k + 1, by omega, congrArg (Value.int IntKind.i64) (by omega), congrArg (Value.int IntKind.u64) HP.out⟩
            case measure => simp [intOf]; omega
          · go_wp2
            go_ret
            refine ⟨ret_u64q ?_, hbb⟩
            rw [← H.out]
            congr 1
            omega
end Go.Proofs.Ythbkljeibmkimaa

/-
  The walks of shape.Exact, shape.Above and of gaugerref07.Exact, gaugerref07.Above. Conditions: the arguments fit their kinds.
-/
namespace Go.Proofs.Ythbkljeibmkimaa
open Go.RowKit
set_option linter.unusedVariables false
set_option linter.unusedSimpArgs false

theorem keys_right {b r d m l : Int} (h : 0 < keysI b r d m l) : 1 ≤ d ∧ d ≤ 128 ∧ 1 ≤ b ∧ b ≤ 59 ∧ 0 ≤ l ∧ l ≤ b ∧ 1 ≤ r ∧ r ≤ 8 ∧ rightB b r d m = true := by
  unfold keysI at h
  by_cases c : rightB b r d m = true ∧ 0 ≤ l ∧ l ≤ b
  · have := right_of c.1
    exact ⟨by omega, by omega, by omega, by omega, by omega, by omega, by omega, by omega, c.1⟩
  · rw [if_neg c] at h; omega

theorem exact_any (b r d m s l : Int) (w : World) :
    Calls Try.prog 43 #[.agg #[.int .i64 b, .int .i64 r, .int .i64 d, .int .i64 m, .int .u64 s], .int .i64 l] w fun e w' => e = .returned (.bool (exactB b r d m l)) ∧ Below w.heap.size w w' := by
  obtain ⟨k0, k1⟩ := keysI_bd b r d m l
  by_cases hp : 0 < keysI b r d m l
  · obtain ⟨d0, d1, _⟩ := keys_right hp
    by_cases hd : keysI b r d m l ≤ d
    · have H : Hid (true = exactB b r d m l) := Lib.hid (decide_eq_true ⟨hp, hd⟩).symm
      go_enter Try.func43, Try.ntmps43
      go_wp2_with fail
      refine (keys_any b r d m s l _).mono ?_; rintro e w' ⟨rfl, hb⟩
      obtain ⟨hk, hbb⟩ := box_kept hb
      have c2 := hk.cell 2
      simp at c2
      go_wp2
      go_ret
      exact ⟨ret_bool H.out, hbb⟩
    · have H : Hid (false = exactB b r d m l) := Lib.hid (decide_eq_false (fun h => hd h.2)).symm
      go_enter Try.func43, Try.ntmps43
      go_wp2_with fail
      refine (keys_any b r d m s l _).mono ?_; rintro e w' ⟨rfl, hb⟩
      obtain ⟨hk, hbb⟩ := box_kept hb
      have c2 := hk.cell 2
      simp at c2
      have dd : decide (keysI b r d m l ≤ d) = false := decide_eq_false (by omega)
      go_wp2
      go_ret
      exact ⟨ret_bool H.out, hbb⟩
  · have H : Hid (false = exactB b r d m l) := Lib.hid (decide_eq_false (fun h => hp h.1)).symm
    go_enter Try.func43, Try.ntmps43
    go_wp2_with fail
    refine (keys_any b r d m s l _).mono ?_; rintro e w' ⟨rfl, hb⟩
    obtain ⟨hk, hbb⟩ := box_kept hb
    go_wp2
    go_ret
    exact ⟨ret_bool H.out, hbb⟩


theorem ret_ub {a b : Int} {x y : Bool} (h : a = b) (k : x = y) : Ending.returned (.tuple #[.int .u64 a, .bool x]) = .returned (.tuple #[.int .u64 b, .bool y]) := by rw [h, k]
theorem box_cells {w' : World} {g : Nat} {t : TypeId} {b r d m s : Int} (hk : Blk w' g t #[.int .i64 b, .int .i64 r, .int .i64 d, .int .i64 m, .int .u64 s]) :
    w'.cell? ⟨g, 0, none⟩ = some (.int .i64 b) ∧ w'.cell? ⟨g, 1, none⟩ = some (.int .i64 r) ∧ w'.cell? ⟨g, 2, none⟩ = some (.int .i64 d) ∧ w'.cell? ⟨g, 3, none⟩ = some (.int .i64 m) ∧ w'.cell? ⟨g, 4, none⟩ = some (.int .u64 s) :=
  ⟨hk.cell 0, hk.cell 1, hk.cell 2, hk.cell 3, hk.cell 4⟩


end Go.Proofs.Ythbkljeibmkimaa

/-
  The walks of exact: New. Conditions: none beyond those stated at each theorem.
-/
namespace Go.Proofs.Ythbkljeibmkimaa
open Go.RowKit
set_option linter.unusedVariables false
set_option linter.unusedSimpArgs false

def cfgA (b r d m s : Int) : Array Value := #[.int .i64 b, .int .i64 r, .int .i64 d, .int .i64 m, .int .u64 s]
/-- block A is an exact array of a config and a level, its numbers are the one row of a grid -/
def ArrIs (w : World) (A G C : Nat) (b r d m s l : Int) (K : Nat) (zs : List Int) : Prop :=
  Blk w A 115 #[.int .i64 b, .int .i64 r, .int .i64 d, .int .i64 m, .int .u64 s, .int .i64 l, .pointer (some ⟨G, 0, none⟩)] ∧ GridIs w G C 1 K zs
def ExNewPost (w : World) (b r d m s l : Int) (e : Ending) (w' : World) : Prop :=
  ∃ A G C, e = .returned (.tuple #[.pointer (some ⟨A, 0, none⟩), .int .i64 0]) ∧ w.heap.size ≤ A ∧ w.heap.size ≤ G ∧ w.heap.size ≤ C ∧ ArrIs w' A G C b r d m s l (keysI b r d m l).toNat (List.replicate (1 * (keysI b r d m l).toNat) 0) ∧ Below w.heap.size w w'

set_option maxRecDepth 100000 in
set_option maxHeartbeats 4000000 in
theorem exnew_no (b r d m s l : Int) (h : exactB b r d m l = false) (w : World) :
    Calls Try.prog 44 #[.agg #[.int .i64 b, .int .i64 r, .int .i64 d, .int .i64 m, .int .u64 s], .int .i64 l] w fun e w' => e = .returned (.tuple #[.pointer none, .int .i64 1]) ∧ Below w.heap.size w w' := by
  have PE := fun w => exact_any b r d m s l w
  rw [h] at PE
  have HPE := Lib.hid PE
  clear PE h
  obtain ⟨g1, hb1, hsz1⟩ := news1 w (.cells #[.int .i64 b, .int .i64 r, .int .i64 d, .int .i64 m, .int .u64 s] 24)
  have hx1 : Blk _ w.heap.size 24 #[.int .i64 b, .int .i64 r, .int .i64 d, .int .i64 m, .int .u64 s] := g1
  have HB1 := Lib.hid hb1
  clear g1 hb1 hsz1
  go_enter Try.func44, Try.ntmps44
  go_wp2_with (refine wpList_load_row rfl 24 _ rfl w.heap.size rfl 24 _ (0, 0) _ hx1 Try.underlying24 rfl (by kernel_rfl) ?_)
  refine (HPE.out _).mono ?_
  rintro e w2 ⟨rfl, hb⟩
  have HB2 := Lib.hid (btr HB1.out hb)
  clear hb
  go_wp2
  go_ret2
  exact ⟨rfl, HB2.out⟩
set_option maxRecDepth 100000 in
set_option maxHeartbeats 4000000 in
theorem exnew_yes (b r d m s l : Int) (h : exactB b r d m l = true) (w : World) :
    Calls Try.prog 44 #[.agg #[.int .i64 b, .int .i64 r, .int .i64 d, .int .i64 m, .int .u64 s], .int .i64 l] w (ExNewPost w b r d m s l) := by
  have PE := fun w => exact_any b r d m s l w
  have hk := of_decide_eq_true h
  have hkr := keys_right hk.1
  have PK := Lib.hid (fun w => keys_any b r d m s l w)
  rw [h] at PE
  have HPE := Lib.hid PE
  clear PE h
  obtain ⟨K, hK⟩ : ∃ K : Nat, keysI b r d m l = (K : Int) := ⟨(keysI b r d m l).toNat, by omega⟩
  unfold ExNewPost
  rw [hK] at PK ⊢
  have hK1 : K ≤ 128 := by omega
  have PN := Lib.hid (fun w => new_any 1 (K : Int) w)
  have e1 : clampN 1 8 = 1 := rfl
  have e2 : clampN (K : Int) 128 = K := by unfold clampN; omega
  rw [e1, e2] at PN
  simp only [Int.toNat_natCast]
  clear hk hkr hK e1 e2
  obtain ⟨g1, hb1, hsz1⟩ := news1 w (.cells #[.int .i64 b, .int .i64 r, .int .i64 d, .int .i64 m, .int .u64 s] 24)
  have hx1 : Blk _ w.heap.size 24 #[.int .i64 b, .int .i64 r, .int .i64 d, .int .i64 m, .int .u64 s] := g1
  have HB1 := Lib.hid hb1
  have HX1 := Lib.hid hx1
  clear g1 hb1 hsz1
  go_enter Try.func44, Try.ntmps44
  go_wp2_with (refine wpList_load_row rfl 24 _ rfl w.heap.size rfl 24 _ (0, 0) _ hx1 Try.underlying24 rfl (by kernel_rfl) ?_)
  refine (HPE.out _).mono ?_
  rintro e w2 ⟨rfl, hb⟩
  have HB2 := Lib.hid (btr HB1.out hb)
  have HX2 := Lib.hid (HX1.out.kept hb)
  have ek : IntKind.i64.wrap (K : Int) = (K : Int) := by simp [IntKind.wrap, IntKind.bits, IntKind.signed]; split <;> omega
  clear hb hx1
  go_wp2_with fail
  refine wp_region_held_drew (S := fun w' => Blk w' w.heap.size 24 #[.int .i64 b, .int .i64 r, .int .i64 d, .int .i64 m, .int .u64 s] ∧ w.heap.size ≤ w'.heap.size) (by kernel_rfl) (by exact ⟨HX2.out.drewN 1, HB2.out.size⟩) (fun hHeld => ?_)
  refine wpAnyH_take (i := 0) (v := ?_) rfl (by kernel_rfl) (by kernel_rfl) (by kernel_rfl) (fun _ _ _ h => h) (Or.inl ⟨by rfl, ?_⟩) (by assumption) ?_
  rotate_left
  · intro w hSw
    refine (exec_load_row 24 _ rfl _ rfl 24 _ (0, 0) _ hSw.1 Try.underlying24 rfl (by kernel_rfl)).trans ?_
    go_simp
    try with_reducible rfl
  simp only [Act.put, List.setIfInBounds_toArray, List.set_cons_zero, List.set_cons_succ, List.getElem_toArray, List.getElem_cons_zero, List.getElem_cons_succ]
  refine wpAnyH_take (i := 1) (v := ?_) rfl (by kernel_rfl) (by kernel_rfl) (by kernel_rfl) (fun _ _ _ h => h) (Or.inl ⟨by rfl, ?_⟩) (by assumption) ?_
  rotate_left
  · intro w hSw
    try dsimp only at hSw
    go_simp
    try with_reducible rfl
  simp only [Act.put, List.setIfInBounds_toArray, List.set_cons_zero, List.set_cons_succ, List.getElem_toArray, List.getElem_cons_zero, List.getElem_cons_succ]
  refine wpAnyH_take (i := 2) (v := ?_) rfl (by kernel_rfl) (by kernel_rfl) (by kernel_rfl) (fun _ _ _ h => h) (Or.inl ⟨by rfl, ?_⟩) (by assumption) ?_
  rotate_left
  · intro w hSw
    refine (exec_load_row 24 _ rfl _ rfl 24 _ (0, 0) _ hSw.1 Try.underlying24 rfl (by kernel_rfl)).trans ?_
    go_simp
    try with_reducible rfl
  simp only [Act.put, List.setIfInBounds_toArray, List.set_cons_zero, List.set_cons_succ, List.getElem_toArray, List.getElem_cons_zero, List.getElem_cons_succ]
  refine wpAnyH_take (i := 3) (v := ?_) rfl (by kernel_rfl) (by kernel_rfl) (by kernel_rfl) (fun _ _ _ h => h) (Or.inl ⟨by rfl, ?_⟩) (by assumption) ?_
  rotate_left
  · intro w hSw
    try dsimp only at hSw
    go_simp
    try with_reducible rfl
  simp only [Act.put, List.setIfInBounds_toArray, List.set_cons_zero, List.set_cons_succ, List.getElem_toArray, List.getElem_cons_zero, List.getElem_cons_succ]
  refine wpAnyH_ready (rs := [4]) (by kernel_rfl) (by simp) ?_
  refine AllReadyH.cons rfl (fun Kc hKc => ?_) AllReadyH.nil
  go_simp
  go_wp2_with (first | (go_at_call 34; refine (PK.out _).mono ?_; rintro e w3 ⟨rfl, hb'⟩; have HB3 := Lib.hid (btr (below_drewN HB2.out 1) hb')) | (go_at_call 49; refine (PN.out _).mono ?_; rintro e w4 ⟨G, C, rfl, hG, hC, hg, hb'⟩; have HG4 := Lib.hid hg; have HB4 := Lib.hid (btr HB3.out hb'); have hGC : Hid (w.heap.size ≤ G ∧ w.heap.size ≤ C) := ⟨Nat.le_trans hHeld.2 hG, Nat.le_trans hHeld.2 hC⟩; clear hg))
  refine hKc.out _ _ ?_ (fun hHeld => ?_)
  · first | assumption | exact ⟨hHeld.1.kept hb', Nat.le_trans hHeld.2 hb'.size⟩ | exact ⟨hHeld.1.alloc _, by have := hHeld.2; simp; omega⟩
  clear hKc Kc
  refine wpAnyH_take (i := 5) (v := ?_) rfl (by kernel_rfl) (by kernel_rfl) (by kernel_rfl) (fun _ _ _ h => h) (Or.inl ⟨by rfl, ?_⟩) (by assumption) ?_
  rotate_left
  · intro w hSw
    try dsimp only at hSw
    go_simp
    try with_reducible rfl
  simp only [Act.put, List.setIfInBounds_toArray, List.set_cons_zero, List.set_cons_succ, List.getElem_toArray, List.getElem_cons_zero, List.getElem_cons_succ]
  refine wpAnyH_ready (rs := [6]) (by kernel_rfl) (by simp) ?_
  refine AllReadyH.cons rfl (fun Kc hKc => ?_) AllReadyH.nil
  go_simp
  go_wp2_with (first | (go_at_call 34; refine (PK.out _).mono ?_; rintro e w3 ⟨rfl, hb'⟩; have HB3 := Lib.hid (btr (below_drewN HB2.out 1) hb')) | (go_at_call 49; refine (PN.out _).mono ?_; rintro e w4 ⟨G, C, rfl, hG, hC, hg, hb'⟩; have HG4 := Lib.hid hg; have HB4 := Lib.hid (btr HB3.out hb'); have hGC : Hid (w.heap.size ≤ G ∧ w.heap.size ≤ C) := ⟨Nat.le_trans hHeld.2 hG, Nat.le_trans hHeld.2 hC⟩; clear hg))
  refine hKc.out _ _ ?_ (fun hHeld => ?_)
  · first | assumption | exact ⟨hHeld.1.kept hb', Nat.le_trans hHeld.2 hb'.size⟩ | exact ⟨hHeld.1.alloc _, by have := hHeld.2; simp; omega⟩
  clear hKc Kc
  refine wpAnyH_take (i := 7) (v := ?_) rfl (by kernel_rfl) (by kernel_rfl) (by kernel_rfl) (fun _ _ _ h => h) (Or.inl ⟨by rfl, ?_⟩) (by assumption) ?_
  rotate_left
  · intro w hSw
    try dsimp only at hSw
    go_simp
    try with_reducible rfl
  simp only [Act.put, List.setIfInBounds_toArray, List.set_cons_zero, List.set_cons_succ, List.getElem_toArray, List.getElem_cons_zero, List.getElem_cons_succ]
  refine wpAnyH_ready (rs := [8]) (by kernel_rfl) (by simp) ?_
  refine AllReadyH.cons rfl (fun Kc hKc => ?_) AllReadyH.nil
  go_simp
  refine hKc.out _ _ ?_ (fun hHeld => ?_)
  · first | assumption | exact ⟨hHeld.1.kept hb', Nat.le_trans hHeld.2 hb'.size⟩ | exact ⟨hHeld.1.alloc _, by have := hHeld.2; simp; omega⟩
  clear hKc Kc
  refine wpAnyH_take (i := 9) (v := ?_) rfl (by kernel_rfl) (by kernel_rfl) (by kernel_rfl) (fun _ _ _ h => h) (Or.inl ⟨by rfl, ?_⟩) (by assumption) ?_
  rotate_left
  · intro w hSw
    try dsimp only at hSw
    go_simp
    try with_reducible rfl
  simp only [Act.put, List.setIfInBounds_toArray, List.set_cons_zero, List.set_cons_succ, List.getElem_toArray, List.getElem_cons_zero, List.getElem_cons_succ]
  refine wpAnyH_take (i := 10) (v := ?_) rfl (by kernel_rfl) (by kernel_rfl) (by kernel_rfl) (fun _ _ _ h => h) (Or.inl ⟨by rfl, ?_⟩) (by assumption) ?_
  rotate_left
  · intro w hSw
    try dsimp only at hSw
    go_simp
    try with_reducible rfl
  simp only [Act.put, List.setIfInBounds_toArray, List.set_cons_zero, List.set_cons_succ, List.getElem_toArray, List.getElem_cons_zero, List.getElem_cons_succ]
  refine wpAnyH_done (by kernel_rfl) ?_ _
  have HNEW := Lib.hid (Blk.new w4 115 #[.int .i64 b, .int .i64 r, .int .i64 d, .int .i64 m, .int .u64 s, .int .i64 l, .pointer (some ⟨G, 0, none⟩)])
  have HAL : Hid (Below w4.heap.size w4 (w4.alloc (.cells #[.int .i64 b, .int .i64 r, .int .i64 d, .int .i64 m, .int .u64 s, .int .i64 l, .pointer (some ⟨G, 0, none⟩)] 115))) := Lib.hid ((Below.refl _ _).alloc (Nat.le_refl _) _)
  have HG5 := Lib.hid (HG4.out.kept HAL.out)
  have HB5 := Lib.hid (btr HB4.out HAL.out)
  clear hHeld
  go_wp2_with fail
  go_ret2
  exact ⟨w4.heap.size, G, C, rfl, HB4.out.size, hGC.out.1, hGC.out.2, ⟨HNEW.out, HG5.out⟩, HB5.out⟩
theorem expoint_no (w : World) (A G C : Nat) (b r d m s l : Int) (K : Nat) (zs : List Int) (k : Int) (h : ArrIs w A G C b r d m s l K zs) (hk : (K : Int) ≤ k) :
    Calls Try.prog 74 #[.pointer (some ⟨A, 0, none⟩), .int .u64 k] w fun e w' => e = .returned (.tuple #[.int .i64 0, .int .i64 2]) ∧ w = w' := by
  have c6 := h.1.cell 6
  simp at c6
  have hw := h.2.width
  have P := Lib.hid (width_any w G C 1 K zs h.2)
  have e1 : decide ((K : Int) ≤ k) = true := decide_eq_true hk
  have e2 : IntKind.u64.wrap (K : Int) = (K : Int) := by rw [wrapU_mod]; omega
  clear h
  go_enter Try.func74, Try.ntmps74
  go_wp2_with fail
  with_reducible refine P.out.mono ?_
  rintro e w2 ⟨rfl, hw2⟩
  subst hw2
  go_wp2
  go_ret2
  exact ⟨rfl, rfl⟩
theorem expoint_yes (w : World) (A G C : Nat) (b r d m s l : Int) (K k : Nat) (zs : List Int) (h : ArrIs w A G C b r d m s l K zs) (hk : k < K) :
    Calls Try.prog 74 #[.pointer (some ⟨A, 0, none⟩), .int .u64 (k : Int)] w fun e w' => e = .returned (.tuple #[.int .i64 (cellD zs k), .int .i64 0]) ∧ w = w' := by
  have c6 := h.1.cell 6
  simp at c6
  have hw := h.2.width
  have P := Lib.hid (width_any w G C 1 K zs h.2)
  have P2 : Calls Try.prog 78 #[.pointer (some ⟨G, 0, none⟩), .int .i64 0, .int .i64 (k : Int)] w fun e w' => e = .returned (.int .i64 (cellD zs k)) ∧ w = w' := by
    have := at_in w G C 1 K 0 k zs h.2 (by decide) hk
    simpa using this
  have P2 := Lib.hid P2
  have e1 : decide ((K : Int) ≤ (k : Int)) = false := decide_eq_false (by omega)
  have e1' : decide (K ≤ k) = false := decide_eq_false (by omega)
  have e2 : IntKind.u64.wrap (K : Int) = (K : Int) := by rw [wrapU_mod]; omega
  have e3 : IntKind.i64.wrap (k : Int) = (k : Int) := by simp [IntKind.wrap, IntKind.bits, IntKind.signed]; split <;> omega
  clear h
  go_enter Try.func74, Try.ntmps74
  go_wp2_with fail
  with_reducible refine P.out.mono ?_
  rintro e w2 ⟨rfl, hw2⟩
  subst hw2
  go_wp2_with fail
  with_reducible refine P2.out.mono ?_
  rintro e w2 ⟨rfl, hw2⟩
  subst hw2
  go_wp2
  go_ret2
  exact ⟨rfl, rfl⟩
end Go.Proofs.Ythbkljeibmkimaa

/-
  The walks of exact: Check, Update, Config, Load, Copy. Conditions: none beyond those stated at each theorem.
-/
namespace Go.Proofs.Ythbkljeibmkimaa
open Go.RowKit
set_option linter.unusedVariables false
set_option linter.unusedSimpArgs false

theorem ArrIs.kept {w w' : World} {A G C : Nat} {b r d m s l : Int} {K : Nat} {zs : List Int} (h : ArrIs w A G C b r d m s l K zs) (hb : Below w.heap.size w w') : ArrIs w' A G C b r d m s l K zs := ⟨h.1.kept hb, h.2.kept hb⟩
theorem ArrIs.ltA {w : World} {A G C : Nat} {b r d m s l : Int} {K : Nat} {zs : List Int} (h : ArrIs w A G C b r d m s l K zs) : A < w.heap.size := h.1.lt
theorem ArrIs.grown {w w' : World} {A G C : Nat} {b r d m s l : Int} {K : Nat} {zs : List Int} {row : Option Nat} (h : ArrIs w A G C b r d m s l K zs) (hb : w.grownBy w' row) (h0 : some A ≠ row) (h1 : some G ≠ row) (h2 : some C ≠ row) : ArrIs w' A G C b r d m s l K zs := ⟨h.1.grown hb h0, h.2.grown hb h1 h2⟩
theorem ArrIs.drewN {w : World} {A G C : Nat} {b r d m s l : Int} {K : Nat} {zs : List Int} (h : ArrIs w A G C b r d m s l K zs) (n : Nat) : ArrIs (w.drewN n) A G C b r d m s l K zs := h.kept (below_drewN (Below.refl _ _) n)
theorem ArrIs.neAC {w : World} {A G C : Nat} {b r d m s l : Int} {K : Nat} {zs : List Int} (h : ArrIs w A G C b r d m s l K zs) : A ≠ C := by
  obtain ⟨cur, hc, _⟩ := h.2.cells
  exact h.1.ne_ hc (by decide)
/-- the same array, its numbers others, laid by what changes the numbers' block alone -/
theorem ArrIs.put {w w' : World} {A G C : Nat} {b r d m s l : Int} {K : Nat} {zs zs' : List Int} (h : ArrIs w A G C b r d m s l K zs) (hb : w.grownBy w' (some C)) (hg : GridIs w' G C 1 K zs') : ArrIs w' A G C b r d m s l K zs' := ⟨h.1.grown hb (by simpa using h.neAC), hg⟩

instance (x : Int) : Decidable (In64 x) := by unfold In64; infer_instance
def chkI (K : Nat) (m : Int) (zs : List Int) (k : Nat) (d : Int) : Int := if K ≤ k then 2 else if m = 2 ∧ d < 0 then 3 else if In64 (cellD zs k + d) then 0 else 4
def updZ (K : Nat) (m : Int) (zs : List Int) (k : Nat) (d : Int) : List Int := if chkI K m zs k d = 0 then zs.set k (cellD zs k + d) else zs
theorem fitC {zs : List Int} (h : Fit zs) (i : Nat) : In64 (cellD zs i) := by
  unfold cellD
  cases hz : zs[i]? with
  | none => exact ⟨by simp, by simp⟩
  | some x => exact h.get hz
theorem ret_i64q {a b : Int} (h : a = b) : Ending.returned (.int .i64 a) = .returned (.int .i64 b) := by rw [h]

set_option maxHeartbeats 2000000 in
theorem excheck (w : World) (A G C : Nat) (b r d m s l : Int) (K k : Nat) (zs : List Int) (x : Int) (h : ArrIs w A G C b r d m s l K zs) (hx : In64 x) (hk64 : k < 18446744073709551616) :
    Calls Try.prog 70 #[.pointer (some ⟨A, 0, none⟩), .int .u64 (k : Int), .int .i64 x] w fun e w' => e = .returned (.int .i64 (chkI K m zs k x)) ∧ Below w.heap.size w w' := by
  have c3 := h.1.cell 3
  have c6 := h.1.cell 6
  simp at c3 c6
  have hw := h.2.width
  have P := Lib.hid (width_any w G C 1 K zs h.2)
  have e2 : IntKind.u64.wrap (K : Int) = (K : Int) := by rw [wrapU_mod]; omega
  by_cases hlt : k < K
  · have P2 : Calls Try.prog 78 #[.pointer (some ⟨G, 0, none⟩), .int .i64 0, .int .i64 (k : Int)] w fun e w' => e = .returned (.int .i64 (cellD zs k)) ∧ w = w' := by
      have := at_in w G C 1 K 0 k zs h.2 (by decide) hlt
      simpa using this
    have P2 := Lib.hid P2
    have hz := fitC h.2.fit k
    have e1 : decide ((K : Int) ≤ (k : Int)) = false := decide_eq_false (by omega)
    have e1' : decide (K ≤ k) = false := decide_eq_false (by omega)
    have e3 : IntKind.i64.wrap (k : Int) = (k : Int) := by simp [IntKind.wrap, IntKind.bits, IntKind.signed]; split <;> omega
    obtain ⟨q, hq⟩ : ∃ q, q = chkI K m zs k x := ⟨_, rfl⟩
    rw [← hq]
    unfold chkI at hq
    rw [if_neg (by omega)] at hq
    clear h hlt hk64
    by_cases hm : m = 2 ∧ x < 0
    · obtain ⟨rfl, hx0⟩ := hm
      have e4 : decide (x < 0) = true := decide_eq_true hx0
      have HQ : Hid (q = 3) := by show _ = _; rw [hq, if_pos ⟨rfl, hx0⟩]
      clear hq hx0
      go_enter Try.func70, Try.ntmps70
      go_wp2_with fail
      with_reducible refine P.out.mono ?_
      rintro e w2 ⟨rfl, hw2⟩
      subst hw2
      go_wp2
      go_ret
      exact ⟨ret_i64q HQ.out.symm, Below.refl _ _⟩
    · rw [if_neg hm] at hq
      have hdec : (m ≠ 2 ∧ (m == 2) = false ∧ decide (m = 2) = false) ∨ ((m == 2) = true ∧ decide (m = 2) = true ∧ m = 2 ∧ decide (x < 0) = false) := by
        by_cases h2 : m = 2
        · right; exact ⟨by simp [h2], by simp [h2], h2, decide_eq_false (fun hh => hm ⟨h2, hh⟩)⟩
        · left; exact ⟨h2, by simp [h2], by simp [h2]⟩
      clear hm
      have P3 := fun w => opok_plus (cellD zs k) x w hz hx
      by_cases h64 : In64 (cellD zs k + x)
      · have P3 := fun w => (P3 w).1 h64
        have P3 := Lib.hid P3
        have HQ : Hid (q = 0) := by show _ = _; rw [hq, if_pos h64]
        clear hq h64 hz
        generalize cellD zs k = z at *
        rcases hdec with ⟨hm2, d1, d2⟩ | ⟨d1, d2, hm2, d3⟩
        all_goals
          first | subst hm2 | skip
          go_enter Try.func70, Try.ntmps70
          go_wp2_with fail
          with_reducible refine P.out.mono ?_
          rintro e w2 ⟨rfl, hw2⟩
          subst hw2
          go_wp2_with fail
          with_reducible refine P2.out.mono ?_
          rintro e w2 ⟨rfl, hw2⟩
          subst hw2
          go_wp2_with fail
          with_reducible refine (P3.out _).mono ?_
          rintro e w3 ⟨rfl, hb⟩
          have HB := Lib.hid hb
          clear hb
          go_wp2
          go_ret
          exact ⟨ret_i64q HQ.out.symm, HB.out⟩
      · have P3 := fun w => (P3 w).2 h64
        have P3 := Lib.hid P3
        have HQ : Hid (q = 4) := by show _ = _; rw [hq, if_neg h64]
        clear hq h64 hz
        generalize cellD zs k = z at *
        rcases hdec with ⟨hm2, d1, d2⟩ | ⟨d1, d2, hm2, d3⟩
        all_goals
          first | subst hm2 | skip
          go_enter Try.func70, Try.ntmps70
          go_wp2_with fail
          with_reducible refine P.out.mono ?_
          rintro e w2 ⟨rfl, hw2⟩
          subst hw2
          go_wp2_with fail
          with_reducible refine P2.out.mono ?_
          rintro e w2 ⟨rfl, hw2⟩
          subst hw2
          go_wp2_with fail
          with_reducible refine (P3.out _).mono ?_
          rintro e w3 ⟨rfl, hb⟩
          have HB := Lib.hid hb
          clear hb
          go_wp2
          go_ret
          exact ⟨ret_i64q HQ.out.symm, HB.out⟩
  · have HQ : Hid (chkI K m zs k x = 2) := by show _ = _; unfold chkI; rw [if_pos (by omega)]
    have e1 : decide ((K : Int) ≤ (k : Int)) = true := decide_eq_true (by omega)
    have e1' : decide (K ≤ k) = true := decide_eq_true (by omega)
    clear h hlt
    go_enter Try.func70, Try.ntmps70
    go_wp2_with fail
    with_reducible refine P.out.mono ?_
    rintro e w2 ⟨rfl, hw2⟩
    subst hw2
    go_wp2
    go_ret
    exact ⟨ret_i64q HQ.out.symm, Below.refl _ _⟩

def UpdPost (w : World) (A G C : Nat) (b r d m s l : Int) (K : Nat) (zs : List Int) (k : Nat) (x : Int) (e : Ending) (w' : World) : Prop :=
  e = .returned (.int .i64 (chkI K m zs k x)) ∧ ArrIs w' A G C b r d m s l K (updZ K m zs k x) ∧ w.grownBy w' (some C)
theorem below_gr {w w' : World} {row : Option Nat} (h : Below w.heap.size w w') : w.grownBy w' row := ⟨h.os, h.tape, h.output, h.size, fun k hk _ => h.block k hk⟩
theorem gr_trans {w w1 w2 : World} {row : Option Nat} (h : w.grownBy w1 row) (k : w1.grownBy w2 row) : w.grownBy w2 row :=
  ⟨k.os.trans h.os, k.tape.trans h.tape, k.output.trans h.output, Nat.le_trans h.size k.size, fun j hj hne => (k.block j (Nat.lt_of_lt_of_le hj h.size) hne).trans (h.block j hj hne)⟩
theorem chkI_ok {K : Nat} {m : Int} {zs : List Int} {k : Nat} {x : Int} (h : chkI K m zs k x = 0) : k < K ∧ In64 (cellD zs k + x) := by
  unfold chkI at h
  split at h
  · omega
  split at h
  · omega
  split at h
  · exact ⟨by omega, by assumption⟩
  · omega

set_option maxRecDepth 100000 in
set_option maxHeartbeats 4000000 in
theorem exupdate (w : World) (A G C : Nat) (b r d m s l : Int) (K k : Nat) (zs : List Int) (x : Int) (h : ArrIs w A G C b r d m s l K zs) (hx : In64 x) (hk64 : k < 18446744073709551616) :
    Calls Try.prog 75 #[.pointer (some ⟨A, 0, none⟩), .int .u64 (k : Int), .int .i64 x] w (UpdPost w A G C b r d m s l K zs k x) := by
  have PC := excheck w A G C b r d m s l K k zs x h hx hk64
  by_cases hc : chkI K m zs k x = 0
  · obtain ⟨hlt, h64⟩ := chkI_ok hc
    have hW := h.2.width
    have HU : Hid (UpdPost w A G C b r d m s l K zs k x = fun e w' => e = .returned (.int .i64 0) ∧ ArrIs w' A G C b r d m s l K (zs.set k (cellD zs k + x)) ∧ w.grownBy w' (some C)) := Lib.hid (by
      unfold UpdPost updZ; simp only [hc, if_pos])
    rw [HU.out]
    rw [hc] at PC
    have PC := Lib.hid PC
    have HA := Lib.hid h
    have P2 : Hid (∀ w', GridIs w' G C 1 K zs → Calls Try.prog 78 #[.pointer (some ⟨G, 0, none⟩), .int .i64 0, .int .i64 (k : Int)] w' fun e w'' => e = .returned (.int .i64 (cellD zs k)) ∧ w' = w'') := Lib.hid (fun w' h' => by
      have := at_in w' G C 1 K 0 k zs h' (by decide) hlt
      simpa using this)
    have P3 : Hid (∀ w', GridIs w' G C 1 K zs → Calls Try.prog 79 #[.pointer (some ⟨G, 0, none⟩), .int .i64 0, .int .i64 (k : Int), .int .i64 (cellD zs k + x)] w' fun e w'' => e = .returned (.bool true) ∧ w'' = w'.setCell ⟨C, k, none⟩ (.int .i64 (cellD zs k + x))) := Lib.hid (fun w' h' => by
      have := put_in w' G C 1 K 0 k (cellD zs k + x) zs h' (by decide) hlt
      simpa using this)
    have hAC : A ≠ C := h.neAC
    have e3 : IntKind.i64.wrap (k : Int) = (k : Int) := by simp [IntKind.wrap, IntKind.bits, IntKind.signed]; split <;> omega
    have H64 := Lib.hid h64
    have e5 : wrap64 (cellD zs k + x) = cellD zs k + x := by unfold wrap64; unfold In64 at h64; omega
    have e6 : IntKind.i64.wrap (cellD zs k + x) = cellD zs k + x := wrapI_of _ h64.1 h64.2
    clear h hlt h64 hk64 hc hW HU hx
    generalize hz : cellD zs k = z at *
    have HZ := Lib.hid hz
    clear hz
    go_enter Try.func75, Try.ntmps75
    go_wp2_with fail
    with_reducible refine PC.out.mono ?_
    rintro e w2 ⟨rfl, hb⟩
    have HA2 := Lib.hid (HA.out.kept hb)
    have HG2 : Hid (w.grownBy w2 (some C)) := Lib.hid (below_gr hb)
    clear hb
    go_wp2_with fail
    refine wp_region_held_drew (S := fun w' => Blk w' A 115 #[.int .i64 b, .int .i64 r, .int .i64 d, .int .i64 m, .int .u64 s, .int .i64 l, .pointer (some ⟨G, 0, none⟩)]) (by kernel_rfl) (by exact HA2.out.1.drewN 1) (fun hHeld => ?_)
    refine wpAnyH_take (i := 0) (v := ?_) rfl (by kernel_rfl) (by kernel_rfl) (by kernel_rfl) (fun _ _ _ h => h) (Or.inl ⟨by rfl, ?_⟩) (by assumption) ?_
    rotate_left
    · intro w hSw
      try dsimp only at hSw
      go_simp
      try with_reducible rfl
    simp only [Act.put, List.setIfInBounds_toArray, List.set_cons_zero, List.set_cons_succ, List.getElem_toArray, List.getElem_cons_zero, List.getElem_cons_succ]
    refine wpAnyH_take (i := 1) (v := ?_) rfl (by kernel_rfl) (by kernel_rfl) (by kernel_rfl) (fun _ _ _ h => h) (Or.inl ⟨by rfl, ?_⟩) (by assumption) ?_
    rotate_left
    · intro w hSw
      try dsimp only at hSw
      go_simp
      try with_reducible rfl
    simp only [Act.put, List.setIfInBounds_toArray, List.set_cons_zero, List.set_cons_succ, List.getElem_toArray, List.getElem_cons_zero, List.getElem_cons_succ]
    refine wpAnyH_take (i := 2) (v := ?_) rfl (by kernel_rfl) (by kernel_rfl) (by kernel_rfl) (fun _ _ _ h => h) (Or.inl ⟨by rfl, ?_⟩) (by assumption) ?_
    rotate_left
    · intro w hSw
      try dsimp only at hSw
      go_simp
      try with_reducible rfl
    simp only [Act.put, List.setIfInBounds_toArray, List.set_cons_zero, List.set_cons_succ, List.getElem_toArray, List.getElem_cons_zero, List.getElem_cons_succ]
    refine wpAnyH_take (i := 3) (v := ?_) rfl (by kernel_rfl) (by kernel_rfl) (by kernel_rfl) (fun _ _ _ h => h) (Or.inl ⟨by rfl, ?_⟩) (by assumption) ?_
    rotate_left
    · intro w hSw
      have q6 := hSw.cell 6
      simp at q6
      go_simp
      try with_reducible rfl
    simp only [Act.put, List.setIfInBounds_toArray, List.set_cons_zero, List.set_cons_succ, List.getElem_toArray, List.getElem_cons_zero, List.getElem_cons_succ]
    refine wpAnyH_take (i := 4) (v := ?_) rfl (by kernel_rfl) (by kernel_rfl) (by kernel_rfl) (fun _ _ _ h => h) (Or.inl ⟨by rfl, ?_⟩) (by assumption) ?_
    rotate_left
    · intro w hSw
      try dsimp only at hSw
      go_simp
      try with_reducible rfl
    simp only [Act.put, List.setIfInBounds_toArray, List.set_cons_zero, List.set_cons_succ, List.getElem_toArray, List.getElem_cons_zero, List.getElem_cons_succ]
    refine wpAnyH_take (i := 5) (v := ?_) rfl (by kernel_rfl) (by kernel_rfl) (by kernel_rfl) (fun _ _ _ h => h) (Or.inl ⟨by rfl, ?_⟩) (by assumption) ?_
    rotate_left
    · intro w hSw
      try dsimp only at hSw
      go_simp
      try with_reducible rfl
    simp only [Act.put, List.setIfInBounds_toArray, List.set_cons_zero, List.set_cons_succ, List.getElem_toArray, List.getElem_cons_zero, List.getElem_cons_succ]
    refine wpAnyH_take (i := 6) (v := ?_) rfl (by kernel_rfl) (by kernel_rfl) (by kernel_rfl) (fun _ _ _ h => h) (Or.inl ⟨by rfl, ?_⟩) (by assumption) ?_
    rotate_left
    · intro w hSw
      try dsimp only at hSw
      go_simp
      try with_reducible rfl
    simp only [Act.put, List.setIfInBounds_toArray, List.set_cons_zero, List.set_cons_succ, List.getElem_toArray, List.getElem_cons_zero, List.getElem_cons_succ]
    refine wpAnyH_take (i := 7) (v := ?_) rfl (by kernel_rfl) (by kernel_rfl) (by kernel_rfl) (fun _ _ _ h => h) (Or.inl ⟨by rfl, ?_⟩) (by assumption) ?_
    rotate_left
    · intro w hSw
      try dsimp only at hSw
      go_simp
      try with_reducible rfl
    simp only [Act.put, List.setIfInBounds_toArray, List.set_cons_zero, List.set_cons_succ, List.getElem_toArray, List.getElem_cons_zero, List.getElem_cons_succ]
    refine wpAnyH_take (i := 8) (v := ?_) rfl (by kernel_rfl) (by kernel_rfl) (by kernel_rfl) (fun _ _ _ h => h) (Or.inl ⟨by rfl, ?_⟩) (by assumption) ?_
    rotate_left
    · intro w hSw
      try dsimp only at hSw
      go_simp
      try with_reducible rfl
    simp only [Act.put, List.setIfInBounds_toArray, List.set_cons_zero, List.set_cons_succ, List.getElem_toArray, List.getElem_cons_zero, List.getElem_cons_succ]
    refine wpAnyH_take (i := 9) (v := ?_) rfl (by kernel_rfl) (by kernel_rfl) (by kernel_rfl) (fun _ _ _ h => h) (Or.inl ⟨by rfl, ?_⟩) (by assumption) ?_
    rotate_left
    · intro w hSw
      have q6 := hSw.cell 6
      simp at q6
      go_simp
      try with_reducible rfl
    simp only [Act.put, List.setIfInBounds_toArray, List.set_cons_zero, List.set_cons_succ, List.getElem_toArray, List.getElem_cons_zero, List.getElem_cons_succ]
    refine wpAnyH_take (i := 10) (v := ?_) rfl (by kernel_rfl) (by kernel_rfl) (by kernel_rfl) (fun _ _ _ h => h) (Or.inl ⟨by rfl, ?_⟩) (by assumption) ?_
    rotate_left
    · intro w hSw
      try dsimp only at hSw
      go_simp
      try with_reducible rfl
    simp only [Act.put, List.setIfInBounds_toArray, List.set_cons_zero, List.set_cons_succ, List.getElem_toArray, List.getElem_cons_zero, List.getElem_cons_succ]
    refine wpAnyH_take (i := 11) (v := ?_) rfl (by kernel_rfl) (by kernel_rfl) (by kernel_rfl) (fun _ _ _ h => h) (Or.inl ⟨by rfl, ?_⟩) (by assumption) ?_
    rotate_left
    · intro w hSw
      try dsimp only at hSw
      go_simp
      try with_reducible rfl
    simp only [Act.put, List.setIfInBounds_toArray, List.set_cons_zero, List.set_cons_succ, List.getElem_toArray, List.getElem_cons_zero, List.getElem_cons_succ]
    refine wpAnyH_take (i := 13) (v := ?_) rfl (by kernel_rfl) (by kernel_rfl) (by kernel_rfl) (fun _ _ _ h => h) (Or.inl ⟨by rfl, ?_⟩) (by assumption) ?_
    rotate_left
    · intro w hSw
      try dsimp only at hSw
      go_simp
      try with_reducible rfl
    simp only [Act.put, List.setIfInBounds_toArray, List.set_cons_zero, List.set_cons_succ, List.getElem_toArray, List.getElem_cons_zero, List.getElem_cons_succ]
    refine wpAnyH_ready (rs := [12]) (by kernel_rfl) (by simp) ?_
    refine AllReadyH.cons rfl (fun Kc hKc => ?_) AllReadyH.nil
    go_simp
    go_wp2_with (first | (go_at_call 78; refine (P2.out _ (HA2.out.2.drewN 1)).mono ?_; rintro e w' ⟨rfl, hw'⟩; subst hw') | (go_at_call 79; refine (P3.out _ (HA2.out.2.drewN 1)).mono ?_; rintro e w5 ⟨rfl, hw5⟩; have HW5 := Lib.hid hw5; clear hw5))
    refine hKc.out _ _ ?_ (fun hHeld => ?_)
    · first | exact hHeld | (rw [HW5.out]; exact hHeld.far hAC _)
    clear hKc Kc
    refine wpAnyH_take (i := 14) (v := ?_) rfl (by kernel_rfl) (by kernel_rfl) (by kernel_rfl) (fun _ _ _ h => h) (Or.inl ⟨by rfl, ?_⟩) (by assumption) ?_
    rotate_left
    · intro w hSw
      try dsimp only at hSw
      go_simp
      try with_reducible rfl
    simp only [Act.put, List.setIfInBounds_toArray, List.set_cons_zero, List.set_cons_succ, List.getElem_toArray, List.getElem_cons_zero, List.getElem_cons_succ]
    refine wpAnyH_ready (rs := [15]) (by kernel_rfl) (by simp) ?_
    refine AllReadyH.cons rfl (fun Kc hKc => ?_) AllReadyH.nil
    go_simp
    go_wp2_with (first | (go_at_call 78; refine (P2.out _ (HA2.out.2.drewN 1)).mono ?_; rintro e w' ⟨rfl, hw'⟩; subst hw') | (go_at_call 79; refine (P3.out _ (HA2.out.2.drewN 1)).mono ?_; rintro e w5 ⟨rfl, hw5⟩; have HW5 := Lib.hid hw5; clear hw5))
    refine hKc.out _ _ ?_ (fun hHeld => ?_)
    · first | exact hHeld | (rw [HW5.out]; exact hHeld.far hAC _)
    clear hKc Kc
    refine wpAnyH_done (by kernel_rfl) ?_ _
    clear hHeld
    go_wp2
    go_ret
    refine ⟨rfl, ?_, ?_⟩
    · rw [HW5.out]
      exact (HA2.out.drewN 1).put (grown_set _ _ _ _) ((HA2.out.2.drewN 1).set k _ H64.out.1 H64.out.2)
    · rw [HW5.out]
      exact gr_trans HG2.out (gr_trans (below_gr (below_drewN (Below.refl _ _) 1)) (grown_set _ _ _ _))
  · have HU : Hid (UpdPost w A G C b r d m s l K zs k x = fun e w' => e = .returned (.int .i64 (chkI K m zs k x)) ∧ ArrIs w' A G C b r d m s l K zs ∧ w.grownBy w' (some C)) := Lib.hid (by
      unfold UpdPost updZ; simp only [if_neg hc])
    rw [HU.out]
    have PC := Lib.hid PC
    have HA := Lib.hid h
    generalize chkI K m zs k x = q at *
    have d1 : (q == 0) = false := by simpa using hc
    have d2 : decide (q = 0) = false := by simpa using hc
    clear h hk64 HU hx
    go_enter Try.func75, Try.ntmps75
    go_wp2_with fail
    with_reducible refine PC.out.mono ?_
    rintro e w2 ⟨rfl, hb⟩
    have HA2 := Lib.hid (HA.out.kept hb)
    have HG2 : Hid (w.grownBy w2 (some C)) := Lib.hid (below_gr hb)
    clear hb
    go_wp2
    go_ret
    exact ⟨rfl, HA2.out, HG2.out⟩
end Go.Proofs.Ythbkljeibmkimaa

/-
  The walks of gaugerref07.Any and of the laws' top; a config as an argument. Conditions: none beyond those stated at each theorem.
-/
namespace Go.Proofs.Ythbkljeibmkimaa
open Go.RowKit Go.ChangeShapes Go.WideShapes Go.ChangeAt
set_option linter.unusedVariables false
set_option linter.unusedSimpArgs false
def shCfg : Sh := .agg (.cons (.int .i64) (.cons (.int .i64) (.cons (.int .i64) (.cons (.int .i64) (.cons (.int .u64) .unit)))))
theorem valCfg {w : World} {v : Value} (h : shCfg.Val w v) : ∃ b r d m s : Int, v = .agg #[.int .i64 b, .int .i64 r, .int .i64 d, .int .i64 m, .int .u64 s] ∧
    (Lit.int .i64 b).wf = true ∧ (Lit.int .i64 r).wf = true ∧ (Lit.int .i64 d).wf = true ∧ (Lit.int .i64 m).wf = true ∧ (Lit.int .u64 s).wf = true := by
  obtain ⟨cs, rfl, h1⟩ := h
  obtain ⟨b, q, e, wb, h2⟩ := Sh.reads_int h1
  obtain ⟨r, q, rfl, wr, h3⟩ := Sh.reads_int h2
  obtain ⟨d, q, rfl, wd, h4⟩ := Sh.reads_int h3
  obtain ⟨m, q, rfl, wm, h5⟩ := Sh.reads_int h4
  obtain ⟨s, q, rfl, ws, h6⟩ := Sh.reads_int h5
  obtain rfl := Sh.reads_unit h6
  exact ⟨b, r, d, m, s, by rw [agg_of_list e], wb, wr, wd, wm, ws⟩

def anyI (x n : Int) : Int := 1 + x % 65536 % n
theorem anyI_bd (x n : Int) (h : 1 ≤ n) : 1 ≤ anyI x n ∧ anyI x n ≤ n := by
  unfold anyI
  have h1 := Int.emod_nonneg (x % 65536) (show n ≠ 0 by omega)
  have h2 := Int.emod_lt_of_pos (x % 65536) (show 0 < n by omega)
  omega
theorem and16 (n : Int) : bits BinOp.and IntKind.i64 n 65535 = n % 65536 := by
  have h16 : (BitVec.ofInt 64 65535).toNat = 2 ^ 16 - 1 := by decide
  have key : (BitVec.ofInt 64 n &&& BitVec.ofInt 64 65535).toNat = (n % ((2 ^ 64 : Nat) : Int)).toNat % 2 ^ 16 := by
    rw [BitVec.toNat_and, BitVec.toNat_ofInt, h16, Nat.and_two_pow_sub_one_eq_mod]
  show IntKind.i64.wrap ((BitVec.ofInt 64 n &&& BitVec.ofInt 64 65535).toNat : Nat) = n % 65536
  rw [key, IntKind.wrap_i64]
  omega

set_option maxRecDepth 100000 in
set_option maxHeartbeats 1000000 in
theorem any_any (b r d m s p q : Int) (p0 : 1 ≤ p) (p1 : p ≤ 59) (q0 : 1 ≤ q) (q1 : q ≤ 128) (w : World) :
    Calls Try.prog 19 #[.agg #[.int .i64 b, .int .i64 r, .int .i64 d, .int .i64 m, .int .u64 s], .int .i64 p, .int .i64 q] w fun e w' =>
      e = .returned (.agg #[.int .i64 (anyI b p), .int .i64 (anyI r 4), .int .i64 (anyI d q), .int .i64 (anyI m 3), .int .u64 s]) ∧ Below w.heap.size w w' := by
  have e1 := and16 b
  have e2 := and16 r
  have e3 := and16 d
  have e4 := and16 m
  have z1 := Int.emod_nonneg (b % 65536) (show p ≠ 0 by omega)
  have z2 := Int.emod_lt_of_pos (b % 65536) (show 0 < p by omega)
  have z3 := Int.emod_nonneg (d % 65536) (show q ≠ 0 by omega)
  have z4 := Int.emod_lt_of_pos (d % 65536) (show 0 < q by omega)
  have y1 : (p == 0) = false := by simp; omega
  have y2 : (q == 0) = false := by simp; omega
  have t1 : (b % 65536).tmod p = b % 65536 % p := Int.tmod_eq_emod_of_nonneg (by omega)
  have t2 : (r % 65536).tmod 4 = r % 65536 % 4 := Int.tmod_eq_emod_of_nonneg (by omega)
  have t3 : (d % 65536).tmod q = d % 65536 % q := Int.tmod_eq_emod_of_nonneg (by omega)
  have t4 : (m % 65536).tmod 3 = m % 65536 % 3 := Int.tmod_eq_emod_of_nonneg (by omega)
  have u1 : IntKind.i64.wrap (b % 65536 % p) = b % 65536 % p := IntWalk.i64_in _ (by omega)
  have u2 : IntKind.i64.wrap (r % 65536 % 4) = r % 65536 % 4 := IntWalk.i64_in _ (by omega)
  have u3 : IntKind.i64.wrap (d % 65536 % q) = d % 65536 % q := IntWalk.i64_in _ (by omega)
  have u4 : IntKind.i64.wrap (m % 65536 % 3) = m % 65536 % 3 := IntWalk.i64_in _ (by omega)
  have v1 : IntKind.i64.wrap (1 + b % 65536 % p) = 1 + b % 65536 % p := IntWalk.i64_in _ (by omega)
  have v2 : IntKind.i64.wrap (1 + r % 65536 % 4) = 1 + r % 65536 % 4 := IntWalk.i64_in _ (by omega)
  have v3 : IntKind.i64.wrap (1 + d % 65536 % q) = 1 + d % 65536 % q := IntWalk.i64_in _ (by omega)
  have v4 : IntKind.i64.wrap (1 + m % 65536 % 3) = 1 + m % 65536 % 3 := IntWalk.i64_in _ (by omega)
  have p0' : ¬ p = 0 := by omega
  have q0' : ¬ q = 0 := by omega
  go_enter Try.func19, Try.ntmps19
  go_wp2_with fail
  have hk : Blk ((w.alloc (.cells #[.int .i64 b, .int .i64 r, .int .i64 d, .int .i64 m, .int .u64 s] 24)).alloc (.cells #[.int .i64 0, .int .i64 0, .int .i64 0, .int .i64 0, .int .u64 0] 24)) w.heap.size 24 #[.int .i64 b, .int .i64 r, .int .i64 d, .int .i64 m, .int .u64 s] := (Blk.new _ _ _).alloc _
  have hn : Blk ((w.alloc (.cells #[.int .i64 b, .int .i64 r, .int .i64 d, .int .i64 m, .int .u64 s] 24)).alloc (.cells #[.int .i64 0, .int .i64 0, .int .i64 0, .int .i64 0, .int .u64 0] 24)) (w.heap.size + 1) 24 #[.int .i64 0, .int .i64 0, .int .i64 0, .int .i64 0, .int .u64 0] := by
    have := Blk.new (w.alloc (.cells #[.int .i64 b, .int .i64 r, .int .i64 d, .int .i64 m, .int .u64 s] 24)) 24 #[.int .i64 0, .int .i64 0, .int .i64 0, .int .i64 0, .int .u64 0]
    simpa using this
  have hbel : Below w.heap.size w ((w.alloc (.cells #[.int .i64 b, .int .i64 r, .int .i64 d, .int .i64 m, .int .u64 s] 24)).alloc (.cells #[.int .i64 0, .int .i64 0, .int .i64 0, .int .i64 0, .int .u64 0] 24)) := ((Below.refl _ _).alloc (Nat.le_refl _) _).alloc (by simp) _
  generalize ((w.alloc (.cells #[.int .i64 b, .int .i64 r, .int .i64 d, .int .i64 m, .int .u64 s] 24)).alloc (.cells #[.int .i64 0, .int .i64 0, .int .i64 0, .int .i64 0, .int .u64 0] 24)) = wz at *
  refine wp_region_still_tail 25 (by kernel_rfl) (by kernel_rfl) ?_
  simp only [List.take_succ_cons, List.take_zero, List.drop_succ_cons, List.drop_zero]
  replace hk := hk.drew
  replace hn := hn.drew
  replace hbel := hbel.drew
  change Blk { heap := wz.heap, tape := wz.tape, drawn := wz.drawn + 1, os := wz.os, output := wz.output } _ _ _ at hk
  change Blk { heap := wz.heap, tape := wz.tape, drawn := wz.drawn + 1, os := wz.os, output := wz.output } _ _ _ at hn
  change Below _ _ { heap := wz.heap, tape := wz.tape, drawn := wz.drawn + 1, os := wz.os, output := wz.output } at hbel
  generalize ({ heap := wz.heap, tape := wz.tape, drawn := wz.drawn + 1, os := wz.os, output := wz.output } : World) = wd at *
  obtain ⟨c0, c1, c2, c3, c4⟩ := box_cells hk
  repeat still_step
  refine wpStill_nil ?_
  obtain ⟨n0, n1, n2, n3, n4⟩ := box_cells hn
  have f0 := hn.frozen 0
  have f1 := hn.frozen 1
  have f2 := hn.frozen 2
  have f3 := hn.frozen 3
  have f4 := hn.frozen 4
  generalize hG : w.heap.size + 1 = G at *
  go_wp2
  refine bodyPost_ret (v := .agg #[.int .i64 (anyI b p), .int .i64 (anyI r 4), .int .i64 (anyI d q), .int .i64 (anyI m 3), .int .u64 s]) (by simp [results, Try.results19, go_sem, n0, n1, n2, n3, n4]; exact ⟨rfl, by unfold anyI; omega, rfl, rfl⟩) rfl ⟨rfl, ?_⟩
  have hlow : w.heap.size ≤ G := by omega
  exact ((((hbel.setCell hlow _).setCell hlow _).setCell hlow _).setCell hlow _).setCell hlow _

section
variable {P : Program}
theorem wpList_load_row_g {ops : Array Oper} {rest : List Oper} {o : Oper} {a : Act} {w : World} {Q : Exit → Act → World → Prop} (hw : Region.wanted o (yielded ops a.tmps) = true) (ty : TypeId) (x : Operand) (ho : o.op = .load ty x)
    (g : Nat) (hx : a.eval x = .pointer (some ⟨g, 0, none⟩)) (t : TypeId) (cs : Array Value) (fr : Nat × Nat) (d : TypeDesc) (hg : w.heap[g]? = some (.cells cs t fr))
    (hu : P.underlying ty = some d) (hd : (match d with | .struct _ | .array _ _ => true | _ => false) = true) (hi : (P.info? ty).map (·.size) = some cs.size)
    (h : wpList P ops Q rest (a.put o.dst (.agg cs)) w) : wpList P ops Q (o :: rest) a w := by
  simp only [wpList, hw, if_true]
  exact .inl (wp_load_row ty x ho g hx t cs fr d hg hu hd hi h)
end

theorem exact_top {b r d m s : Int} (h : rightB b r d m = true) : exactB b r d m b = true := by
  have hr := right_of h
  unfold exactB
  rw [keysI_yes h (by omega) (by omega)]
  simp; omega

end Go.Proofs.Ythbkljeibmkimaa

/-
  Two configs compared. Conditions: none beyond those stated at each theorem.
-/
namespace Go.Proofs.Ythbkljeibmkimaa
open Go.RowKit
set_option linter.unusedVariables false
set_option linter.unusedSimpArgs false

def cfgEq (b r d m s b' r' d' m' s' : Int) : Bool := decide (b = b' ∧ r = r' ∧ d = d' ∧ m = m' ∧ s = s')
theorem eqCfg (b r d m s b' r' d' m' s' : Int) (w : World) : (Op.equalIn 10000 24 (.agg #[.int .i64 b, .int .i64 r, .int .i64 d, .int .i64 m, .int .u64 s]) (.agg #[.int .i64 b', .int .i64 r', .int .i64 d', .int .i64 m', .int .u64 s'])).run Try.prog w = .ok (cfgEq b r d m s b' r' d' m' s') w := by
  have u3 := Try.underlying3
  have u4 := Try.underlying22
  have a3 : ∀ w, (isAgg 3).run Try.prog w = .ok false w := fun w => by unfold isAgg; rw [Sem.run_bind, run_underlying Try.underlying3 w]; rfl
  have a4 : ∀ w, (isAgg 22).run Try.prog w = .ok false w := fun w => by unfold isAgg; rw [Sem.run_bind, run_underlying Try.underlying22 w]; rfl
  have hS : Try.prog.underlying 24 = some (.struct (Try.prog.fieldsOf 24)) := by kernel_rfl
  have hp : Try.prog.stoodInHeld 24 = false := by kernel_rfl
  rw [show (10000 : Nat) = 9999 + 1 from rfl, run_equalIn_agg w 9999 24 _ _ hS hp]
  simp only [Program.fieldsOf, Try.underlying24]
  go_simp
  unfold cfgEq
  by_cases h1 : b = b' <;> by_cases h2 : r = r' <;> by_cases h3 : d = d' <;> by_cases h4 : m = m' <;> by_cases h5 : s = s' <;> simp [h1, h2, h3, h4, h5]
end Go.Proofs.Ythbkljeibmkimaa

/-
  The walks of exact: Load, Copy, join, Merge, Subtract. Conditions: none beyond those stated at each theorem.
-/
namespace Go.Proofs.Ythbkljeibmkimaa
open Go.RowKit
set_option linter.unusedVariables false
set_option linter.unusedSimpArgs false

theorem width_kp (w : World) (G C R W : Nat) (zs : List Int) (h : GridIs w G C R W zs) :
    Calls Try.prog 76 #[.pointer (some ⟨G, 0, none⟩)] w fun e w' => e = .returned (.int .i64 (W : Int)) ∧ w = w' := (width_any w G C R W zs h).mono fun _ _ h => ⟨h.1, h.2.symm⟩
theorem take_drop_set {cs zs : List Int} {j : Nat} {u : Int} (hc : cs[j]? = some u) (hl : cs.length = zs.length) : (cs.take j ++ zs.drop j).set j u = cs.take (j + 1) ++ zs.drop (j + 1) := by
  have hj : j < cs.length := (List.getElem?_eq_some_iff.1 hc).1
  have hu : u = cs[j] := by
    have := (List.getElem?_eq_some_iff.1 hc).2
    exact this.symm
  apply List.ext_getElem?
  intro i
  rw [List.getElem?_set]
  simp only [List.length_append, List.length_take, List.length_drop]
  by_cases e : j = i
  · subst e
    rw [if_pos rfl, if_pos (by omega), List.getElem?_append_left (by simp; omega), List.getElem?_take, if_pos (by omega), hc]
  · rw [if_neg e]
    by_cases h : i < j
    · rw [List.getElem?_append_left (by simp; omega), List.getElem?_append_left (by simp; omega), List.getElem?_take, List.getElem?_take, if_pos h, if_pos (by omega)]
    · rw [List.getElem?_append_right (by simp; omega), List.getElem?_append_right (by simp; omega), List.getElem?_drop, List.getElem?_drop]
      simp only [List.length_take]
      congr 1
      omega

def ExCopyPost (w : World) (b r d m s l : Int) (K : Nat) (zs : List Int) (e : Ending) (w' : World) : Prop :=
  ∃ A G C, e = .returned (.pointer (some ⟨A, 0, none⟩)) ∧ w.heap.size ≤ A ∧ w.heap.size ≤ G ∧ w.heap.size ≤ C ∧ ArrIs w' A G C b r d m s l K zs ∧ Below w.heap.size w w'

end Go.Proofs.Ythbkljeibmkimaa

/-
  Sketches in memory; the walks of sketch.New, Cells, Load. Conditions: none beyond those stated at each theorem.
-/
namespace Go.Proofs.Ythbkljeibmkimaa
open Go.RowKit
set_option linter.unusedVariables false
set_option linter.unusedSimpArgs false

/-- block A is a sketch of a config and a level, over a grid -/
structure SkIs (w : World) (A G C : Nat) (b r d m s l : Int) (zs : List Int) : Prop where
  box : Blk w A 119 #[.pointer (some ⟨G, 0, none⟩), .int .i64 b, .int .i64 r, .int .i64 d, .int .i64 m, .int .u64 s, .int .i64 l]
  grid : GridIs w G C r.toNat d.toNat zs
theorem SkIs.kept {w w' : World} {A G C : Nat} {b r d m s l : Int} {zs : List Int} (h : SkIs w A G C b r d m s l zs) (hb : Below w.heap.size w w') : SkIs w' A G C b r d m s l zs := ⟨h.box.kept hb, h.grid.kept hb⟩
theorem SkIs.grown {w w' : World} {A G C : Nat} {b r d m s l : Int} {zs : List Int} {row : Option Nat} (h : SkIs w A G C b r d m s l zs) (hb : w.grownBy w' row) (h1 : some A ≠ row) (h2 : some G ≠ row) (h3 : some C ≠ row) : SkIs w' A G C b r d m s l zs := ⟨h.box.grown hb h1, h.grid.grown hb h2 h3⟩
theorem SkIs.neA {w : World} {A G C : Nat} {b r d m s l : Int} {zs : List Int} (h : SkIs w A G C b r d m s l zs) : A ≠ C := by
  obtain ⟨cur, hc, -⟩ := h.grid.cells
  exact h.box.ne_ hc (by decide)
def SkNewPost (w : World) (b r d m s l : Int) (e : Ending) (w' : World) : Prop :=
  ∃ A G C, e = .returned (.tuple #[.pointer (some ⟨A, 0, none⟩), .int .i64 0]) ∧ w.heap.size ≤ A ∧ w.heap.size ≤ G ∧ w.heap.size ≤ C ∧ SkIs w' A G C b r d m s l (List.replicate (r.toNat * d.toNat) 0) ∧ Below w.heap.size w w'
theorem clampN_of {n : Int} {top : Nat} (h : n ≤ (top : Int)) : clampN n top = n.toNat := by unfold clampN; omega
set_option maxRecDepth 100000 in
set_option maxHeartbeats 4000000 in
theorem sknew_yes (b r d m s l : Int) (hr : rightB b r d m = true) (h0 : 0 ≤ l) (h1 : l ≤ b) (w : World) :
    Calls Try.prog 45 #[.agg #[.int .i64 b, .int .i64 r, .int .i64 d, .int .i64 m, .int .u64 s], .int .i64 l] w (SkNewPost w b r d m s l) := by
  have hR := right_of hr
  have hk : 0 < keysI b r d m l := by
    rw [keysI_yes hr h0 h1]
    have := pow_le (b - l).toNat (by omega)
    omega
  have PK := Lib.hid (fun w => keys_any b r d m s l w)
  have PN := Lib.hid (fun w => new_any r d w)
  rw [clampN_of (by omega), clampN_of (by omega)] at PN
  have e1 : (keysI b r d m l == 0) = false := by simp; omega
  generalize keysI b r d m l = kk at *
  clear hk hr hR h0 h1
  obtain ⟨g1, hb1, hsz1⟩ := news1 w (.cells #[.int .i64 b, .int .i64 r, .int .i64 d, .int .i64 m, .int .u64 s] 24)
  have hx1 : Blk _ w.heap.size 24 #[.int .i64 b, .int .i64 r, .int .i64 d, .int .i64 m, .int .u64 s] := g1
  have HB1 := Lib.hid hb1
  have HX1 := Lib.hid hx1
  clear g1 hb1 hsz1
  go_enter Try.func45, Try.ntmps45
  go_wp2_with (refine wpList_load_row rfl 24 _ rfl w.heap.size rfl 24 _ (0, 0) _ hx1 Try.underlying24 rfl (by kernel_rfl) ?_)
  with_reducible refine (PK.out _).mono ?_
  rintro e w2 ⟨rfl, hb⟩
  have HB2 := Lib.hid (btr HB1.out hb)
  have HX2 := Lib.hid (HX1.out.kept hb)
  clear hb hx1
  go_wp2_with fail
  refine wp_region_held_drew (S := fun w' => Blk w' w.heap.size 24 #[.int .i64 b, .int .i64 r, .int .i64 d, .int .i64 m, .int .u64 s] ∧ w.heap.size ≤ w'.heap.size) (by kernel_rfl) (by exact ⟨HX2.out.drewN 1, HB2.out.size⟩) (fun hHeld => ?_)
  refine wpAnyH_take (i := 0) (v := ?_) rfl (by kernel_rfl) (by kernel_rfl) (by kernel_rfl) (fun _ _ _ h => h) (Or.inl ⟨by rfl, ?_⟩) (by assumption) ?_
  rotate_left
  · intro w hSw
    try dsimp only at hSw
    go_simp
    try with_reducible rfl
  simp only [Act.put, List.setIfInBounds_toArray, List.set_cons_zero, List.set_cons_succ, List.getElem_toArray, List.getElem_cons_zero, List.getElem_cons_succ]
  refine wpAnyH_take (i := 1) (v := ?_) rfl (by kernel_rfl) (by kernel_rfl) (by kernel_rfl) (fun _ _ _ h => h) (Or.inl ⟨by rfl, ?_⟩) (by assumption) ?_
  rotate_left
  · intro w hSw
    have q0 := hSw.1.cell 0
    have q1 := hSw.1.cell 1
    have q2 := hSw.1.cell 2
    simp at q0 q1 q2
    try refine (exec_load_row 24 _ rfl _ rfl 24 _ (0, 0) _ hSw.1 Try.underlying24 rfl (by kernel_rfl)).trans ?_
    go_simp
    try with_reducible rfl
  simp only [Act.put, List.setIfInBounds_toArray, List.set_cons_zero, List.set_cons_succ, List.getElem_toArray, List.getElem_cons_zero, List.getElem_cons_succ]
  refine wpAnyH_take (i := 2) (v := ?_) rfl (by kernel_rfl) (by kernel_rfl) (by kernel_rfl) (fun _ _ _ h => h) (Or.inl ⟨by rfl, ?_⟩) (by assumption) ?_
  rotate_left
  · intro w hSw
    try dsimp only at hSw
    go_simp
    try with_reducible rfl
  simp only [Act.put, List.setIfInBounds_toArray, List.set_cons_zero, List.set_cons_succ, List.getElem_toArray, List.getElem_cons_zero, List.getElem_cons_succ]
  refine wpAnyH_take (i := 3) (v := ?_) rfl (by kernel_rfl) (by kernel_rfl) (by kernel_rfl) (fun _ _ _ h => h) (Or.inl ⟨by rfl, ?_⟩) (by assumption) ?_
  rotate_left
  · intro w hSw
    have q0 := hSw.1.cell 0
    have q1 := hSw.1.cell 1
    have q2 := hSw.1.cell 2
    simp at q0 q1 q2
    try refine (exec_load_row 24 _ rfl _ rfl 24 _ (0, 0) _ hSw.1 Try.underlying24 rfl (by kernel_rfl)).trans ?_
    go_simp
    try with_reducible rfl
  simp only [Act.put, List.setIfInBounds_toArray, List.set_cons_zero, List.set_cons_succ, List.getElem_toArray, List.getElem_cons_zero, List.getElem_cons_succ]
  refine wpAnyH_take (i := 6) (v := ?_) rfl (by kernel_rfl) (by kernel_rfl) (by kernel_rfl) (fun _ _ _ h => h) (Or.inl ⟨by rfl, ?_⟩) (by assumption) ?_
  rotate_left
  · intro w hSw
    have q0 := hSw.1.cell 0
    have q1 := hSw.1.cell 1
    have q2 := hSw.1.cell 2
    simp at q0 q1 q2
    try refine (exec_load_row 24 _ rfl _ rfl 24 _ (0, 0) _ hSw.1 Try.underlying24 rfl (by kernel_rfl)).trans ?_
    go_simp
    try with_reducible rfl
  simp only [Act.put, List.setIfInBounds_toArray, List.set_cons_zero, List.set_cons_succ, List.getElem_toArray, List.getElem_cons_zero, List.getElem_cons_succ]
  refine wpAnyH_take (i := 7) (v := ?_) rfl (by kernel_rfl) (by kernel_rfl) (by kernel_rfl) (fun _ _ _ h => h) (Or.inl ⟨by rfl, ?_⟩) (by assumption) ?_
  rotate_left
  · intro w hSw
    try dsimp only at hSw
    go_simp
    try with_reducible rfl
  simp only [Act.put, List.setIfInBounds_toArray, List.set_cons_zero, List.set_cons_succ, List.getElem_toArray, List.getElem_cons_zero, List.getElem_cons_succ]
  refine wpAnyH_ready (rs := [4]) (by kernel_rfl) (by simp) ?_
  refine AllReadyH.cons rfl (fun Kc hKc => ?_) AllReadyH.nil
  go_simp
  go_wp2_with (go_at_call 49; refine (PN.out _).mono ?_; rintro e w4 ⟨G, C, rfl, hG, hC, hg, hb'⟩; have HG4 := Lib.hid hg; have HB4 := Lib.hid (btr (below_drewN HB2.out 1) hb'); have hGC : Hid (w.heap.size ≤ G ∧ w.heap.size ≤ C) := ⟨Nat.le_trans hHeld.2 hG, Nat.le_trans hHeld.2 hC⟩; clear hg)
  refine hKc.out _ _ ?_ (fun hHeld => ?_)
  · first | assumption | exact ⟨hHeld.1.kept hb', Nat.le_trans hHeld.2 hb'.size⟩ | exact ⟨hHeld.1.alloc _, by have := hHeld.2; simp; omega⟩
  clear hKc Kc
  refine wpAnyH_take (i := 5) (v := ?_) rfl (by kernel_rfl) (by kernel_rfl) (by kernel_rfl) (fun _ _ _ h => h) (Or.inl ⟨by rfl, ?_⟩) (by assumption) ?_
  rotate_left
  · intro w hSw
    try dsimp only at hSw
    go_simp
    try with_reducible rfl
  simp only [Act.put, List.setIfInBounds_toArray, List.set_cons_zero, List.set_cons_succ, List.getElem_toArray, List.getElem_cons_zero, List.getElem_cons_succ]
  refine wpAnyH_take (i := 8) (v := ?_) rfl (by kernel_rfl) (by kernel_rfl) (by kernel_rfl) (fun _ _ _ h => h) (Or.inl ⟨by rfl, ?_⟩) (by assumption) ?_
  rotate_left
  · intro w hSw
    try dsimp only at hSw
    go_simp
    try with_reducible rfl
  simp only [Act.put, List.setIfInBounds_toArray, List.set_cons_zero, List.set_cons_succ, List.getElem_toArray, List.getElem_cons_zero, List.getElem_cons_succ]
  refine wpAnyH_ready (rs := [9]) (by kernel_rfl) (by simp) ?_
  refine AllReadyH.cons rfl (fun Kc hKc => ?_) AllReadyH.nil
  go_simp
  refine hKc.out _ _ ?_ (fun hHeld => ?_)
  · first | assumption | exact ⟨hHeld.1.kept hb', Nat.le_trans hHeld.2 hb'.size⟩ | exact ⟨hHeld.1.alloc _, by have := hHeld.2; simp; omega⟩
  clear hKc Kc
  refine wpAnyH_take (i := 10) (v := ?_) rfl (by kernel_rfl) (by kernel_rfl) (by kernel_rfl) (fun _ _ _ h => h) (Or.inl ⟨by rfl, ?_⟩) (by assumption) ?_
  rotate_left
  · intro w hSw
    try dsimp only at hSw
    go_simp
    try with_reducible rfl
  simp only [Act.put, List.setIfInBounds_toArray, List.set_cons_zero, List.set_cons_succ, List.getElem_toArray, List.getElem_cons_zero, List.getElem_cons_succ]
  refine wpAnyH_take (i := 11) (v := ?_) rfl (by kernel_rfl) (by kernel_rfl) (by kernel_rfl) (fun _ _ _ h => h) (Or.inl ⟨by rfl, ?_⟩) (by assumption) ?_
  rotate_left
  · intro w hSw
    try dsimp only at hSw
    go_simp
    try with_reducible rfl
  simp only [Act.put, List.setIfInBounds_toArray, List.set_cons_zero, List.set_cons_succ, List.getElem_toArray, List.getElem_cons_zero, List.getElem_cons_succ]
  refine wpAnyH_done (by kernel_rfl) ?_ _
  have HNEW := Lib.hid (Blk.new w4 119 #[.pointer (some ⟨G, 0, none⟩), .int .i64 b, .int .i64 r, .int .i64 d, .int .i64 m, .int .u64 s, .int .i64 l])
  have HAL : Hid (Below w4.heap.size w4 (w4.alloc (.cells #[.pointer (some ⟨G, 0, none⟩), .int .i64 b, .int .i64 r, .int .i64 d, .int .i64 m, .int .u64 s, .int .i64 l] 119))) := Lib.hid ((Below.refl _ _).alloc (Nat.le_refl _) _)
  have HG5 := Lib.hid (HG4.out.kept HAL.out)
  have HB5 := Lib.hid (btr HB4.out HAL.out)
  clear hHeld
  go_wp2_with fail
  go_ret2
  exact ⟨w4.heap.size, G, C, rfl, HB4.out.size, hGC.out.1, hGC.out.2, ⟨HNEW.out, HG5.out⟩, HB5.out⟩
end Go.Proofs.Ythbkljeibmkimaa

/-
  Levels behind an interface; the walk of level.New. Conditions: none beyond those stated at each theorem.
-/
namespace Go.Proofs.Ythbkljeibmkimaa
open Go.RowKit
set_option linter.unusedVariables false
set_option linter.unusedSimpArgs false

/-- how many cells a level has -/
def cellsN (b r d m l : Int) : Nat := if exactB b r d m l = true then (keysI b r d m l).toNat else r.toNat * d.toNat
/-- x is a level, an array or a sketch, and its cells read as zs -/
def LevIs (w : World) (x : Value) (A G C : Nat) (b r d m s l : Int) (zs : List Int) : Prop :=
  (exactB b r d m l = true ∧ x = .iface 101 (.pointer (some ⟨A, 0, none⟩)) ∧ ArrIs w A G C b r d m s l (keysI b r d m l).toNat zs) ∨
  (exactB b r d m l = false ∧ x = .iface 104 (.pointer (some ⟨A, 0, none⟩)) ∧ SkIs w A G C b r d m s l zs)
theorem LevIs.kept {w w' : World} {x : Value} {A G C : Nat} {b r d m s l : Int} {zs : List Int} (h : LevIs w x A G C b r d m s l zs) (hb : Below w.heap.size w w') : LevIs w' x A G C b r d m s l zs := by
  rcases h with ⟨h1, h2, h3⟩ | ⟨h1, h2, h3⟩
  · exact .inl ⟨h1, h2, h3.kept hb⟩
  · exact .inr ⟨h1, h2, h3.kept hb⟩
theorem LevIs.len {w : World} {x : Value} {A G C : Nat} {b r d m s l : Int} {zs : List Int} (h : LevIs w x A G C b r d m s l zs) : zs.length = cellsN b r d m l := by
  unfold cellsN
  rcases h with ⟨h1, h2, h3⟩ | ⟨h1, h2, h3⟩
  · rw [if_pos h1, h3.2.len, Nat.one_mul]
  · rw [h1]; simpa using h3.grid.len
theorem LevIs.fit {w : World} {x : Value} {A G C : Nat} {b r d m s l : Int} {zs : List Int} (h : LevIs w x A G C b r d m s l zs) : Fit zs := by
  rcases h with ⟨h1, h2, h3⟩ | ⟨h1, h2, h3⟩
  · exact h3.2.fit
  · exact h3.grid.fit
theorem LevIs.le {w : World} {x : Value} {A G C : Nat} {b r d m s l : Int} {zs : List Int} (h : LevIs w x A G C b r d m s l zs) : zs.length ≤ 1024 := by
  rcases h with ⟨h1, h2, h3⟩ | ⟨h1, h2, h3⟩
  · rw [h3.2.len]; exact Nat.mul_le_mul h3.2.rows h3.2.width
  · rw [h3.grid.len]; exact Nat.mul_le_mul h3.grid.rows h3.grid.width
/-- the block of the cells is of numbers -/
theorem LevIs.cells {w : World} {x : Value} {A G C : Nat} {b r d m s l : Int} {zs : List Int} (h : LevIs w x A G C b r d m s l zs) : ∃ cur, Blk w C 2 cur := by
  rcases h with ⟨h1, h2, h3⟩ | ⟨h1, h2, h3⟩
  · obtain ⟨cur, hc, -⟩ := h3.2.cells; exact ⟨cur, hc⟩
  · obtain ⟨cur, hc, -⟩ := h3.grid.cells; exact ⟨cur, hc⟩
/-- what changes the cells' block of another level alone leaves a level as it was -/
theorem LevIs.other {w w' : World} {x : Value} {A G C D : Nat} {b r d m s l : Int} {zs : List Int} {cur : Array Value} (h : LevIs w x A G C b r d m s l zs) (hg : w.grownBy w' (some D)) (hD : Blk w D 2 cur) (hne : C ≠ D) : LevIs w' x A G C b r d m s l zs := by
  rcases h with ⟨h1, h2, h3⟩ | ⟨h1, h2, h3⟩
  · obtain ⟨cap, hG, -⟩ := h3.2.fields
    exact .inl ⟨h1, h2, h3.grown hg (by simpa using h3.1.ne_ hD (by decide)) (by simpa using hG.ne_ hD (by decide)) (by simpa using hne)⟩
  · obtain ⟨cap, hG, -⟩ := h3.grid.fields
    exact .inr ⟨h1, h2, h3.grown hg (by simpa using h3.box.ne_ hD (by decide)) (by simpa using hG.ne_ hD (by decide)) (by simpa using hne)⟩
theorem keysI_pos {b r d m l : Int} (hr : rightB b r d m = true) (h0 : 0 ≤ l) (h1 : l ≤ b) : 0 < keysI b r d m l := by
  have hR := right_of hr
  rw [keysI_yes hr h0 h1]
  have := pow_le (b - l).toNat (by omega)
  omega
theorem cellsN_pos {b r d m l : Int} (hr : rightB b r d m = true) (h0 : 0 ≤ l) (h1 : l ≤ b) : 0 < cellsN b r d m l := by
  have hR := right_of hr
  have := keysI_pos hr h0 h1
  unfold cellsN
  split
  · omega
  · exact Nat.mul_pos (by omega) (by omega)
theorem cellsN_le {b r d m l : Int} (hr : rightB b r d m = true) : cellsN b r d m l ≤ 1024 := by
  have hR := right_of hr
  unfold cellsN
  split
  · rename_i h
    have := of_decide_eq_true h
    omega
  · exact Nat.mul_le_mul (show r.toNat ≤ 8 by omega) (show d.toNat ≤ 128 by omega)
def LvNewPost (w : World) (b r d m s l : Int) (e : Ending) (w' : World) : Prop :=
  ∃ x A G C, e = .returned (.tuple #[x, .int .i64 0]) ∧ w.heap.size ≤ C ∧ LevIs w' x A G C b r d m s l (List.replicate (cellsN b r d m l) 0) ∧ Below w.heap.size w w'
set_option maxRecDepth 100000 in
set_option maxHeartbeats 4000000 in
theorem lvnew_yes (b r d m s l : Int) (hr : rightB b r d m = true) (h0 : 0 ≤ l) (h1 : l ≤ b) (w : World) :
    Calls Try.prog 33 #[.agg #[.int .i64 b, .int .i64 r, .int .i64 d, .int .i64 m, .int .u64 s], .int .i64 l] w (LvNewPost w b r d m s l) := by
  have PE := fun w => exact_any b r d m s l w
  obtain ⟨g1, hb1, hsz1⟩ := news1 w (.cells #[.int .i64 b, .int .i64 r, .int .i64 d, .int .i64 m, .int .u64 s] 24)
  have hx1 : Blk _ w.heap.size 24 #[.int .i64 b, .int .i64 r, .int .i64 d, .int .i64 m, .int .u64 s] := g1
  have HB1 := Lib.hid hb1
  have HX1 := Lib.hid hx1
  clear g1 hb1 hsz1
  cases he : exactB b r d m l
  · rw [he] at PE
    have PE := Lib.hid PE
    have PS := Lib.hid (fun w => sknew_yes b r d m s l hr h0 h1 w)
    have HEX := Lib.hid he
    have HCN : Hid (cellsN b r d m l = r.toNat * d.toNat) := Lib.hid (by unfold cellsN; rw [he]; simp)
    clear he hr h0 h1
    go_enter Try.func33, Try.ntmps33
    go_wp2_with (refine wpList_load_row rfl 24 _ rfl w.heap.size rfl 24 _ (0, 0) _ hx1 Try.underlying24 rfl (by kernel_rfl) ?_)
    with_reducible refine (PE.out _).mono ?_
    rintro e w2 ⟨rfl, hb⟩
    have HB2 := Lib.hid (btr HB1.out hb)
    have HX2 := Lib.hid (HX1.out.kept hb)
    clear hb hx1
    go_wp2_with (refine wpList_load_row rfl 24 _ rfl w.heap.size rfl 24 _ (0, 0) _ HX2.out Try.underlying24 rfl (by kernel_rfl) ?_)
    with_reducible refine (PS.out _).mono ?_
    rintro e w3 ⟨A, G, C, rfl, hA, hG, hC, hsk, hb⟩
    have HB3 := Lib.hid (btr HB2.out hb)
    have HSK := Lib.hid hsk
    have HC3 : Hid (w.heap.size ≤ C) := Lib.hid (Nat.le_trans HB2.out.size hC)
    clear hb hsk hA hG hC
    go_wp2
    go_ret2
    exact ⟨_, A, G, C, rfl, HC3.out, .inr ⟨HEX.out, rfl, by rw [HCN.out]; exact HSK.out⟩, HB3.out⟩
  · rw [he] at PE
    have PE := Lib.hid PE
    have PS := Lib.hid (fun w => exnew_yes b r d m s l he w)
    have HEX := Lib.hid he
    have HCN : Hid (cellsN b r d m l = 1 * (keysI b r d m l).toNat) := Lib.hid (by unfold cellsN; rw [he]; simp)
    clear he hr h0 h1
    go_enter Try.func33, Try.ntmps33
    go_wp2_with (refine wpList_load_row rfl 24 _ rfl w.heap.size rfl 24 _ (0, 0) _ hx1 Try.underlying24 rfl (by kernel_rfl) ?_)
    with_reducible refine (PE.out _).mono ?_
    rintro e w2 ⟨rfl, hb⟩
    have HB2 := Lib.hid (btr HB1.out hb)
    have HX2 := Lib.hid (HX1.out.kept hb)
    clear hb hx1
    go_wp2_with (refine wpList_load_row rfl 24 _ rfl w.heap.size rfl 24 _ (0, 0) _ HX2.out Try.underlying24 rfl (by kernel_rfl) ?_)
    with_reducible refine (PS.out _).mono ?_
    rintro e w3 ⟨A, G, C, rfl, hA, hG, hC, hsk, hb⟩
    have HB3 := Lib.hid (btr HB2.out hb)
    have HSK := Lib.hid hsk
    have HC3 : Hid (w.heap.size ≤ C) := Lib.hid (Nat.le_trans HB2.out.size hC)
    clear hb hsk hA hG hC
    go_wp2
    go_ret2
    exact ⟨_, A, G, C, rfl, HC3.out, .inl ⟨HEX.out, rfl, by rw [HCN.out]; exact HSK.out⟩, HB3.out⟩
end Go.Proofs.Ythbkljeibmkimaa

/-
  The walks of package field (program) and gaugerref01 (reference): each function returns what FldB's plain functions say, and leaves the world as it was. Conditions: the arguments fit 64 bits.
-/
namespace Go.Proofs
open Go.Shelf
def Try.lays264_ren : Go.Shelf.Ren := ⟨fun | 264 => 113 | n => n, fun | 53 => 22 | 46 => 40 | n => n, fun | n => n⟩
theorem Try.lays264 : Go.Proofs.Lays.n264 Try.prog Try.lays264_ren := {
  mixed := by kernel_rfl
  f264 := Try.func113.trans (congrArg some (by kernel_rfl))
  t46 := Try.underlying40
  a46 := Try.isAgg40
  z46 := Try.sizeOf40
  v46 := Try.zeroValue40
  t53 := Try.underlying22
  a53 := Try.isAgg22
  z53 := Try.sizeOf22
  v53 := Try.zeroValue22 }
open Go.RowKit Go.Lib in
theorem Try.bits_Mul64 (x y : Nat) (hx : x < 18446744073709551616) (hy : y < 18446744073709551616) (w : World) :
    Calls Try.prog 113 #[.int .u64 x, .int .u64 y] w fun e w' => e = .returned (.tuple #[.int .u64 ((x * y / 18446744073709551616 : Nat) : Int), .int .u64 ((x * y % 18446744073709551616 : Nat) : Int)]) ∧ w' = w := Any.bits_Mul64 Try.lays264 x y hx hy w
end Go.Proofs
namespace Go.Proofs.Ythbkljeibmkimaa
open Go.RowKit

theorem ret_u64 {a b : Int} (h : a = b) : Ending.returned (.int .u64 a) = .returned (.int .u64 b) := by rw [h]

theorem fold_any (a : Int) (h0 : 0 ≤ a) (h1 : a ≤ 18446744073709551615) (w : World) :
    Calls Try.prog 112 #[.int .u64 a] w fun e w' => e = .returned (.int .u64 (ffold a)) ∧ w = w' := by
  obtain ⟨hs1, hs2⟩ := fold_step a h0 h1
  have e1 := and_P a h0 h1
  by_cases c : 2305843009213693951 ≤ a % 2305843009213693952 + a / 2305843009213693952
  · have H := Lib.hid (hs1 c)
    clear hs1 hs2
    go_enter Try.func112, Try.ntmps112
    go_wp2
    go_ret
    exact ⟨ret_u64 H.out, rfl⟩
  · have H := Lib.hid (hs2 (by omega))
    clear hs1 hs2
    go_enter Try.func112, Try.ntmps112
    go_wp2
    go_ret
    exact ⟨ret_u64 H.out, rfl⟩

theorem add_any (a b : Int) (h0 : 0 ≤ a) (h1 : a ≤ 18446744073709551615) (g0 : 0 ≤ b) (g1 : b ≤ 18446744073709551615) (w : World) :
    Calls Try.prog 108 #[.int .u64 a, .int .u64 b] w fun e w' => e = .returned (.int .u64 (fadd a b)) ∧ w = w' := by
  obtain ⟨b1, b2⟩ := ffold_bd a
  obtain ⟨b3, b4⟩ := ffold_bd b
  go_enter Try.func108, Try.ntmps108
  go_wp2_with (go_at_call 112; refine (fold_any _ (by omega) (by omega) _).mono ?_; rintro e w' ⟨rfl, rfl⟩)
  go_ret
  exact ⟨ret_u64 (fadd_of a b), rfl⟩

theorem mul_any (a b : Int) (h0 : 0 ≤ a) (h1 : a ≤ 18446744073709551615) (g0 : 0 ≤ b) (g1 : b ≤ 18446744073709551615) (w : World) :
    Calls Try.prog 109 #[.int .u64 a, .int .u64 b] w fun e w' => e = .returned (.int .u64 (fmul a b)) ∧ w = w' := by
  obtain ⟨b1, b2⟩ := ffold_bd a
  obtain ⟨b3, b4⟩ := ffold_bd b
  obtain ⟨x, hx⟩ := Int.eq_ofNat_of_zero_le b1
  obtain ⟨y, hy⟩ := Int.eq_ofNat_of_zero_le b3
  have hh := hi_bd x y a b hx.symm hy.symm
  have hl : x * y % 18446744073709551616 < 18446744073709551616 := Nat.mod_lt _ (by omega)
  have H := Lib.hid (fmul_of x y a b hx.symm hy.symm)
  have Ho := or_shift (x * y / 18446744073709551616) (x * y % 18446744073709551616) hh hl
  have Ha := and_P ((x * y % 18446744073709551616 : Nat) : Int) (by omega) (by omega)
  have HX := Lib.hid hx
  have HY := Lib.hid hy
  clear hx hy
  go_enter Try.func109, Try.ntmps109
  go_wp2_with fail
  refine (fold_any a h0 h1 _).mono ?_; rintro e w' ⟨rfl, rfl⟩
  go_wp2_with fail
  refine (fold_any b g0 g1 _).mono ?_; rintro e w' ⟨rfl, rfl⟩
  go_wp2_with fail
  rw [HX.out, HY.out]
  refine (Try.bits_Mul64 x y (by have := HX.out; omega) (by have := HY.out; omega) _).mono ?_
  rintro e w' ⟨rfl, rfl⟩
  generalize x * y / 18446744073709551616 = h at *
  generalize x * y % 18446744073709551616 = l at *
  go_wp2_with fail
  refine (add_any _ _ (by omega) (by omega) (by omega) (by omega) _).mono ?_; rintro e w' ⟨rfl, rfl⟩
  go_wp2_with fail
  go_ret
  exact ⟨ret_u64 H.out, rfl⟩
end Go.Proofs.Ythbkljeibmkimaa

/-
  The walks of the loops of package field and of gaugerref01: products by doubling, powers, inverses by Euclid's steps. Conditions: the arguments fit 64 bits.
-/
namespace Go.Proofs.Ythbkljeibmkimaa
open Go.RowKit
set_option linter.unusedVariables false

theorem rmul_step (O X Y : Int) (h : 0 ≤ Y) :
    (Y % 2 = 1 → ((O + X) % P + (X + X) % P * (Y / 2)) % P = (O + X * Y) % P) ∧ (Y % 2 = 0 → (O + (X + X) % P * (Y / 2)) % P = (O + X * Y) % P) := by
  have key : ∀ Z : Int, (Z + (X + X) % P * (Y / 2)) % P = (Z + X * (2 * (Y / 2))) % P := by
    intro Z
    rw [← add_r Z ((X + X) % P * (Y / 2)), mul_l, add_r]
    congr 2
    rw [← Int.mul_assoc, show X + X = X * 2 by omega]
  constructor
  · intro e
    rw [key, add_l, Int.add_assoc]
    congr 2
    rw [show X * Y = X * (1 + 2 * (Y / 2)) by congr 1; omega, Int.mul_add, Int.mul_one]
  · intro e
    rw [key]
    congr 3
    omega

def RMulRel (a b O X Y : Int) : Prop := 0 ≤ O ∧ O ≤ 2305843009213693950 ∧ 0 ≤ X ∧ X ≤ 2305843009213693950 ∧ 0 ≤ Y ∧ Y ≤ 2305843009213693950 ∧ (O + X * Y) % P = fmul a b

def PowRel (a n O A N : Int) : Prop := 0 ≤ O ∧ O ≤ 2305843009213693950 ∧ 0 ≤ A ∧ A ≤ 18446744073709551615 ∧ 0 ≤ N ∧ N ≤ 18446744073709551615 ∧ fmul O (fpow' A N.toNat) = fpw a n

theorem pow_step (O A : Int) (N : Int) (h : 0 ≤ N) :
    (N % 2 = 1 → fmul (fmul O A) (fpow' (fmul A A) (N / 2).toNat) = fmul O (fpow' A N.toNat)) ∧ (N % 2 = 0 → fmul O (fpow' (fmul A A) (N / 2).toNat) = fmul O (fpow' A N.toNat)) := by
  constructor
  · intro e
    rw [fpow'_sq, fmul_assoc, fmul_comm A, ← fpow'_succ]
    congr 2; omega
  · intro e
    rw [fpow'_sq]
    congr 2; omega

/-! ### The reference's inverse: by Euclid's steps -/
def InvRel (a R0 R1 S0 S1 : Int) : Prop :=
  0 ≤ R0 ∧ R0 ≤ 2305843009213693951 ∧ 0 ≤ R1 ∧ R1 ≤ 2305843009213693951 ∧ 0 ≤ S0 ∧ S0 ≤ 2305843009213693950 ∧ 0 ≤ S1 ∧ S1 ≤ 2305843009213693950 ∧
  ffold R0 = fmul S0 a ∧ ffold R1 = fmul S1 a ∧ (ffold a ≠ 0 → Nat.gcd R0.toNat R1.toNat = 1)

theorem inv_start (a : Int) : InvRel a 2305843009213693951 (a % 2305843009213693951) 0 1 := by
  refine ⟨by omega, by omega, by omega, by omega, by omega, by omega, by omega, by omega, ?_, ?_, ?_⟩
  · rw [fmul_comm, fmul_zero]; rfl
  · rw [one_fmul, ← P_eq]; exact mod_idem a
  · intro ha
    have h1 := inv_mul (ffold a) (by rw [ffold_fold]; exact ha)
    have hb := ffold_bd a
    have hc := finv_bd (ffold a)
    have e : a % 2305843009213693951 = ffold a := rfl
    rw [e]
    generalize ffold a = x at *
    generalize finv x = y at *
    obtain ⟨x, rfl⟩ := Int.eq_ofNat_of_zero_le hb.1
    obtain ⟨y, rfl⟩ := Int.eq_ofNat_of_zero_le hc.1
    unfold fmul at h1
    have h2 : (x * y) % PN = 1 := by
      have : ((x * y % PN : Nat) : Int) = 1 := by rw [Int.natCast_emod, Int.natCast_mul, ← P_nat]; exact h1
      omega
    rw [Int.toNat_natCast, show (2305843009213693951 : Int).toNat = PN from rfl]
    refine Nat.dvd_one.1 ?_
    have d1 : Nat.gcd PN x ∣ x * y := Nat.dvd_trans (Nat.gcd_dvd_right _ _) (Nat.dvd_mul_right _ _)
    have d2 : Nat.gcd PN x ∣ PN := Nat.gcd_dvd_left _ _
    have := (Nat.dvd_mod_iff d2).2 d1
    rw [h2] at this
    exact this

theorem inv_step (a R0 R1 S0 S1 : Int) (h : InvRel a R0 R1 S0 S1) (hp : 0 < R1) :
    InvRel a R1 (R0 - R0 / R1 * R1) S1 (fsub S0 (fmul (R0 / R1) S1)) := by
  obtain ⟨a0, a1, b0, b1, c0, c1, d0, d1, e1, e2, e3⟩ := h
  have hm : R0 - R0 / R1 * R1 = R0 % R1 := by rw [Int.emod_def, Int.mul_comm]
  have m0 : 0 ≤ R0 % R1 := Int.emod_nonneg _ (by omega)
  have m1 : R0 % R1 < R1 := Int.emod_lt_of_pos _ hp
  have fb := fsub_bd S0 (fmul (R0 / R1) S1)
  refine ⟨b0, b1, by omega, by omega, d0, d1, fb.1, fb.2, e2, ?_, ?_⟩
  · have : ffold (R0 - R0 / R1 * R1) = fsub (ffold R0) (fmul (R0 / R1) (ffold R1)) := by
      rw [fsub_fold_l, fmul_fold_r]
      unfold ffold fsub fmul; rw [sub_r]
    rw [this, e1, e2, fmul_comm S0, fmul_comm S1, fmul_comm _ a, fmul_sub, fmul_comm a S1, ← fmul_assoc, fmul_comm (fmul _ _) a]
  · intro ha
    have g := e3 ha
    rw [hm]
    obtain ⟨x, rfl⟩ := Int.eq_ofNat_of_zero_le a0
    obtain ⟨y, rfl⟩ := Int.eq_ofNat_of_zero_le b0
    have : ((x : Int) % (y : Int)).toNat = x % y := by rw [← Int.natCast_emod]; rfl
    rw [this]
    rw [Int.toNat_natCast, Int.toNat_natCast] at *
    rw [Nat.gcd_comm, Nat.gcd_rec, Nat.gcd_comm] at g
    exact g

theorem inv_end (a R0 S0 S1 : Int) (h : InvRel a R0 0 S0 S1) (ha : ffold a ≠ 0) : S0 = finv a := by
  obtain ⟨a0, a1, b0, b1, c0, c1, d0, d1, e1, e2, e3⟩ := h
  have g := e3 ha
  rw [show (0 : Int).toNat = 0 from rfl, Nat.gcd_zero_right] at g
  have : R0 = 1 := by omega
  subst this
  rw [inv_unique a S0 (by rw [fmul_comm, ← e1]; rfl), ffold_of _ c0 (by omega)]

end Go.Proofs.Ythbkljeibmkimaa

/-
  The walks of package hash (program) and gaugerref04 (reference). Conditions: the arguments fit their kinds.
-/
namespace Go.Proofs.Ythbkljeibmkimaa
open Go.RowKit
set_option linter.unusedVariables false
set_option linter.unusedSimpArgs false

theorem bel_trans' {w w1 w2 : World} (h : Below w.heap.size w w1) (k : Below w1.heap.size w1 w2) : Below w.heap.size w w2 := h.trans (k.mono h.size)
theorem ret_i64 {a b : Int} (h : a = b) : Ending.returned (.int .i64 a) = .returned (.int .i64 b) := by rw [h]

theorem at_any (a b x : Int) (h0 : 0 ≤ a) (h1 : a ≤ 18446744073709551615) (g0 : 0 ≤ b) (g1 : b ≤ 18446744073709551615) (k0 : 0 ≤ x) (k1 : x ≤ 18446744073709551615) (w : World) :
    Calls Try.prog 104 #[.agg #[.int .u64 a, .int .u64 b], .int .u64 x] w fun e w' => e = .returned (.int .u64 (lineI a b x)) ∧ Below w.heap.size w w' := by
  have b1 := fmul_bd a x
  go_enter Try.func104, Try.ntmps104
  go_wp2_with fail
  go_quiet ((first
    | (go_at_call 109; exact Calls.quiet_of_same ((mul_any _ _ (by omega) (by omega) (by omega) (by omega) _).mono fun e w' ⟨p, q⟩ => ⟨p, q.symm⟩))
    | (go_at_call 108; exact Calls.quiet_of_same ((add_any _ _ (by omega) (by omega) (by omega) (by omega) _).mono fun e w' ⟨p, q⟩ => ⟨p, q.symm⟩))))
  go_wp2
  go_ret
  exact ⟨ret_u64 rfl, below_drewN ((Below.refl _ _).alloc (Nat.le_refl _) _) _⟩


theorem bucket_any (a b x n : Int) (h0 : 0 ≤ a) (h1 : a ≤ 18446744073709551615) (g0 : 0 ≤ b) (g1 : b ≤ 18446744073709551615) (k0 : 0 ≤ x) (k1 : x ≤ 18446744073709551615) (n0 : 1 ≤ n) (n1 : n ≤ 9223372036854775807) (w : World) :
    Calls Try.prog 97 #[.int .u64 a, .int .u64 b, .int .u64 x, .int .i64 n] w fun e w' => e = .returned (.int .i64 (lineI a b x % n)) ∧ Below w.heap.size w w' := by
  have b1 := lineI_bd a b x
  have m0 : 0 ≤ lineI a b x % n := Int.emod_nonneg _ (by omega)
  have m1 : lineI a b x % n < n := Int.emod_lt_of_pos _ (by omega)
  go_enter Try.func97, Try.ntmps97
  go_wp2_with (go_at_call 104; refine (at_any a b x h0 h1 g0 g1 k0 k1 _).mono ?_; rintro e w' ⟨rfl, hb⟩)
  go_ret
  exact ⟨ret_i64 rfl, hb⟩
theorem bucket_none (a b x n : Int) (n0 : n < 1) (w : World) :
    Calls Try.prog 97 #[.int .u64 a, .int .u64 b, .int .u64 x, .int .i64 n] w fun e w' => e = .returned (.int .i64 (-1)) ∧ w = w' := by
  go_enter Try.func97, Try.ntmps97
  go_wp2
  go_ret
  exact ⟨rfl, rfl⟩



end Go.Proofs.Ythbkljeibmkimaa

/-
  The walks of package seeds: Mix, Draw and Pair (the program). Conditions: the arguments fit their kinds.
-/
namespace Go.Proofs.Ythbkljeibmkimaa
open Go.RowKit
set_option linter.unusedVariables false
set_option linter.unusedSimpArgs false

theorem ret_u64s {a b : Int} (h : a = b) : Ending.returned (.int .u64 a) = .returned (.int .u64 b) := by rw [h]
theorem bel_trans {w w1 w2 : World} (h : Below w.heap.size w w1) (k : Below w1.heap.size w1 w2) : Below w.heap.size w w2 := h.trans (k.mono h.size)

theorem steps_any (w : World) :
    Calls Try.prog 111 #[] w fun e w' => e = .returned (.agg #[.int .u64 30, .int .u64 13787848793156543929, .int .u64 27, .int .u64 10723151780598845931, .int .u64 31, .int .u64 1]) ∧ Below w.heap.size w w' := by
  go_enter Try.func111, Try.ntmps111
  go_wp2
  exact bodyPost_ret (v := .agg #[.int .u64 30, .int .u64 13787848793156543929, .int .u64 27, .int .u64 10723151780598845931, .int .u64 31, .int .u64 1]) (by simp [results, Try.results111, go_sem]) rfl ⟨rfl, (Below.refl _ _).alloc (Nat.le_refl _) _⟩
theorem idx0 : ∀ w, (Instr.index 171 (.agg #[.int .u64 30, .int .u64 13787848793156543929, .int .u64 27, .int .u64 10723151780598845931, .int .u64 31, .int .u64 1]) (.int .i64 0)).run Try.prog w = .ok (.agg #[.int .u64 30, .int .u64 13787848793156543929]) w := fun _ => by kernel_rfl
theorem idx1 : ∀ w, (Instr.index 171 (.agg #[.int .u64 30, .int .u64 13787848793156543929, .int .u64 27, .int .u64 10723151780598845931, .int .u64 31, .int .u64 1]) (.int .i64 1)).run Try.prog w = .ok (.agg #[.int .u64 27, .int .u64 10723151780598845931]) w := fun _ => by kernel_rfl
theorem idx2 : ∀ w, (Instr.index 171 (.agg #[.int .u64 30, .int .u64 13787848793156543929, .int .u64 27, .int .u64 10723151780598845931, .int .u64 31, .int .u64 1]) (.int .i64 2)).run Try.prog w = .ok (.agg #[.int .u64 31, .int .u64 1]) w := fun _ => by kernel_rfl

theorem mix_any (a : Int) (h0 : 0 ≤ a) (h1 : a ≤ 18446744073709551615) (w : World) :
    Calls Try.prog 107 #[.int .u64 a] w fun e w' => e = .returned (.int .u64 (mixI a)) ∧ Below w.heap.size w w' := by
  have H := Lib.hid (mix_walk a h0 h1)
  have i0 := idx0
  have i1 := idx1
  have i2 := idx2
  go_enter Try.func107, Try.ntmps107
  go_wp2_with (go_at_call 111; refine (steps_any _).mono ?_; rintro e w' ⟨rfl, hb⟩)
  refine wp_loop_rounds 4 ?_
  rw [rounds_succ]
  go_wp2
  rw [rounds_succ]
  go_wp2
  rw [rounds_succ]
  go_wp2
  rw [rounds_succ]
  go_wp2
  go_ret
  refine ⟨ret_u64s H.out, ?_⟩
  have hs := hb.size
  exact ((hb.alloc (by omega) _).alloc (by simp; omega) _).alloc (by simp; omega) _

theorem draw_any (s i : Int) (h0 : 0 ≤ s) (h1 : s ≤ 18446744073709551615) (g0 : 0 ≤ i) (g1 : i ≤ 18446744073709551615) (w : World) :
    Calls Try.prog 103 #[.int .u64 s, .int .u64 i] w fun e w' => e = .returned (.int .u64 (drawI s i)) ∧ Below w.heap.size w w' := by
  have HE : Hid (mixI (IntKind.u64.wrap (s + IntKind.u64.wrap (IntKind.u64.wrap (i + 1) * 11400714819323198485))) = drawI s i) := Lib.hid (by
    unfold mixI drawI drawB; rw [bv_wrap, bv_add, bv_wrap, bv_mul, bv_wrap, bv_add]; rfl)
  have hw : 0 ≤ IntKind.u64.wrap (s + IntKind.u64.wrap (IntKind.u64.wrap (i + 1) * 11400714819323198485)) ∧ IntKind.u64.wrap (s + IntKind.u64.wrap (IntKind.u64.wrap (i + 1) * 11400714819323198485)) ≤ 18446744073709551615 := by rw [wrap_bv]; exact nv_bd _
  have HW := Lib.hid hw
  clear hw
  go_enter Try.func103, Try.ntmps103
  go_wp2_with fail
  refine (mix_any _ HW.out.1 HW.out.2 _).mono ?_
  rintro e w' ⟨rfl, hb⟩
  go_wp2_with fail
  go_ret
  exact ⟨ret_u64s HE.out, hb⟩

theorem ret_u64s2 {a b c d : Int} (h : a = b) (k : c = d) : Ending.returned (.tuple #[.int .u64 a, .int .u64 c]) = .returned (.tuple #[.int .u64 b, .int .u64 d]) := by rw [h, k]

theorem pair_any (s l r : Int) (h0 : 0 ≤ s) (h1 : s ≤ 18446744073709551615) (l0 : 0 ≤ l) (l1 : l ≤ 59) (r0 : 0 ≤ r) (r1 : r ≤ 7) (w : World) :
    Calls Try.prog 96 #[.int .u64 s, .int .i64 l, .int .i64 r] w fun e w' => e = .returned (.tuple #[.int .u64 (pairA s l r), .int .u64 (pairB s l r)]) ∧ Below w.heap.size w w' := by
  have b1 := drawI_bd s (2 * (l * 8 + r))
  have b2 := drawI_bd s (2 * (l * 8 + r) + 1)
  have e1 : Hid (2 * (l * 8 + r) = pairN l r) := Lib.hid (by unfold pairN; omega)
  go_enter Try.func96, Try.ntmps96
  go_wp2_with fail
  refine (draw_any _ _ h0 h1 (by omega) (by omega) _).mono ?_
  rintro e w' ⟨rfl, hb⟩
  go_wp2_with fail
  refine (draw_any _ _ h0 h1 (by omega) (by omega) _).mono ?_
  rintro e w2 ⟨rfl, hb2⟩
  go_wp2_with fail
  go_ret2
  refine ⟨ret_u64s2 ?_ ?_, bel_trans hb hb2⟩
  · rw [e1.out]; rfl
  · rw [e1.out]; rfl

theorem pair_none (s l r : Int) (h : l < 0 ∨ 59 < l ∨ r < 0 ∨ 7 < r) (w : World) :
    Calls Try.prog 96 #[.int .u64 s, .int .i64 l, .int .i64 r] w fun e w' => e = .returned (.tuple #[.int .u64 0, .int .u64 0]) ∧ w = w' := by
  by_cases c1 : l < 0
  · clear h
    go_enter Try.func96, Try.ntmps96
    go_wp2
    go_ret2
    exact ⟨rfl, rfl⟩
  · by_cases c2 : 59 < l
    · clear h
      go_enter Try.func96, Try.ntmps96
      go_wp2
      go_ret2
      exact ⟨rfl, rfl⟩
    · by_cases c3 : r < 0
      · clear h
        go_enter Try.func96, Try.ntmps96
        go_wp2
        go_ret2
        exact ⟨rfl, rfl⟩
      · have c4 : 7 < r := by omega
        clear h
        go_enter Try.func96, Try.ntmps96
        go_wp2
        go_ret2
        exact ⟨rfl, rfl⟩
end Go.Proofs.Ythbkljeibmkimaa

/-
  The walks of shape.Columns with its closure. Conditions: the arguments fit their kinds.
-/
namespace Go.Proofs.Ythbkljeibmkimaa
open Go.RowKit
set_option linter.unusedVariables false
set_option linter.unusedSimpArgs false

theorem rowKept {w w' : World} {b : Nat} {t : TypeId} {n : Nat} {f : Nat → Value} (h : w.rowIs b t n f) (hb : Below w.heap.size w w') : w'.rowIs b t n f := h.of_block (hb.block b h.lt)
theorem ret_i64c {a b : Int} (h : a = b) : Ending.returned (.int .i64 a) = .returned (.int .i64 b) := by rw [h]

/-- the three boxes that the closure of Columns has captured: the config, the level, the key -/
structure Caps (w : World) (A B C : Nat) (b r d m s l k : Int) : Prop where
  cfg : Blk w A 24 #[.int .i64 b, .int .i64 r, .int .i64 d, .int .i64 m, .int .u64 s]
  lev : Blk w B 3 #[.int .i64 l]
  key : Blk w C 22 #[.int .u64 k]
theorem Caps.kept {w w' : World} {A B C : Nat} {b r d m s l k : Int} (h : Caps w A B C b r d m s l k) (hb : Below w.heap.size w w') : Caps w' A B C b r d m s l k :=
  ⟨h.cfg.kept hb, h.lev.kept hb, h.key.kept hb⟩

theorem Caps.cells {w : World} {A B C : Nat} {b r d m s l k : Int} (h : Caps w A B C b r d m s l k) :
    (w.cell? ⟨A, 0, none⟩ = some (.int .i64 b) ∧ w.cell? ⟨A, 1, none⟩ = some (.int .i64 r) ∧ w.cell? ⟨A, 2, none⟩ = some (.int .i64 d) ∧ w.cell? ⟨A, 3, none⟩ = some (.int .i64 m) ∧ w.cell? ⟨A, 4, none⟩ = some (.int .u64 s)) ∧
    w.cell? ⟨B, 0, none⟩ = some (.int .i64 l) ∧ w.cell? ⟨C, 0, none⟩ = some (.int .u64 k) := ⟨box_cells h.cfg, h.lev.cell 0, h.key.cell 0⟩
theorem Caps.drew {w : World} {A B C : Nat} {b r d m s l k : Int} (h : Caps w A B C b r d m s l k) : Caps w.drew A B C b r d m s l k := ⟨h.cfg, h.lev, h.key⟩
theorem col1_any (A B C : Nat) (b r d m s l k i : Int) (s0 : 0 ≤ s) (s1 : s ≤ 18446744073709551615) (k0 : 0 ≤ k) (k1 : k ≤ 18446744073709551615) (l0 : 0 ≤ l) (l1 : l ≤ 59) (i0 : 0 ≤ i) (i1 : i ≤ 7) (d0 : 1 ≤ d) (d1 : d ≤ 9223372036854775807) (w : World)
    (hC : Caps w A B C b r d m s l k) :
    Calls Try.prog 95 #[.int .i64 i, .pointer (some ⟨A, 0, none⟩), .pointer (some ⟨B, 0, none⟩), .pointer (some ⟨C, 0, none⟩)] w fun e w' => e = .returned (.int .i64 (colI d s l k i)) ∧ Below w.heap.size w w' := by
  have a2 := hC.cfg.cell 2
  have a4 := hC.cfg.cell 4
  have bl := hC.lev.cell 0
  have ck := hC.key.cell 0
  simp at a2 a4 bl ck
  have HC := Lib.hid hC
  clear hC
  obtain ⟨p0, p1⟩ := pairA_bd s l i
  obtain ⟨q0, q1⟩ := pairB_bd s l i
  go_enter Try.func95, Try.ntmps95
  go_wp2_with fail
  refine (pair_any s l i s0 s1 l0 l1 i0 i1 _).mono ?_; rintro e w1 ⟨rfl, hb⟩
  have hC1 := HC.out.kept hb
  have c2 := hC1.cfg.cell 2
  have ck1 := hC1.key.cell 0
  simp at c2 ck1
  go_wp2_with fail
  refine (bucket_any _ _ k d (by omega) (by omega) (by omega) (by omega) k0 k1 d0 d1 _).mono ?_; rintro e w2 ⟨rfl, hb2⟩
  go_wp2
  go_ret
  exact ⟨ret_i64c rfl, btr hb hb2⟩

def ColsPost (w : World) (R : Nat) (d s l k : Int) (e : Ending) (w' : World) : Prop :=
  ∃ g, e = .returned (.slice (some ⟨g, 0, none⟩) R R) ∧ w.heap.size ≤ g ∧ w'.rowIs g 3 R (fun i => .int .i64 (colI d s l k (i : Int))) ∧ Below w.heap.size w w'

theorem Try.infoInt : (Try.prog.info? 3).map (fun i => (i.zero, i.size, i.bytes)) = some (some (.int .i64 0), 1, 8) := by kernel_rfl

theorem cols_any (b d m s l k : Int) (R : Nat) (s0 : 0 ≤ s) (s1 : s ≤ 18446744073709551615) (k0 : 0 ≤ k) (k1 : k ≤ 18446744073709551615) (hk : k < keysI b (R : Int) d m l) (w : World) :
    Calls Try.prog 89 #[.agg #[.int .i64 b, .int .i64 (R : Int), .int .i64 d, .int .i64 m, .int .u64 s], .int .i64 l, .int .u64 k] w (ColsPost w R d s l k) := by
  obtain ⟨j0, j1⟩ := keysI_bd b (R : Int) d m l
  have HR := keys_right (b := b) (r := (R : Int)) (d := d) (m := m) (l := l) (by omega)
  obtain ⟨d0, d1, b0, b1, l0, l1, r0, r1, _⟩ := HR
  have e1 : decide (keysI b (R : Int) d m l ≤ k) = false := decide_eq_false (by omega)
  have hnew0 := Blk.new w 24 #[.int .i64 b, .int .i64 (R : Int), .int .i64 d, .int .i64 m, .int .u64 s]
  go_enter Try.func89, Try.ntmps89
  go_wp2_with fail
  have hcap : Caps (((w.alloc (.cells #[.int .i64 b, .int .i64 (R : Int), .int .i64 d, .int .i64 m, .int .u64 s] 24)).alloc (.cells #[.int .i64 l] 3)).alloc (.cells #[.int .u64 k] 22)) w.heap.size (w.heap.size + 1) (w.heap.size + 1 + 1) b (R : Int) d m s l k := by
    refine ⟨((Blk.new _ _ _).alloc _).alloc _, Blk.alloc (by have := Blk.new (w.alloc (.cells #[.int .i64 b, .int .i64 (R : Int), .int .i64 d, .int .i64 m, .int .u64 s] 24)) 3 #[.int .i64 l]; simpa using this) _, ?_⟩
    have := Blk.new ((w.alloc (.cells #[.int .i64 b, .int .i64 (R : Int), .int .i64 d, .int .i64 m, .int .u64 s] 24)).alloc (.cells #[.int .i64 l] 3)) 22 #[.int .u64 k]
    simpa using this
  have hbel : Below w.heap.size w (((w.alloc (.cells #[.int .i64 b, .int .i64 (R : Int), .int .i64 d, .int .i64 m, .int .u64 s] 24)).alloc (.cells #[.int .i64 l] 3)).alloc (.cells #[.int .u64 k] 22)) :=
    (((Below.refl _ _).alloc (Nat.le_refl _) _).alloc (by simp) _).alloc (by simp; omega) _
  generalize (((w.alloc (.cells #[.int .i64 b, .int .i64 (R : Int), .int .i64 d, .int .i64 m, .int .u64 s] 24)).alloc (.cells #[.int .i64 l] 3)).alloc (.cells #[.int .u64 k] 22)) = wz at *
  have hsz := hbel.size
  generalize hA : w.heap.size = A at *
  generalize hB : A + 1 = B at *
  generalize hC : B + 1 = C at *
  obtain ⟨n, hn⟩ : ∃ n, n = A := ⟨_, rfl⟩
  have hbel : Below n w wz := by rw [hn]; exact hbel
  have HN := Lib.hid (hn.trans hA.symm)
  have hnw : n ≤ w.heap.size := by omega
  clear hA hB hC hn
  have HE := Lib.hid e1
  refine wp_region_held_drew (S := fun w' => Caps w' A B C b (R : Int) d m s l k ∧ Below n w w') (by kernel_rfl) (by exact ⟨hcap.drew, hbel.drew⟩) (fun hHeld => ?_)
  refine wpAnyH_take (i := 0) (v := ?_) rfl (by kernel_rfl) (by kernel_rfl) (by kernel_rfl) (fun _ _ _ h => h) (Or.inl ⟨by rfl, ?_⟩) (by assumption) ?_
  rotate_left
  · intro w hSw
    obtain ⟨⟨q0, q1, q2, q3, q4⟩, qb, qk⟩ := Caps.cells hSw.1
    go_simp
    try with_reducible rfl
  simp only [Act.put, List.setIfInBounds_toArray, List.set_cons_zero, List.set_cons_succ, List.getElem_toArray, List.getElem_cons_zero, List.getElem_cons_succ]
  refine wpAnyH_take (i := 1) (v := ?_) rfl (by kernel_rfl) (by kernel_rfl) (by kernel_rfl) (fun _ _ _ h => h) (Or.inl ⟨by rfl, ?_⟩) (by assumption) ?_
  rotate_left
  · intro w hSw
    obtain ⟨⟨q0, q1, q2, q3, q4⟩, qb, qk⟩ := Caps.cells hSw.1
    go_simp
    try with_reducible rfl
  simp only [Act.put, List.setIfInBounds_toArray, List.set_cons_zero, List.set_cons_succ, List.getElem_toArray, List.getElem_cons_zero, List.getElem_cons_succ]
  refine wpAnyH_take (i := 2) (v := ?_) rfl (by kernel_rfl) (by kernel_rfl) (by kernel_rfl) (fun _ _ _ h => h) (Or.inl ⟨by rfl, ?_⟩) (by assumption) ?_
  rotate_left
  · intro w hSw
    obtain ⟨⟨q0, q1, q2, q3, q4⟩, qb, qk⟩ := Caps.cells hSw.1
    go_simp
    try with_reducible rfl
  simp only [Act.put, List.setIfInBounds_toArray, List.set_cons_zero, List.set_cons_succ, List.getElem_toArray, List.getElem_cons_zero, List.getElem_cons_succ]
  refine wpAnyH_ready (rs := [3]) (by kernel_rfl) (by simp) ?_
  refine AllReadyH.cons rfl (fun K hK => ?_) AllReadyH.nil
  go_simp
  go_wp2_with ((go_at_call 34; refine (keys_any _ _ _ _ _ _ _).mono ?_; rintro e w' ⟨rfl, hb'⟩))
  refine hK.out _ _ ?_ (fun hHeld => ?_)
  · first | assumption | exact ⟨hHeld.1.kept hb', hHeld.2.trans (hb'.mono (by have := hHeld.2.size; omega))⟩
  clear hK K
  refine wpAnyH_take (i := 4) (v := ?_) rfl (by kernel_rfl) (by kernel_rfl) (by kernel_rfl) (fun _ _ _ h => h) (Or.inl ⟨by rfl, ?_⟩) (by assumption) ?_
  rotate_left
  · intro w hSw
    skip
    go_simp
    try with_reducible rfl
  simp only [Act.put, List.setIfInBounds_toArray, List.set_cons_zero, List.set_cons_succ, List.getElem_toArray, List.getElem_cons_zero, List.getElem_cons_succ]
  refine wpAnyH_done (by kernel_rfl) ?_ _
  clear hnew0 hbel hsz hcap hb'
  obtain ⟨hcap, hbel⟩ := hHeld
  obtain ⟨⟨q0, q1, q2, q3, q4⟩, qb, qk⟩ := hcap.cells
  have hmk := fun W => run_make_row' (P := Try.prog) 148 3 (.int .i64 0) 8 Try.underlying148 Try.infoInt rfl .i64 .i64 R (by omega) (by omega) W
  go_wp2_with fail
  have hrow := World.rowIs_made w' (.int .i64 0) R 3
  have hcap2 : Caps (w'.alloc (.cells (madeCells #[.int .i64 0] R) 3)) A B C b (R : Int) d m s l k := ⟨hcap.cfg.alloc _, hcap.lev.alloc _, hcap.key.alloc _⟩
  have hbel2 : Below n w (w'.alloc (.cells (madeCells #[.int .i64 0] R) 3)) := hbel.alloc (by have := hbel.size; omega) _
  have hGA : A ≠ w'.heap.size := Nat.ne_of_lt hcap.cfg.lt
  have hGB : B ≠ w'.heap.size := Nat.ne_of_lt hcap.lev.lt
  have hGC : C ≠ w'.heap.size := Nat.ne_of_lt hcap.key.lt
  have hGn : n ≤ w'.heap.size := by have := hbel.size; omega
  clear hmk q0 q1 q2 q3 q4 qb qk
  clear hcap hbel
  generalize (w'.alloc (.cells (madeCells #[.int .i64 0] R) 3)) = wq at *
  generalize w'.heap.size = G at *
  go_loopw [21] (fun i wr => ∃ j : Nat, j ≤ R ∧ i = .int .i64 (j : Int) ∧ wr.rowIs G 3 R (fun x => .int .i64 (if x < j then colI d s l k (x : Int) else 0)) ∧ Caps wr A B C b (R : Int) d m s l k ∧ Below n w wr) (fun i _ => R - (intOf i).toNat)
  case atStart => exact ⟨0, by omega, rfl, hrow.congr (fun x _ => by simp), hcap2, hbel2⟩
  case round =>
    obtain ⟨j, hj, rfl, hrow, hcap, hbel⟩ := hrel
    clear hcap2 hbel2
    have HR := Lib.hid hrow
    have HC := Lib.hid hcap
    have HB := Lib.hid hbel
    clear hrow hcap hbel
    by_cases hlt : j < R
    · go_wp2_with fail
      refine (col1_any A B C b (R : Int) d m s l k (j : Int) s0 s1 k0 k1 l0 (by omega) (by omega) (by omega) d0 (by omega) _ HC.out).mono ?_
      rintro e w2 ⟨rfl, hb2⟩
      have hr2 := rowKept HR.out hb2
      have hcell := hr2.cell hlt
      have hfrz := hr2.frozen j
      have HR2 := Lib.hid (hr2.set j (.int .i64 (colI d s l k (j : Int))))
      have HC2 := Lib.hid (HC.out.kept hb2)
      have HB2 : Hid (Below n w w2) := Lib.hid (HB.out.trans (hb2.mono (by have := HB.out.size; omega)))
      clear hr2 hb2
      go_wp2
      go_roundw
      case rel =>
        refine ⟨j + 1, by omega, by go_num, HR2.out.congr (fun x _ => ?_), ⟨HC2.out.cfg.far hGA _, HC2.out.lev.far hGB _, HC2.out.key.far hGC _⟩, HB2.out.setCell hGn _⟩
        by_cases e : x = j
        · subst e; simp
        · rw [if_neg e]
          by_cases e2 : x < j
          · rw [if_pos e2, if_pos (by omega)]
          · rw [if_neg e2, if_neg (by omega)]
      case measure => simp [intOf]; omega
    · obtain rfl : j = R := by omega
      go_wp2
      go_ret
      exact ⟨G, rfl, by have := HN.out; omega, HR.out.congr (fun x hx => by rw [if_pos hx]), by rw [← HN.out]; exact HB.out⟩

theorem cols_none (b r d m s l k : Int) (hk : ¬ k < keysI b r d m l) (w : World) :
    Calls Try.prog 89 #[.agg #[.int .i64 b, .int .i64 r, .int .i64 d, .int .i64 m, .int .u64 s], .int .i64 l, .int .u64 k] w fun e w' => e = .returned (.slice none 0 0) ∧ Below w.heap.size w w' := by
  have e1 : decide (keysI b r d m l ≤ k) = true := decide_eq_true (by omega)
  go_enter Try.func89, Try.ntmps89
  go_wp2_with fail
  have hcap : Caps (((w.alloc (.cells #[.int .i64 b, .int .i64 r, .int .i64 d, .int .i64 m, .int .u64 s] 24)).alloc (.cells #[.int .i64 l] 3)).alloc (.cells #[.int .u64 k] 22)) w.heap.size (w.heap.size + 1) (w.heap.size + 1 + 1) b r d m s l k := by
    refine ⟨((Blk.new _ _ _).alloc _).alloc _, Blk.alloc (by have := Blk.new (w.alloc (.cells #[.int .i64 b, .int .i64 r, .int .i64 d, .int .i64 m, .int .u64 s] 24)) 3 #[.int .i64 l]; simpa using this) _, ?_⟩
    have := Blk.new ((w.alloc (.cells #[.int .i64 b, .int .i64 r, .int .i64 d, .int .i64 m, .int .u64 s] 24)).alloc (.cells #[.int .i64 l] 3)) 22 #[.int .u64 k]
    simpa using this
  have hbel : Below w.heap.size w (((w.alloc (.cells #[.int .i64 b, .int .i64 r, .int .i64 d, .int .i64 m, .int .u64 s] 24)).alloc (.cells #[.int .i64 l] 3)).alloc (.cells #[.int .u64 k] 22)) :=
    (((Below.refl _ _).alloc (Nat.le_refl _) _).alloc (by simp) _).alloc (by simp; omega) _
  generalize (((w.alloc (.cells #[.int .i64 b, .int .i64 r, .int .i64 d, .int .i64 m, .int .u64 s] 24)).alloc (.cells #[.int .i64 l] 3)).alloc (.cells #[.int .u64 k] 22)) = wz at *
  have hsz := hbel.size
  generalize hA : w.heap.size = A at *
  generalize hB : A + 1 = B at *
  generalize hC : B + 1 = C at *
  obtain ⟨n, hn⟩ : ∃ n, n = A := ⟨_, rfl⟩
  have hbel : Below n w wz := by rw [hn]; exact hbel
  have HN := Lib.hid (hn.trans hA.symm)
  have hnw : n ≤ w.heap.size := by omega
  clear hA hB hC hn
  refine wp_region_held_drew (S := fun w' => Caps w' A B C b r d m s l k ∧ Below n w w') (by kernel_rfl) (by exact ⟨hcap.drew, hbel.drew⟩) (fun hHeld => ?_)
  refine wpAnyH_take (i := 0) (v := ?_) rfl (by kernel_rfl) (by kernel_rfl) (by kernel_rfl) (fun _ _ _ h => h) (Or.inl ⟨by rfl, ?_⟩) (by assumption) ?_
  rotate_left
  · intro w hSw
    obtain ⟨⟨q0, q1, q2, q3, q4⟩, qb, qk⟩ := Caps.cells hSw.1
    go_simp
    try with_reducible rfl
  simp only [Act.put, List.setIfInBounds_toArray, List.set_cons_zero, List.set_cons_succ, List.getElem_toArray, List.getElem_cons_zero, List.getElem_cons_succ]
  refine wpAnyH_take (i := 1) (v := ?_) rfl (by kernel_rfl) (by kernel_rfl) (by kernel_rfl) (fun _ _ _ h => h) (Or.inl ⟨by rfl, ?_⟩) (by assumption) ?_
  rotate_left
  · intro w hSw
    obtain ⟨⟨q0, q1, q2, q3, q4⟩, qb, qk⟩ := Caps.cells hSw.1
    go_simp
    try with_reducible rfl
  simp only [Act.put, List.setIfInBounds_toArray, List.set_cons_zero, List.set_cons_succ, List.getElem_toArray, List.getElem_cons_zero, List.getElem_cons_succ]
  refine wpAnyH_take (i := 2) (v := ?_) rfl (by kernel_rfl) (by kernel_rfl) (by kernel_rfl) (fun _ _ _ h => h) (Or.inl ⟨by rfl, ?_⟩) (by assumption) ?_
  rotate_left
  · intro w hSw
    obtain ⟨⟨q0, q1, q2, q3, q4⟩, qb, qk⟩ := Caps.cells hSw.1
    go_simp
    try with_reducible rfl
  simp only [Act.put, List.setIfInBounds_toArray, List.set_cons_zero, List.set_cons_succ, List.getElem_toArray, List.getElem_cons_zero, List.getElem_cons_succ]
  refine wpAnyH_ready (rs := [3]) (by kernel_rfl) (by simp) ?_
  refine AllReadyH.cons rfl (fun K hK => ?_) AllReadyH.nil
  go_simp
  go_wp2_with ((go_at_call 34; refine (keys_any _ _ _ _ _ _ _).mono ?_; rintro e w' ⟨rfl, hb'⟩))
  refine hK.out _ _ ?_ (fun hHeld => ?_)
  · first | assumption | exact ⟨hHeld.1.kept hb', hHeld.2.trans (hb'.mono (by have := hHeld.2.size; omega))⟩
  clear hK K
  refine wpAnyH_take (i := 4) (v := ?_) rfl (by kernel_rfl) (by kernel_rfl) (by kernel_rfl) (fun _ _ _ h => h) (Or.inl ⟨by rfl, ?_⟩) (by assumption) ?_
  rotate_left
  · intro w hSw
    skip
    go_simp
    try with_reducible rfl
  simp only [Act.put, List.setIfInBounds_toArray, List.set_cons_zero, List.set_cons_succ, List.getElem_toArray, List.getElem_cons_zero, List.getElem_cons_succ]
  refine wpAnyH_done (by kernel_rfl) ?_ _
  have HB := Lib.hid hHeld.2
  clear hbel hcap hHeld
  go_wp2
  go_ret
  exact ⟨rfl, by rw [← HN.out]; exact HB.out⟩
end Go.Proofs.Ythbkljeibmkimaa

/-
  Plain: what an update of a level, and of a stack, answers and leaves; what a level tells of a key. Conditions: none beyond those stated at each theorem.
-/
namespace Go.Proofs.Ythbkljeibmkimaa
open Go.RowKit
set_option linter.unusedVariables false
set_option linter.unusedSimpArgs false

open Classical in
/-- the number at place k of l in order -/
noncomputable def kthL (l : List Int) (k : Nat) : Int := if h : ∃ v, IsKth l k v then h.choose else 0
theorem kthL_of {l : List Int} {k : Nat} {v : Int} (h : IsKth l k v) : kthL l k = v := by
  have hx : ∃ v, IsKth l k v := ⟨v, h⟩
  unfold kthL
  rw [dif_pos hx]
  exact hx.choose_spec.unique h
/-- a key's columns -/
def colsZ (d s l k : Int) (R : Nat) : List Int := (List.range R).map fun (i : Nat) => colI d s l k (i : Int)
theorem colsZ_len (d s l k : Int) (R : Nat) : (colsZ d s l k R).length = R := by simp [colsZ]
theorem colsZ_meet {d s l k : Int} {R : Nat} (hR : 0 < R) (hd : 1 ≤ d) : meetB R d.toNat (colsZ d s l k R) = true := by
  refine meetB_all hR (colsZ_len ..) (fun j c hc => ?_)
  unfold colsZ at hc
  rw [List.getElem?_map] at hc
  cases hj : (List.range R)[j]? with
  | none => rw [hj] at hc; simp at hc
  | some i =>
    rw [hj] at hc
    simp at hc
    subst hc
    unfold colI
    have h1 := Int.emod_nonneg (lineI (pairA s l (i : Int)) (pairB s l (i : Int)) k) (show d ≠ 0 by omega)
    have h2 := Int.emod_lt_of_pos (lineI (pairA s l (i : Int)) (pairB s l (i : Int)) k) (show 0 < d by omega)
    omega
open Classical in
/-- what a sketch's update answers -/
noncomputable def skErr (b r d m s l : Int) (zs : List Int) (k : Int) (x : Int) : Int :=
  if keysI b r d m l ≤ k then 2
  else if m = 2 then (if x < 0 then 3 else if In64 (kthL (readZ d.toNat zs (colsZ d s l k r.toNat)) 0 + x) then 0 else 4)
  else if changeFits d.toNat zs (colsZ d s l k r.toNat) x then 0 else 4
open Classical in
/-- and what it leaves -/
noncomputable def skUpd (b r d m s l : Int) (zs : List Int) (k : Int) (x : Int) : List Int :=
  if skErr b r d m s l zs k x = 0 then
    (if m = 2 then raiseZ d.toNat zs (colsZ d s l k r.toNat) (kthL (readZ d.toNat zs (colsZ d s l k r.toNat)) 0 + x) else changeZ d.toNat zs (colsZ d s l k r.toNat) x)
  else zs
noncomputable def lvErr (b r d m s l : Int) (zs : List Int) (k : Nat) (x : Int) : Int :=
  if exactB b r d m l = true then chkI (keysI b r d m l).toNat m zs k x else skErr b r d m s l zs (k : Int) x
noncomputable def lvUpd (b r d m s l : Int) (zs : List Int) (k : Nat) (x : Int) : List Int :=
  if exactB b r d m l = true then updZ (keysI b r d m l).toNat m zs k x else skUpd b r d m s l zs (k : Int) x
theorem lvUpd_same {b r d m s l : Int} {zs : List Int} {k : Nat} {x : Int} (h : lvErr b r d m s l zs k x ≠ 0) : lvUpd b r d m s l zs k x = zs := by
  unfold lvErr at h
  unfold lvUpd
  split
  · rename_i e
    rw [if_pos e] at h
    unfold updZ
    rw [if_neg h]
  · rename_i e
    rw [if_neg e] at h
    unfold skUpd
    rw [if_neg h]
/-- a key of the stack is one of each level -/
theorem key_down {b r d m : Int} (hr : rightB b r d m = true) {k : Nat} (hk : (k : Int) < keysI b r d m 0) {n : Nat} (hn : n ≤ b.toNat) : ((k / 2 ^ n : Nat) : Int) < keysI b r d m (n : Int) := by
  have hR := right_of hr
  rw [keysI_yes hr (by omega) (by omega)] at hk ⊢
  obtain ⟨q, hq⟩ : ∃ q : Nat, b = (q : Int) := ⟨b.toNat, by omega⟩
  subst hq
  have e0 : ((q : Int) - 0).toNat = q := by omega
  have e1 : ((q : Int) - (n : Int)).toNat = q - n := by omega
  rw [e0] at hk
  rw [e1]
  have h2 : (k : Int) < ((2 ^ q : Nat) : Int) := by rw [Int.natCast_pow]; exact hk
  have h3 : k < 2 ^ q := by exact_mod_cast h2
  have h4 : k / 2 ^ n < 2 ^ (q - n) := by
    apply Nat.div_lt_of_lt_mul
    rw [← Nat.pow_add]
    have : n + (q - n) = q := by simp at hn; omega
    rw [this]
    exact h3
  have h5 : ((k / 2 ^ n : Nat) : Int) < ((2 ^ (q - n) : Nat) : Int) := by exact_mod_cast h4
  rw [Int.natCast_pow] at h5
  exact h5
/-- the answer of a level to a key that it has -/
theorem lvErr_in {b r d m s l : Int} {zs : List Int} {k : Nat} {x : Int} (hk : (k : Int) < keysI b r d m l) : (m = 2 ∧ x < 0 → lvErr b r d m s l zs k x = 3) ∧ (¬ (m = 2 ∧ x < 0) → lvErr b r d m s l zs k x = 0 ∨ lvErr b r d m s l zs k x = 4) := by
  unfold lvErr
  have hb := keysI_bd b r d m l
  split
  · unfold chkI
    rw [if_neg (by omega)]
    refine ⟨fun h => by rw [if_pos h], fun h => ?_⟩
    rw [if_neg h]
    split
    · exact .inl rfl
    · exact .inr rfl
  · unfold skErr
    rw [if_neg (by omega)]
    refine ⟨fun h => by rw [if_pos h.1, if_pos h.2], fun h => ?_⟩
    by_cases hm : m = 2
    · rw [if_pos hm, if_neg (by omega)]
      split
      · exact .inl rfl
      · exact .inr rfl
    · rw [if_neg hm]
      split
      · exact .inl rfl
      · exact .inr rfl
open Classical in
/-- what an update of a stack answers -/
noncomputable def stErr (b r d m s : Int) (Z : Nat → List Int) (k : Nat) (x : Int) : Int :=
  if keysI b r d m 0 ≤ (k : Int) then 2 else if m = 2 ∧ x < 0 then 3 else if ∀ n : Nat, n ≤ b.toNat → lvErr b r d m s (n : Int) (Z n) (k / 2 ^ n) x = 0 then 0 else 4
noncomputable def stUpd (b r d m s : Int) (Z : Nat → List Int) (k : Nat) (x : Int) (n : Nat) : List Int :=
  if stErr b r d m s Z k x = 0 then lvUpd b r d m s (n : Int) (Z n) (k / 2 ^ n) x else Z n
/-- what a level tells of a key -/
noncomputable def lvPt (b r d m s l : Int) (zs : List Int) (k : Nat) : Int :=
  if exactB b r d m l = true then cellD zs k else kthL (readZ d.toNat zs (colsZ d s l (k : Int) r.toNat)) (if m = 3 then (r.toNat - 1) / 2 else 0)
/-- the first of two answers that is not nought -/
def firstI (a c : Int) : Int := if a = 0 then c else a
theorem stErr_firsts {b r d m s : Int} (hr : rightB b r d m = true) {Z : Nat → List Int} {k : Nat} {x : Int} (hk : (k : Int) < keysI b r d m 0) :
    (List.range (b.toNat + 1)).foldl (fun a (n : Nat) => firstI a (lvErr b r d m s (n : Int) (Z n) (k / 2 ^ n) x)) 0 = stErr b r d m s Z k x := by
  have key : ∀ j : Nat, j ≤ b.toNat + 1 → (List.range j).foldl (fun a (n : Nat) => firstI a (lvErr b r d m s (n : Int) (Z n) (k / 2 ^ n) x)) 0 =
      (if m = 2 ∧ x < 0 then (if j = 0 then 0 else 3) else open Classical in if ∀ n : Nat, n < j → lvErr b r d m s (n : Int) (Z n) (k / 2 ^ n) x = 0 then 0 else 4) := by
    intro j
    induction j with
    | zero =>
      intro _
      simp
    | succ j ih =>
      intro hj
      rw [List.range_succ, List.foldl_append, ih (by omega)]
      simp only [List.foldl_cons, List.foldl_nil]
      obtain ⟨h3, h4⟩ := lvErr_in (s := s) (zs := Z j) (x := x) (key_down hr hk (show j ≤ b.toNat by omega))
      by_cases hm : m = 2 ∧ x < 0
      · rw [if_pos hm, if_pos hm, h3 hm]
        unfold firstI
        by_cases e : j = 0 <;> simp [e]
      · rw [if_neg hm, if_neg hm]
        by_cases ha : ∀ n : Nat, n < j → lvErr b r d m s (n : Int) (Z n) (k / 2 ^ n) x = 0
        · rw [if_pos ha]
          unfold firstI
          rw [if_pos rfl]
          rcases h4 hm with e | e
          · rw [e, if_pos]
            intro n hn
            by_cases en : n = j
            · subst en; exact e
            · exact ha n (by omega)
          · rw [e, if_neg]
            intro h
            have := h j (by omega)
            rw [e] at this
            cases this
        · rw [if_neg ha]
          unfold firstI
          rw [if_neg (by decide), if_neg]
          intro h
          exact ha (fun n hn => h n (by omega))
  rw [key _ (Nat.le_refl _)]
  unfold stErr
  have hnk : ¬ keysI b r d m 0 ≤ (k : Int) := by omega
  by_cases hm : m = 2 ∧ x < 0
  · rw [if_pos hm, if_neg (show ¬ b.toNat + 1 = 0 by omega), if_neg hnk, if_pos hm]
  · rw [if_neg hm, if_neg hnk, if_neg hm]
    have : (∀ n : Nat, n < b.toNat + 1 → lvErr b r d m s (n : Int) (Z n) (k / 2 ^ n) x = 0) ↔ (∀ n : Nat, n ≤ b.toNat → lvErr b r d m s (n : Int) (Z n) (k / 2 ^ n) x = 0) :=
      ⟨fun h n hn => h n (by omega), fun h n hn => h n (by omega)⟩
    simp only [this]
theorem stErr_ok {b r d m s : Int} {Z : Nat → List Int} {k : Nat} {x : Int} (h : stErr b r d m s Z k x = 0) : (k : Int) < keysI b r d m 0 ∧ ¬ (m = 2 ∧ x < 0) ∧ ∀ n : Nat, n ≤ b.toNat → lvErr b r d m s (n : Int) (Z n) (k / 2 ^ n) x = 0 := by
  unfold stErr at h
  split at h
  · cases h
  · split at h
    · cases h
    · split at h
      · rename_i h1 h2 h3
        exact ⟨by omega, h2, h3⟩
      · cases h
end Go.Proofs.Ythbkljeibmkimaa

/-
  The walks of sketch.Check and Update. Conditions: none beyond those stated at each theorem.
-/
namespace Go.Proofs.Ythbkljeibmkimaa
open Go.RowKit
set_option linter.unusedVariables false
set_option linter.unusedSimpArgs false

theorem Try.slI (w : World) (a : Option Addr) (n c : Nat) : Sem.run Try.prog (binOp .eql 148 (.slice a n c) (.slice none 0 0)) w = .ok (.bool a.isNone) w := Go.Lib.run_eql_slice_nil w 148 3 a n c 0 0 Try.underlying148
theorem ret_err {a b : Int} (h : a = b) : Ending.returned (.int .i64 a) = .returned (.int .i64 b) := by rw [h]
/-- the region in which a sketch asks for a key's columns, up to its call -/
theorem ColsPost.ints {w w' : World} {R : Nat} {d s l k : Int} {e : Ending} (h : ColsPost w R d s l k e w') : ∃ g, e = .returned (.slice (some ⟨g, 0, none⟩) R R) ∧ w.heap.size ≤ g ∧ w'.rowIs g 3 R (fun i => .int .i64 (colI d s l k (i : Int))) ∧ IntsAt w' (.slice (some ⟨g, 0, none⟩) R R) (colsZ d s l k R) ∧ Below w.heap.size w w' := by
  obtain ⟨g, e, h1, h2, h3⟩ := h
  exact ⟨g, e, h1, h2, IntsAt.of_row h2, h3⟩
set_option maxRecDepth 100000 in
set_option maxHeartbeats 4000000 in
theorem skcheck_none (w : World) (A G C : Nat) (b r d m s l : Int) (zs : List Int) (h : SkIs w A G C b r d m s l zs) (k x : Int) (hk : keysI b r d m l ≤ k) :
    Calls Try.prog 83 #[.pointer (some ⟨A, 0, none⟩), .int .u64 k, .int .i64 x] w fun e w' => e = .returned (.int .i64 2) ∧ Below w.heap.size w w' := by
  have HA := Lib.hid h
  have PC := Lib.hid (fun w => cols_none b r d m s l k (by omega) w)
  clear h hk
  go_enter Try.func83, Try.ntmps83
  go_wp2_with fail
  refine wp_region_still_tail 9 (by kernel_rfl) (by kernel_rfl) ?_
  simp only [List.take_succ_cons, List.take_zero, List.drop_succ_cons, List.drop_zero]
  have HA2 : Hid (SkIs { heap := w.heap, tape := w.tape, drawn := w.drawn + 1, os := w.os, output := w.output } A G C b r d m s l zs) := Lib.hid (HA.out.kept (below_drewN (Below.refl _ _) 1))
  have HB2 : Hid (Below w.heap.size w { heap := w.heap, tape := w.tape, drawn := w.drawn + 1, os := w.os, output := w.output }) := Lib.hid (below_drewN (Below.refl _ _) 1)
  generalize ({ heap := w.heap, tape := w.tape, drawn := w.drawn + 1, os := w.os, output := w.output } : World) = wd at *
  have q1 := HA2.out.box.cell 1
  have q2 := HA2.out.box.cell 2
  have q3 := HA2.out.box.cell 3
  have q4 := HA2.out.box.cell 4
  have q5 := HA2.out.box.cell 5
  have q6 := HA2.out.box.cell 6
  simp at q1 q2 q3 q4 q5 q6
  repeat still_step
  refine wpStill_nil ?_
  go_wp2_with fail
  with_reducible refine (PC.out _).mono ?_
  rintro e w3 ⟨rfl, hb⟩
  have HB3 := Lib.hid (btr HB2.out hb)
  clear hb q1 q2 q3 q4 q5 q6
  have hn := Try.slI
  go_wp2
  go_ret
  exact ⟨rfl, HB3.out⟩
/-- a key's columns are asked for, behind which the sketch lies as it lay -/
theorem sk_nat {w : World} {A G C : Nat} {b r d m s l : Int} {zs : List Int} (hr : rightB b r d m = true) : ∃ R W : Nat, r = (R : Int) ∧ d = (W : Int) ∧ 0 < R ∧ R ≤ 8 ∧ 0 < W ∧ W ≤ 128 := by
  have h := right_of hr
  exact ⟨r.toNat, d.toNat, by omega, by omega, by omega, by omega, by omega, by omega⟩
set_option maxRecDepth 100000 in
set_option maxHeartbeats 8000000 in
theorem skcheck_lin (w : World) (A G C : Nat) (b m s l : Int) (R W : Nat) (zs : List Int) (h : SkIs w A G C b R W m s l zs) (hR : 0 < R) (hR8 : R ≤ 8) (hW : 0 < W) (s0 : 0 ≤ s) (s1 : s ≤ 18446744073709551615) (k x : Int) (k0 : 0 ≤ k) (k1 : k ≤ 18446744073709551615) (hk : k < keysI b R W m l) (hm : m ≠ 2) (hx : In64 x) :
    Calls Try.prog 83 #[.pointer (some ⟨A, 0, none⟩), .int .u64 k, .int .i64 x] w fun e w' => e = .returned (.int .i64 (skErr b R W m s l zs k x)) ∧ Below w.heap.size w w' := by
  have HA := Lib.hid h
  have PC := Lib.hid (fun w => cols_any b W m s l k R s0 s1 k0 k1 hk w)
  have HM : Hid (meetB R W (colsZ W s l k R) = true) := Lib.hid (by have := colsZ_meet (d := (W : Int)) (s := s) (l := l) (k := k) hR (by omega); simpa using this)
  have HLC := Lib.hid (colsZ_len (W : Int) s l k R)
  have hq : skErr b R W m s l zs k x = (open Classical in if changeFits W zs (colsZ W s l k R) x then 0 else 4) := by
    unfold skErr
    rw [if_neg (by omega), if_neg hm, Int.toNat_natCast, Int.toNat_natCast]
  obtain ⟨q, hqq⟩ : ∃ q, q = skErr b R W m s l zs k x := ⟨_, rfl⟩
  rw [← hqq] at hq ⊢
  obtain ⟨f, hf⟩ : ∃ f : Nat → Int, f = fun r => cellD zs (r * W + colN (colsZ W s l k R) r) := ⟨_, rfl⟩
  have HF := Lib.hid hf
  have HYES : Hid ((∀ r, r < R → In64 (f r + x)) → q = 0) := Lib.hid (fun hh => by
    rw [hq, if_pos]
    intro r hr
    rw [HLC.out] at hr
    have := hh r hr
    rw [hf] at this
    exact this)
  have HNO : Hid (∀ r, r < R → ¬ In64 (f r + x) → q = 4) := Lib.hid (fun r hr hn => by
    rw [hq, if_neg]
    intro hh
    apply hn
    have := hh r (by rw [HLC.out]; exact hr)
    rw [hf]
    exact this)
  have HFZ : Hid (∀ r, In64 (f r)) := Lib.hid (fun r => by rw [hf]; exact fitC h.grid.fit _)
  have em : (m == 2) = false := by simp [hm]
  have em' : decide (m = 2) = false := by simp [hm]
  clear h hk hq hqq hf
  go_enter Try.func83, Try.ntmps83
  go_wp2_with fail
  refine wp_region_still_tail 9 (by kernel_rfl) (by kernel_rfl) ?_
  simp only [List.take_succ_cons, List.take_zero, List.drop_succ_cons, List.drop_zero]
  have HA2 : Hid (SkIs { heap := w.heap, tape := w.tape, drawn := w.drawn + 1, os := w.os, output := w.output } A G C b R W m s l zs) := Lib.hid (HA.out.kept (below_drewN (Below.refl _ _) 1))
  have HB2 : Hid (Below w.heap.size w { heap := w.heap, tape := w.tape, drawn := w.drawn + 1, os := w.os, output := w.output }) := Lib.hid (below_drewN (Below.refl _ _) 1)
  generalize ({ heap := w.heap, tape := w.tape, drawn := w.drawn + 1, os := w.os, output := w.output } : World) = wd at *
  have q1 := HA2.out.box.cell 1
  have q2 := HA2.out.box.cell 2
  have q3 := HA2.out.box.cell 3
  have q4 := HA2.out.box.cell 4
  have q5 := HA2.out.box.cell 5
  have q6 := HA2.out.box.cell 6
  simp at q1 q2 q3 q4 q5 q6
  repeat still_step
  refine wpStill_nil ?_
  go_wp2_with fail
  with_reducible refine (PC.out _).mono ?_
  intro e w3 hpost
  obtain ⟨gc, rfl, -, -, hints, hb⟩ := hpost.ints
  have HA3 := Lib.hid (HA2.out.kept hb)
  have HB3 := Lib.hid (btr HB2.out hb)
  have PR : Calls Try.prog 90 #[.pointer (some ⟨G, 0, none⟩), .slice (some ⟨gc, 0, none⟩) R R] w3 (ReadPost w3 W zs (colsZ W s l k R)) := by
    have h1 := HA3.out.grid
    rw [Int.toNat_natCast, Int.toNat_natCast] at h1
    exact read_yes w3 G C R W zs (colsZ W s l k R) _ h1 hints HM.out
  have PR := Lib.hid PR
  clear hb hpost hints q1 q2 q3 q4 q5 q6
  have q0 := HA3.out.box.cell 0
  have q4 := HA3.out.box.cell 4
  simp at q0 q4
  have hn := Try.slI
  go_wp2_with fail
  with_reducible refine PR.out.mono ?_
  rintro e w4 ⟨g, rfl, -, hrow, hb⟩
  rw [HLC.out]
  have HROW : Hid (w4.rowIs g 2 R (fun r => .int .i64 (f r))) := Lib.hid (by rw [HF.out]; have h2 := hrow; rw [HLC.out] at h2; exact h2)
  have HA4 := Lib.hid (HA3.out.kept hb)
  have HB4 := Lib.hid (btr HB3.out hb)
  have HGL : Hid (g < w4.heap.size) := Lib.hid hrow.lt
  clear hb hrow q0 q4 hn
  have q4 := HA4.out.box.cell 4
  simp at q4
  go_wp2_with fail
  go_loopw [61] (fun i wr => ∃ j : Nat, j ≤ R ∧ i = .int .i64 (j : Int) ∧ (∀ r, r < j → In64 (f r + x)) ∧ Below w4.heap.size w4 wr) (fun i _ => R - (intOf i).toNat)
  case atStart => exact ⟨0, by omega, rfl, fun r hr => by omega, Below.refl _ _⟩
  case round =>
    obtain ⟨j, hj, rfl, hok, hbel⟩ := hrel
    have HOK := Lib.hid hok
    have HBR := Lib.hid hbel
    clear hok
    by_cases hlt : j < R
    · have cx := (hbel.cell (p := ⟨g, j, none⟩) HGL.out).trans (HROW.out.cell hlt)
      have hfj := HFZ.out j
      have HOK2 : Hid (In64 (f j + x) → ∀ r, r < j + 1 → In64 (f r + x)) := Lib.hid (fun h1 r hr => by
        by_cases e : r = j
        · subst e; exact h1
        · exact HOK.out r (by omega))
      have HNJ : Hid (¬ In64 (f j + x) → q = 4) := Lib.hid (HNO.out j hlt)
      have P3 := fun wz => opok_plus (f j) x wz hfj hx
      have i0 : (0 : Int) ≤ (j : Int) := by omega
      have i1 : (j : Int) < (R : Int) := by omega
      clear hbel
      generalize f j = y at *
      by_cases h64 : In64 (y + x)
      · have P3 := Lib.hid (fun wz => (P3 wz).1 h64)
        have HOK2 := Lib.hid (HOK2.out h64)
        clear h64 hfj HNJ
        unfold TwoPost at P3
        go_wp2_with fail
        with_reducible refine (P3.out _).mono ?_
        rintro e w5 ⟨rfl, hb⟩
        have HB5 := Lib.hid (btr HBR.out hb)
        clear hb cx
        go_wp2
        go_roundw
        case rel => exact ⟨j + 1, by omega, by go_num, HOK2.out, HB5.out⟩
        case measure => simp [intOf]; omega
      · have P3 := Lib.hid (fun wz => (P3 wz).2 h64)
        have HQ := Lib.hid (HNJ.out h64)
        clear h64 hfj HNJ HOK2
        unfold TwoPost at P3
        go_wp2_with fail
        with_reducible refine (P3.out _).mono ?_
        rintro e w5 ⟨rfl, hb⟩
        have HB5 := Lib.hid (btr HB4.out (btr HBR.out hb))
        clear hb cx
        go_wp2
        go_ret
        exact ⟨ret_err HQ.out.symm, HB5.out⟩
    · have HQ : Hid (q = 0) := Lib.hid (HYES.out (fun r hr => HOK.out r (by omega)))
      have hge : R ≤ j := by omega
      have HB5 := Lib.hid (btr HB4.out HBR.out)
      clear hbel
      go_wp2
      go_ret
      exact ⟨ret_err HQ.out.symm, HB5.out⟩
set_option maxRecDepth 100000 in
set_option maxHeartbeats 8000000 in
theorem skcheck_neg (w : World) (A G C : Nat) (b s l : Int) (R W : Nat) (zs : List Int) (h : SkIs w A G C b R W 2 s l zs) (hR : 0 < R) (hR8 : R ≤ 8) (hW : 0 < W) (s0 : 0 ≤ s) (s1 : s ≤ 18446744073709551615) (k x : Int) (k0 : 0 ≤ k) (k1 : k ≤ 18446744073709551615) (hk : k < keysI b R W 2 l) (hx : In64 x) (hx0 : x < 0) :
    Calls Try.prog 83 #[.pointer (some ⟨A, 0, none⟩), .int .u64 k, .int .i64 x] w fun e w' => e = .returned (.int .i64 (skErr b R W 2 s l zs k x)) ∧ Below w.heap.size w w' := by
  have HA := Lib.hid h
  have PC := Lib.hid (fun w => cols_any b W 2 s l k R s0 s1 k0 k1 hk w)
  have HM : Hid (meetB R W (colsZ W s l k R) = true) := Lib.hid (by have := colsZ_meet (d := (W : Int)) (s := s) (l := l) (k := k) hR (by omega); simpa using this)
  have HLC := Lib.hid (colsZ_len (W : Int) s l k R)
  have HQ : Hid (skErr b R W 2 s l zs k x = 3) := Lib.hid (by
    unfold skErr
    rw [if_neg (by omega), if_pos rfl, if_pos hx0])
  obtain ⟨q, hqq⟩ : ∃ q, q = skErr b R W 2 s l zs k x := ⟨_, rfl⟩
  rw [← hqq] at HQ ⊢
  have e1 : decide (x < 0) = true := decide_eq_true hx0
  clear hqq
  clear h hk
  go_enter Try.func83, Try.ntmps83
  go_wp2_with fail
  refine wp_region_still_tail 9 (by kernel_rfl) (by kernel_rfl) ?_
  simp only [List.take_succ_cons, List.take_zero, List.drop_succ_cons, List.drop_zero]
  have HA2 : Hid (SkIs { heap := w.heap, tape := w.tape, drawn := w.drawn + 1, os := w.os, output := w.output } A G C b R W 2 s l zs) := Lib.hid (HA.out.kept (below_drewN (Below.refl _ _) 1))
  have HB2 : Hid (Below w.heap.size w { heap := w.heap, tape := w.tape, drawn := w.drawn + 1, os := w.os, output := w.output }) := Lib.hid (below_drewN (Below.refl _ _) 1)
  generalize ({ heap := w.heap, tape := w.tape, drawn := w.drawn + 1, os := w.os, output := w.output } : World) = wd at *
  have q1 := HA2.out.box.cell 1
  have q2 := HA2.out.box.cell 2
  have q3 := HA2.out.box.cell 3
  have q4 := HA2.out.box.cell 4
  have q5 := HA2.out.box.cell 5
  have q6 := HA2.out.box.cell 6
  simp at q1 q2 q3 q4 q5 q6
  repeat still_step
  refine wpStill_nil ?_
  go_wp2_with fail
  with_reducible refine (PC.out _).mono ?_
  intro e w3 hpost
  obtain ⟨gc, rfl, -, -, hints, hb⟩ := hpost.ints
  have HA3 := Lib.hid (HA2.out.kept hb)
  have HB3 := Lib.hid (btr HB2.out hb)
  have HGR : Hid (GridIs w3 G C R W zs) := Lib.hid (by
    have h1 := HA3.out.grid
    rw [Int.toNat_natCast, Int.toNat_natCast] at h1
    exact h1)
  have PR : Calls Try.prog 90 #[.pointer (some ⟨G, 0, none⟩), .slice (some ⟨gc, 0, none⟩) R R] w3 (ReadPost w3 W zs (colsZ W s l k R)) :=
    read_yes w3 G C R W zs (colsZ W s l k R) _ HGR.out hints HM.out
  have PR := Lib.hid PR
  have HIN := Lib.hid hints
  clear hb hpost hints q1 q2 q3 q4 q5 q6
  have q0 := HA3.out.box.cell 0
  have q4 := HA3.out.box.cell 4
  simp at q0 q4
  have hn := Try.slI
  go_wp2_with fail
  with_reducible refine PR.out.mono ?_
  rintro e w4 ⟨g, rfl, -, hrow, hb⟩
  rw [HLC.out]
  have HA4 := Lib.hid (HA3.out.kept hb)
  have HB4 := Lib.hid (btr HB3.out hb)
  clear hb hrow q0 q4 hn
  have q4 := HA4.out.box.cell 4
  simp at q4
  go_wp2
  go_ret
  exact ⟨ret_err HQ.out.symm, HB4.out⟩
set_option maxRecDepth 100000 in
set_option maxHeartbeats 8000000 in
theorem skcheck_con (w : World) (A G C : Nat) (b s l : Int) (R W : Nat) (zs : List Int) (h : SkIs w A G C b R W 2 s l zs) (hR : 0 < R) (hR8 : R ≤ 8) (hW : 0 < W) (s0 : 0 ≤ s) (s1 : s ≤ 18446744073709551615) (k x : Int) (k0 : 0 ≤ k) (k1 : k ≤ 18446744073709551615) (hk : k < keysI b R W 2 l) (hx : In64 x) (hx0 : 0 ≤ x) :
    Calls Try.prog 83 #[.pointer (some ⟨A, 0, none⟩), .int .u64 k, .int .i64 x] w fun e w' => e = .returned (.int .i64 (skErr b R W 2 s l zs k x)) ∧ Below w.heap.size w w' := by
  have HA := Lib.hid h
  have PC := Lib.hid (fun w => cols_any b W 2 s l k R s0 s1 k0 k1 hk w)
  have HM : Hid (meetB R W (colsZ W s l k R) = true) := Lib.hid (by have := colsZ_meet (d := (W : Int)) (s := s) (l := l) (k := k) hR (by omega); simpa using this)
  have HLC := Lib.hid (colsZ_len (W : Int) s l k R)
  have hq : skErr b R W 2 s l zs k x = (if In64 (kthL (readZ W zs (colsZ W s l k R)) 0 + x) then 0 else 4) := by
    unfold skErr
    rw [if_neg (by omega), if_pos rfl, if_neg (by omega), Int.toNat_natCast, Int.toNat_natCast]
  obtain ⟨q, hqq⟩ : ∃ q, q = skErr b R W 2 s l zs k x := ⟨_, rfl⟩
  rw [← hqq] at hq ⊢
  have HQ := Lib.hid hq
  have e1 : decide (x < 0) = false := decide_eq_false (by omega)
  clear hqq hq
  clear h hk
  go_enter Try.func83, Try.ntmps83
  go_wp2_with fail
  refine wp_region_still_tail 9 (by kernel_rfl) (by kernel_rfl) ?_
  simp only [List.take_succ_cons, List.take_zero, List.drop_succ_cons, List.drop_zero]
  have HA2 : Hid (SkIs { heap := w.heap, tape := w.tape, drawn := w.drawn + 1, os := w.os, output := w.output } A G C b R W 2 s l zs) := Lib.hid (HA.out.kept (below_drewN (Below.refl _ _) 1))
  have HB2 : Hid (Below w.heap.size w { heap := w.heap, tape := w.tape, drawn := w.drawn + 1, os := w.os, output := w.output }) := Lib.hid (below_drewN (Below.refl _ _) 1)
  generalize ({ heap := w.heap, tape := w.tape, drawn := w.drawn + 1, os := w.os, output := w.output } : World) = wd at *
  have q1 := HA2.out.box.cell 1
  have q2 := HA2.out.box.cell 2
  have q3 := HA2.out.box.cell 3
  have q4 := HA2.out.box.cell 4
  have q5 := HA2.out.box.cell 5
  have q6 := HA2.out.box.cell 6
  simp at q1 q2 q3 q4 q5 q6
  repeat still_step
  refine wpStill_nil ?_
  go_wp2_with fail
  with_reducible refine (PC.out _).mono ?_
  intro e w3 hpost
  obtain ⟨gc, rfl, -, -, hints, hb⟩ := hpost.ints
  have HA3 := Lib.hid (HA2.out.kept hb)
  have HB3 := Lib.hid (btr HB2.out hb)
  have HGR : Hid (GridIs w3 G C R W zs) := Lib.hid (by
    have h1 := HA3.out.grid
    rw [Int.toNat_natCast, Int.toNat_natCast] at h1
    exact h1)
  have PR : Calls Try.prog 90 #[.pointer (some ⟨G, 0, none⟩), .slice (some ⟨gc, 0, none⟩) R R] w3 (ReadPost w3 W zs (colsZ W s l k R)) :=
    read_yes w3 G C R W zs (colsZ W s l k R) _ HGR.out hints HM.out
  have PR := Lib.hid PR
  have HIN := Lib.hid hints
  clear hb hpost hints q1 q2 q3 q4 q5 q6
  have q0 := HA3.out.box.cell 0
  have q4 := HA3.out.box.cell 4
  simp at q0 q4
  have hn := Try.slI
  go_wp2_with fail
  with_reducible refine PR.out.mono ?_
  rintro e w4 ⟨g, rfl, -, hrow, hb⟩
  rw [HLC.out]
  have HA4 := Lib.hid (HA3.out.kept hb)
  have HB4 := Lib.hid (btr HB3.out hb)
  have PL : Calls Try.prog 91 #[.pointer (some ⟨G, 0, none⟩), .slice (some ⟨gc, 0, none⟩) R R] w4 (TellPost w4 W zs (colsZ W s l k R) 0) :=
    least_yes w4 G C R W zs (colsZ W s l k R) _ (HGR.out.kept hb) (HIN.out.kept hb) HM.out
  have PL := Lib.hid PL
  clear hb hrow q0 q4 hn
  have q0 := HA4.out.box.cell 0
  have q4 := HA4.out.box.cell 4
  simp at q0 q4
  go_wp2_with fail
  with_reducible refine PL.out.mono ?_
  rintro e w5 ⟨u, rfl, hu, hb⟩
  have HU := Lib.hid (kthL_of hu)
  have HB5 := Lib.hid (btr HB4.out hb)
  have hu64 : In64 u := by
    have h1 := hu.1
    unfold readZ at h1
    obtain ⟨r, -, rfl⟩ := List.mem_map.1 h1
    exact fitC HGR.out.fit _
  have HB6 : Hid (Below w.heap.size w (w5.alloc (.cells #[.int .i64 u] 2))) := Lib.hid (HB5.out.alloc HB5.out.size _)
  have HBLK := Lib.hid (Blk.new w5 2 #[.int .i64 u])
  clear hb q0 q4 hu
  go_wp2_with fail
  generalize (w5.alloc (.cells #[.int .i64 u] 2)) = w6 at *
  have P3 := fun wz => opok_plus u x wz hu64 hx
  go_loopw [61] (fun i wr => ∃ j : Nat, j ≤ 1 ∧ i = .int .i64 (j : Int) ∧ (0 < j → In64 (u + x)) ∧ Below w6.heap.size w6 wr) (fun i _ => 1 - (intOf i).toNat)
  case atStart => exact ⟨0, by omega, rfl, fun h0 => by omega, Below.refl _ _⟩
  case round =>
    obtain ⟨j, hj, rfl, hok, hbel⟩ := hrel
    have HOK := Lib.hid hok
    have HBR := Lib.hid hbel
    clear hok
    by_cases hlt : j < 1
    · obtain rfl : j = 0 := by omega
      have cx := (hbel.cell (p := ⟨w5.heap.size, 0, none⟩) HBLK.out.lt).trans (HBLK.out.cell 0)
      simp at cx
      clear hbel
      by_cases h64 : In64 (u + x)
      · have P3 := Lib.hid (fun wz => (P3 wz).1 h64)
        have H64 := Lib.hid h64
        clear h64 hu64
        unfold TwoPost at P3
        go_wp2_with fail
        with_reducible refine (P3.out _).mono ?_
        rintro e w7 ⟨rfl, hb⟩
        have HB7 := Lib.hid (btr HBR.out hb)
        clear hb cx
        go_wp2
        go_roundw
        case rel => exact ⟨1, by omega, by go_num, fun _ => H64.out, HB7.out⟩
        case measure => simp [intOf]
      · have P3 := Lib.hid (fun wz => (P3 wz).2 h64)
        have HQ4 : Hid (q = 4) := Lib.hid (by rw [HQ.out, HU.out, if_neg h64])
        clear h64 hu64
        unfold TwoPost at P3
        go_wp2_with fail
        with_reducible refine (P3.out _).mono ?_
        rintro e w7 ⟨rfl, hb⟩
        have HB7 := Lib.hid (btr HB6.out (btr HBR.out hb))
        clear hb cx
        go_wp2
        go_ret
        exact ⟨ret_err HQ4.out.symm, HB7.out⟩
    · obtain rfl : j = 1 := by omega
      have HQ0 : Hid (q = 0) := Lib.hid (by rw [HQ.out, HU.out, if_pos (HOK.out (by omega))])
      have HB7 := Lib.hid (btr HB6.out HBR.out)
      clear hbel P3 hu64
      go_wp2
      go_ret
      exact ⟨ret_err HQ0.out.symm, HB7.out⟩
theorem skcheck (w : World) (A G C : Nat) (b r d m s l : Int) (zs : List Int) (h : SkIs w A G C b r d m s l zs) (hr : rightB b r d m = true) (s0 : 0 ≤ s) (s1 : s ≤ 18446744073709551615) (k x : Int) (k0 : 0 ≤ k) (k1 : k ≤ 18446744073709551615) (hx : In64 x) :
    Calls Try.prog 83 #[.pointer (some ⟨A, 0, none⟩), .int .u64 k, .int .i64 x] w fun e w' => e = .returned (.int .i64 (skErr b r d m s l zs k x)) ∧ Below w.heap.size w w' := by
  by_cases hk : keysI b r d m l ≤ k
  · have : skErr b r d m s l zs k x = 2 := by unfold skErr; rw [if_pos hk]
    rw [this]
    exact skcheck_none w A G C b r d m s l zs h k x hk
  · obtain ⟨R, W, rfl, rfl, h1, h2, h3, h4⟩ := sk_nat (w := w) (A := A) (G := G) (C := C) (s := s) (l := l) (zs := zs) hr
    by_cases hm : m = 2
    · subst hm
      by_cases h0 : x < 0
      · exact skcheck_neg w A G C b s l R W zs h h1 h2 h3 s0 s1 k x k0 k1 (by omega) hx h0
      · exact skcheck_con w A G C b s l R W zs h h1 h2 h3 s0 s1 k x k0 k1 (by omega) hx (by omega)
    · exact skcheck_lin w A G C b m s l R W zs h h1 h2 h3 s0 s1 k x k0 k1 (by omega) hm hx
end Go.Proofs.Ythbkljeibmkimaa

/-
  Stacks in memory; the walk of stack.New. Conditions: none beyond those stated at each theorem.
-/
namespace Go.Proofs.Ythbkljeibmkimaa
open Go.RowKit
set_option linter.unusedVariables false
set_option linter.unusedSimpArgs false

theorem LevIs.own {w w' : World} {x v : Value} {A G C base k : Nat} {b r d m s l : Int} {zs : List Int} {xs : List Value} (h : LevIs w x A G C b r d m s l zs) (ho : w.ownsRow base 69 1 v k xs) (hg : w.grownBy w' v.ownBlock) : LevIs w' x A G C b r d m s l zs := by
  rcases h with ⟨h1, h2, h3⟩ | ⟨h1, h2, h3⟩
  · obtain ⟨cap, hG, -⟩ := h3.2.fields
    obtain ⟨cur, hc, -⟩ := h3.2.cells
    exact .inl ⟨h1, h2, h3.grown hg (Ne.symm (own_ne ho h3.1 (by decide))) (Ne.symm (own_ne ho hG (by decide))) (Ne.symm (own_ne ho hc (by decide)))⟩
  · obtain ⟨cap, hG, -⟩ := h3.grid.fields
    obtain ⟨cur, hc, -⟩ := h3.grid.cells
    exact .inr ⟨h1, h2, h3.grown hg (Ne.symm (own_ne ho h3.box (by decide))) (Ne.symm (own_ne ho hG (by decide))) (Ne.symm (own_ne ho hc (by decide)))⟩
theorem LevIs.far {w w' : World} {x : Value} {A G C g : Nat} {t : TypeId} {cs : Array Value} {b r d m s l : Int} {zs : List Int} (h : LevIs w x A G C b r d m s l zs) (hb : Blk w g t cs) (ht : 2 ≠ t ∧ 122 ≠ t ∧ 115 ≠ t ∧ 119 ≠ t) (hg : w.grownBy w' (some g)) : LevIs w' x A G C b r d m s l zs := by
  rcases h with ⟨h1, h2, h3⟩ | ⟨h1, h2, h3⟩
  · obtain ⟨cap, hG, -⟩ := h3.2.fields
    obtain ⟨cur, hc, -⟩ := h3.2.cells
    exact .inl ⟨h1, h2, h3.grown hg (by simpa using h3.1.ne_ hb ht.2.2.1) (by simpa using hG.ne_ hb ht.2.1) (by simpa using hc.ne_ hb ht.1)⟩
  · obtain ⟨cap, hG, -⟩ := h3.grid.fields
    obtain ⟨cur, hc, -⟩ := h3.grid.cells
    exact .inr ⟨h1, h2, h3.grown hg (by simpa using h3.box.ne_ hb ht.2.2.2) (by simpa using hG.ne_ hb ht.2.1) (by simpa using hc.ne_ hb ht.1)⟩
theorem LevIs.open_ {w : World} {x : Value} {A G C : Nat} {b r d m s l : Int} {zs : List Int} (h : LevIs w x A G C b r d m s l zs) : ∃ t, x = .iface t (.pointer (some ⟨A, 0, none⟩)) := by
  rcases h with ⟨h1, h2, h3⟩ | ⟨h1, h2, h3⟩
  · exact ⟨_, h2⟩
  · exact ⟨_, h2⟩
theorem LevIs.ltC {w : World} {x : Value} {A G C : Nat} {b r d m s l : Int} {zs : List Int} (h : LevIs w x A G C b r d m s l zs) : C < w.heap.size := by
  obtain ⟨cur, hc⟩ := h.cells
  exact hc.lt
def upN {α : Type} (f : Nat → α) (j : Nat) (x : α) : Nat → α := fun k => if k = j then x else f k
theorem upN_same {α : Type} (f : Nat → α) (j : Nat) (x : α) : upN f j x j = x := if_pos rfl
theorem upN_other {α : Type} (f : Nat → α) {j k : Nat} (x : α) (h : k ≠ j) : upN f j x k = f k := if_neg h
/-- j levels are laid in a row -/
structure LevsB (w : World) (base : Nat) (v : Value) (b r d m s : Int) (X : Nat → Value) (A G C : Nat → Nat) (Z : Nat → List Int) (j : Nat) : Prop where
  own : w.ownsRow base 69 1 v j ((List.range j).map X)
  lev : ∀ n, n < j → LevIs w (X n) (A n) (G n) (C n) b r d m s n (Z n)
  apart : ∀ n k, n < j → k < j → n ≠ k → C n ≠ C k
  low : ∀ n, n < j → base ≤ C n
theorem LevsB.kept {w w' : World} {base : Nat} {v : Value} {b r d m s : Int} {X : Nat → Value} {A G C : Nat → Nat} {Z : Nat → List Int} {j : Nat} (h : LevsB w base v b r d m s X A G C Z j) (hb : Below w.heap.size w w') : LevsB w' base v b r d m s X A G C Z j :=
  ⟨World.ownsRow.kept h.own (below_gr (row := none) hb) (by cases v.ownBlock <;> simp), fun n hn => (h.lev n hn).kept hb, h.apart, h.low⟩
theorem LevsB.zero (w : World) (base : Nat) (b r d m s : Int) (X : Nat → Value) (A G C : Nat → Nat) (Z : Nat → List Int) : LevsB w base (.slice none 0 0) b r d m s X A G C Z 0 :=
  ⟨World.ownsRow_nil _ _ _ _, fun n hn => by omega, fun n k hn => by omega, fun n hn => by omega⟩
theorem LevsB.push {w w' : World} {base : Nat} {v v' x : Value} {b r d m s : Int} {X : Nat → Value} {A G C : Nat → Nat} {Z : Nat → List Int} {j a g c : Nat} {zs : List Int} (h : LevsB w base v b r d m s X A G C Z j)
    (hl : LevIs w x a g c b r d m s j zs) (hc : base ≤ c) (hne : ∀ n, n < j → C n ≠ c) (hg : w.grownBy w' v.ownBlock) (ho : w'.ownsRow base 69 1 v' (j + 1) ((List.range j).map X ++ [x])) :
    LevsB w' base v' b r d m s (upN X j x) (upN A j a) (upN G j g) (upN C j c) (upN Z j zs) (j + 1) := by
  refine ⟨?_, fun n hn => ?_, fun n k hn hk e => ?_, fun n hn => ?_⟩
  · have e : (List.range (j + 1)).map (upN X j x) = (List.range j).map X ++ [x] := by
      rw [List.range_succ, List.map_append]
      congr 1
      · exact List.map_congr_left fun k hk => upN_other _ _ (by have := List.mem_range.1 hk; omega)
      · simp [upN]
    rw [e]; exact ho
  · by_cases e : n = j
    · subst e; rw [upN_same, upN_same, upN_same, upN_same, upN_same]; exact hl.own h.own hg
    · rw [upN_other _ _ e, upN_other _ _ e, upN_other _ _ e, upN_other _ _ e, upN_other _ _ e]; exact (h.lev n (by omega)).own h.own hg
  · by_cases e1 : n = j
    · subst e1; rw [upN_same, upN_other _ _ (Ne.symm e)]; exact Ne.symm (hne k (by omega))
    · by_cases e2 : k = j
      · subst e2; rw [upN_same, upN_other _ _ e1]; exact hne n (by omega)
      · rw [upN_other _ _ e1, upN_other _ _ e2]; exact h.apart n k (by omega) (by omega) e
  · by_cases e : n = j
    · subst e; rw [upN_same]; exact hc
    · rw [upN_other _ _ e]; exact h.low n (by omega)
/-- block S is a stack of a config, its levels read as Z -/
structure StIs (w : World) (base S L : Nat) (b r d m s : Int) (X : Nat → Value) (A G C : Nat → Nat) (Z : Nat → List Int) : Prop where
  box : ∃ cap : Nat, Blk w S 88 #[.int .i64 b, .int .i64 r, .int .i64 d, .int .i64 m, .int .u64 s, .slice (some ⟨L, 0, none⟩) (b.toNat + 1) cap] ∧ b.toNat + 1 ≤ cap
  right : rightB b r d m = true
  row : ∃ cur : Array Value, Blk w L 69 cur ∧ ∀ n, n ≤ b.toNat → cur[n]? = some (X n)
  lev : ∀ n, n ≤ b.toNat → LevIs w (X n) (A n) (G n) (C n) b r d m s n (Z n)
  apart : ∀ n k, n ≤ b.toNat → k ≤ b.toNat → n ≠ k → C n ≠ C k
  low : ∀ n, n ≤ b.toNat → base ≤ C n
theorem StIs.kept {w w' : World} {base S L : Nat} {b r d m s : Int} {X : Nat → Value} {A G C : Nat → Nat} {Z : Nat → List Int} (h : StIs w base S L b r d m s X A G C Z) (hb : Below w.heap.size w w') : StIs w' base S L b r d m s X A G C Z := by
  obtain ⟨cap, h1, h2⟩ := h.box
  obtain ⟨cur, h3, h4⟩ := h.row
  exact ⟨⟨cap, h1.kept hb, h2⟩, h.right, ⟨cur, h3.kept hb, h4⟩, fun n hn => (h.lev n hn).kept hb, h.apart, h.low⟩
theorem StIs.ltS {w : World} {base S L : Nat} {b r d m s : Int} {X : Nat → Value} {A G C : Nat → Nat} {Z : Nat → List Int} (h : StIs w base S L b r d m s X A G C Z) : S < w.heap.size := by
  obtain ⟨cap, h1, h2⟩ := h.box
  exact h1.lt
/-- a level's cells are laid anew -/
theorem StIs.put {w w' : World} {base S L : Nat} {b r d m s : Int} {X : Nat → Value} {A G C : Nat → Nat} {Z : Nat → List Int} (h : StIs w base S L b r d m s X A G C Z) {n : Nat} (hn : n ≤ b.toNat) (hg : w.grownBy w' (some (C n))) {zs : List Int}
    (hl : LevIs w' (X n) (A n) (G n) (C n) b r d m s n zs) : StIs w' base S L b r d m s X A G C (upN Z n zs) := by
  obtain ⟨cap, h1, h2⟩ := h.box
  obtain ⟨cur, h3, h4⟩ := h.row
  obtain ⟨cn, hc⟩ := (h.lev n hn).cells
  refine ⟨⟨cap, h1.grown hg (by simpa using h1.ne_ hc (by decide)), h2⟩, h.right, ⟨cur, h3.grown hg (by simpa using h3.ne_ hc (by decide)), h4⟩, fun k hk => ?_, h.apart, h.low⟩
  by_cases e : k = n
  · subst e; rw [upN_same]; exact hl
  · rw [upN_other _ _ e]; exact (h.lev k hk).other hg hc (h.apart k n hk hn e)
theorem StIs.setC {w : World} {base S L : Nat} {b r d m s : Int} {X : Nat → Value} {A G C : Nat → Nat} {Z Z' : Nat → List Int} (h : StIs w base S L b r d m s X A G C Z) (e : ∀ n, n ≤ b.toNat → Z n = Z' n) : StIs w base S L b r d m s X A G C Z' :=
  ⟨h.box, h.right, h.row, fun n hn => by rw [← e n hn]; exact h.lev n hn, h.apart, h.low⟩
theorem LevsB.row {w : World} {base : Nat} {v : Value} {b r d m s : Int} {X : Nat → Value} {A G C : Nat → Nat} {Z : Nat → List Int} {j : Nat} (h : LevsB w base v b r d m s X A G C Z j) (hj : 0 < j) : ∃ (L cap : Nat) (cur : Array Value), v = .slice (some ⟨L, 0, none⟩) j cap ∧ j ≤ cap ∧ base ≤ L ∧ Blk w L 69 cur ∧ ∀ n, n < j → cur[n]? = some (X n) := by
  rcases h.own.2 with ⟨rfl, h0⟩ | ⟨g, cap, cur, rfl, hb, hg, hnc, hcm, hsz, htake⟩
  · omega
  · refine ⟨g, cap, cur, rfl, hnc, hb, hg, fun n hn => ?_⟩
    have h2 : (cur.toList.take (j * 1))[n]? = ((List.range j).map X)[n]? := by rw [htake]
    rw [List.getElem?_take, if_pos (by omega)] at h2
    simpa [hn] using h2
theorem LevsB.stack {w : World} {base S : Nat} {v : Value} {r d m s : Int} {X : Nat → Value} {A G C : Nat → Nat} {Z : Nat → List Int} {n : Nat} (h : LevsB w base v (n : Int) r d m s X A G C Z (n + 1)) (hr : rightB (n : Int) r d m = true)
    (hs : Blk w S 88 #[.int .i64 (n : Int), .int .i64 r, .int .i64 d, .int .i64 m, .int .u64 s, .slice none 0 0]) : ∃ L, StIs (w.setCell ⟨S, 5, none⟩ v) base S L (n : Int) r d m s X A G C Z := by
  obtain ⟨L, cap, cur, rfl, hcap, hL, hrow, hcur⟩ := h.row (by omega)
  have hg := grown_set w S 5 (.slice (some ⟨L, 0, none⟩) (n + 1) cap)
  refine ⟨L, ⟨cap, by simpa using hs.set_ 5 (.slice (some ⟨L, 0, none⟩) (n + 1) cap), by simpa using hcap⟩, hr, ⟨cur, hrow.grown hg (by simpa using hrow.ne_ hs (by decide)), fun k hk => hcur k (by simp at hk; omega)⟩, fun k hk => (h.lev k (by simp at hk; omega)).far hs (by decide) hg, fun k q hk hq e => h.apart k q (by simp at hk; omega) (by simp at hq; omega) e, fun k hk => h.low k (by simp at hk; omega)⟩
def zeroZ (b r d m : Int) (n : Nat) : List Int := List.replicate (cellsN b r d m (n : Int)) 0
def StNewPost (w : World) (b r d m s : Int) (e : Ending) (w' : World) : Prop :=
  ∃ S L X A G C, e = .returned (.tuple #[.pointer (some ⟨S, 0, none⟩), .int .i64 0]) ∧ w.heap.size ≤ S ∧ StIs w' w.heap.size S L b r d m s X A G C (zeroZ b r d m) ∧ Below w.heap.size w w'
theorem Try.infoLv : (Try.prog.info? 69).map (fun i => (i.zero, i.size, i.bytes)) = some (some .nilIface, 1, 16) := by kernel_rfl
set_option maxRecDepth 100000 in
set_option maxHeartbeats 4000000 in
theorem stnew_no (b r d m s : Int) (hr : rightB b r d m = false) (w : World) :
    Calls Try.prog 17 #[.agg #[.int .i64 b, .int .i64 r, .int .i64 d, .int .i64 m, .int .u64 s]] w fun e w' => e = .returned (.tuple #[.pointer none, .int .i64 1]) ∧ Below w.heap.size w w' := by
  have PR := fun w => right_any b r d m s w
  rw [hr] at PR
  have PR := Lib.hid PR
  obtain ⟨g1, hb1, hsz1⟩ := news1 w (.cells #[.int .i64 b, .int .i64 r, .int .i64 d, .int .i64 m, .int .u64 s] 24)
  have hx1 : Blk _ w.heap.size 24 #[.int .i64 b, .int .i64 r, .int .i64 d, .int .i64 m, .int .u64 s] := g1
  have HB1 := Lib.hid hb1
  clear g1 hb1 hsz1 hr
  go_enter Try.func17, Try.ntmps17
  go_wp2_with (refine wpList_load_row rfl 24 _ rfl w.heap.size rfl 24 _ (0, 0) _ hx1 Try.underlying24 rfl (by kernel_rfl) ?_)
  with_reducible refine (PR.out _).mono ?_
  rintro e w2 ⟨rfl, hb⟩
  have HB2 := Lib.hid (btr HB1.out hb)
  clear hb
  go_wp2
  go_ret2
  exact ⟨rfl, HB2.out⟩
set_option maxRecDepth 100000 in
set_option maxHeartbeats 4000000 in
theorem stnew_yes (b r d m s : Int) (hr : rightB b r d m = true) (w : World) :
    Calls Try.prog 17 #[.agg #[.int .i64 b, .int .i64 r, .int .i64 d, .int .i64 m, .int .u64 s]] w (StNewPost w b r d m s) := by
  obtain ⟨i0', hi, hz0, hz1, hz2⟩ := info_parts Try.infoLv
  have PR := fun w => right_any b r d m s w
  rw [hr] at PR
  have PR := Lib.hid PR
  have HR := Lib.hid hr
  have hb59 := right_of hr
  obtain ⟨n, hn⟩ : ∃ n : Nat, b = (n : Int) := ⟨b.toNat, by omega⟩
  subst hn
  have hn59 : n ≤ 59 := by omega
  have PN := Lib.hid (fun (j : Nat) (hj : j ≤ n) w => lvnew_yes (n : Int) r d m s (j : Int) hr (by omega) (by omega) w)
  clear hb59 hr
  obtain ⟨g1, hb1, hsz1⟩ := news1 w (.cells #[.int .i64 (n : Int), .int .i64 r, .int .i64 d, .int .i64 m, .int .u64 s] 24)
  have hx1 : Blk _ w.heap.size 24 #[.int .i64 (n : Int), .int .i64 r, .int .i64 d, .int .i64 m, .int .u64 s] := g1
  have HB1 := Lib.hid hb1
  have HX1 := Lib.hid hx1
  clear g1 hb1 hsz1
  go_enter Try.func17, Try.ntmps17
  go_wp2_with (refine wpList_load_row rfl 24 _ rfl w.heap.size rfl 24 _ (0, 0) _ hx1 Try.underlying24 rfl (by kernel_rfl) ?_)
  with_reducible refine (PR.out _).mono ?_
  rintro e w2 ⟨rfl, hb⟩
  have HB2 := Lib.hid (btr HB1.out hb)
  have HX2 := Lib.hid (HX1.out.kept hb)
  clear hb hx1
  have q0 := HX2.out.cell 0
  simp at q0
  go_upto_region 5 with (refine wpList_load_row rfl 24 _ rfl w.heap.size rfl 24 _ (0, 0) _ HX2.out Try.underlying24 rfl (by kernel_rfl) ?_)
  have HSB := Lib.hid (Blk.new w2 88 #[.int .i64 (n : Int), .int .i64 r, .int .i64 d, .int .i64 m, .int .u64 s, .slice none 0 0])
  have HX3 := Lib.hid (HX2.out.alloc (.cells #[.int .i64 (n : Int), .int .i64 r, .int .i64 d, .int .i64 m, .int .u64 s, .slice none 0 0] 88))
  have HB3 := Lib.hid (HB2.out.alloc HB2.out.size (.cells #[.int .i64 (n : Int), .int .i64 r, .int .i64 d, .int .i64 m, .int .u64 s, .slice none 0 0] 88))
  have HSL : Hid (w.heap.size ≤ w2.heap.size) := Lib.hid HB2.out.size
  clear HX2 HB2 q0 HX1 HB1
  generalize w2.alloc (.cells #[.int .i64 (n : Int), .int .i64 r, .int .i64 d, .int .i64 m, .int .u64 s, .slice none 0 0] 88) = w3 at *
  generalize w2.heap.size = SB at *
  have q0 := HX3.out.cell 0
  simp at q0
  go_wp2_with fail
  clear q0
  go_loopw [5, 18] (fun v i wr => ∃ (j : Nat) (X : Nat → Value) (A G C : Nat → Nat), j ≤ n + 1 ∧ i = .int .i64 (j : Int) ∧ LevsB wr w.heap.size v (n : Int) r d m s X A G C (zeroZ (n : Int) r d m) j ∧ Blk wr w.heap.size 24 #[.int .i64 (n : Int), .int .i64 r, .int .i64 d, .int .i64 m, .int .u64 s] ∧ Blk wr SB 88 #[.int .i64 (n : Int), .int .i64 r, .int .i64 d, .int .i64 m, .int .u64 s, .slice none 0 0] ∧ Below w.heap.size w wr) (fun _ i _ => n + 1 - (intOf i).toNat)
  case atStart => exact ⟨0, fun _ => .nilIface, fun _ => 0, fun _ => 0, fun _ => 0, by omega, rfl, LevsB.zero _ _ _ _ _ _ _ _ _ _ _ _, HX3.out, HSB.out, HB3.out⟩
  case round =>
    obtain ⟨j, X, A, G, C, hj, rfl, hlv, hx, hs, hbel⟩ := hrel
    have HLV := Lib.hid hlv
    have HX := Lib.hid hx
    have HS := Lib.hid hs
    have HBL := Lib.hid hbel
    clear hlv hx hs hbel HX3 HSB HB3
    by_cases hlt : j < n + 1
    · have i0 : (0 : Int) ≤ (j : Int) := by omega
      have i1 : (j : Int) < (n : Int) + 1 := by omega
      have PL := Lib.hid (PN.out j (by omega))
      go_wp2_with (refine wpList_load_row rfl 24 _ rfl w.heap.size rfl 24 _ (0, 0) _ HX.out Try.underlying24 rfl (by kernel_rfl) ?_)
      with_reducible refine (PL.out _).mono ?_
      rintro e w4 ⟨x, A4, G4, C4, rfl, hC4, hl4, hb4⟩
      obtain ⟨tx, rfl⟩ := hl4.open_
      have HL4 := Lib.hid hl4
      have HC4 := Lib.hid hC4
      have HLV4 := Lib.hid (HLV.out.kept hb4)
      have HX4 := Lib.hid (HX.out.kept hb4)
      have HS4 := Lib.hid (HS.out.kept hb4)
      have HB4 := Lib.hid (btr HBL.out hb4)
      have hs4 := HB4.out.size
      have HLN : Hid (((List.range j).map X).length = j) := Lib.hid (by simp)
      have HCN : Hid (∀ k, k < j → C k ≠ C4) := Lib.hid (fun k hk => by have := (HLV.out.lev k hk).ltC; omega)
      have hc1 : j + 1 ≤ maxLen := by unfold maxLen; omega
      have hc4 : (j + 1) * 16 ≤ 140737488355328 := by omega
      clear hl4 hC4 hb4 PL
      go_wp2_with (at_builtin; refine wpList_append_own_at _ rfl _ _ 86 rfl w.heap.size 69 i0' .nilIface 1 16 Try.underlying86 hi hz0 hz1 hz2 rfl (by decide) _ j _ rfl (World.ownsRow.alloc HLV4.out.own _) ⟨w4.heap.size, 0, none⟩ 1 1 [.iface tx (.pointer (some ⟨A4, 0, none⟩))] rfl rfl (cell_one_new _ _ _) ?c2 hc1 hc4 ?c5 ?_)
      case c2 => simp [Value.oneCell']
      case c5 => simp; omega
      intro v8 w8 hown' hgrow hnil' hq9
      have HAL : Hid (Below w4.heap.size w4 (w4.alloc (.cells #[.iface tx (.pointer (some ⟨A4, 0, none⟩))] 69))) := Lib.hid ((Below.refl _ _).alloc (Nat.le_refl _) _)
      have HLV8 := Lib.hid ((HLV4.out.kept HAL.out).push (HL4.out.kept HAL.out) (Nat.le_trans HBL.out.size HC4.out) HCN.out hgrow hown')
      have HX8 : Hid (Blk w8 w.heap.size 24 #[.int .i64 (n : Int), .int .i64 r, .int .i64 d, .int .i64 m, .int .u64 s]) := Lib.hid ((HX4.out.kept HAL.out).grown hgrow (Ne.symm (own_ne (HLV4.out.kept HAL.out).own (HX4.out.kept HAL.out) (by decide))))
      have HS8 : Hid (Blk w8 SB 88 #[.int .i64 (n : Int), .int .i64 r, .int .i64 d, .int .i64 m, .int .u64 s, .slice none 0 0]) := Lib.hid ((HS4.out.kept HAL.out).grown hgrow (Ne.symm (own_ne (HLV4.out.kept HAL.out).own (HS4.out.kept HAL.out) (by decide))))
      have HB8 : Hid (Below w.heap.size w w8) := Lib.hid ((HB4.out.alloc HB4.out.size _).grown hgrow (by simp; omega) (fun k e => (HLV4.out.own.lt k e).1))
      have HZ8 : Hid (upN (zeroZ (n : Int) r d m) j (List.replicate (cellsN (n : Int) r d m (j : Int)) 0) = zeroZ (n : Int) r d m) := Lib.hid (by
        funext k
        by_cases e : k = j
        · subst e; exact upN_same _ _ _
        · exact upN_other _ _ e)
      rw [HZ8.out] at HLV8
      clear hown' hgrow hnil' hq9 HAL HL4 HZ8
      go_wp2
      go_roundw
      case rel => exact ⟨j + 1, _, _, _, _, by omega, by go_num, HLV8.out, HX8.out, HS8.out, HB8.out⟩
      case measure => simp [intOf]; omega
    · obtain rfl : j = n + 1 := by omega
      obtain ⟨L, hst⟩ := HLV.out.stack HR.out HS.out
      obtain ⟨L2, cap, cur, rfl, -⟩ := HLV.out.row (by omega)
      have HST := Lib.hid hst
      have HBS : Hid (Below w.heap.size w (wr.setCell ⟨SB, 5, none⟩ (.slice (some ⟨L2, 0, none⟩) (n + 1) cap))) := Lib.hid (HBL.out.setCell HSL.out _)
      have f5 := HS.out.frozen 5
      have c5 := HS.out.cell 5
      simp at c5
      have i1 : ¬ (((n + 1 : Nat) : Int) < (n : Int) + 1) := by omega
      clear hst hlt HLV
      go_wp2_with fail
      go_ret2
      exact ⟨SB, L, X, A, G, C, rfl, HSL.out, HST.out, HBS.out⟩
theorem StIs.low_ {w : World} {base base' S L : Nat} {b r d m s : Int} {X : Nat → Value} {A G C : Nat → Nat} {Z : Nat → List Int} (h : StIs w base S L b r d m s X A G C Z) (hb : base' ≤ base) : StIs w base' S L b r d m s X A G C Z :=
  ⟨h.box, h.right, h.row, h.lev, h.apart, fun n hn => Nat.le_trans hb (h.low n hn)⟩
theorem StIs.far {w w' : World} {base S L g : Nat} {t : TypeId} {cs : Array Value} {b r d m s : Int} {X : Nat → Value} {A G C : Nat → Nat} {Z : Nat → List Int} (h : StIs w base S L b r d m s X A G C Z) (hb : Blk w g t cs) (ht : 2 ≠ t ∧ 122 ≠ t ∧ 115 ≠ t ∧ 119 ≠ t)
    (ht2 : 88 ≠ t ∧ 69 ≠ t) (hg : w.grownBy w' (some g)) : StIs w' base S L b r d m s X A G C Z := by
  obtain ⟨cap, h1, h2⟩ := h.box
  obtain ⟨cur, h3, h4⟩ := h.row
  exact ⟨⟨cap, h1.grown hg (by simpa using h1.ne_ hb ht2.1), h2⟩, h.right, ⟨cur, h3.grown hg (by simpa using h3.ne_ hb ht2.2), h4⟩, fun n hn => (h.lev n hn).far hb ht hg, h.apart, h.low⟩
end Go.Proofs.Ythbkljeibmkimaa

/-
  The walks of a stack's methods: Config, level, Cells, Load. Conditions: none beyond those stated at each theorem.
-/
namespace Go.Proofs.Ythbkljeibmkimaa
open Go.RowKit
set_option linter.unusedVariables false
set_option linter.unusedSimpArgs false

theorem stlevel (w : World) (base S L : Nat) (b r d m s : Int) (X : Nat → Value) (A G C : Nat → Nat) (Z : Nat → List Int) (h : StIs w base S L b r d m s X A G C Z) (n : Nat) (hn : n ≤ b.toNat) :
    Calls Try.prog 23 #[.pointer (some ⟨S, 0, none⟩), .int .i64 (n : Int)] w fun e w' => e = .returned (.tuple #[X n, .bool true]) ∧ w = w' := by
  obtain ⟨cap, h1, h2⟩ := h.box
  obtain ⟨cur, h3, h4⟩ := h.row
  have hR := right_of h.right
  have c5 := h1.cell 5
  have cn := (h3.cell n).trans (h4 n hn)
  simp at c5
  obtain ⟨q, hq⟩ : ∃ q : Nat, b.toNat = q := ⟨_, rfl⟩
  rw [hq] at c5 hn h2
  have d1 : decide ((n : Int) < 0) = false := decide_eq_false (by omega)
  have d2 : decide ((q : Int) + 1 ≤ (n : Int)) = false := decide_eq_false (by omega)
  have d3 : decide (q + 1 ≤ n) = false := decide_eq_false (by omega)
  have i0 : (0 : Int) ≤ (n : Int) := by omega
  have i1 : (n : Int) < (q : Int) + 1 := by omega
  have i2 : n < q + 1 := by omega
  obtain ⟨t, hx⟩ := (h.lev n (by omega)).open_
  rw [hx] at cn ⊢
  clear h h1 h3 h4 hR hq hx
  go_enter Try.func23, Try.ntmps23
  go_wp2
  go_ret2
  exact ⟨rfl, rfl⟩
theorem natR {w : World} {base S L : Nat} {b r d m s : Int} {X : Nat → Value} {A G C : Nat → Nat} {Z : Nat → List Int} (h : StIs w base S L b r d m s X A G C Z) : ∃ R W : Nat, r = (R : Int) ∧ d = (W : Int) ∧ 0 < W := by
  have := right_of h.right
  exact ⟨r.toNat, d.toNat, by omega, by omega, by omega⟩
theorem stconfig (w : World) (base S L : Nat) (b r d m s : Int) (X : Nat → Value) (A G C : Nat → Nat) (Z : Nat → List Int) (h : StIs w base S L b r d m s X A G C Z) :
    Calls Try.prog 20 #[.pointer (some ⟨S, 0, none⟩)] w fun e w' => e = .returned (.agg #[.int .i64 b, .int .i64 r, .int .i64 d, .int .i64 m, .int .u64 s]) ∧ Below w.heap.size w w' := by
  obtain ⟨g1, hb1, hsz1⟩ := news1 w (.cells #[.int .i64 0, .int .i64 0, .int .i64 0, .int .i64 0, .int .u64 0] 24)
  have hx1 : Blk _ w.heap.size 24 #[.int .i64 0, .int .i64 0, .int .i64 0, .int .i64 0, .int .u64 0] := g1
  obtain ⟨cap, hbx, -⟩ := h.box
  have hA := hbx.kept hb1
  have c0 := hA.cell 0
  have c1 := hA.cell 1
  have c2 := hA.cell 2
  have c3 := hA.cell 3
  have c4 := hA.cell 4
  simp at c0 c1 c2 c3 c4
  have HX1 := Lib.hid hx1
  have HB1 := Lib.hid hb1
  have n0 := hx1.cell 0
  have n1 := hx1.cell 1
  have n2 := hx1.cell 2
  have n3 := hx1.cell 3
  have n4 := hx1.cell 4
  simp at n0 n1 n2 n3 n4
  have f0 := hx1.frozen 0
  have f1 := hx1.frozen 1
  have f2 := hx1.frozen 2
  have f3 := hx1.frozen 3
  have f4 := hx1.frozen 4
  clear hA hx1 hb1 g1 hsz1 h hbx
  go_enter Try.func20, Try.ntmps20
  go_wp2_with fail
  refine bodyPost_ret (v := .agg #[.int .i64 b, .int .i64 r, .int .i64 d, .int .i64 m, .int .u64 s]) (results_cell_row rfl _ _ w.heap.size 24 _ (0, 0) _ rfl (heap_alloc_new w _) Try.underlying24 rfl (by kernel_rfl)) rfl ⟨rfl, ?_⟩
  exact (Below.refl _ _).alloc (Nat.le_refl _) _
end Go.Proofs.Ythbkljeibmkimaa

/-
  The walks of sketch.Point and stack.Point. Conditions: none beyond those stated at each theorem.
-/
namespace Go.Proofs.Ythbkljeibmkimaa
open Go.RowKit
set_option linter.unusedVariables false
set_option linter.unusedSimpArgs false

set_option maxRecDepth 100000 in
set_option maxHeartbeats 8000000 in
theorem skpoint (w : World) (A G C : Nat) (b r d m s l : Int) (zs : List Int) (h : SkIs w A G C b r d m s l zs) (hr : rightB b r d m = true) (he : exactB b r d m l = false) (s0 : 0 ≤ s) (s1 : s ≤ 18446744073709551615) (k : Nat) (k1 : k < 18446744073709551616) (hk : (k : Int) < keysI b r d m l) :
    Calls Try.prog 87 #[.pointer (some ⟨A, 0, none⟩), .int .u64 (k : Int)] w fun e w' => e = .returned (.tuple #[.int .i64 (lvPt b r d m s l zs k), .int .i64 0]) ∧ Below w.heap.size w w' := by
  have HA := Lib.hid h
  obtain ⟨R, W, rfl, rfl, h1, h2, h3, h4⟩ := sk_nat (w := w) (A := A) (G := G) (C := C) (s := s) (l := l) (zs := zs) hr
  have PK := Lib.hid (fun w => cols_any b W m s l k R s0 s1 (by omega) (by omega) hk w)
  have HM : Hid (meetB R W (colsZ W s l k R) = true) := Lib.hid (by have := colsZ_meet (d := (W : Int)) (s := s) (l := l) (k := (k : Int)) h1 (by omega); simpa using this)
  have HV : Hid (lvPt b R W m s l zs k = kthL (readZ W zs (colsZ W s l k R)) (if m = 3 then (R - 1) / 2 else 0)) := Lib.hid (by unfold lvPt; rw [he]; simp)
  have HCLn := Lib.hid (colsZ_len (W : Int) s l k R)
  have k0 : 0 ≤ (k : Int) := by omega
  have hsl := Try.slI
  clear h hk he hr
  go_enter Try.func87, Try.ntmps87
  go_wp2_with fail
  refine wp_region_still_tail 9 (by kernel_rfl) (by kernel_rfl) ?_
  simp only [List.take_succ_cons, List.take_zero, List.drop_succ_cons, List.drop_zero]
  have HA2 : Hid (SkIs { heap := w.heap, tape := w.tape, drawn := w.drawn + 1, os := w.os, output := w.output } A G C b R W _ s l zs) := Lib.hid (HA.out.kept (below_drewN (Below.refl _ _) 1))
  have HB2 : Hid (Below w.heap.size w { heap := w.heap, tape := w.tape, drawn := w.drawn + 1, os := w.os, output := w.output }) := Lib.hid (below_drewN (Below.refl _ _) 1)
  generalize ({ heap := w.heap, tape := w.tape, drawn := w.drawn + 1, os := w.os, output := w.output } : World) = wd at *
  have q1 := HA2.out.box.cell 1
  have q2 := HA2.out.box.cell 2
  have q3 := HA2.out.box.cell 3
  have q4 := HA2.out.box.cell 4
  have q5 := HA2.out.box.cell 5
  have q6 := HA2.out.box.cell 6
  simp at q1 q2 q3 q4 q5 q6
  repeat still_step
  refine wpStill_nil ?_
  go_wp2_with fail
  with_reducible refine (PK.out _).mono ?_
  intro e w3 hpost
  obtain ⟨gc, rfl, hgc, -, hints, hb⟩ := hpost.ints
  have HA3 := Lib.hid (HA2.out.kept hb)
  have HB3 := Lib.hid (btr HB2.out hb)
  have HGR : Hid (GridIs w3 G C R W zs) := Lib.hid (by
    have h1 := HA3.out.grid
    rw [Int.toNat_natCast, Int.toNat_natCast] at h1
    exact h1)
  have HIN := Lib.hid hints
  clear hb hpost hints q1 q2 q3 q4 q5 q6 hgc
  have q0 := HA3.out.box.cell 0
  have q4 := HA3.out.box.cell 4
  simp at q0 q4
  by_cases hm : m = 3
  · subst hm
    have PR := Lib.hid (middle_yes w3 G C R W zs (colsZ W s l k R) _ HGR.out HIN.out HM.out)
    go_wp2_with fail
    with_reducible refine PR.out.mono ?_
    rintro e w4 ⟨u, rfl, hu, hb⟩
    have HU : Hid (u = lvPt b R W 3 s l zs k) := Lib.hid (by rw [HCLn.out] at hu; have h1 := kthL_of hu; have h2 := HV.out; simp only [if_true] at h2; rw [h2]; simpa using h1.symm)
    have HB4 := Lib.hid (btr HB3.out hb)
    clear hu hb q0 q4
    go_wp2
    go_ret2
    first | exact ⟨rfl, HB4.out⟩ | exact ⟨by rw [HU.out]; rfl, HB4.out⟩
  · have PR := Lib.hid (least_yes w3 G C R W zs (colsZ W s l k R) _ HGR.out HIN.out HM.out)
    have em : (m == 3) = false := by simp [hm]
    have em' : decide (m = 3) = false := by simp [hm]
    go_wp2_with fail
    with_reducible refine PR.out.mono ?_
    rintro e w4 ⟨u, rfl, hu, hb⟩
    have HU : Hid (u = lvPt b R W m s l zs k) := Lib.hid (by rw [HV.out, if_neg hm]; exact (kthL_of hu).symm)
    have HB4 := Lib.hid (btr HB3.out hb)
    clear hu hb q0 q4
    go_wp2
    go_ret2
    first | exact ⟨rfl, HB4.out⟩ | exact ⟨by rw [HU.out]; rfl, HB4.out⟩
theorem Try.mExPoint (k : Nat) (a : Addr) (w : World) : (method (k + 1) 101 (.pointer (some a)) "Point").run Try.prog w = .ok (74, .pointer (some a)) w := by kernel_rfl
theorem Try.mSkPoint (k : Nat) (a : Addr) (w : World) : (method (k + 1) 104 (.pointer (some a)) "Point").run Try.prog w = .ok (87, .pointer (some a)) w := by kernel_rfl
/-- what the stack tells of a piece -/
theorem stpoint (w : World) (base S L : Nat) (b r d m s : Int) (X : Nat → Value) (A G C : Nat → Nat) (Z : Nat → List Int) (h : StIs w base S L b r d m s X A G C Z) (s0 : 0 ≤ s) (s1 : s ≤ 18446744073709551615) (n : Nat) (hn : n ≤ b.toNat) (k : Nat) (k1 : k < 18446744073709551616) (hk : (k : Int) < keysI b r d m (n : Int)) :
    Calls Try.prog 13 #[.pointer (some ⟨S, 0, none⟩), .agg #[.int .i64 (n : Int), .int .u64 (k : Int)]] w fun e w' => e = .returned (.tuple #[.int .i64 (lvPt b r d m s (n : Int) (Z n) k), .int .i64 0]) ∧ Below w.heap.size w w' := by
  have hl := h.lev n hn
  have hrt := h.right
  have HS := Lib.hid h
  have PL := Lib.hid (fun wq hq => stlevel wq base S L b r d m s X A G C Z hq n hn)
  obtain ⟨g1, hb1, hsz1⟩ := news1 w (.cells #[.int .i64 (n : Int), .int .u64 (k : Int)] 42)
  have HX1 : Hid (Blk _ w.heap.size 42 #[.int .i64 (n : Int), .int .u64 (k : Int)]) := Lib.hid g1
  have HB1 := Lib.hid hb1
  have HS1 := Lib.hid (h.kept hb1)
  clear g1 hb1 hsz1
  have q0 := HX1.out.cell 0
  have q1 := HX1.out.cell 1
  simp at q0 q1
  have PLL := Lib.hid (PL.out _ HS1.out)
  rcases hl with ⟨h1, h2, h3⟩ | ⟨h1, h2, h3⟩
  · rw [h2] at PLL
    have HV : Hid (lvPt b r d m s (n : Int) (Z n) k = cellD (Z n) k) := Lib.hid (by unfold lvPt; rw [if_pos h1])
    have PC := Lib.hid (fun wq hq => expoint_yes wq (A n) (G n) (C n) b r d m s (n : Int) (keysI b r d m (n : Int)).toNat k (Z n) hq (by omega))
    have H3 := Lib.hid (h3.kept HB1.out)
    clear h h1 h2 h3 hk hrt PL
    have hm := Try.mExPoint
    go_enter Try.func13, Try.ntmps13
    go_wp2_with fail
    with_reducible refine PLL.out.mono ?_
    rintro e w2 ⟨rfl, hw2⟩
    subst hw2
    go_wp2_with fail
    with_reducible refine (PC.out _ H3.out).mono ?_
    rintro e w2 ⟨rfl, hw2⟩
    subst hw2
    go_wp2
    go_ret2
    exact ⟨by rw [HV.out]; rfl, HB1.out⟩
  · rw [h2] at PLL
    have PC := Lib.hid (fun wq hq => skpoint wq (A n) (G n) (C n) b r d m s (n : Int) (Z n) hq hrt h1 s0 s1 k k1 hk)
    have H3 := Lib.hid (h3.kept HB1.out)
    clear h h1 h2 h3 hk hrt PL
    have hm := Try.mSkPoint
    go_enter Try.func13, Try.ntmps13
    go_wp2_with fail
    with_reducible refine PLL.out.mono ?_
    rintro e w2 ⟨rfl, hw2⟩
    subst hw2
    go_wp2_with fail
    with_reducible refine (PC.out _ H3.out).mono ?_
    rintro e w2 ⟨rfl, hb⟩
    have HB2 := Lib.hid (btr HB1.out hb)
    clear hb
    go_wp2
    go_ret2
    exact ⟨rfl, HB2.out⟩
end Go.Proofs.Ythbkljeibmkimaa
