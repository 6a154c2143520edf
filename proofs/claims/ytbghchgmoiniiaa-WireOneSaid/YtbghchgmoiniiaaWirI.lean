/-
  The walks of the reference's Size and of WireSize. Conditions: none beyond those stated at each theorem.
-/
import Derived.Test.YtbghchgmoiniiaaWirH
import Derived.Test.YtbghchgmoiniiaaCfg
namespace Go.Proofs.Ytbghchgmoiniiaa
open Go.RowKit
set_option linter.unusedVariables false
set_option linter.unusedSimpArgs false

set_option maxRecDepth 100000 in
set_option maxHeartbeats 4000000 in
theorem rsize_any (b r d m s : Int) (w : World) :
    Calls Try.prog 12 #[.agg #[.int .i64 b, .int .i64 r, .int .i64 d, .int .i64 m, .int .u64 s]] w fun e w' => e = .returned (.int .i64 (sizeN b r d m : Int)) ∧ Below w.heap.size w w' := by
  have PR := fun w => rright_any b r d m s w
  obtain ⟨g1, hb1, hsz1⟩ := news1 w (.cells #[.int .i64 b, .int .i64 r, .int .i64 d, .int .i64 m, .int .u64 s] 36)
  have hx1 : Blk _ w.heap.size 36 #[.int .i64 b, .int .i64 r, .int .i64 d, .int .i64 m, .int .u64 s] := g1
  have HB1 := Lib.hid hb1
  have HX1 := Lib.hid hx1
  clear g1 hb1 hsz1
  cases hr : rightB b r d m
  · rw [hr] at PR
    have PR := Lib.hid PR
    have HN : Hid (sizeN b r d m = 0) := Lib.hid (by unfold sizeN; rw [hr]; rfl)
    rw [HN.out]
    clear hr
    go_enter Try.func12, Try.ntmps12
    go_wp2_with (refine wpList_load_row rfl 36 _ rfl w.heap.size rfl 36 _ (0, 0) _ hx1 Try.underlying36 rfl (by kernel_rfl) ?_)
    with_reducible refine (PR.out _).mono ?_
    rintro e w2 ⟨rfl, hb⟩
    have HB2 := Lib.hid (btr HB1.out hb)
    clear hb
    go_wp2
    go_ret
    exact ⟨rfl, HB2.out⟩
  · rw [hr] at PR
    have PR := Lib.hid PR
    have PX := Lib.hid (fun (j : Nat) w => rexact_any b r d m s (j : Int) w)
    have PK := Lib.hid (fun (j : Nat) w => rkeys_any b r d m s (j : Int) w)
    have hR := right_of hr
    obtain ⟨n, hn⟩ : ∃ n : Nat, b = (n : Int) := ⟨b.toNat, by omega⟩
    subst hn
    have HN : Hid (sizeN (n : Int) r d m = sizeUp (n : Int) r d m (n + 1)) := Lib.hid (by unfold sizeN; rw [if_pos hr]; rfl)
    have HLE := Lib.hid (fun j => sizeUp_le hr j)
    have HCL := Lib.hid (fun (j : Nat) => cellsN_le (l := (j : Int)) hr)
    have HRR := Lib.hid hR
    rw [HN.out]
    have hn59 : n ≤ 59 := by omega
    clear hr hR
    go_enter Try.func12, Try.ntmps12
    go_wp2_with (refine wpList_load_row rfl 36 _ rfl w.heap.size rfl 36 _ (0, 0) _ hx1 Try.underlying36 rfl (by kernel_rfl) ?_)
    with_reducible refine (PR.out _).mono ?_
    rintro e w2 ⟨rfl, hb⟩
    have HB2 := Lib.hid (btr HB1.out hb)
    have HX2 := Lib.hid (HX1.out.kept hb)
    clear hb hx1
    go_wp2_with fail
    go_loopw [3, 4] (fun y i wr => ∃ j : Nat, j ≤ n + 1 ∧ i = .int .i64 (j : Int) ∧ y = .int .i64 (sizeUp (n : Int) r d m j : Int) ∧ Blk wr w.heap.size 36 #[.int .i64 (n : Int), .int .i64 r, .int .i64 d, .int .i64 m, .int .u64 s] ∧ Below w.heap.size w wr) (fun _ i _ => n + 1 - (intOf i).toNat)
    case atStart => exact ⟨0, by omega, rfl, rfl, HX2.out, HB2.out⟩
    case round =>
      obtain ⟨j, hj, rfl, rfl, hx, hbel⟩ := hrel
      have HX := Lib.hid hx
      have HBL := Lib.hid hbel
      have q0 := hx.cell 0
      simp at q0
      clear hx hbel HX2 HB2
      by_cases hlt : j < n + 1
      · have PX2 := PX.out j
        have PK2 := Lib.hid (PK.out j)
        have HSU : Hid (sizeUp (n : Int) r d m (j + 1) = sizeUp (n : Int) r d m j + cellsN (n : Int) r d m (j : Int)) := Lib.hid rfl
        have hc := HCL.out j
        have hz := HLE.out j
        have i1 : (j : Int) ≤ (n : Int) := by omega
        have i2 : decide ((j : Int) ≤ (n : Int)) = true := decide_eq_true i1
        have i3 : decide (j ≤ n) = true := decide_eq_true (by omega)
        cases hex : exactB (n : Int) r d m (j : Int)
        · rw [hex] at PX2
          have PX2 := Lib.hid PX2
          have hR := HRR.out
          obtain ⟨cn, hcn⟩ : ∃ cn, cn = cellsN (n : Int) r d m (j : Int) := ⟨_, rfl⟩
          have HCN : Hid (cn = r.toNat * d.toNat) := Lib.hid (by rw [hcn]; unfold cellsN; rw [hex]; simp)
          have hp : (r.toNat : Int) * (d.toNat : Int) = (cn : Int) := by rw [HCN.out]; exact (Int.natCast_mul ..).symm
          rw [show (r.toNat : Int) = r by omega, show (d.toNat : Int) = d by omega] at hp
          rw [← hcn] at HSU hc
          generalize sizeUp (n : Int) r d m j = su at *
          clear hR hex hcn
          go_wp2_with (refine wpList_load_row rfl 36 _ rfl w.heap.size rfl 36 _ (0, 0) _ HX.out Try.underlying36 rfl (by kernel_rfl) ?_)
          with_reducible refine (PX2.out _).mono ?_
          rintro e w3 ⟨rfl, hb⟩
          have HX3 := Lib.hid (HX.out.kept hb)
          have HB3 := Lib.hid (btr HBL.out hb)
          have q1 := HX3.out.cell 1
          have q2 := HX3.out.cell 2
          simp at q1 q2
          clear hb q0
          go_wp2
          go_roundw
          case rel => exact ⟨j + 1, by omega, by go_num, by rw [HSU.out]; go_num, HX3.out, HB3.out⟩
          case measure => simp [intOf]; omega
        · rw [hex] at PX2
          have PX2 := Lib.hid PX2
          have hkd := of_decide_eq_true hex
          obtain ⟨cn, hcn⟩ : ∃ cn, cn = cellsN (n : Int) r d m (j : Int) := ⟨_, rfl⟩
          have HCN : Hid (keysI (n : Int) r d m (j : Int) = (cn : Int)) := Lib.hid (by rw [hcn]; unfold cellsN; rw [hex]; simp; omega)
          rw [HCN.out] at PK2
          have hw : IntKind.i64.wrap (cn : Int) = (cn : Int) := by rw [wrapI_eq64]; unfold wrap64; omega
          rw [← hcn] at HSU hc
          generalize sizeUp (n : Int) r d m j = su at *
          clear hex hcn hkd
          go_wp2_with (refine wpList_load_row rfl 36 _ rfl w.heap.size rfl 36 _ (0, 0) _ HX.out Try.underlying36 rfl (by kernel_rfl) ?_)
          with_reducible refine (PX2.out _).mono ?_
          rintro e w3 ⟨rfl, hb⟩
          have HX3 := Lib.hid (HX.out.kept hb)
          have HB3 := Lib.hid (btr HBL.out hb)
          clear hb q0
          go_wp2_with (refine wpList_load_row rfl 36 _ rfl w.heap.size rfl 36 _ (0, 0) _ HX3.out Try.underlying36 rfl (by kernel_rfl) ?_)
          with_reducible refine (PK2.out _).mono ?_
          rintro e w4 ⟨rfl, hb⟩
          have HX4 := Lib.hid (HX3.out.kept hb)
          have HB4 := Lib.hid (btr HB3.out hb)
          clear hb
          go_wp2
          go_roundw
          case rel => exact ⟨j + 1, by omega, by go_num, by rw [HSU.out]; go_num, HX4.out, HB4.out⟩
          case measure => simp [intOf]; omega
      · obtain rfl : j = n + 1 := by omega
        have i1 : ¬ (((n + 1 : Nat) : Int) ≤ (n : Int)) := by omega
        have i3 : decide (n + 1 ≤ n) = false := decide_eq_false (by omega)
        clear hlt
        go_wp2
        go_ret
        exact ⟨rfl, HBL.out⟩
set_option maxRecDepth 100000 in
set_option maxHeartbeats 4000000 in
theorem WireSize_walk (v : Value) (w : World) (hv : shCfg.Val w v) :
    Calls Try.prog 4 #[v] w fun e w' => e = .returned (.bool true) ∧ Below w.heap.size w w' := by
  obtain ⟨b, r, d, m, s, rfl, -⟩ := valCfg hv
  clear hv
  have PS := Lib.hid (fun w => shown23 w)
  have PW := Lib.hid (fun w => wsize_any b r d m s w)
  have PR := Lib.hid (fun w => rsize_any b r d m s w)
  generalize sizeN b r d m = q at *
  obtain ⟨g1, hb1, hsz1⟩ := news1 w (.cells #[.int .i64 b, .int .i64 r, .int .i64 d, .int .i64 m, .int .u64 s] 36)
  have HX1 : Hid (Blk _ w.heap.size 36 #[.int .i64 b, .int .i64 r, .int .i64 d, .int .i64 m, .int .u64 s]) := Lib.hid g1
  have HB1 := Lib.hid hb1
  clear g1 hb1 hsz1
  go_enter Try.func4, Try.ntmps4
  go_wp2_with fail
  with_reducible refine (PS.out _).mono ?_
  rintro e w2 ⟨rfl, hb⟩
  have HB2 := Lib.hid (btr HB1.out hb)
  have HX2 := Lib.hid (HX1.out.kept hb)
  clear hb
  go_wp2_with fail
  refine wp_region_held_drew (S := fun w' => Blk w' w.heap.size 36 #[.int .i64 b, .int .i64 r, .int .i64 d, .int .i64 m, .int .u64 s] ∧ Below w.heap.size w w') (by kernel_rfl) (by exact ⟨HX2.out.drewN 1, below_drewN HB2.out 1⟩) (fun hHeld => ?_)
  refine wpAnyH_take (i := 0) (v := ?_) rfl (by kernel_rfl) (by kernel_rfl) (by kernel_rfl) (fun _ _ _ h => h) (Or.inl ⟨by rfl, ?_⟩) (by assumption) ?_
  rotate_left
  · intro w hSw
    try dsimp only at hSw
    go_simp
    try with_reducible rfl
  simp only [Act.put, List.setIfInBounds_toArray, List.set_cons_zero, List.set_cons_succ, List.getElem_toArray, List.getElem_cons_zero, List.getElem_cons_succ]
  refine wpAnyH_take (i := 1) (v := ?_) rfl (by kernel_rfl) (by kernel_rfl) (by kernel_rfl) (fun _ _ _ h => h) (Or.inl ⟨by rfl, ?_⟩) (by assumption) ?_
  rotate_left
  · intro w hSw
    try dsimp only at hSw
    go_simp
    try with_reducible rfl
  simp only [Act.put, List.setIfInBounds_toArray, List.set_cons_zero, List.set_cons_succ, List.getElem_toArray, List.getElem_cons_zero, List.getElem_cons_succ]
  refine wpAnyH_take (i := 2) (v := ?_) rfl (by kernel_rfl) (by kernel_rfl) (by kernel_rfl) (fun _ _ _ h => h) (Or.inl ⟨by rfl, ?_⟩) (by assumption) ?_
  rotate_left
  · intro w hSw
    try refine (exec_load_row 36 _ rfl _ rfl 36 _ (0, 0) _ hSw.1 Try.underlying36 rfl (by kernel_rfl)).trans ?_
    go_simp
    try with_reducible rfl
  simp only [Act.put, List.setIfInBounds_toArray, List.set_cons_zero, List.set_cons_succ, List.getElem_toArray, List.getElem_cons_zero, List.getElem_cons_succ]
  refine wpAnyH_take (i := 4) (v := ?_) rfl (by kernel_rfl) (by kernel_rfl) (by kernel_rfl) (fun _ _ _ h => h) (Or.inl ⟨by rfl, ?_⟩) (by assumption) ?_
  rotate_left
  · intro w hSw
    try refine (exec_load_row 36 _ rfl _ rfl 36 _ (0, 0) _ hSw.1 Try.underlying36 rfl (by kernel_rfl)).trans ?_
    go_simp
    try with_reducible rfl
  simp only [Act.put, List.setIfInBounds_toArray, List.set_cons_zero, List.set_cons_succ, List.getElem_toArray, List.getElem_cons_zero, List.getElem_cons_succ]
  refine wpAnyH_ready (rs := [3]) (by kernel_rfl) (by simp) ?_
  refine AllReadyH.cons rfl (fun Kc hKc => ?_) AllReadyH.nil
  go_simp
  go_wp2_with (first | (go_at_call 11; refine (PW.out _).mono ?_; rintro e w3 ⟨rfl, hb'⟩) | (go_at_call 12; refine (PR.out _).mono ?_; rintro e w4 ⟨rfl, hb'⟩))
  refine hKc.out _ _ ?_ (fun hHeld => ?_)
  · exact ⟨hHeld.1.kept hb', btr hHeld.2 hb'⟩
  clear hKc Kc
  refine wpAnyH_ready (rs := [5]) (by kernel_rfl) (by simp) ?_
  refine AllReadyH.cons rfl (fun Kc hKc => ?_) AllReadyH.nil
  go_simp
  go_wp2_with (first | (go_at_call 11; refine (PW.out _).mono ?_; rintro e w3 ⟨rfl, hb'⟩) | (go_at_call 12; refine (PR.out _).mono ?_; rintro e w4 ⟨rfl, hb'⟩))
  refine hKc.out _ _ ?_ (fun hHeld => ?_)
  · exact ⟨hHeld.1.kept hb', btr hHeld.2 hb'⟩
  clear hKc Kc
  refine wpAnyH_take (i := 6) (v := ?_) rfl (by kernel_rfl) (by kernel_rfl) (by kernel_rfl) (fun _ _ _ h => h) (Or.inl ⟨by rfl, ?_⟩) (by assumption) ?_
  rotate_left
  · intro w hSw
    try dsimp only at hSw
    go_simp
    try with_reducible rfl
  simp only [Act.put, List.setIfInBounds_toArray, List.set_cons_zero, List.set_cons_succ, List.getElem_toArray, List.getElem_cons_zero, List.getElem_cons_succ]
  refine wpAnyH_take (i := 7) (v := ?_) rfl (by kernel_rfl) (by kernel_rfl) (by kernel_rfl) (fun _ _ _ h => h) (Or.inl ⟨by rfl, ?_⟩) (by assumption) ?_
  rotate_left
  · intro w hSw
    try dsimp only at hSw
    go_simp
    try with_reducible rfl
  simp only [Act.put, List.setIfInBounds_toArray, List.set_cons_zero, List.set_cons_succ, List.getElem_toArray, List.getElem_cons_zero, List.getElem_cons_succ]
  refine wpAnyH_take (i := 8) (v := ?_) rfl (by kernel_rfl) (by kernel_rfl) (by kernel_rfl) (fun _ _ _ h => h) (Or.inl ⟨by rfl, ?_⟩) (by assumption) ?_
  rotate_left
  · intro w hSw
    try dsimp only at hSw
    go_simp
    try with_reducible rfl
  simp only [Act.put, List.setIfInBounds_toArray, List.set_cons_zero, List.set_cons_succ, List.getElem_toArray, List.getElem_cons_zero, List.getElem_cons_succ]
  refine wpAnyH_done (by kernel_rfl) ?_ _
  go_wp2
  go_ret
  exact ⟨rfl, hHeld.2⟩
end Go.Proofs.Ytbghchgmoiniiaa
