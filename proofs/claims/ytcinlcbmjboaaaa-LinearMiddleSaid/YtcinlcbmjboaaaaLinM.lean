/-
  The walk of LinearMiddle. Conditions: the arguments are of their types.
-/
import Derived.Test.YtcinlcbmjboaaaaLinO
namespace Go.Proofs.Ytcinlcbmjboaaaa
open Go.RowKit
set_option linter.unusedVariables false
set_option linter.unusedSimpArgs false

/-- how many of a row lie between two numbers -/
def inN (lo hi : Int) (l : List Int) : Nat := (l.filter fun x => decide (lo ≤ x) && decide (x ≤ hi)).length
theorem inN_cons (lo hi x : Int) (l : List Int) : inN lo hi (x :: l) = inN lo hi l + if lo ≤ x ∧ x ≤ hi then 1 else 0 := by
  simp only [inN, List.filter_cons]
  by_cases h : lo ≤ x ∧ x ≤ hi
  · simp [h]
  · have : (decide (lo ≤ x) && decide (x ≤ hi)) = false := by
      cases e : (decide (lo ≤ x) && decide (x ≤ hi)) with
      | false => rfl
      | true => simp at e; exact absurd e h
    simp [h, this]
theorem inN_low {lo hi u : Int} (l : List Int) (h : u < lo) : cLt l u + cEq l u + inN lo hi l ≤ l.length := by
  induction l with
  | nil => simp [cLt, cEq, inN]
  | cons x l ih =>
    rw [cLt_cons, cEq_cons, inN_cons, List.length_cons]
    by_cases h1 : x < u
    · have h2 : ¬ x = u := by omega
      have h3 : ¬ (lo ≤ x ∧ x ≤ hi) := by omega
      simp [h1, h2, h3]; omega
    · by_cases h2 : x = u
      · have h3 : ¬ (lo ≤ x ∧ x ≤ hi) := by omega
        simp [h1, h2, h3]
        have h3' : ¬ (lo ≤ u ∧ u ≤ hi) := by omega
        simp [h3']; omega
      · simp [h1, h2]; split <;> omega
theorem inN_high {lo hi u : Int} (l : List Int) (h : hi < u) : inN lo hi l ≤ cLt l u := by
  induction l with
  | nil => simp [cLt, inN]
  | cons x l ih =>
    rw [cLt_cons, inN_cons]
    by_cases h1 : x < u
    · simp [h1]; split <;> omega
    · have h3 : ¬ (lo ≤ x ∧ x ≤ hi) := by omega
      simp [h1, h3]; omega
theorem middle_near {lo hi u : Int} {l : List Int} (h : IsKth l ((l.length - 1) / 2) u) (hm : l.length < 2 * inN lo hi l) : lo ≤ u ∧ u ≤ hi := by
  have h1 := h.2.1
  have h2 := h.2.2
  refine ⟨?_, ?_⟩
  · rcases Int.lt_or_le u lo with k | k
    · have := inN_low (hi := hi) l k; omega
    · exact k
  · rcases Int.lt_or_le hi u with k | k
    · have := inN_high (lo := lo) l k; omega
    · exact k
theorem inN_take {lo hi : Int} {l : List Int} {j : Nat} {x : Int} (h : l[j]? = some x) : inN lo hi (l.take (j + 1)) = inN lo hi (l.take j) + if lo ≤ x ∧ x ≤ hi then 1 else 0 := by
  rw [List.take_add_one, h]
  simp only [inN, List.filter_append, Option.toList_some, List.filter_cons, List.filter_nil, List.length_append]
  by_cases h : lo ≤ x ∧ x ≤ hi
  · simp [h]
  · have : (decide (lo ≤ x) && decide (x ≤ hi)) = false := by
      cases e : (decide (lo ≤ x) && decide (x ≤ hi)) with
      | false => rfl
      | true => simp at e; exact absurd e h
    simp [h, this]
def shCols : Sh := .slice (.int .i64)
def shNear : Sh := .agg (.cons (.int .i64) (.cons (.int .i64) .unit))
theorem val_near {w : World} {v : Value} (h : shNear.Val w v) : ∃ a b, v = .agg #[.int .i64 a, .int .i64 b] := by
  obtain ⟨cs, rfl, h⟩ := h
  obtain ⟨r, d1, e1, wr, h⟩ := Sh.reads_int h
  obtain ⟨c, d2, e2, wc, h⟩ := Sh.reads_int h
  have h9 := Sh.reads_unit h
  subst h9
  subst e2
  exact ⟨r, c, by rw [agg_of_list e1]⟩

set_option maxRecDepth 100000 in
set_option maxHeartbeats 8000000 in
theorem LinearMiddle_main (r c : Int) (l : Value) (n : Nat) (cs : Nat → List Int) (ds : Nat → Int) (v1 : Value) (c1s : List Int) (na nb : Int) (w : World) (hl : StepsAt w l n cs ds) (hv1 : ColsAt w v1 c1s) :
    Calls Try.prog 5 #[.agg #[.int .i64 r, .int .i64 c, l], v1, .agg #[.int .i64 na, .int .i64 nb]] w fun e w' => e = .returned (.bool true) ∧ Below w.heap.size w w' := by
  have P0 := Lib.hid (fun w => sized08 r c l w)
  have P1 := Lib.hid (fun w hl => done08 r c l n cs ds false false w hl)
  obtain ⟨r1, r2, -⟩ := sizeR_bd r
  obtain ⟨c1, c2, -⟩ := sizeW_bd c
  generalize sizeR r = R at *
  generalize sizeW c = W at *
  have HL := Lib.hid hl
  have HV := Lib.hid hv1
  have PCUT := Lib.hid (fun w1 (h : ColsAt w1 v1 c1s) => cut_any v1 c1s R W (by omega) (by omega) (by omega) w1 h)
  have HCM := Lib.hid (fun cs => cut_meet (cs := cs) (R := R) (W := W) (by omega) (by omega))
  obtain ⟨ao, cap, rfl, hmx, hd64, hcells⟩ := hl
  clear hcells hd64
  obtain ⟨vo, vcap, rfl, hj1, hj2, hj3⟩ := hv1
  clear hj1 hj2 hj3
  generalize c1s.length = n1 at *
  obtain ⟨m, hm⟩ : ∃ m, m = min n 60 := ⟨_, rfl⟩
  rw [← hm] at P1
  have hm60 : m ≤ 60 := by omega
  have hmn : m ≤ n := by omega
  have hm0 : m = 0 ↔ n = 0 := by omega
  clear hm
  go_enter Try.func5, Try.ntmps5
  go_wp2_with fail
  obtain ⟨g1, g2, hb1, hsz1⟩ := news2 w (.cells #[.int .i64 r, .int .i64 c, .slice ao n cap] 24) (.cells #[.int .i64 na, .int .i64 nb] 45)
  have hx1 : Blk _ w.heap.size 24 #[.int .i64 r, .int .i64 c, .slice ao n cap] := g1
  have hy1 : Blk _ (w.heap.size + 1) 45 #[.int .i64 na, .int .i64 nb] := g2
  have HL1 := Lib.hid (HL.out.kept hb1)
  have HV1 := Lib.hid (HV.out.kept hb1)
  have HB1 := Lib.hid hb1
  have HX1 := Lib.hid hx1
  have HY1 := Lib.hid hy1
  clear g1 g2 hb1 hx1 hy1
  generalize ((w.alloc (.cells #[.int .i64 r, .int .i64 c, .slice ao n cap] 24)).alloc (.cells #[.int .i64 na, .int .i64 nb] 45)) = wz at *
  refine (shown08 wz).mono ?_; rintro e w1 ⟨rfl, hb⟩
  have hx1 := HX1.out.kept hb
  have HX2 := Lib.hid hx1
  have HY2 := Lib.hid (HY1.out.kept hb)
  have HB2 := Lib.hid (btr HB1.out hb)
  have HL2 := Lib.hid (HL1.out.kept hb)
  have HV2 := Lib.hid (HV1.out.kept hb)
  clear hb
  go_wp2_with (refine wpList_load_row rfl 24 _ rfl w.heap.size rfl 24 _ (0, 0) _ hx1 Try.underlying24 rfl (by kernel_rfl) ?_)
  refine (P0.out w1).mono ?_; rintro e w2 ⟨rfl, hb⟩
  have hx1 := HX2.out.kept hb
  have HX3 := Lib.hid hx1
  have HY3 := Lib.hid (HY2.out.kept hb)
  have HB3 := Lib.hid (btr HB2.out hb)
  have HL3 := Lib.hid (HL2.out.kept hb)
  have HV3 := Lib.hid (HV2.out.kept hb)
  clear hb
  go_wp2_with (refine wpList_load_row rfl 24 _ rfl w.heap.size rfl 24 _ (0, 0) _ hx1 Try.underlying24 rfl (by kernel_rfl) ?_)
  refine (P1.out w2 HL3.out).mono ?_; rintro e w3 ⟨G, C, va, vs, zs, rfl, -, -, hg, -, hall, hb⟩
  have hml : ((List.range m).map fun i => cutZ (cs i) R W).length = m := by simp
  have HX4 := Lib.hid (HX3.out.kept hb)
  have HY4 := Lib.hid (HY3.out.kept hb)
  have HB4 := Lib.hid (btr HB3.out hb)
  have HV4 := Lib.hid (HV3.out.kept hb)
  have HG4 := Lib.hid hg
  have HAL4 := Lib.hid hall
  clear hb hg
  obtain ⟨aa, ca, rfl, -⟩ := hall.cell
  simp only [hml] at *
  clear hml hall
  go_wp2_with fail
  refine (PCUT.out w3 HV4.out).mono ?_; rintro e w4 ⟨v2, rfl, hr2, -, hb⟩
  have HR2 := Lib.hid hr2
  have hx := HX4.out.kept hb
  have HY5 := Lib.hid (HY4.out.kept hb)
  have HB5 := Lib.hid (btr HB4.out hb)
  have HG5 := Lib.hid (HG4.out.kept hb)
  have HAL5 := Lib.hid (HAL4.out.kept hb)
  have q2 := hx.cell 2
  simp at q2
  clear hb hx hr2
  obtain ⟨T, hT⟩ : ∃ T, smallZ na = T := ⟨_, rfl⟩
  obtain ⟨F0, hF0⟩ : ∃ F0, smallZ nb = F0 := ⟨_, rfl⟩
  obtain ⟨F, hF⟩ : ∃ F, (if F0 < -F0 then -F0 else F0) = F := ⟨_, rfl⟩
  have tb := smallZ_bd na
  have fb := smallZ_bd nb
  rw [hT] at tb
  rw [hF0] at fb
  have fb2 : 0 ≤ F ∧ F ≤ 1099511627775 := by rw [← hF]; split <;> omega
  have PT : ∀ w, Calls Try.prog 17 #[.int .i64 na] w fun e w' => e = .returned (.int .i64 T) ∧ w = w' := fun w => by rw [← hT]; exact small08 na w
  have PF : ∀ w, Calls Try.prog 17 #[.int .i64 nb] w fun e w' => e = .returned (.int .i64 F0) ∧ w = w' := fun w => by rw [← hF0]; exact small08 nb w
  clear hT hF0
  have hneg : wrap64 (-F0) = -F0 := by unfold wrap64; omega
  have hneg2 : IntKind.i64.wrap (-F0) = -F0 := wrapI_of _ (by omega) (by omega)
  have hcase : (m = 0 ∧ n = 0) ∨ (0 < m ∧ n % 2 = 0) ∨ (0 < m ∧ n % 2 = 1) := by omega
  obtain ⟨va, vmi, HRI, HMI, hgo⟩ : ∃ va mi, Hid (RowI w4 va mi) ∧ Hid (meetB R W mi = true) ∧ ((va = v2 ∧ (m = 0 ∨ n % 2 = 1)) ∨ (0 < m ∧ n % 2 = 0 ∧ ∃ ga, aa = some ⟨ga, 0, none⟩ ∧ w4.cell? ⟨ga, 0, none⟩ = some va)) := by
    rcases hcase with ⟨h1, h2⟩ | ⟨h1, h2⟩ | ⟨h1, h2⟩
    · exact ⟨v2, _, HR2, HCM.out c1s, .inl ⟨rfl, .inl h1⟩⟩
    · obtain ⟨aa', ca', e, hrows⟩ := HAL5.out.cell
      obtain ⟨g, vi, e2, hc, hr⟩ := hrows 0 (cutZ (cs 0) R W) (by simp [h1])
      simp only [Value.slice.injEq] at e
      exact ⟨vi, _, hr, HCM.out (cs 0), .inr ⟨h1, h2, g, by rw [e.1]; exact e2, hc⟩⟩
    · exact ⟨v2, _, HR2, HCM.out c1s, .inl ⟨rfl, .inr h2⟩⟩
  obtain ⟨q, hq⟩ : ∃ q, q = n % 2 := ⟨_, rfl⟩
  have hq2 : q < 2 := by omega
  have et : Int.tmod (n : Int) 2 = (q : Int) := by rw [Int.tmod_eq_emod_of_nonneg (by omega)]; omega
  rw [← hq] at hgo
  have HVM : Hid (0 < R ∧ vmi.length = R) := ⟨(meetB_of HMI.out).1, (meetB_of HMI.out).2.1⟩
  have hys := HY5.out
  have y0 := hys.cell 0
  have y1 := hys.cell 1
  simp at y0 y1
  have ew1 : wrap64 (T - F) = T - F := by unfold wrap64; omega
  have ew2 : wrap64 (T + F) = T + F := by unfold wrap64; omega
  have hcl : HY5.out.cell 1 = HY5.out.cell 1 := rfl
  clear hq hcase hcl hys hm0 HR2 HAL5 HAL4
  have HF := Lib.hid hF
  have hF1 := hF
  have PR := Lib.hid (fun wa (hb : Below w4.heap.size w4 wa) => read_yes wa G C R W zs vmi va (HG5.out.kept hb) (HRI.out.ints.kept hb) HMI.out)
  have PM := Lib.hid (fun wa (hb : Below w4.heap.size w4 wa) => middle_yes wa G C R W zs vmi va (HG5.out.kept hb) (HRI.out.ints.kept hb) HMI.out)
  have hvd : ∃ gg cc, va = .slice (some ⟨gg, 0, none⟩) vmi.length cc := by obtain ⟨g, cp, cur, e, _⟩ := HRI.out; exact ⟨g, cp, e⟩
  unfold ReadPost at PR
  unfold TellPost at PM
  obtain ⟨fR, hfR⟩ : ∃ fR : Nat → Int, fR = fun r => cellD zs (r * W + colN vmi r) := ⟨_, rfl⟩
  have hLZ : readZ W zs vmi = (List.range vmi.length).map fR := by rw [hfR]; rfl
  rw [hLZ] at PM
  rw [show (fun r => Value.int .i64 (cellD zs (r * W + colN vmi r))) = fun r => Value.int .i64 (fR r) by rw [hfR]] at PR
  rw [HVM.out.2] at PR PM hvd
  clear hLZ hfR
  obtain ⟨LZ, hL⟩ : ∃ LZ, LZ = (List.range R).map fR := ⟨_, rfl⟩
  rw [← hL] at PM
  have HLL : Hid (LZ.length = R ∧ ∀ k, k < R → LZ[k]? = some (fR k)) := ⟨by rw [hL]; simp, fun k hk => by rw [hL]; simp [hk]⟩
  clear hL
  have H3 : (decide ((0 : Int) < (m : Int)) = false ∧ decide (0 < m) = false ∧ v2 = va) ∨ (decide ((0 : Int) < (m : Int)) = true ∧ decide (0 < m) = true ∧ q = 1 ∧ v2 = va) ∨ (decide ((0 : Int) < (m : Int)) = true ∧ decide (0 < m) = true ∧ q = 0 ∧ (0 : Int) < (m : Int) ∧ ∃ ga, aa = some ⟨ga, 0, none⟩ ∧ w4.cell? ⟨ga, 0, none⟩ = some va) := by
    rcases hgo with ⟨h, hgo⟩ | ⟨h0m, h1, ga, h2, hca⟩
    · by_cases h0 : m = 0
      · exact .inl ⟨decide_eq_false (by omega), decide_eq_false (by omega), h.symm⟩
      · exact .inr (.inl ⟨decide_eq_true (by omega), decide_eq_true (by omega), by omega, h.symm⟩)
    · exact .inr (.inr ⟨decide_eq_true (by omega), decide_eq_true h0m, h1, by omega, ga, h2, hca⟩)
  clear hgo
  obtain ⟨gg, cc, hvd⟩ := hvd
  have hFu := HF.out
  rcases H3 with ⟨hd, hd', e⟩ | ⟨hd, hd', rfl, e⟩ | ⟨hd, hd', rfl, hm0, ga, rfl, hca⟩
  all_goals
    try subst e
    subst hvd
    go_wp2_with fail
    refine (PT _).mono ?_; rintro e w' ⟨rfl, hw'⟩; subst hw'
    go_wp2_with fail
    refine wp_region_held_drew (S := fun w' => w'.cell? ⟨w.heap.size + 1, 1, none⟩ = some (.int .i64 nb)) (by kernel_rfl) (by exact y1) (fun hHeld => ?_)
    refine wpAnyH_take (i := 0) (v := ?_) rfl (by kernel_rfl) (by kernel_rfl) (by kernel_rfl) (fun _ _ _ h => h) (Or.inl ⟨by rfl, ?_⟩) (by assumption) ?_
    rotate_left
    · intro w hSw
      try dsimp only at hSw
      go_simp
      try with_reducible rfl
    simp only [Act.put, List.setIfInBounds_toArray, List.set_cons_zero, List.set_cons_succ, List.getElem_toArray, List.getElem_cons_zero, List.getElem_cons_succ]
    refine wpAnyH_take (i := 1) (v := ?_) rfl (by kernel_rfl) (by kernel_rfl) (by kernel_rfl) (fun _ _ _ h => h) (Or.inl ⟨by rfl, ?_⟩) (by assumption) ?_
    rotate_left
    · intro w hSw
      try dsimp only at hSw
      go_simp
      try with_reducible rfl
    simp only [Act.put, List.setIfInBounds_toArray, List.set_cons_zero, List.set_cons_succ, List.getElem_toArray, List.getElem_cons_zero, List.getElem_cons_succ]
    refine wpAnyH_take (i := 3) (v := ?_) rfl (by kernel_rfl) (by kernel_rfl) (by kernel_rfl) (fun _ _ _ h => h) (Or.inl ⟨by rfl, ?_⟩) (by assumption) ?_
    rotate_left
    · intro w hSw
      try dsimp only at hSw
      go_simp
      try with_reducible rfl
    simp only [Act.put, List.setIfInBounds_toArray, List.set_cons_zero, List.set_cons_succ, List.getElem_toArray, List.getElem_cons_zero, List.getElem_cons_succ]
    refine wpAnyH_take (i := 4) (v := ?_) rfl (by kernel_rfl) (by kernel_rfl) (by kernel_rfl) (fun _ _ _ h => h) (Or.inl ⟨by rfl, ?_⟩) (by assumption) ?_
    rotate_left
    · intro w hSw
      try dsimp only at hSw
      go_simp
      try with_reducible rfl
    simp only [Act.put, List.setIfInBounds_toArray, List.set_cons_zero, List.set_cons_succ, List.getElem_toArray, List.getElem_cons_zero, List.getElem_cons_succ]
    refine wpAnyH_ready (rs := [2]) (by kernel_rfl) (by simp) ?_
    refine AllReadyH.cons rfl (fun Kc hKc => ?_) AllReadyH.nil
    go_simp
    go_wp2_with (go_at_call 17; refine (PF _).mono ?_; rintro e w' ⟨rfl, hw'⟩; subst hw')
    refine hKc.out _ _ ?_ (fun hHeld => ?_)
    · assumption
    clear hKc Kc
    refine wpAnyH_ready (rs := [5]) (by kernel_rfl) (by simp) ?_
    refine AllReadyH.cons rfl (fun Kc hKc => ?_) AllReadyH.nil
    go_simp
    go_wp2_with (go_at_call 17; refine (PF _).mono ?_; rintro e w' ⟨rfl, hw'⟩; subst hw')
    refine hKc.out _ _ ?_ (fun hHeld => ?_)
    · assumption
    clear hKc Kc
    refine wpAnyH_take (i := 6) (v := ?_) rfl (by kernel_rfl) (by kernel_rfl) (by kernel_rfl) (fun _ _ _ h => h) (Or.inl ⟨by rfl, ?_⟩) (by assumption) ?_
    rotate_left
    · intro w hSw
      try dsimp only at hSw
      go_simp
      try with_reducible rfl
    simp only [Act.put, List.setIfInBounds_toArray, List.set_cons_zero, List.set_cons_succ, List.getElem_toArray, List.getElem_cons_zero, List.getElem_cons_succ]
    refine wpAnyH_take (i := 7) (v := ?_) rfl (by kernel_rfl) (by kernel_rfl) (by kernel_rfl) (fun _ _ _ h => h) (Or.inl ⟨by rfl, ?_⟩) (by assumption) ?_
    rotate_left
    · intro w hSw
      try dsimp only at hSw
      go_simp
      try with_reducible rfl
    simp only [Act.put, List.setIfInBounds_toArray, List.set_cons_zero, List.set_cons_succ, List.getElem_toArray, List.getElem_cons_zero, List.getElem_cons_succ]
    refine wpAnyH_take (i := 8) (v := ?_) rfl (by kernel_rfl) (by kernel_rfl) (by kernel_rfl) (fun _ _ _ h => h) (Or.inl ⟨by rfl, ?_⟩) (by assumption) ?_
    rotate_left
    · intro w hSw
      try dsimp only at hSw
      go_simp
      try with_reducible rfl
    simp only [Act.put, List.setIfInBounds_toArray, List.set_cons_zero, List.set_cons_succ, List.getElem_toArray, List.getElem_cons_zero, List.getElem_cons_succ]
    refine wpAnyH_done (by kernel_rfl) ?_ _
    clear hHeld
    go_wp2_with fail
    have hb0 : Below w4.heap.size w4 (w4.drewN 1) := below_drewN (Below.refl _ _) 1
    refine (PR.out _ hb0).mono ?_; rintro e w5 ⟨g5, rfl, -, hrow, hb⟩
    have HROW := Lib.hid hrow
    have HB6 := Lib.hid (btr hb0 hb)
    clear hrow hb hb0
    go_wp2_with fail
    go_loop [16, 17] (fun mm i => ∃ k : Nat, k ≤ R ∧ i = .int .i64 (k : Int) ∧ mm = .int .i64 ((inN (T - F) (T + F) (LZ.take k) : Nat) : Int)) (fun _ i => R - (intOf i).toNat)
    case atStart => exact ⟨0, by omega, rfl, rfl⟩
    case round =>
      obtain ⟨k, hk, rfl, rfl⟩ := hrel
      by_cases hlt : k < R
      · have hx := HROW.out.cell hlt
        have hlk := HLL.out.2 k hlt
        have hIN := inN_take (lo := T - F) (hi := T + F) hlk
        have hle : inN (T - F) (T + F) (LZ.take k) ≤ k := by
          have h1 : inN (T - F) (T + F) (LZ.take k) ≤ (LZ.take k).length := List.length_filter_le _ _
          rw [List.length_take] at h1
          omega
        have HIN := Lib.hid hIN
        clear hIN hlk
        generalize inN (T - F) (T + F) (LZ.take k) = q1 at *
        generalize fR k = x at *
        have i0 : (0 : Int) ≤ (k : Int) := by omega
        have i1 : (k : Int) < (R : Int) := by omega
        by_cases h1 : T - F ≤ x
        · by_cases h2 : x ≤ T + F
          · have e1 : decide (T - F ≤ x) = true := decide_eq_true h1
            have e2 : decide (x ≤ T + F) = true := decide_eq_true h2
            have HE : Hid (inN (T - F) (T + F) (LZ.take (k + 1)) = q1 + 1) := Lib.hid (by rw [HIN.out, if_pos ⟨h1, h2⟩])
            clear h1 h2
            go_wp2
            go_round
            case rel => exact ⟨k + 1, by omega, by go_num, by rw [HE.out]; go_num⟩
            case measure => simp [intOf]; omega
          · have e1 : decide (T - F ≤ x) = true := decide_eq_true h1
            have e2 : decide (x ≤ T + F) = false := decide_eq_false h2
            have HE : Hid (inN (T - F) (T + F) (LZ.take (k + 1)) = q1) := Lib.hid (by rw [HIN.out, if_neg (fun h => h2 h.2)]; rfl)
            clear h1 h2
            go_wp2
            go_round
            case rel => exact ⟨k + 1, by omega, by go_num, by rw [HE.out]⟩
            case measure => simp [intOf]; omega
        · have e1 : decide (T - F ≤ x) = false := decide_eq_false h1
          have HE : Hid (inN (T - F) (T + F) (LZ.take (k + 1)) = q1) := Lib.hid (by rw [HIN.out, if_neg (fun h => h1 h.1)]; rfl)
          clear h1
          go_wp2
          go_round
          case rel => exact ⟨k + 1, by omega, by go_num, by rw [HE.out]⟩
          case measure => simp [intOf]; omega
      · obtain rfl : k = R := by omega
        have hT1 : LZ.take k = LZ := by rw [← HLL.out.1, List.take_length]
        rw [hT1]
        have hle : inN (T - F) (T + F) LZ ≤ k := by
          have h1 : inN (T - F) (T + F) LZ ≤ LZ.length := List.length_filter_le _ _
          rw [HLL.out.1] at h1
          exact h1
        clear hT1
        go_wp2_with fail
        refine (PM.out _ HB6.out).mono ?_; rintro e w6 ⟨u, rfl, hu, hb⟩
        have HB7 := Lib.hid (HB5.out.trans ((btr HB6.out hb).mono HB5.out.size))
        have HMN : Hid (k < 2 * inN (T - F) (T + F) LZ → T - F ≤ u ∧ u ≤ T + F) := Lib.hid (fun h => by
          have hu2 : IsKth LZ ((LZ.length - 1) / 2) u := by rw [HLL.out.1]; exact hu
          exact middle_near hu2 (by rw [HLL.out.1]; exact h))
        clear hu hb
        generalize inN (T - F) (T + F) LZ = q1 at *
        by_cases hq : 2 * q1 ≤ k
        · have e1 : decide (2 * (q1 : Int) ≤ (k : Int)) = true := decide_eq_true (by omega)
          have e1' : decide (2 * q1 ≤ k) = true := decide_eq_true hq
          go_wp2
          go_ret
          exact ⟨rfl, HB7.out⟩
        · obtain ⟨h1, h2⟩ := HMN.out (by omega)
          have e1 : decide (2 * (q1 : Int) ≤ (k : Int)) = false := decide_eq_false (by omega)
          have e1' : decide (2 * q1 ≤ k) = false := decide_eq_false hq
          have e2 : decide (T - F ≤ u) = true := decide_eq_true h1
          have e3 : decide (u ≤ T + F) = true := decide_eq_true h2
          clear h1 h2 hq
          go_wp2
          go_ret
          exact ⟨rfl, HB7.out⟩
theorem LinearMiddle_walk (v0 v1 v2 : Value) (w : World) (h0 : shPlay.Val w v0) (h1 : (Sh.slice (.int .i64)).Val w v1) (h2 : shNear.Val w v2) :
    Calls Try.prog 5 #[v0, v1, v2] w fun e w' => e = .returned (.bool true) ∧ Below w.heap.size w w' := by
  obtain ⟨r, c, l, n, cs, ds, rfl, h⟩ := val_play h0
  obtain ⟨c1s, hc⟩ := cols_of_val h1
  obtain ⟨a, b, rfl⟩ := val_near h2
  exact LinearMiddle_main r c l n cs ds v1 c1s a b w h hc
end Go.Proofs.Ytcinlcbmjboaaaa
