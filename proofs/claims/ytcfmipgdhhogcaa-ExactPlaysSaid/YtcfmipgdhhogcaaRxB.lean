/-
  The walk of the document's array: Join. Conditions: none beyond those stated at each theorem.
-/
import Derived.Test.YtcfmipgdhhogcaaRxA
namespace Go.Proofs.Ytcfmipgdhhogcaa
open Go.RowKit
set_option linter.unusedVariables false
set_option linter.unusedSimpArgs false

theorem zipWith_at {f : Int → Int → Int} {zs hs : List Int} {j : Nat} {z h : Int} (h1 : zs[j]? = some z) (h2 : hs[j]? = some h) : (List.zipWith f zs hs)[j]? = some (f z h) := by
  rw [List.getElem?_zipWith, h1, h2]
theorem fit_take_succ {zs : List Int} {i : Nat} {u : Int} (h : Fit (zs.take i)) (hz : zs[i]? = some u) (h0 : -9223372036854775808 ≤ u) (h1 : u ≤ 9223372036854775807) : Fit (zs.take (i + 1)) := by
  intro x hx
  rw [List.take_add_one, hz] at hx
  simp at hx
  rcases hx with hx | rfl
  · exact h x (by simpa using hx)
  · exact ⟨h0, h1⟩
def RJoinPost (w : World) (R L : Nat) (b r d m s l : Int) (sgn : Int) (zs fs : List Int) (e : Ending) (w' : World) : Prop :=
  (sgn < 0 ∧ m = 2 ∧ e = .returned (.int .i64 3) ∧ Below w.heap.size w w') ∨ (¬ (sgn < 0 ∧ m = 2) ∧ Fit fs ∧ ∃ L', e = .returned (.int .i64 0) ∧ w.heap.size ≤ L' ∧ RArr w' R L' b r d m s l fs ∧ w.grownBy w' (some R)) ∨ (¬ (sgn < 0 ∧ m = 2) ∧ ¬ Fit fs ∧ e = .returned (.int .i64 4) ∧ Below w.heap.size w w')

set_option maxRecDepth 100000 in
set_option maxHeartbeats 8000000 in
theorem rxjoin (sgn : Int) (f : Int → Int → Int) (hsf : (sgn = 1 ∧ f = fun a b => a + b) ∨ (sgn = -1 ∧ f = fun a b => a - b)) (w : World) (R L R' L' : Nat) (b r d m s l : Int) (zs hs : List Int)
    (hg : RArr w R L b r d m s l zs) (hh : RArr w R' L' b r d m s l hs) (hlen : zs.length ≤ 128) (hlh : hs.length = zs.length) (hzf : Fit zs) (hhf : Fit hs) :
    Calls Try.prog 28 #[.pointer (some ⟨R, 0, none⟩), .pointer (some ⟨R', 0, none⟩), .int .i64 sgn] w (RJoinPost w R L b r d m s l sgn zs (List.zipWith f zs hs)) := by
  have hgd : Try.prog.eqGuardType Try.prog.depth 24 = false := by kernel_rfl
  have EQ := eqCfg b r d m s b r d m s
  have hq : cfgEq b r d m s b r d m s = true := by simp [cfgEq]
  rw [hq] at EQ
  clear hq
  have HLZ : Hid (zs.length = zs.length) := Lib.hid rfl
  obtain ⟨K, hK⟩ : ∃ K, K = zs.length := ⟨_, rfl⟩
  have HKZ := Lib.hid hK.symm
  have HKH := Lib.hid (hlh.trans hK.symm)
  have HZF := Lib.hid hzf
  have HHF := Lib.hid hhf
  have hfl : (List.zipWith f zs hs).length = K := by rw [List.length_zipWith, hlh, ← hK, Nat.min_self]
  have HFL := Lib.hid hfl
  have hzip : ∀ i, i < K → (List.zipWith f zs hs)[i]? = some (f (cellD zs i) (cellD hs i)) := fun i hi => zipWith_at (by simp [cellD, ← hK, hi]) (by simp [cellD, hlh, ← hK, hi])
  have HZIP := Lib.hid hzip
  generalize List.zipWith f zs hs = fs at *
  have HG := Lib.hid hg
  have HH := Lib.hid hh
  obtain ⟨cap, cur, hcap, hR, hL, hcur⟩ := hg
  obtain ⟨cap', cur', hcap', hR', hL', hcur'⟩ := hh
  rw [hlh] at hR' hcap'
  rw [← hK] at hlen hcap hcap' hR hR'
  have HRb := Lib.hid hR
  have HRb' := Lib.hid hR'
  have HRF := Lib.hid (hR.frozen 6)
  have HRL := Lib.hid hR.lt
  have HRL' := Lib.hid hR'.lt
  have HLL := Lib.hid hL.lt
  have HLL' := Lib.hid hL'.lt
  have HC : Hid (∀ i u, zs[i]? = some u → w.cell? ⟨L, i, none⟩ = some (.int .i64 u)) := Lib.hid (fun i u hu => (hL.cell i).trans (hcur i u hu))
  have HC' : Hid (∀ i u, hs[i]? = some u → w.cell? ⟨L', i, none⟩ = some (.int .i64 u)) := Lib.hid (fun i u hu => (hL'.cell i).trans (hcur' i u hu))
  clear hK hlh hzf hhf hfl hzip hL hcur hL' hcur' hcap hcap'
  obtain ⟨i0', hi, hz0, hz1, hz2⟩ := info_parts Try.info64
  have hsg : (sgn = 1 ∧ decide (sgn < 0) = false) ∨ (sgn = -1 ∧ decide (sgn < 0) = true) := by
    rcases hsf with ⟨h, -⟩ | ⟨h, -⟩
    · exact .inl ⟨h, decide_eq_false (by omega)⟩
    · exact .inr ⟨h, decide_eq_true (by omega)⟩
  have hm2 : (m = 2 ∧ (m == 2) = true ∧ decide (m = 2) = true) ∨ (m ≠ 2 ∧ (m == 2) = false ∧ decide (m = 2) = false) := by
    by_cases h : m = 2
    · exact .inl ⟨h, by simp [h], by simp [h]⟩
    · exact .inr ⟨h, by simp [h], by simp [h]⟩
  go_enter Try.func28, Try.ntmps28
  go_wp2_with fail
  refine wp_region_held_drew (S := fun w' => Blk w' R 62 #[.int .i64 b, .int .i64 r, .int .i64 d, .int .i64 m, .int .u64 s, .int .i64 l, .slice (some ⟨L, 0, none⟩) K cap] ∧ Blk w' R' 62 #[.int .i64 b, .int .i64 r, .int .i64 d, .int .i64 m, .int .u64 s, .int .i64 l, .slice (some ⟨L', 0, none⟩) K cap']) (by kernel_rfl) (by exact ⟨HRb.out.drewN 1, HRb'.out.drewN 1⟩) (fun hHeld => ?_)
  refine wpAnyH_take (i := 0) (v := ?_) rfl (by kernel_rfl) (by kernel_rfl) (by kernel_rfl) (fun _ _ _ h => h) (Or.inl ⟨by rfl, ?_⟩) (by assumption) ?_
  rotate_left
  · intro w hSw
    try dsimp only at hSw
    go_simp
    try with_reducible rfl
  simp only [Act.put, List.setIfInBounds_toArray, List.set_cons_zero, List.set_cons_succ, List.getElem_toArray, List.getElem_cons_zero, List.getElem_cons_succ]
  refine wpAnyH_take (i := 1) (v := ?_) rfl (by kernel_rfl) (by kernel_rfl) (by kernel_rfl) (fun _ _ _ h => h) (Or.inl ⟨by rfl, ?_⟩) (by assumption) ?_
  rotate_left
  · intro w hSw
    try dsimp only at hSw
    go_simp
    try with_reducible rfl
  simp only [Act.put, List.setIfInBounds_toArray, List.set_cons_zero, List.set_cons_succ, List.getElem_toArray, List.getElem_cons_zero, List.getElem_cons_succ]
  refine wpAnyH_take (i := 2) (v := ?_) rfl (by kernel_rfl) (by kernel_rfl) (by kernel_rfl) (fun _ _ _ h => h) (Or.inl ⟨by rfl, ?_⟩) (by assumption) ?_
  rotate_left
  · intro w hSw
    try dsimp only at hSw
    go_simp
    try with_reducible rfl
  simp only [Act.put, List.setIfInBounds_toArray, List.set_cons_zero, List.set_cons_succ, List.getElem_toArray, List.getElem_cons_zero, List.getElem_cons_succ]
  refine wpAnyH_take (i := 3) (v := ?_) rfl (by kernel_rfl) (by kernel_rfl) (by kernel_rfl) (fun _ _ _ h => h) (Or.inl ⟨by rfl, ?_⟩) (by assumption) ?_
  rotate_left
  · intro w hSw
    have q0 := hSw.1.cell 0
    have q1 := hSw.1.cell 1
    have q2 := hSw.1.cell 2
    have q3 := hSw.1.cell 3
    have q4 := hSw.1.cell 4
    have q5 := hSw.1.cell 5
    have p0 := hSw.2.cell 0
    have p1 := hSw.2.cell 1
    have p2 := hSw.2.cell 2
    have p3 := hSw.2.cell 3
    have p4 := hSw.2.cell 4
    have p5 := hSw.2.cell 5
    simp at q0 q1 q2 q3 q4 q5 p0 p1 p2 p3 p4 p5
    go_simp
    try with_reducible rfl
  simp only [Act.put, List.setIfInBounds_toArray, List.set_cons_zero, List.set_cons_succ, List.getElem_toArray, List.getElem_cons_zero, List.getElem_cons_succ]
  refine wpAnyH_take (i := 4) (v := ?_) rfl (by kernel_rfl) (by kernel_rfl) (by kernel_rfl) (fun _ _ _ h => h) (Or.inl ⟨by rfl, ?_⟩) (by assumption) ?_
  rotate_left
  · intro w hSw
    try dsimp only at hSw
    go_simp
    try with_reducible rfl
  simp only [Act.put, List.setIfInBounds_toArray, List.set_cons_zero, List.set_cons_succ, List.getElem_toArray, List.getElem_cons_zero, List.getElem_cons_succ]
  refine wpAnyH_take (i := 5) (v := ?_) rfl (by kernel_rfl) (by kernel_rfl) (by kernel_rfl) (fun _ _ _ h => h) (Or.inl ⟨by rfl, ?_⟩) (by assumption) ?_
  rotate_left
  · intro w hSw
    try dsimp only at hSw
    go_simp
    try with_reducible rfl
  simp only [Act.put, List.setIfInBounds_toArray, List.set_cons_zero, List.set_cons_succ, List.getElem_toArray, List.getElem_cons_zero, List.getElem_cons_succ]
  refine wpAnyH_take (i := 6) (v := ?_) rfl (by kernel_rfl) (by kernel_rfl) (by kernel_rfl) (fun _ _ _ h => h) (Or.inl ⟨by rfl, ?_⟩) (by assumption) ?_
  rotate_left
  · intro w hSw
    try dsimp only at hSw
    go_simp
    try with_reducible rfl
  simp only [Act.put, List.setIfInBounds_toArray, List.set_cons_zero, List.set_cons_succ, List.getElem_toArray, List.getElem_cons_zero, List.getElem_cons_succ]
  refine wpAnyH_take (i := 7) (v := ?_) rfl (by kernel_rfl) (by kernel_rfl) (by kernel_rfl) (fun _ _ _ h => h) (Or.inl ⟨by rfl, ?_⟩) (by assumption) ?_
  rotate_left
  · intro w hSw
    have q0 := hSw.1.cell 0
    have q1 := hSw.1.cell 1
    have q2 := hSw.1.cell 2
    have q3 := hSw.1.cell 3
    have q4 := hSw.1.cell 4
    have q5 := hSw.1.cell 5
    have p0 := hSw.2.cell 0
    have p1 := hSw.2.cell 1
    have p2 := hSw.2.cell 2
    have p3 := hSw.2.cell 3
    have p4 := hSw.2.cell 4
    have p5 := hSw.2.cell 5
    simp at q0 q1 q2 q3 q4 q5 p0 p1 p2 p3 p4 p5
    go_simp
    try with_reducible rfl
  simp only [Act.put, List.setIfInBounds_toArray, List.set_cons_zero, List.set_cons_succ, List.getElem_toArray, List.getElem_cons_zero, List.getElem_cons_succ]
  refine wpAnyH_take (i := 8) (v := ?_) rfl (by kernel_rfl) (by kernel_rfl) (by kernel_rfl) (fun _ _ _ h => h) (Or.inl ⟨by rfl, ?_⟩) (by assumption) ?_
  rotate_left
  · intro w hSw
    try dsimp only at hSw
    go_simp
    try with_reducible rfl
  simp only [Act.put, List.setIfInBounds_toArray, List.set_cons_zero, List.set_cons_succ, List.getElem_toArray, List.getElem_cons_zero, List.getElem_cons_succ]
  refine wpAnyH_take (i := 9) (v := ?_) rfl (by kernel_rfl) (by kernel_rfl) (by kernel_rfl) (fun _ _ _ h => h) (Or.inl ⟨by rfl, ?_⟩) (by assumption) ?_
  rotate_left
  · intro w hSw
    try dsimp only at hSw
    go_simp
    try with_reducible rfl
  simp only [Act.put, List.setIfInBounds_toArray, List.set_cons_zero, List.set_cons_succ, List.getElem_toArray, List.getElem_cons_zero, List.getElem_cons_succ]
  refine wpAnyH_take (i := 10) (v := ?_) rfl (by kernel_rfl) (by kernel_rfl) (by kernel_rfl) (fun _ _ _ h => h) (Or.inl ⟨by rfl, ?_⟩) (by assumption) ?_
  rotate_left
  · intro w hSw
    try dsimp only at hSw
    go_simp
    try with_reducible rfl
  simp only [Act.put, List.setIfInBounds_toArray, List.set_cons_zero, List.set_cons_succ, List.getElem_toArray, List.getElem_cons_zero, List.getElem_cons_succ]
  refine wpAnyH_take (i := 11) (v := ?_) rfl (by kernel_rfl) (by kernel_rfl) (by kernel_rfl) (fun _ _ _ h => h) (Or.inl ⟨by rfl, ?_⟩) (by assumption) ?_
  rotate_left
  · intro w hSw
    try dsimp only at hSw
    go_simp
    try with_reducible rfl
  simp only [Act.put, List.setIfInBounds_toArray, List.set_cons_zero, List.set_cons_succ, List.getElem_toArray, List.getElem_cons_zero, List.getElem_cons_succ]
  refine wpAnyH_take (i := 12) (v := ?_) rfl (by kernel_rfl) (by kernel_rfl) (by kernel_rfl) (fun _ _ _ h => h) (Or.inl ⟨by rfl, ?_⟩) (by assumption) ?_
  rotate_left
  · intro w hSw
    try dsimp only at hSw
    go_simp
    try with_reducible rfl
  simp only [Act.put, List.setIfInBounds_toArray, List.set_cons_zero, List.set_cons_succ, List.getElem_toArray, List.getElem_cons_zero, List.getElem_cons_succ]
  refine wpAnyH_take (i := 13) (v := ?_) rfl (by kernel_rfl) (by kernel_rfl) (by kernel_rfl) (fun _ _ _ h => h) (Or.inl ⟨by rfl, ?_⟩) (by assumption) ?_
  rotate_left
  · intro w hSw
    have q0 := hSw.1.cell 0
    have q1 := hSw.1.cell 1
    have q2 := hSw.1.cell 2
    have q3 := hSw.1.cell 3
    have q4 := hSw.1.cell 4
    have q5 := hSw.1.cell 5
    have p0 := hSw.2.cell 0
    have p1 := hSw.2.cell 1
    have p2 := hSw.2.cell 2
    have p3 := hSw.2.cell 3
    have p4 := hSw.2.cell 4
    have p5 := hSw.2.cell 5
    simp at q0 q1 q2 q3 q4 q5 p0 p1 p2 p3 p4 p5
    go_simp
    try with_reducible rfl
  simp only [Act.put, List.setIfInBounds_toArray, List.set_cons_zero, List.set_cons_succ, List.getElem_toArray, List.getElem_cons_zero, List.getElem_cons_succ]
  refine wpAnyH_take (i := 14) (v := ?_) rfl (by kernel_rfl) (by kernel_rfl) (by kernel_rfl) (fun _ _ _ h => h) (Or.inl ⟨by rfl, ?_⟩) (by assumption) ?_
  rotate_left
  · intro w hSw
    try dsimp only at hSw
    go_simp
    try with_reducible rfl
  simp only [Act.put, List.setIfInBounds_toArray, List.set_cons_zero, List.set_cons_succ, List.getElem_toArray, List.getElem_cons_zero, List.getElem_cons_succ]
  refine wpAnyH_take (i := 15) (v := ?_) rfl (by kernel_rfl) (by kernel_rfl) (by kernel_rfl) (fun _ _ _ h => h) (Or.inl ⟨by rfl, ?_⟩) (by assumption) ?_
  rotate_left
  · intro w hSw
    try dsimp only at hSw
    go_simp
    try with_reducible rfl
  simp only [Act.put, List.setIfInBounds_toArray, List.set_cons_zero, List.set_cons_succ, List.getElem_toArray, List.getElem_cons_zero, List.getElem_cons_succ]
  refine wpAnyH_take (i := 16) (v := ?_) rfl (by kernel_rfl) (by kernel_rfl) (by kernel_rfl) (fun _ _ _ h => h) (Or.inl ⟨by rfl, ?_⟩) (by assumption) ?_
  rotate_left
  · intro w hSw
    try dsimp only at hSw
    go_simp
    try with_reducible rfl
  simp only [Act.put, List.setIfInBounds_toArray, List.set_cons_zero, List.set_cons_succ, List.getElem_toArray, List.getElem_cons_zero, List.getElem_cons_succ]
  refine wpAnyH_take (i := 17) (v := ?_) rfl (by kernel_rfl) (by kernel_rfl) (by kernel_rfl) (fun _ _ _ h => h) (Or.inl ⟨by rfl, ?_⟩) (by assumption) ?_
  rotate_left
  · intro w hSw
    have q0 := hSw.1.cell 0
    have q1 := hSw.1.cell 1
    have q2 := hSw.1.cell 2
    have q3 := hSw.1.cell 3
    have q4 := hSw.1.cell 4
    have q5 := hSw.1.cell 5
    have p0 := hSw.2.cell 0
    have p1 := hSw.2.cell 1
    have p2 := hSw.2.cell 2
    have p3 := hSw.2.cell 3
    have p4 := hSw.2.cell 4
    have p5 := hSw.2.cell 5
    simp at q0 q1 q2 q3 q4 q5 p0 p1 p2 p3 p4 p5
    go_simp
    try with_reducible rfl
  simp only [Act.put, List.setIfInBounds_toArray, List.set_cons_zero, List.set_cons_succ, List.getElem_toArray, List.getElem_cons_zero, List.getElem_cons_succ]
  refine wpAnyH_take (i := 18) (v := ?_) rfl (by kernel_rfl) (by kernel_rfl) (by kernel_rfl) (fun _ _ _ h => h) (Or.inl ⟨by rfl, ?_⟩) (by assumption) ?_
  rotate_left
  · intro w hSw
    try dsimp only at hSw
    go_simp
    try with_reducible rfl
  simp only [Act.put, List.setIfInBounds_toArray, List.set_cons_zero, List.set_cons_succ, List.getElem_toArray, List.getElem_cons_zero, List.getElem_cons_succ]
  refine wpAnyH_take (i := 19) (v := ?_) rfl (by kernel_rfl) (by kernel_rfl) (by kernel_rfl) (fun _ _ _ h => h) (Or.inl ⟨by rfl, ?_⟩) (by assumption) ?_
  rotate_left
  · intro w hSw
    try dsimp only at hSw
    go_simp
    try with_reducible rfl
  simp only [Act.put, List.setIfInBounds_toArray, List.set_cons_zero, List.set_cons_succ, List.getElem_toArray, List.getElem_cons_zero, List.getElem_cons_succ]
  refine wpAnyH_done (by kernel_rfl) ?_ _
  clear hHeld hgd EQ
  have c3 := HRb.out.cell 3
  have c6 := HRb.out.cell 6
  have d6 := HRb'.out.cell 6
  simp at c3 c6 d6
  clear hR hR'
  rcases hsg with ⟨rfl, e0⟩ | ⟨rfl, e0⟩
  · obtain rfl : f = fun a b => a + b := by
      rcases hsf with ⟨h, h2⟩ | ⟨h, h2⟩
      · exact h2
      · omega
    simp only at HZIP
    clear hsf
    have HMODE : Hid (¬ ((1 : Int) < 0 ∧ m = 2)) := Lib.hid (fun h => by omega)
    clear hm2
    go_wp2_with fail
    have hown0 := World.ownsRow_lit (base := w.heap.size) (e := 2) (size := 1) (w.drewN 1) #[] 0 (by exact Nat.le_refl _) (by unfold maxLen; omega) (by simp)
    have HO1 := Lib.hid hown0
    have HB1 : Hid (Below w.heap.size w ((w.drewN 1).alloc (.cells #[] 2))) := Lib.hid ((below_drewN (Below.refl _ _) 1).alloc (by exact Nat.le_refl _) _)
    clear hown0
    go_loopw [7, 8] (fun x i wr => ∃ (c : Nat), c ≤ K ∧ i = .int .i64 (c : Int) ∧ x ≠ .slice none 0 0 ∧ wr.ownsRow w.heap.size 2 1 x c ((fs.take c).map (Value.int .i64)) ∧ Fit (fs.take c) ∧ Below w.heap.size w wr) (fun _ i _ => K - (intOf i).toNat)
    case atStart => exact ⟨0, by omega, rfl, by simp, HO1.out, by simp [Fit], HB1.out⟩
    case round =>
      obtain ⟨c, hcK, rfl, hnil, hown, hft, hbel⟩ := hrel
      clear HO1 HB1
      have HB := Lib.hid hbel
      have HO := Lib.hid hown
      have HNIL := Lib.hid hnil
      have HFC := Lib.hid hft
      have cl := (hbel.cell (p := ⟨R, 6, none⟩) HRL.out).trans c6
      have dl := (hbel.cell (p := ⟨R', 6, none⟩) HRL'.out).trans d6
      have HGlt : Hid (R < wr.heap.size ∧ L < wr.heap.size) := Lib.hid ⟨Nat.lt_of_lt_of_le HRL.out hbel.size, Nat.lt_of_lt_of_le HLL.out hbel.size⟩
      clear hbel hown hnil hft
      by_cases hltc : c < K
      · have hzz : zs[c]? = some (cellD zs c) := by
          have : c < zs.length := by rw [HKZ.out]; exact hltc
          simp [cellD, this]
        have hhz : hs[c]? = some (cellD hs c) := by
          have : c < hs.length := by rw [HKH.out]; exact hltc
          simp [cellD, this]
        have cz := (HB.out.cell (p := ⟨L, c, none⟩) HLL.out).trans (HC.out c _ hzz)
        have ch := (HB.out.cell (p := ⟨L', c, none⟩) HLL'.out).trans (HC'.out c _ hhz)
        have hz64 := fitC HZF.out c
        have hh64 := fitC HHF.out c
        have hfz := HZIP.out c hltc
        have HFN : Hid (In64 (cellD zs c + cellD hs c) → Fit (fs.take (c + 1))) := Lib.hid (fun h => fit_take_succ HFC.out hfz h.1 h.2)
        have HRN : Hid (fs.take (c + 1) = fs.take c ++ [cellD zs c + cellD hs c]) := Lib.hid (by rw [List.take_add_one, hfz]; rfl)
        have HBAD : Hid (¬ In64 (cellD zs c + cellD hs c) → ¬ Fit fs) := Lib.hid (fun h hf => h (hf.get hfz))
        clear hzz hhz hfz
        generalize cellD zs c = z at *
        generalize cellD hs c = h at *
        have k0 : (0 : Int) ≤ (c : Int) := by omega
        have k1 : (c : Int) < (K : Int) := by omega
        go_wp2_with fail
        refine (ofint_any h hh64.1 hh64.2 _).mono ?_; rintro e w1 ⟨rfl, hb⟩
        have hX2 : Blk ((w1.alloc (.cells #[.int .i64 0, .int .i64 0, .int .i64 0, .int .i64 0, .int .i64 0, .int .i64 0, .int .i64 0, .int .i64 0, .int .i64 0, .int .i64 0] 77)).setRow w1.heap.size (longA h)) w1.heap.size 77 (longA h) := setRow_heap _ _ _ _ _ _ (Blk.new w1 77 #[.int .i64 0, .int .i64 0, .int .i64 0, .int .i64 0, .int .i64 0, .int .i64 0, .int .i64 0, .int .i64 0, .int .i64 0, .int .i64 0])
        have hXlo : wr.heap.size ≤ w1.heap.size := hb.size
        have hk2 : Below wr.heap.size wr ((w1.alloc (.cells #[.int .i64 0, .int .i64 0, .int .i64 0, .int .i64 0, .int .i64 0, .int .i64 0, .int .i64 0, .int .i64 0, .int .i64 0, .int .i64 0] 77)).setRow w1.heap.size (longA h)) := below_setRow (hb.alloc hb.size _) hb.size _
        have PM := Lib.hid (lminus_any h)
        obtain ⟨y, hy⟩ : ∃ y : Int, y = h := ⟨_, rfl⟩
        have hyb : -9223372036854775808 ≤ y ∧ y ≤ 9223372036854775808 := by obtain ⟨h1, h2⟩ := hh64; omega
        have hfy : z + h = z + y := by omega
        rw [hfy] at HFN HRN HBAD
        have HYB := Lib.hid hyb
        have HX2 := Lib.hid hX2
        have HK2 := Lib.hid hk2
        have HY := Lib.hid hy
        clear hfy hyb hk2 hb hy
        by_cases hfit : In64 (z + y)
        all_goals
          have HFIT := Lib.hid hfit
          clear hfit
          go_wp2_with (first | refine wpList_store_row rfl 77 _ _ rfl w1.heap.size (longA h) rfl rfl 77 #[.int .i64 0, .int .i64 0, .int .i64 0, .int .i64 0, .int .i64 0, .int .i64 0, .int .i64 0, .int .i64 0, .int .i64 0, .int .i64 0] (Blk.new _ _ _) (long_info h) (by rw [longA_size]; rfl) (longA_one _) ?_ | refine wpList_load_row rfl 77 _ rfl w1.heap.size rfl 77 (longA h) (0, 0) _ hX2 Try.underlying77 rfl (long_info h) ?_)
          generalize ((w1.alloc (.cells #[.int .i64 0, .int .i64 0, .int .i64 0, .int .i64 0, .int .i64 0, .int .i64 0, .int .i64 0, .int .i64 0, .int .i64 0, .int .i64 0] 77)).setRow w1.heap.size (longA h)) = w2 at *
          generalize w1.heap.size = X at *
        · have HX3 : Hid (Blk w2 X 77 (longA y)) := by rw [HY.out]; exact HX2.out
          have HK3 := HK2
          generalize w2 = w4 at *
          clear hX2 HX2
          go_wp2_with fail
          refine wp_region_held_drew (S := fun w' => Blk w' X 77 (longA y) ∧ Below wr.heap.size wr w') (by kernel_rfl) (by exact ⟨HX3.out.drewN 1, below_drewN HK3.out 1⟩) (fun hHeld => ?_)
          refine wpAnyH_take (i := 0) (v := ?_) rfl (by kernel_rfl) (by kernel_rfl) (by kernel_rfl) (fun _ _ _ h => h) (Or.inl ⟨by rfl, ?_⟩) (by assumption) ?_
          rotate_left
          · intro w hSw
            try dsimp only at hSw
            go_simp
            try with_reducible rfl
          simp only [Act.put, List.setIfInBounds_toArray, List.set_cons_zero, List.set_cons_succ, List.getElem_toArray, List.getElem_cons_zero, List.getElem_cons_succ]
          refine wpAnyH_take (i := 1) (v := ?_) rfl (by kernel_rfl) (by kernel_rfl) (by kernel_rfl) (fun _ _ _ h => h) (Or.inl ⟨by rfl, ?_⟩) (by assumption) ?_
          rotate_left
          · intro w hSw
            try dsimp only at hSw
            go_simp
            try with_reducible rfl
          simp only [Act.put, List.setIfInBounds_toArray, List.set_cons_zero, List.set_cons_succ, List.getElem_toArray, List.getElem_cons_zero, List.getElem_cons_succ]
          refine wpAnyH_take (i := 2) (v := ?_) rfl (by kernel_rfl) (by kernel_rfl) (by kernel_rfl) (fun _ _ _ h => h) (Or.inl ⟨by rfl, ?_⟩) (by assumption) ?_
          rotate_left
          · intro w hSw
            try dsimp only at hSw
            go_simp
            try with_reducible rfl
          simp only [Act.put, List.setIfInBounds_toArray, List.set_cons_zero, List.set_cons_succ, List.getElem_toArray, List.getElem_cons_zero, List.getElem_cons_succ]
          refine wpAnyH_take (i := 3) (v := ?_) rfl (by kernel_rfl) (by kernel_rfl) (by kernel_rfl) (fun _ _ _ h => h) (Or.inl ⟨by rfl, ?_⟩) (by assumption) ?_
          rotate_left
          · intro w hSw
            have q1 := (hSw.2.cell (p := ⟨R, 6, none⟩) HGlt.out.1).trans cl
            have q3 := (hSw.2.cell (p := ⟨L, c, none⟩) HGlt.out.2).trans cz
            try refine (exec_load_row 77 _ rfl X rfl 77 (longA y) (0, 0) _ hSw.1 Try.underlying77 rfl (long_info y)).trans ?_
            go_simp
            try with_reducible rfl
          simp only [Act.put, List.setIfInBounds_toArray, List.set_cons_zero, List.set_cons_succ, List.getElem_toArray, List.getElem_cons_zero, List.getElem_cons_succ]
          refine wpAnyH_take (i := 4) (v := ?_) rfl (by kernel_rfl) (by kernel_rfl) (by kernel_rfl) (fun _ _ _ h => h) (Or.inl ⟨by rfl, ?_⟩) (by assumption) ?_
          rotate_left
          · intro w hSw
            try dsimp only at hSw
            go_simp
            try with_reducible rfl
          simp only [Act.put, List.setIfInBounds_toArray, List.set_cons_zero, List.set_cons_succ, List.getElem_toArray, List.getElem_cons_zero, List.getElem_cons_succ]
          refine wpAnyH_take (i := 5) (v := ?_) rfl (by kernel_rfl) (by kernel_rfl) (by kernel_rfl) (fun _ _ _ h => h) (Or.inl ⟨by rfl, ?_⟩) (by assumption) ?_
          rotate_left
          · intro w hSw
            try dsimp only at hSw
            go_simp
            try with_reducible rfl
          simp only [Act.put, List.setIfInBounds_toArray, List.set_cons_zero, List.set_cons_succ, List.getElem_toArray, List.getElem_cons_zero, List.getElem_cons_succ]
          refine wpAnyH_take (i := 6) (v := ?_) rfl (by kernel_rfl) (by kernel_rfl) (by kernel_rfl) (fun _ _ _ h => h) (Or.inl ⟨by rfl, ?_⟩) (by assumption) ?_
          rotate_left
          · intro w hSw
            have q1 := (hSw.2.cell (p := ⟨R, 6, none⟩) HGlt.out.1).trans cl
            have q3 := (hSw.2.cell (p := ⟨L, c, none⟩) HGlt.out.2).trans cz
            try refine (exec_load_row 77 _ rfl X rfl 77 (longA y) (0, 0) _ hSw.1 Try.underlying77 rfl (long_info y)).trans ?_
            go_simp
            try with_reducible rfl
          simp only [Act.put, List.setIfInBounds_toArray, List.set_cons_zero, List.set_cons_succ, List.getElem_toArray, List.getElem_cons_zero, List.getElem_cons_succ]
          refine wpAnyH_take (i := 8) (v := ?_) rfl (by kernel_rfl) (by kernel_rfl) (by kernel_rfl) (fun _ _ _ h => h) (Or.inl ⟨by rfl, ?_⟩) (by assumption) ?_
          rotate_left
          · intro w hSw
            have q1 := (hSw.2.cell (p := ⟨R, 6, none⟩) HGlt.out.1).trans cl
            have q3 := (hSw.2.cell (p := ⟨L, c, none⟩) HGlt.out.2).trans cz
            try refine (exec_load_row 77 _ rfl X rfl 77 (longA y) (0, 0) _ hSw.1 Try.underlying77 rfl (long_info y)).trans ?_
            go_simp
            try with_reducible rfl
          simp only [Act.put, List.setIfInBounds_toArray, List.set_cons_zero, List.set_cons_succ, List.getElem_toArray, List.getElem_cons_zero, List.getElem_cons_succ]
          refine wpAnyH_ready (rs := [7]) (by kernel_rfl) (by simp) ?_
          refine AllReadyH.cons rfl (fun Kc hKc => ?_) AllReadyH.nil
          go_simp
          go_wp2_with (first | (go_at_call 43; refine (ofint_any z hz64.1 hz64.2 _).mono ?_; rintro e w5 ⟨rfl, hb'⟩) | (go_at_call 46; refine (lplus_any z y _).mono ?_; rintro e w6 ⟨rfl, hb'⟩) | (go_at_call 45; refine (lint_yes (z + y) HFIT.out.1 HFIT.out.2 _).mono ?_; rintro e w7 ⟨rfl, hb'⟩))
          refine hKc.out _ _ ?_ (fun hHeld => ?_)
          · first | assumption | exact ⟨hHeld.1.kept hb', hHeld.2.trans (hb'.mono hHeld.2.size)⟩
          clear hKc Kc
          refine wpAnyH_ready (rs := [9]) (by kernel_rfl) (by simp) ?_
          refine AllReadyH.cons rfl (fun Kc hKc => ?_) AllReadyH.nil
          go_simp
          go_wp2_with (first | (go_at_call 43; refine (ofint_any z hz64.1 hz64.2 _).mono ?_; rintro e w5 ⟨rfl, hb'⟩) | (go_at_call 46; refine (lplus_any z y _).mono ?_; rintro e w6 ⟨rfl, hb'⟩) | (go_at_call 45; refine (lint_yes (z + y) HFIT.out.1 HFIT.out.2 _).mono ?_; rintro e w7 ⟨rfl, hb'⟩))
          refine hKc.out _ _ ?_ (fun hHeld => ?_)
          · first | assumption | exact ⟨hHeld.1.kept hb', hHeld.2.trans (hb'.mono hHeld.2.size)⟩
          clear hKc Kc
          refine wpAnyH_ready (rs := [10]) (by kernel_rfl) (by simp) ?_
          refine AllReadyH.cons rfl (fun Kc hKc => ?_) AllReadyH.nil
          go_simp
          go_wp2_with (first | (go_at_call 43; refine (ofint_any z hz64.1 hz64.2 _).mono ?_; rintro e w5 ⟨rfl, hb'⟩) | (go_at_call 46; refine (lplus_any z y _).mono ?_; rintro e w6 ⟨rfl, hb'⟩) | (go_at_call 45; refine (lint_yes (z + y) HFIT.out.1 HFIT.out.2 _).mono ?_; rintro e w7 ⟨rfl, hb'⟩))
          refine hKc.out _ _ ?_ (fun hHeld => ?_)
          · first | assumption | exact ⟨hHeld.1.kept hb', hHeld.2.trans (hb'.mono hHeld.2.size)⟩
          clear hKc Kc
          refine wpAnyH_take (i := 11) (v := ?_) rfl (by kernel_rfl) (by kernel_rfl) (by kernel_rfl) (fun _ _ _ h => h) (Or.inl ⟨by rfl, ?_⟩) (by assumption) ?_
          rotate_left
          · intro w hSw
            try dsimp only at hSw
            go_simp
            try with_reducible rfl
          simp only [Act.put, List.setIfInBounds_toArray, List.set_cons_zero, List.set_cons_succ, List.getElem_toArray, List.getElem_cons_zero, List.getElem_cons_succ]
          refine wpAnyH_take (i := 12) (v := ?_) rfl (by kernel_rfl) (by kernel_rfl) (by kernel_rfl) (fun _ _ _ h => h) (Or.inl ⟨by rfl, ?_⟩) (by assumption) ?_
          rotate_left
          · intro w hSw
            try dsimp only at hSw
            go_simp
            try with_reducible rfl
          simp only [Act.put, List.setIfInBounds_toArray, List.set_cons_zero, List.set_cons_succ, List.getElem_toArray, List.getElem_cons_zero, List.getElem_cons_succ]
          refine wpAnyH_take (i := 13) (v := ?_) rfl (by kernel_rfl) (by kernel_rfl) (by kernel_rfl) (fun _ _ _ h => h) (Or.inl ⟨by rfl, ?_⟩) (by assumption) ?_
          rotate_left
          · intro w hSw
            try dsimp only at hSw
            go_simp
            try with_reducible rfl
          simp only [Act.put, List.setIfInBounds_toArray, List.set_cons_zero, List.set_cons_succ, List.getElem_toArray, List.getElem_cons_zero, List.getElem_cons_succ]
          refine wpAnyH_take (i := 14) (v := ?_) rfl (by kernel_rfl) (by kernel_rfl) (by kernel_rfl) (fun _ _ _ h => h) (Or.inl ⟨by rfl, ?_⟩) (by assumption) ?_
          rotate_left
          · intro w hSw
            try dsimp only at hSw
            go_simp
            try with_reducible rfl
          simp only [Act.put, List.setIfInBounds_toArray, List.set_cons_zero, List.set_cons_succ, List.getElem_toArray, List.getElem_cons_zero, List.getElem_cons_succ]
          refine wpAnyH_take (i := 15) (v := ?_) rfl (by kernel_rfl) (by kernel_rfl) (by kernel_rfl) (fun _ _ _ h => h) (Or.inl ⟨by rfl, ?_⟩) (by assumption) ?_
          rotate_left
          · intro w hSw
            try dsimp only at hSw
            go_simp
            try with_reducible rfl
          simp only [Act.put, List.setIfInBounds_toArray, List.set_cons_zero, List.set_cons_succ, List.getElem_toArray, List.getElem_cons_zero, List.getElem_cons_succ]
          refine wpAnyH_done (by kernel_rfl) ?_ _
          have HK7 := Lib.hid hHeld.2
          clear hHeld
          have HO7 := Lib.hid (HO.out.kept (below_grown (row := none) HK7.out) (by cases Value.ownBlock u7 <;> simp))
          have HB7 : Hid (Below w.heap.size w w7) := Lib.hid (btr HB.out HK7.out)
          have hs7 := HB7.out.size
          have hFN := HFN.out HFIT.out
          have hc1 : c + 1 ≤ maxLen := by unfold maxLen; omega
          generalize z + y = x at *
          go_wp2_with (at_builtin; refine wpList_append_own_at _ rfl _ _ 31 rfl w.heap.size 2 i0' (.int .i64 0) 1 8 Try.underlying31 hi hz0 hz1 hz2 rfl (by decide) _ c _ rfl (HO7.out.alloc _) ⟨w7.heap.size, 0, none⟩ 1 1 [.int .i64 x] rfl rfl (cell_one_new _ _ _) ?c2 hc1 ?c4 ?c5 ?_)
          case c2 => simp [Value.oneCell']
          case c4 => omega
          case c5 => simp; omega
          intro v8 w8 hown' hgrow hnil' hq9
          have HNIL' : Hid (v8 ≠ .slice none 0 0) := Lib.hid hnil'
          have HO8 : Hid (w8.ownsRow w.heap.size 2 1 v8 (c + 1) ((fs.take (c + 1)).map (Value.int .i64))) := Lib.hid (by rw [HRN.out, List.map_append, List.map_take]; exact hown')
          have hMk : ∀ k, Value.ownBlock u7 = some k → w.heap.size ≤ k := fun k hk => (HO.out.lt k hk).1
          have HB8 : Hid (Below w.heap.size w w8) := Lib.hid ((HB7.out.alloc (by omega) _).grown hgrow (by first | omega | (simp; done) | (simp; omega)) (fun k e => by have := hMk k e; omega))
          clear hown' hgrow hnil' hq9 hMk
          go_wp2
          go_roundw
          case rel => exact ⟨c + 1, by omega, by go_num, HNIL'.out, HO8.out, hFN, HB8.out⟩
          case measure => simp [intOf]; omega
        · have HX3 : Hid (Blk w2 X 77 (longA y)) := by rw [HY.out]; exact HX2.out
          have HK3 := HK2
          generalize w2 = w4 at *
          clear hX2 HX2
          go_wp2_with fail
          refine wp_region_held_drew (S := fun w' => Blk w' X 77 (longA y) ∧ Below wr.heap.size wr w') (by kernel_rfl) (by exact ⟨HX3.out.drewN 1, below_drewN HK3.out 1⟩) (fun hHeld => ?_)
          refine wpAnyH_take (i := 0) (v := ?_) rfl (by kernel_rfl) (by kernel_rfl) (by kernel_rfl) (fun _ _ _ h => h) (Or.inl ⟨by rfl, ?_⟩) (by assumption) ?_
          rotate_left
          · intro w hSw
            try dsimp only at hSw
            go_simp
            try with_reducible rfl
          simp only [Act.put, List.setIfInBounds_toArray, List.set_cons_zero, List.set_cons_succ, List.getElem_toArray, List.getElem_cons_zero, List.getElem_cons_succ]
          refine wpAnyH_take (i := 1) (v := ?_) rfl (by kernel_rfl) (by kernel_rfl) (by kernel_rfl) (fun _ _ _ h => h) (Or.inl ⟨by rfl, ?_⟩) (by assumption) ?_
          rotate_left
          · intro w hSw
            try dsimp only at hSw
            go_simp
            try with_reducible rfl
          simp only [Act.put, List.setIfInBounds_toArray, List.set_cons_zero, List.set_cons_succ, List.getElem_toArray, List.getElem_cons_zero, List.getElem_cons_succ]
          refine wpAnyH_take (i := 2) (v := ?_) rfl (by kernel_rfl) (by kernel_rfl) (by kernel_rfl) (fun _ _ _ h => h) (Or.inl ⟨by rfl, ?_⟩) (by assumption) ?_
          rotate_left
          · intro w hSw
            try dsimp only at hSw
            go_simp
            try with_reducible rfl
          simp only [Act.put, List.setIfInBounds_toArray, List.set_cons_zero, List.set_cons_succ, List.getElem_toArray, List.getElem_cons_zero, List.getElem_cons_succ]
          refine wpAnyH_take (i := 3) (v := ?_) rfl (by kernel_rfl) (by kernel_rfl) (by kernel_rfl) (fun _ _ _ h => h) (Or.inl ⟨by rfl, ?_⟩) (by assumption) ?_
          rotate_left
          · intro w hSw
            have q1 := (hSw.2.cell (p := ⟨R, 6, none⟩) HGlt.out.1).trans cl
            have q3 := (hSw.2.cell (p := ⟨L, c, none⟩) HGlt.out.2).trans cz
            try refine (exec_load_row 77 _ rfl X rfl 77 (longA y) (0, 0) _ hSw.1 Try.underlying77 rfl (long_info y)).trans ?_
            go_simp
            try with_reducible rfl
          simp only [Act.put, List.setIfInBounds_toArray, List.set_cons_zero, List.set_cons_succ, List.getElem_toArray, List.getElem_cons_zero, List.getElem_cons_succ]
          refine wpAnyH_take (i := 4) (v := ?_) rfl (by kernel_rfl) (by kernel_rfl) (by kernel_rfl) (fun _ _ _ h => h) (Or.inl ⟨by rfl, ?_⟩) (by assumption) ?_
          rotate_left
          · intro w hSw
            try dsimp only at hSw
            go_simp
            try with_reducible rfl
          simp only [Act.put, List.setIfInBounds_toArray, List.set_cons_zero, List.set_cons_succ, List.getElem_toArray, List.getElem_cons_zero, List.getElem_cons_succ]
          refine wpAnyH_take (i := 5) (v := ?_) rfl (by kernel_rfl) (by kernel_rfl) (by kernel_rfl) (fun _ _ _ h => h) (Or.inl ⟨by rfl, ?_⟩) (by assumption) ?_
          rotate_left
          · intro w hSw
            try dsimp only at hSw
            go_simp
            try with_reducible rfl
          simp only [Act.put, List.setIfInBounds_toArray, List.set_cons_zero, List.set_cons_succ, List.getElem_toArray, List.getElem_cons_zero, List.getElem_cons_succ]
          refine wpAnyH_take (i := 6) (v := ?_) rfl (by kernel_rfl) (by kernel_rfl) (by kernel_rfl) (fun _ _ _ h => h) (Or.inl ⟨by rfl, ?_⟩) (by assumption) ?_
          rotate_left
          · intro w hSw
            have q1 := (hSw.2.cell (p := ⟨R, 6, none⟩) HGlt.out.1).trans cl
            have q3 := (hSw.2.cell (p := ⟨L, c, none⟩) HGlt.out.2).trans cz
            try refine (exec_load_row 77 _ rfl X rfl 77 (longA y) (0, 0) _ hSw.1 Try.underlying77 rfl (long_info y)).trans ?_
            go_simp
            try with_reducible rfl
          simp only [Act.put, List.setIfInBounds_toArray, List.set_cons_zero, List.set_cons_succ, List.getElem_toArray, List.getElem_cons_zero, List.getElem_cons_succ]
          refine wpAnyH_take (i := 8) (v := ?_) rfl (by kernel_rfl) (by kernel_rfl) (by kernel_rfl) (fun _ _ _ h => h) (Or.inl ⟨by rfl, ?_⟩) (by assumption) ?_
          rotate_left
          · intro w hSw
            have q1 := (hSw.2.cell (p := ⟨R, 6, none⟩) HGlt.out.1).trans cl
            have q3 := (hSw.2.cell (p := ⟨L, c, none⟩) HGlt.out.2).trans cz
            try refine (exec_load_row 77 _ rfl X rfl 77 (longA y) (0, 0) _ hSw.1 Try.underlying77 rfl (long_info y)).trans ?_
            go_simp
            try with_reducible rfl
          simp only [Act.put, List.setIfInBounds_toArray, List.set_cons_zero, List.set_cons_succ, List.getElem_toArray, List.getElem_cons_zero, List.getElem_cons_succ]
          refine wpAnyH_ready (rs := [7]) (by kernel_rfl) (by simp) ?_
          refine AllReadyH.cons rfl (fun Kc hKc => ?_) AllReadyH.nil
          go_simp
          go_wp2_with (first | (go_at_call 43; refine (ofint_any z hz64.1 hz64.2 _).mono ?_; rintro e w5 ⟨rfl, hb'⟩) | (go_at_call 46; refine (lplus_any z y _).mono ?_; rintro e w6 ⟨rfl, hb'⟩) | (go_at_call 45; refine (lint_no (z + y) (by have := HYB.out; have := hz64.1; omega) (by have := HYB.out; have := hz64.2; omega) HFIT.out _).mono ?_; rintro e w7 ⟨rfl, hb'⟩))
          refine hKc.out _ _ ?_ (fun hHeld => ?_)
          · first | assumption | exact ⟨hHeld.1.kept hb', hHeld.2.trans (hb'.mono hHeld.2.size)⟩
          clear hKc Kc
          refine wpAnyH_ready (rs := [9]) (by kernel_rfl) (by simp) ?_
          refine AllReadyH.cons rfl (fun Kc hKc => ?_) AllReadyH.nil
          go_simp
          go_wp2_with (first | (go_at_call 43; refine (ofint_any z hz64.1 hz64.2 _).mono ?_; rintro e w5 ⟨rfl, hb'⟩) | (go_at_call 46; refine (lplus_any z y _).mono ?_; rintro e w6 ⟨rfl, hb'⟩) | (go_at_call 45; refine (lint_no (z + y) (by have := HYB.out; have := hz64.1; omega) (by have := HYB.out; have := hz64.2; omega) HFIT.out _).mono ?_; rintro e w7 ⟨rfl, hb'⟩))
          refine hKc.out _ _ ?_ (fun hHeld => ?_)
          · first | assumption | exact ⟨hHeld.1.kept hb', hHeld.2.trans (hb'.mono hHeld.2.size)⟩
          clear hKc Kc
          refine wpAnyH_ready (rs := [10]) (by kernel_rfl) (by simp) ?_
          refine AllReadyH.cons rfl (fun Kc hKc => ?_) AllReadyH.nil
          go_simp
          go_wp2_with (first | (go_at_call 43; refine (ofint_any z hz64.1 hz64.2 _).mono ?_; rintro e w5 ⟨rfl, hb'⟩) | (go_at_call 46; refine (lplus_any z y _).mono ?_; rintro e w6 ⟨rfl, hb'⟩) | (go_at_call 45; refine (lint_no (z + y) (by have := HYB.out; have := hz64.1; omega) (by have := HYB.out; have := hz64.2; omega) HFIT.out _).mono ?_; rintro e w7 ⟨rfl, hb'⟩))
          refine hKc.out _ _ ?_ (fun hHeld => ?_)
          · first | assumption | exact ⟨hHeld.1.kept hb', hHeld.2.trans (hb'.mono hHeld.2.size)⟩
          clear hKc Kc
          refine wpAnyH_take (i := 11) (v := ?_) rfl (by kernel_rfl) (by kernel_rfl) (by kernel_rfl) (fun _ _ _ h => h) (Or.inl ⟨by rfl, ?_⟩) (by assumption) ?_
          rotate_left
          · intro w hSw
            try dsimp only at hSw
            go_simp
            try with_reducible rfl
          simp only [Act.put, List.setIfInBounds_toArray, List.set_cons_zero, List.set_cons_succ, List.getElem_toArray, List.getElem_cons_zero, List.getElem_cons_succ]
          refine wpAnyH_take (i := 12) (v := ?_) rfl (by kernel_rfl) (by kernel_rfl) (by kernel_rfl) (fun _ _ _ h => h) (Or.inl ⟨by rfl, ?_⟩) (by assumption) ?_
          rotate_left
          · intro w hSw
            try dsimp only at hSw
            go_simp
            try with_reducible rfl
          simp only [Act.put, List.setIfInBounds_toArray, List.set_cons_zero, List.set_cons_succ, List.getElem_toArray, List.getElem_cons_zero, List.getElem_cons_succ]
          refine wpAnyH_take (i := 13) (v := ?_) rfl (by kernel_rfl) (by kernel_rfl) (by kernel_rfl) (fun _ _ _ h => h) (Or.inl ⟨by rfl, ?_⟩) (by assumption) ?_
          rotate_left
          · intro w hSw
            try dsimp only at hSw
            go_simp
            try with_reducible rfl
          simp only [Act.put, List.setIfInBounds_toArray, List.set_cons_zero, List.set_cons_succ, List.getElem_toArray, List.getElem_cons_zero, List.getElem_cons_succ]
          refine wpAnyH_take (i := 14) (v := ?_) rfl (by kernel_rfl) (by kernel_rfl) (by kernel_rfl) (fun _ _ _ h => h) (Or.inl ⟨by rfl, ?_⟩) (by assumption) ?_
          rotate_left
          · intro w hSw
            try dsimp only at hSw
            go_simp
            try with_reducible rfl
          simp only [Act.put, List.setIfInBounds_toArray, List.set_cons_zero, List.set_cons_succ, List.getElem_toArray, List.getElem_cons_zero, List.getElem_cons_succ]
          refine wpAnyH_take (i := 15) (v := ?_) rfl (by kernel_rfl) (by kernel_rfl) (by kernel_rfl) (fun _ _ _ h => h) (Or.inl ⟨by rfl, ?_⟩) (by assumption) ?_
          rotate_left
          · intro w hSw
            try dsimp only at hSw
            go_simp
            try with_reducible rfl
          simp only [Act.put, List.setIfInBounds_toArray, List.set_cons_zero, List.set_cons_succ, List.getElem_toArray, List.getElem_cons_zero, List.getElem_cons_succ]
          refine wpAnyH_done (by kernel_rfl) ?_ _
          have HK7 := Lib.hid hHeld.2
          clear hHeld
          have HP : Hid (RJoinPost w R L b r d m s l 1 zs fs (.returned (.int .i64 4)) w7) := .inr (.inr ⟨HMODE.out, HBAD.out HFIT.out, rfl, btr HB.out HK7.out⟩)
          go_wp2
          go_ret
          exact HP.out
      · obtain rfl : c = K := by omega
        have hrow := HO.out
        have hft := HFC.out
        rw [show fs.take c = fs by rw [List.take_of_length_le (by have := HFL.out; omega)]] at hrow hft
        have HFF := Lib.hid hft
        obtain ⟨bo, cp, rfl, hMb, hcp, curo, hcuro, hcco⟩ := own_row (zs := fs) (by rw [HFL.out]; exact hrow) HNIL.out
        rw [HFL.out] at hcp ⊢
        have hRw := (HRb.out.kept HB.out)
        have hf6 := hRw.frozen 6
        have HPR : Hid (RJoinPost w R L b r d m s l 1 zs fs (.returned (.int .i64 0)) (wr.setCell ⟨R, 6, none⟩ (.slice (some ⟨bo, 0, none⟩) c cp))) := .inr (.inl ⟨HMODE.out, HFF.out, bo, rfl, hMb, ⟨cp, curo, by rw [HFL.out]; exact hcp, by have h9 := hRw.set_ 6 (.slice (some ⟨bo, 0, none⟩) c cp); rw [HFL.out]; exact h9, hcuro.far (by have := HRL.out; show bo ≠ R; omega) _, hcco⟩, grown_tr (below_grown (row := some R) HB.out) (grown_set wr R 6 _)⟩)
        clear hrow hft hcuro hcco hRw
        go_wp2
        go_ret
        exact HPR.out
  · obtain rfl : f = fun a b => a - b := by
      rcases hsf with ⟨h, h2⟩ | ⟨h, h2⟩
      · omega
      · exact h2
    simp only at HZIP
    clear hsf
    by_cases hmne : m = 2
    · subst hmne
      have HP : Hid (RJoinPost w R L b r d 2 s l (-1) zs fs (.returned (.int .i64 3)) (w.drewN 1)) := .inl ⟨by decide, rfl, rfl, below_drewN (Below.refl _ _) 1⟩
      go_wp2
      go_ret
      exact HP.out
    have hm3 : m ≠ 2 ∧ (m == 2) = false ∧ decide (m = 2) = false := by
      rcases hm2 with ⟨rfl, h1, h2⟩ | h
      · exact absurd rfl hmne
      · exact h
    obtain ⟨hm4, g1, g2⟩ := hm3
    have HMODE : Hid (¬ ((-1 : Int) < 0 ∧ m = 2)) := Lib.hid (fun h => hm4 h.2)
    clear hm2 hm4
    go_wp2_with fail
    have hown0 := World.ownsRow_lit (base := w.heap.size) (e := 2) (size := 1) (w.drewN 1) #[] 0 (by exact Nat.le_refl _) (by unfold maxLen; omega) (by simp)
    have HO1 := Lib.hid hown0
    have HB1 : Hid (Below w.heap.size w ((w.drewN 1).alloc (.cells #[] 2))) := Lib.hid ((below_drewN (Below.refl _ _) 1).alloc (by exact Nat.le_refl _) _)
    clear hown0
    go_loopw [7, 8] (fun x i wr => ∃ (c : Nat), c ≤ K ∧ i = .int .i64 (c : Int) ∧ x ≠ .slice none 0 0 ∧ wr.ownsRow w.heap.size 2 1 x c ((fs.take c).map (Value.int .i64)) ∧ Fit (fs.take c) ∧ Below w.heap.size w wr) (fun _ i _ => K - (intOf i).toNat)
    case atStart => exact ⟨0, by omega, rfl, by simp, HO1.out, by simp [Fit], HB1.out⟩
    case round =>
      obtain ⟨c, hcK, rfl, hnil, hown, hft, hbel⟩ := hrel
      clear HO1 HB1
      have HB := Lib.hid hbel
      have HO := Lib.hid hown
      have HNIL := Lib.hid hnil
      have HFC := Lib.hid hft
      have cl := (hbel.cell (p := ⟨R, 6, none⟩) HRL.out).trans c6
      have dl := (hbel.cell (p := ⟨R', 6, none⟩) HRL'.out).trans d6
      have HGlt : Hid (R < wr.heap.size ∧ L < wr.heap.size) := Lib.hid ⟨Nat.lt_of_lt_of_le HRL.out hbel.size, Nat.lt_of_lt_of_le HLL.out hbel.size⟩
      clear hbel hown hnil hft
      by_cases hltc : c < K
      · have hzz : zs[c]? = some (cellD zs c) := by
          have : c < zs.length := by rw [HKZ.out]; exact hltc
          simp [cellD, this]
        have hhz : hs[c]? = some (cellD hs c) := by
          have : c < hs.length := by rw [HKH.out]; exact hltc
          simp [cellD, this]
        have cz := (HB.out.cell (p := ⟨L, c, none⟩) HLL.out).trans (HC.out c _ hzz)
        have ch := (HB.out.cell (p := ⟨L', c, none⟩) HLL'.out).trans (HC'.out c _ hhz)
        have hz64 := fitC HZF.out c
        have hh64 := fitC HHF.out c
        have hfz := HZIP.out c hltc
        have HFN : Hid (In64 (cellD zs c - cellD hs c) → Fit (fs.take (c + 1))) := Lib.hid (fun h => fit_take_succ HFC.out hfz h.1 h.2)
        have HRN : Hid (fs.take (c + 1) = fs.take c ++ [cellD zs c - cellD hs c]) := Lib.hid (by rw [List.take_add_one, hfz]; rfl)
        have HBAD : Hid (¬ In64 (cellD zs c - cellD hs c) → ¬ Fit fs) := Lib.hid (fun h hf => h (hf.get hfz))
        clear hzz hhz hfz
        generalize cellD zs c = z at *
        generalize cellD hs c = h at *
        have k0 : (0 : Int) ≤ (c : Int) := by omega
        have k1 : (c : Int) < (K : Int) := by omega
        go_wp2_with fail
        refine (ofint_any h hh64.1 hh64.2 _).mono ?_; rintro e w1 ⟨rfl, hb⟩
        have hX2 : Blk ((w1.alloc (.cells #[.int .i64 0, .int .i64 0, .int .i64 0, .int .i64 0, .int .i64 0, .int .i64 0, .int .i64 0, .int .i64 0, .int .i64 0, .int .i64 0] 77)).setRow w1.heap.size (longA h)) w1.heap.size 77 (longA h) := setRow_heap _ _ _ _ _ _ (Blk.new w1 77 #[.int .i64 0, .int .i64 0, .int .i64 0, .int .i64 0, .int .i64 0, .int .i64 0, .int .i64 0, .int .i64 0, .int .i64 0, .int .i64 0])
        have hXlo : wr.heap.size ≤ w1.heap.size := hb.size
        have hk2 : Below wr.heap.size wr ((w1.alloc (.cells #[.int .i64 0, .int .i64 0, .int .i64 0, .int .i64 0, .int .i64 0, .int .i64 0, .int .i64 0, .int .i64 0, .int .i64 0, .int .i64 0] 77)).setRow w1.heap.size (longA h)) := below_setRow (hb.alloc hb.size _) hb.size _
        have PM := Lib.hid (lminus_any h)
        obtain ⟨y, hy⟩ : ∃ y : Int, y = -h := ⟨_, rfl⟩
        have hyb : -9223372036854775808 ≤ y ∧ y ≤ 9223372036854775808 := by obtain ⟨h1, h2⟩ := hh64; omega
        have hfy : z - h = z + y := by omega
        rw [hfy] at HFN HRN HBAD
        have HYB := Lib.hid hyb
        have HX2 := Lib.hid hX2
        have HK2 := Lib.hid hk2
        have HY := Lib.hid hy
        clear hfy hyb hk2 hb hy
        by_cases hfit : In64 (z + y)
        all_goals
          have HFIT := Lib.hid hfit
          clear hfit
          go_wp2_with (first | refine wpList_store_row rfl 77 _ _ rfl w1.heap.size (longA h) rfl rfl 77 #[.int .i64 0, .int .i64 0, .int .i64 0, .int .i64 0, .int .i64 0, .int .i64 0, .int .i64 0, .int .i64 0, .int .i64 0, .int .i64 0] (Blk.new _ _ _) (long_info h) (by rw [longA_size]; rfl) (longA_one _) ?_ | refine wpList_load_row rfl 77 _ rfl w1.heap.size rfl 77 (longA h) (0, 0) _ hX2 Try.underlying77 rfl (long_info h) ?_)
          generalize ((w1.alloc (.cells #[.int .i64 0, .int .i64 0, .int .i64 0, .int .i64 0, .int .i64 0, .int .i64 0, .int .i64 0, .int .i64 0, .int .i64 0, .int .i64 0] 77)).setRow w1.heap.size (longA h)) = w2 at *
          generalize w1.heap.size = X at *
        · refine (PM.out _).mono ?_; rintro e w3 ⟨rfl, hb⟩
          have hX3 := HX2.out.kept hb
          have hb3 := hb.mono HK2.out.size
          have hk4 : Below wr.heap.size wr (w3.setRow X (longA (-h))) := below_setRow (HK2.out.trans hb3) hXlo _
          have hX4 : Blk (w3.setRow X (longA (-h))) X 77 (longA y) := by rw [HY.out]; exact setRow_heap _ _ _ _ _ _ hX3
          go_wp2_with (refine wpList_store_row rfl 77 _ _ rfl X (longA (-h)) rfl rfl 77 (longA h) hX3 (long_info (-h)) (by rw [longA_size, longA_size]) (longA_one _) ?_)
          generalize w3.setRow X (longA (-h)) = w4 at *
          have HX3 := Lib.hid hX4
          have HK3 := Lib.hid hk4
          clear hX2 HX2 hX3 hX4 hk4 hb3 hb
          go_wp2_with fail
          refine wp_region_held_drew (S := fun w' => Blk w' X 77 (longA y) ∧ Below wr.heap.size wr w') (by kernel_rfl) (by exact ⟨HX3.out.drewN 1, below_drewN HK3.out 1⟩) (fun hHeld => ?_)
          refine wpAnyH_take (i := 0) (v := ?_) rfl (by kernel_rfl) (by kernel_rfl) (by kernel_rfl) (fun _ _ _ h => h) (Or.inl ⟨by rfl, ?_⟩) (by assumption) ?_
          rotate_left
          · intro w hSw
            try dsimp only at hSw
            go_simp
            try with_reducible rfl
          simp only [Act.put, List.setIfInBounds_toArray, List.set_cons_zero, List.set_cons_succ, List.getElem_toArray, List.getElem_cons_zero, List.getElem_cons_succ]
          refine wpAnyH_take (i := 1) (v := ?_) rfl (by kernel_rfl) (by kernel_rfl) (by kernel_rfl) (fun _ _ _ h => h) (Or.inl ⟨by rfl, ?_⟩) (by assumption) ?_
          rotate_left
          · intro w hSw
            try dsimp only at hSw
            go_simp
            try with_reducible rfl
          simp only [Act.put, List.setIfInBounds_toArray, List.set_cons_zero, List.set_cons_succ, List.getElem_toArray, List.getElem_cons_zero, List.getElem_cons_succ]
          refine wpAnyH_take (i := 2) (v := ?_) rfl (by kernel_rfl) (by kernel_rfl) (by kernel_rfl) (fun _ _ _ h => h) (Or.inl ⟨by rfl, ?_⟩) (by assumption) ?_
          rotate_left
          · intro w hSw
            try dsimp only at hSw
            go_simp
            try with_reducible rfl
          simp only [Act.put, List.setIfInBounds_toArray, List.set_cons_zero, List.set_cons_succ, List.getElem_toArray, List.getElem_cons_zero, List.getElem_cons_succ]
          refine wpAnyH_take (i := 3) (v := ?_) rfl (by kernel_rfl) (by kernel_rfl) (by kernel_rfl) (fun _ _ _ h => h) (Or.inl ⟨by rfl, ?_⟩) (by assumption) ?_
          rotate_left
          · intro w hSw
            have q1 := (hSw.2.cell (p := ⟨R, 6, none⟩) HGlt.out.1).trans cl
            have q3 := (hSw.2.cell (p := ⟨L, c, none⟩) HGlt.out.2).trans cz
            try refine (exec_load_row 77 _ rfl X rfl 77 (longA y) (0, 0) _ hSw.1 Try.underlying77 rfl (long_info y)).trans ?_
            go_simp
            try with_reducible rfl
          simp only [Act.put, List.setIfInBounds_toArray, List.set_cons_zero, List.set_cons_succ, List.getElem_toArray, List.getElem_cons_zero, List.getElem_cons_succ]
          refine wpAnyH_take (i := 4) (v := ?_) rfl (by kernel_rfl) (by kernel_rfl) (by kernel_rfl) (fun _ _ _ h => h) (Or.inl ⟨by rfl, ?_⟩) (by assumption) ?_
          rotate_left
          · intro w hSw
            try dsimp only at hSw
            go_simp
            try with_reducible rfl
          simp only [Act.put, List.setIfInBounds_toArray, List.set_cons_zero, List.set_cons_succ, List.getElem_toArray, List.getElem_cons_zero, List.getElem_cons_succ]
          refine wpAnyH_take (i := 5) (v := ?_) rfl (by kernel_rfl) (by kernel_rfl) (by kernel_rfl) (fun _ _ _ h => h) (Or.inl ⟨by rfl, ?_⟩) (by assumption) ?_
          rotate_left
          · intro w hSw
            try dsimp only at hSw
            go_simp
            try with_reducible rfl
          simp only [Act.put, List.setIfInBounds_toArray, List.set_cons_zero, List.set_cons_succ, List.getElem_toArray, List.getElem_cons_zero, List.getElem_cons_succ]
          refine wpAnyH_take (i := 6) (v := ?_) rfl (by kernel_rfl) (by kernel_rfl) (by kernel_rfl) (fun _ _ _ h => h) (Or.inl ⟨by rfl, ?_⟩) (by assumption) ?_
          rotate_left
          · intro w hSw
            have q1 := (hSw.2.cell (p := ⟨R, 6, none⟩) HGlt.out.1).trans cl
            have q3 := (hSw.2.cell (p := ⟨L, c, none⟩) HGlt.out.2).trans cz
            try refine (exec_load_row 77 _ rfl X rfl 77 (longA y) (0, 0) _ hSw.1 Try.underlying77 rfl (long_info y)).trans ?_
            go_simp
            try with_reducible rfl
          simp only [Act.put, List.setIfInBounds_toArray, List.set_cons_zero, List.set_cons_succ, List.getElem_toArray, List.getElem_cons_zero, List.getElem_cons_succ]
          refine wpAnyH_take (i := 8) (v := ?_) rfl (by kernel_rfl) (by kernel_rfl) (by kernel_rfl) (fun _ _ _ h => h) (Or.inl ⟨by rfl, ?_⟩) (by assumption) ?_
          rotate_left
          · intro w hSw
            have q1 := (hSw.2.cell (p := ⟨R, 6, none⟩) HGlt.out.1).trans cl
            have q3 := (hSw.2.cell (p := ⟨L, c, none⟩) HGlt.out.2).trans cz
            try refine (exec_load_row 77 _ rfl X rfl 77 (longA y) (0, 0) _ hSw.1 Try.underlying77 rfl (long_info y)).trans ?_
            go_simp
            try with_reducible rfl
          simp only [Act.put, List.setIfInBounds_toArray, List.set_cons_zero, List.set_cons_succ, List.getElem_toArray, List.getElem_cons_zero, List.getElem_cons_succ]
          refine wpAnyH_ready (rs := [7]) (by kernel_rfl) (by simp) ?_
          refine AllReadyH.cons rfl (fun Kc hKc => ?_) AllReadyH.nil
          go_simp
          go_wp2_with (first | (go_at_call 43; refine (ofint_any z hz64.1 hz64.2 _).mono ?_; rintro e w5 ⟨rfl, hb'⟩) | (go_at_call 46; refine (lplus_any z y _).mono ?_; rintro e w6 ⟨rfl, hb'⟩) | (go_at_call 45; refine (lint_yes (z + y) HFIT.out.1 HFIT.out.2 _).mono ?_; rintro e w7 ⟨rfl, hb'⟩))
          refine hKc.out _ _ ?_ (fun hHeld => ?_)
          · first | assumption | exact ⟨hHeld.1.kept hb', hHeld.2.trans (hb'.mono hHeld.2.size)⟩
          clear hKc Kc
          refine wpAnyH_ready (rs := [9]) (by kernel_rfl) (by simp) ?_
          refine AllReadyH.cons rfl (fun Kc hKc => ?_) AllReadyH.nil
          go_simp
          go_wp2_with (first | (go_at_call 43; refine (ofint_any z hz64.1 hz64.2 _).mono ?_; rintro e w5 ⟨rfl, hb'⟩) | (go_at_call 46; refine (lplus_any z y _).mono ?_; rintro e w6 ⟨rfl, hb'⟩) | (go_at_call 45; refine (lint_yes (z + y) HFIT.out.1 HFIT.out.2 _).mono ?_; rintro e w7 ⟨rfl, hb'⟩))
          refine hKc.out _ _ ?_ (fun hHeld => ?_)
          · first | assumption | exact ⟨hHeld.1.kept hb', hHeld.2.trans (hb'.mono hHeld.2.size)⟩
          clear hKc Kc
          refine wpAnyH_ready (rs := [10]) (by kernel_rfl) (by simp) ?_
          refine AllReadyH.cons rfl (fun Kc hKc => ?_) AllReadyH.nil
          go_simp
          go_wp2_with (first | (go_at_call 43; refine (ofint_any z hz64.1 hz64.2 _).mono ?_; rintro e w5 ⟨rfl, hb'⟩) | (go_at_call 46; refine (lplus_any z y _).mono ?_; rintro e w6 ⟨rfl, hb'⟩) | (go_at_call 45; refine (lint_yes (z + y) HFIT.out.1 HFIT.out.2 _).mono ?_; rintro e w7 ⟨rfl, hb'⟩))
          refine hKc.out _ _ ?_ (fun hHeld => ?_)
          · first | assumption | exact ⟨hHeld.1.kept hb', hHeld.2.trans (hb'.mono hHeld.2.size)⟩
          clear hKc Kc
          refine wpAnyH_take (i := 11) (v := ?_) rfl (by kernel_rfl) (by kernel_rfl) (by kernel_rfl) (fun _ _ _ h => h) (Or.inl ⟨by rfl, ?_⟩) (by assumption) ?_
          rotate_left
          · intro w hSw
            try dsimp only at hSw
            go_simp
            try with_reducible rfl
          simp only [Act.put, List.setIfInBounds_toArray, List.set_cons_zero, List.set_cons_succ, List.getElem_toArray, List.getElem_cons_zero, List.getElem_cons_succ]
          refine wpAnyH_take (i := 12) (v := ?_) rfl (by kernel_rfl) (by kernel_rfl) (by kernel_rfl) (fun _ _ _ h => h) (Or.inl ⟨by rfl, ?_⟩) (by assumption) ?_
          rotate_left
          · intro w hSw
            try dsimp only at hSw
            go_simp
            try with_reducible rfl
          simp only [Act.put, List.setIfInBounds_toArray, List.set_cons_zero, List.set_cons_succ, List.getElem_toArray, List.getElem_cons_zero, List.getElem_cons_succ]
          refine wpAnyH_take (i := 13) (v := ?_) rfl (by kernel_rfl) (by kernel_rfl) (by kernel_rfl) (fun _ _ _ h => h) (Or.inl ⟨by rfl, ?_⟩) (by assumption) ?_
          rotate_left
          · intro w hSw
            try dsimp only at hSw
            go_simp
            try with_reducible rfl
          simp only [Act.put, List.setIfInBounds_toArray, List.set_cons_zero, List.set_cons_succ, List.getElem_toArray, List.getElem_cons_zero, List.getElem_cons_succ]
          refine wpAnyH_take (i := 14) (v := ?_) rfl (by kernel_rfl) (by kernel_rfl) (by kernel_rfl) (fun _ _ _ h => h) (Or.inl ⟨by rfl, ?_⟩) (by assumption) ?_
          rotate_left
          · intro w hSw
            try dsimp only at hSw
            go_simp
            try with_reducible rfl
          simp only [Act.put, List.setIfInBounds_toArray, List.set_cons_zero, List.set_cons_succ, List.getElem_toArray, List.getElem_cons_zero, List.getElem_cons_succ]
          refine wpAnyH_take (i := 15) (v := ?_) rfl (by kernel_rfl) (by kernel_rfl) (by kernel_rfl) (fun _ _ _ h => h) (Or.inl ⟨by rfl, ?_⟩) (by assumption) ?_
          rotate_left
          · intro w hSw
            try dsimp only at hSw
            go_simp
            try with_reducible rfl
          simp only [Act.put, List.setIfInBounds_toArray, List.set_cons_zero, List.set_cons_succ, List.getElem_toArray, List.getElem_cons_zero, List.getElem_cons_succ]
          refine wpAnyH_done (by kernel_rfl) ?_ _
          have HK7 := Lib.hid hHeld.2
          clear hHeld
          have HO7 := Lib.hid (HO.out.kept (below_grown (row := none) HK7.out) (by cases Value.ownBlock u7 <;> simp))
          have HB7 : Hid (Below w.heap.size w w7) := Lib.hid (btr HB.out HK7.out)
          have hs7 := HB7.out.size
          have hFN := HFN.out HFIT.out
          have hc1 : c + 1 ≤ maxLen := by unfold maxLen; omega
          generalize z + y = x at *
          go_wp2_with (at_builtin; refine wpList_append_own_at _ rfl _ _ 31 rfl w.heap.size 2 i0' (.int .i64 0) 1 8 Try.underlying31 hi hz0 hz1 hz2 rfl (by decide) _ c _ rfl (HO7.out.alloc _) ⟨w7.heap.size, 0, none⟩ 1 1 [.int .i64 x] rfl rfl (cell_one_new _ _ _) ?c2 hc1 ?c4 ?c5 ?_)
          case c2 => simp [Value.oneCell']
          case c4 => omega
          case c5 => simp; omega
          intro v8 w8 hown' hgrow hnil' hq9
          have HNIL' : Hid (v8 ≠ .slice none 0 0) := Lib.hid hnil'
          have HO8 : Hid (w8.ownsRow w.heap.size 2 1 v8 (c + 1) ((fs.take (c + 1)).map (Value.int .i64))) := Lib.hid (by rw [HRN.out, List.map_append, List.map_take]; exact hown')
          have hMk : ∀ k, Value.ownBlock u7 = some k → w.heap.size ≤ k := fun k hk => (HO.out.lt k hk).1
          have HB8 : Hid (Below w.heap.size w w8) := Lib.hid ((HB7.out.alloc (by omega) _).grown hgrow (by first | omega | (simp; done) | (simp; omega)) (fun k e => by have := hMk k e; omega))
          clear hown' hgrow hnil' hq9 hMk
          go_wp2
          go_roundw
          case rel => exact ⟨c + 1, by omega, by go_num, HNIL'.out, HO8.out, hFN, HB8.out⟩
          case measure => simp [intOf]; omega
        · refine (PM.out _).mono ?_; rintro e w3 ⟨rfl, hb⟩
          have hX3 := HX2.out.kept hb
          have hb3 := hb.mono HK2.out.size
          have hk4 : Below wr.heap.size wr (w3.setRow X (longA (-h))) := below_setRow (HK2.out.trans hb3) hXlo _
          have hX4 : Blk (w3.setRow X (longA (-h))) X 77 (longA y) := by rw [HY.out]; exact setRow_heap _ _ _ _ _ _ hX3
          go_wp2_with (refine wpList_store_row rfl 77 _ _ rfl X (longA (-h)) rfl rfl 77 (longA h) hX3 (long_info (-h)) (by rw [longA_size, longA_size]) (longA_one _) ?_)
          generalize w3.setRow X (longA (-h)) = w4 at *
          have HX3 := Lib.hid hX4
          have HK3 := Lib.hid hk4
          clear hX2 HX2 hX3 hX4 hk4 hb3 hb
          go_wp2_with fail
          refine wp_region_held_drew (S := fun w' => Blk w' X 77 (longA y) ∧ Below wr.heap.size wr w') (by kernel_rfl) (by exact ⟨HX3.out.drewN 1, below_drewN HK3.out 1⟩) (fun hHeld => ?_)
          refine wpAnyH_take (i := 0) (v := ?_) rfl (by kernel_rfl) (by kernel_rfl) (by kernel_rfl) (fun _ _ _ h => h) (Or.inl ⟨by rfl, ?_⟩) (by assumption) ?_
          rotate_left
          · intro w hSw
            try dsimp only at hSw
            go_simp
            try with_reducible rfl
          simp only [Act.put, List.setIfInBounds_toArray, List.set_cons_zero, List.set_cons_succ, List.getElem_toArray, List.getElem_cons_zero, List.getElem_cons_succ]
          refine wpAnyH_take (i := 1) (v := ?_) rfl (by kernel_rfl) (by kernel_rfl) (by kernel_rfl) (fun _ _ _ h => h) (Or.inl ⟨by rfl, ?_⟩) (by assumption) ?_
          rotate_left
          · intro w hSw
            try dsimp only at hSw
            go_simp
            try with_reducible rfl
          simp only [Act.put, List.setIfInBounds_toArray, List.set_cons_zero, List.set_cons_succ, List.getElem_toArray, List.getElem_cons_zero, List.getElem_cons_succ]
          refine wpAnyH_take (i := 2) (v := ?_) rfl (by kernel_rfl) (by kernel_rfl) (by kernel_rfl) (fun _ _ _ h => h) (Or.inl ⟨by rfl, ?_⟩) (by assumption) ?_
          rotate_left
          · intro w hSw
            try dsimp only at hSw
            go_simp
            try with_reducible rfl
          simp only [Act.put, List.setIfInBounds_toArray, List.set_cons_zero, List.set_cons_succ, List.getElem_toArray, List.getElem_cons_zero, List.getElem_cons_succ]
          refine wpAnyH_take (i := 3) (v := ?_) rfl (by kernel_rfl) (by kernel_rfl) (by kernel_rfl) (fun _ _ _ h => h) (Or.inl ⟨by rfl, ?_⟩) (by assumption) ?_
          rotate_left
          · intro w hSw
            have q1 := (hSw.2.cell (p := ⟨R, 6, none⟩) HGlt.out.1).trans cl
            have q3 := (hSw.2.cell (p := ⟨L, c, none⟩) HGlt.out.2).trans cz
            try refine (exec_load_row 77 _ rfl X rfl 77 (longA y) (0, 0) _ hSw.1 Try.underlying77 rfl (long_info y)).trans ?_
            go_simp
            try with_reducible rfl
          simp only [Act.put, List.setIfInBounds_toArray, List.set_cons_zero, List.set_cons_succ, List.getElem_toArray, List.getElem_cons_zero, List.getElem_cons_succ]
          refine wpAnyH_take (i := 4) (v := ?_) rfl (by kernel_rfl) (by kernel_rfl) (by kernel_rfl) (fun _ _ _ h => h) (Or.inl ⟨by rfl, ?_⟩) (by assumption) ?_
          rotate_left
          · intro w hSw
            try dsimp only at hSw
            go_simp
            try with_reducible rfl
          simp only [Act.put, List.setIfInBounds_toArray, List.set_cons_zero, List.set_cons_succ, List.getElem_toArray, List.getElem_cons_zero, List.getElem_cons_succ]
          refine wpAnyH_take (i := 5) (v := ?_) rfl (by kernel_rfl) (by kernel_rfl) (by kernel_rfl) (fun _ _ _ h => h) (Or.inl ⟨by rfl, ?_⟩) (by assumption) ?_
          rotate_left
          · intro w hSw
            try dsimp only at hSw
            go_simp
            try with_reducible rfl
          simp only [Act.put, List.setIfInBounds_toArray, List.set_cons_zero, List.set_cons_succ, List.getElem_toArray, List.getElem_cons_zero, List.getElem_cons_succ]
          refine wpAnyH_take (i := 6) (v := ?_) rfl (by kernel_rfl) (by kernel_rfl) (by kernel_rfl) (fun _ _ _ h => h) (Or.inl ⟨by rfl, ?_⟩) (by assumption) ?_
          rotate_left
          · intro w hSw
            have q1 := (hSw.2.cell (p := ⟨R, 6, none⟩) HGlt.out.1).trans cl
            have q3 := (hSw.2.cell (p := ⟨L, c, none⟩) HGlt.out.2).trans cz
            try refine (exec_load_row 77 _ rfl X rfl 77 (longA y) (0, 0) _ hSw.1 Try.underlying77 rfl (long_info y)).trans ?_
            go_simp
            try with_reducible rfl
          simp only [Act.put, List.setIfInBounds_toArray, List.set_cons_zero, List.set_cons_succ, List.getElem_toArray, List.getElem_cons_zero, List.getElem_cons_succ]
          refine wpAnyH_take (i := 8) (v := ?_) rfl (by kernel_rfl) (by kernel_rfl) (by kernel_rfl) (fun _ _ _ h => h) (Or.inl ⟨by rfl, ?_⟩) (by assumption) ?_
          rotate_left
          · intro w hSw
            have q1 := (hSw.2.cell (p := ⟨R, 6, none⟩) HGlt.out.1).trans cl
            have q3 := (hSw.2.cell (p := ⟨L, c, none⟩) HGlt.out.2).trans cz
            try refine (exec_load_row 77 _ rfl X rfl 77 (longA y) (0, 0) _ hSw.1 Try.underlying77 rfl (long_info y)).trans ?_
            go_simp
            try with_reducible rfl
          simp only [Act.put, List.setIfInBounds_toArray, List.set_cons_zero, List.set_cons_succ, List.getElem_toArray, List.getElem_cons_zero, List.getElem_cons_succ]
          refine wpAnyH_ready (rs := [7]) (by kernel_rfl) (by simp) ?_
          refine AllReadyH.cons rfl (fun Kc hKc => ?_) AllReadyH.nil
          go_simp
          go_wp2_with (first | (go_at_call 43; refine (ofint_any z hz64.1 hz64.2 _).mono ?_; rintro e w5 ⟨rfl, hb'⟩) | (go_at_call 46; refine (lplus_any z y _).mono ?_; rintro e w6 ⟨rfl, hb'⟩) | (go_at_call 45; refine (lint_no (z + y) (by have := HYB.out; have := hz64.1; omega) (by have := HYB.out; have := hz64.2; omega) HFIT.out _).mono ?_; rintro e w7 ⟨rfl, hb'⟩))
          refine hKc.out _ _ ?_ (fun hHeld => ?_)
          · first | assumption | exact ⟨hHeld.1.kept hb', hHeld.2.trans (hb'.mono hHeld.2.size)⟩
          clear hKc Kc
          refine wpAnyH_ready (rs := [9]) (by kernel_rfl) (by simp) ?_
          refine AllReadyH.cons rfl (fun Kc hKc => ?_) AllReadyH.nil
          go_simp
          go_wp2_with (first | (go_at_call 43; refine (ofint_any z hz64.1 hz64.2 _).mono ?_; rintro e w5 ⟨rfl, hb'⟩) | (go_at_call 46; refine (lplus_any z y _).mono ?_; rintro e w6 ⟨rfl, hb'⟩) | (go_at_call 45; refine (lint_no (z + y) (by have := HYB.out; have := hz64.1; omega) (by have := HYB.out; have := hz64.2; omega) HFIT.out _).mono ?_; rintro e w7 ⟨rfl, hb'⟩))
          refine hKc.out _ _ ?_ (fun hHeld => ?_)
          · first | assumption | exact ⟨hHeld.1.kept hb', hHeld.2.trans (hb'.mono hHeld.2.size)⟩
          clear hKc Kc
          refine wpAnyH_ready (rs := [10]) (by kernel_rfl) (by simp) ?_
          refine AllReadyH.cons rfl (fun Kc hKc => ?_) AllReadyH.nil
          go_simp
          go_wp2_with (first | (go_at_call 43; refine (ofint_any z hz64.1 hz64.2 _).mono ?_; rintro e w5 ⟨rfl, hb'⟩) | (go_at_call 46; refine (lplus_any z y _).mono ?_; rintro e w6 ⟨rfl, hb'⟩) | (go_at_call 45; refine (lint_no (z + y) (by have := HYB.out; have := hz64.1; omega) (by have := HYB.out; have := hz64.2; omega) HFIT.out _).mono ?_; rintro e w7 ⟨rfl, hb'⟩))
          refine hKc.out _ _ ?_ (fun hHeld => ?_)
          · first | assumption | exact ⟨hHeld.1.kept hb', hHeld.2.trans (hb'.mono hHeld.2.size)⟩
          clear hKc Kc
          refine wpAnyH_take (i := 11) (v := ?_) rfl (by kernel_rfl) (by kernel_rfl) (by kernel_rfl) (fun _ _ _ h => h) (Or.inl ⟨by rfl, ?_⟩) (by assumption) ?_
          rotate_left
          · intro w hSw
            try dsimp only at hSw
            go_simp
            try with_reducible rfl
          simp only [Act.put, List.setIfInBounds_toArray, List.set_cons_zero, List.set_cons_succ, List.getElem_toArray, List.getElem_cons_zero, List.getElem_cons_succ]
          refine wpAnyH_take (i := 12) (v := ?_) rfl (by kernel_rfl) (by kernel_rfl) (by kernel_rfl) (fun _ _ _ h => h) (Or.inl ⟨by rfl, ?_⟩) (by assumption) ?_
          rotate_left
          · intro w hSw
            try dsimp only at hSw
            go_simp
            try with_reducible rfl
          simp only [Act.put, List.setIfInBounds_toArray, List.set_cons_zero, List.set_cons_succ, List.getElem_toArray, List.getElem_cons_zero, List.getElem_cons_succ]
          refine wpAnyH_take (i := 13) (v := ?_) rfl (by kernel_rfl) (by kernel_rfl) (by kernel_rfl) (fun _ _ _ h => h) (Or.inl ⟨by rfl, ?_⟩) (by assumption) ?_
          rotate_left
          · intro w hSw
            try dsimp only at hSw
            go_simp
            try with_reducible rfl
          simp only [Act.put, List.setIfInBounds_toArray, List.set_cons_zero, List.set_cons_succ, List.getElem_toArray, List.getElem_cons_zero, List.getElem_cons_succ]
          refine wpAnyH_take (i := 14) (v := ?_) rfl (by kernel_rfl) (by kernel_rfl) (by kernel_rfl) (fun _ _ _ h => h) (Or.inl ⟨by rfl, ?_⟩) (by assumption) ?_
          rotate_left
          · intro w hSw
            try dsimp only at hSw
            go_simp
            try with_reducible rfl
          simp only [Act.put, List.setIfInBounds_toArray, List.set_cons_zero, List.set_cons_succ, List.getElem_toArray, List.getElem_cons_zero, List.getElem_cons_succ]
          refine wpAnyH_take (i := 15) (v := ?_) rfl (by kernel_rfl) (by kernel_rfl) (by kernel_rfl) (fun _ _ _ h => h) (Or.inl ⟨by rfl, ?_⟩) (by assumption) ?_
          rotate_left
          · intro w hSw
            try dsimp only at hSw
            go_simp
            try with_reducible rfl
          simp only [Act.put, List.setIfInBounds_toArray, List.set_cons_zero, List.set_cons_succ, List.getElem_toArray, List.getElem_cons_zero, List.getElem_cons_succ]
          refine wpAnyH_done (by kernel_rfl) ?_ _
          have HK7 := Lib.hid hHeld.2
          clear hHeld
          have HP : Hid (RJoinPost w R L b r d m s l (-1) zs fs (.returned (.int .i64 4)) w7) := .inr (.inr ⟨HMODE.out, HBAD.out HFIT.out, rfl, btr HB.out HK7.out⟩)
          go_wp2
          go_ret
          exact HP.out
      · obtain rfl : c = K := by omega
        have hrow := HO.out
        have hft := HFC.out
        rw [show fs.take c = fs by rw [List.take_of_length_le (by have := HFL.out; omega)]] at hrow hft
        have HFF := Lib.hid hft
        obtain ⟨bo, cp, rfl, hMb, hcp, curo, hcuro, hcco⟩ := own_row (zs := fs) (by rw [HFL.out]; exact hrow) HNIL.out
        rw [HFL.out] at hcp ⊢
        have hRw := (HRb.out.kept HB.out)
        have hf6 := hRw.frozen 6
        have HPR : Hid (RJoinPost w R L b r d m s l (-1) zs fs (.returned (.int .i64 0)) (wr.setCell ⟨R, 6, none⟩ (.slice (some ⟨bo, 0, none⟩) c cp))) := .inr (.inl ⟨HMODE.out, HFF.out, bo, rfl, hMb, ⟨cp, curo, by rw [HFL.out]; exact hcp, by have h9 := hRw.set_ 6 (.slice (some ⟨bo, 0, none⟩) c cp); rw [HFL.out]; exact h9, hcuro.far (by have := HRL.out; show bo ≠ R; omega) _, hcco⟩, grown_tr (below_grown (row := some R) HB.out) (grown_set wr R 6 _)⟩)
        clear hrow hft hcuro hcco hRw
        go_wp2
        go_ret
        exact HPR.out
end Go.Proofs.Ytcfmipgdhhogcaa
