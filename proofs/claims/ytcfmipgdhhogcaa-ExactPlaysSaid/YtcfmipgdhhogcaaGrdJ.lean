/-
  The walks of grid's joint, Plus, Minus. Conditions: none beyond those stated at each theorem.
-/
import Derived.Test.YtcfmipgdhhogcaaGrdC
import Derived.Test.YtcfmipgdhhogcaaGrdU
import Derived.Test.YtcfmipgdhhogcaaLng
import Derived.Laws.CopyOwn
import Derived.Deep.QuietTactic
import Derived.BigQuiet
namespace Go.Proofs.Ytcfmipgdhhogcaa
open Go.RowKit
set_option linter.unusedVariables false
set_option linter.unusedSimpArgs false

def In64 (x : Int) : Prop := -9223372036854775808 ≤ x ∧ x ≤ 9223372036854775807
/-- function F is the operation f of two numbers -/
def OpOK (F : Nat) (f : Int → Int → Int) : Prop := ∀ (a b : Int) (w : World), In64 a → In64 b →
  (In64 (f a b) → Calls Try.prog F #[.int .i64 a, .int .i64 b] w (TwoPost w (f a b) true)) ∧ (¬ In64 (f a b) → Calls Try.prog F #[.int .i64 a, .int .i64 b] w (TwoPost w 0 false))
theorem opok_plus : OpOK 41 (fun a b => a + b) := fun a b w ha hb =>
  ⟨fun h => plus_yes a b ha.1 ha.2 hb.1 hb.2 h.1 h.2 w, fun h => plus_no a b ha.1 ha.2 hb.1 hb.2 h w⟩
theorem opok_minus : OpOK 52 (fun a b => a - b) := fun a b w ha hb =>
  ⟨fun h => minus_yes a b ha.1 ha.2 hb.1 hb.2 h.1 h.2 w, fun h => minus_no a b ha.1 ha.2 hb.1 hb.2 h w⟩

def JointV (G F : Nat) : Value := .agg #[.pointer (some ⟨G, 0, none⟩), .func (Fn.func F) #[] #[]]
def AllYes (w : World) (G C R W : Nat) (zs : List Int) (e : Ending) (w' : World) : Prop := e = .returned (.int .i64 0) ∧ GridIs w' G C R W zs ∧ w.grownBy w' (some C)
def AllNo (w : World) (n : Int) (e : Ending) (w' : World) : Prop := e = .returned (.int .i64 n) ∧ Below w.heap.size w w'

theorem zip_at {f : Int → Int → Int} {zs hs : List Int} {j : Nat} {z h : Int} (h1 : zs[j]? = some z) (h2 : hs[j]? = some h) : (List.zipWith f zs hs)[j]? = some (f z h) := by
  simp [List.getElem?_zipWith, h1, h2]

set_option maxRecDepth 100000 in
set_option maxHeartbeats 4000000 in
theorem all_yes_plus (f : Int → Int → Int) (hop : OpOK 41 f) (w : World) (G C H D R W : Nat) (zs hs : List Int) (hg : GridIs w G C R W zs) (hh : GridIs w H D R W hs) (hfit : Fit (List.zipWith f zs hs)) :
    Calls Try.prog 51 #[.agg #[.pointer (some ⟨G, 0, none⟩), .func (Fn.func 41) #[] #[]], .pointer (some ⟨H, 0, none⟩)] w (AllYes w G C R W (List.zipWith f zs hs)) := by
  obtain ⟨Z, hZ⟩ : ∃ Z, List.zipWith f zs hs = Z := ⟨_, rfl⟩
  rw [hZ] at hfit ⊢
  have HZ := Lib.hid hZ
  clear hZ
  obtain ⟨cg, hgb, hgc⟩ := hg.fields
  obtain ⟨ch, hhb, hhc⟩ := hh.fields
  have HG := Lib.hid hg
  have HH := Lib.hid hh
  have HF := Lib.hid hfit
  have HOP := Lib.hid hop
  have hn1024 : R * W ≤ 1024 := Nat.mul_le_mul hg.rows hg.width
  clear hg hh hfit hop
  generalize hn : R * W = n at *
  have HN := Lib.hid hn
  clear hn
  have HGB := Lib.hid hgb
  have HHB := Lib.hid hhb
  go_enter Try.func51, Try.ntmps51
  go_wp2_with fail
  obtain ⟨ga, hbel, hsz⟩ := news1 w (.cells #[.pointer (some ⟨G, 0, none⟩), .func (Fn.func 41) #[] #[]] 89)
  have hj : Blk _ w.heap.size 89 #[.pointer (some ⟨G, 0, none⟩), .func (Fn.func 41) #[] #[]] := ga
  have hg1 := HGB.out.kept hbel
  have hh1 := HHB.out.kept hbel
  clear ga hgb hhb
  generalize (w.alloc (.cells #[.pointer (some ⟨G, 0, none⟩), .func (Fn.func 41) #[] #[]] 89)) = wz at *
  have j0 := hj.cell 0
  have j1 := hj.cell 1
  have g0 := hg1.cell 0
  have g1 := hg1.cell 1
  have h0 := hh1.cell 0
  have h1 := hh1.cell 1
  have g2 := hg1.cell 2
  have h2 := hh1.cell 2
  simp at j0 j1 g0 g1 h0 h1 g2 h2
  have HJ := Lib.hid hj
  have HB := Lib.hid hbel
  clear hj hbel hg1 hh1
  generalize hA : w.heap.size = A at *
  have HA := Lib.hid hA
  clear hA
  have hH1 : H < A + 1 := by have := HH.out.ltG; have := HA.out; omega
  have hmk := fun W => run_make_row' (P := Try.prog) 31 2 (.int .i64 0) 8 Try.underlying31 Try.info64 rfl .i64 .i64 n (by omega) (by omega) W
  go_quiet (fail)
  go_wp2_with fail
  have hrow := World.rowIs_made (wz.drewN nq) (.int .i64 0) n 2
  simp only [show (wz.drewN nq).heap.size = A + 1 from hsz] at hrow
  have hrow2 := RowUpTo.zeros hrow (fun k => f (cellD zs k) (cellD hs k))
  have HJ2 := Lib.hid ((HJ.out.drewN nq).alloc (.cells (madeCells #[.int .i64 0] n) 2))
  have HB2 : Hid (Below A w ((wz.drewN nq).alloc (.cells (madeCells #[.int .i64 0] n) 2))) := Lib.hid ((below_drewN HB.out nq).alloc (by simp; omega) _)
  clear hrow HJ HB hmk g0 g1 g2 h0 h1 h2 j0 j1
  generalize ((wz.drewN nq).alloc (.cells (madeCells #[.int .i64 0] n) 2)) = wy at *
  have HR2 := Lib.hid hrow2
  clear hrow2
  have hGA : G < A := by have := HG.out.ltG; have := HA.out; omega
  have hHA : H < A := by have := HH.out.ltG; have := HA.out; omega
  have hCA : C < A := by have := HG.out.ltC; have := HA.out; omega
  have hDA : D < A := by have := HH.out.ltC; have := HA.out; omega
  go_loopw [48] (fun i wr => ∃ j : Nat, j ≤ n ∧ i = .int .i64 (j : Int) ∧ Blk wr A 89 #[.pointer (some ⟨G, 0, none⟩), .func (Fn.func 41) #[] #[]] ∧ RowUpTo wr (A + 1) 2 n (fun k => f (cellD zs k) (cellD hs k)) j ∧ Below A w wr) (fun i _ => n - (intOf i).toNat)
  case atStart => exact ⟨0, by omega, rfl, HJ2.out, HR2.out, HB2.out⟩
  case round =>
    obtain ⟨j, hj, rfl, hjb, hrow, hbel⟩ := hrel
    clear HJ2 HR2 HB2
    have HJ := Lib.hid hjb
    have HR := Lib.hid hrow
    have HB := Lib.hid hbel
    clear hjb hrow hbel
    have HG1 := Lib.hid (HG.out.below HB.out hGA hCA)
    have HH1 := Lib.hid (HH.out.below HB.out hHA hDA)
    have gb := HGB.out.below HB.out hGA
    have hb := HHB.out.below HB.out hHA
    have HGB1 := Lib.hid gb
    have j0 := HJ.out.cell 0
    have j1 := HJ.out.cell 1
    have g2 := gb.cell 2
    simp at j0 j1 g2
    clear gb hb
    by_cases hlt : j < n
    · obtain ⟨curG, hcG, hcurG⟩ := HG1.out.cells
      obtain ⟨curH, hcH, hcurH⟩ := HH1.out.cells
      have hzj : zs[j]? = some (cellD zs j) := by
        have : j < zs.length := by rw [HG.out.len, HN.out]; exact hlt
        simp [cellD, this]
      have hhj : hs[j]? = some (cellD hs j) := by
        have : j < hs.length := by rw [HH.out.len, HN.out]; exact hlt
        simp [cellD, this]
      have cz := (hcG.cell j).trans (hcurG j _ hzj)
      have ch := (hcH.cell j).trans (hcurH j _ hhj)
      have hfj := HF.out.get (by rw [← HZ.out]; exact zip_at (f := f) hzj hhj)
      have HCALL := fun w => (HOP.out (cellD zs j) (cellD hs j) w (HG.out.fit.get hzj) (HH.out.fit.get hhj)).1 hfj
      have HE : Hid ((fun k => f (cellD zs k) (cellD hs k)) j = f (cellD zs j) (cellD hs j)) := rfl
      clear hcG hcurG hcH hcurH hfj hzj hhj
      generalize f (cellD zs j) (cellD hs j) = v at *
      generalize cellD zs j = z at *
      generalize cellD hs j = h at *
      have HCZ := Lib.hid cz
      clear cz
      have i0 : (0 : Int) ≤ (j : Int) := by omega
      have i1 : (j : Int) < (n : Int) := by omega
      go_wp2_with fail
      refine wp_region_held_drew (S := fun w' => Blk w' A 89 #[.pointer (some ⟨G, 0, none⟩), .func (Fn.func 41) #[] #[]] ∧ Blk w' G 84 #[.int .i64 (R : Int), .int .i64 (W : Int), .slice (some ⟨C, 0, none⟩) n cg] ∧ w'.cell? ⟨C, j, none⟩ = some (.int .i64 z) ∧ RowUpTo w' (A + 1) 2 n (fun k => f (cellD zs k) (cellD hs k)) j ∧ Below A w w') (by kernel_rfl) (by exact ⟨HJ.out.drew, HGB1.out.drew, HCZ.out, HR.out.drewN 1, HB.out.drew⟩) (fun hHeld => ?_)
      refine wpAnyH_take (i := 0) (v := ?_) rfl (by kernel_rfl) (by kernel_rfl) (by kernel_rfl) (fun _ _ _ h => h) (Or.inl ⟨by rfl, ?_⟩) (by assumption) ?_
      rotate_left
      · intro w hSw
        try dsimp only at hSw
        go_simp
        try with_reducible rfl
      simp only [Act.put, List.setIfInBounds_toArray, List.set_cons_zero, List.set_cons_succ, List.getElem_toArray, List.getElem_cons_zero, List.getElem_cons_succ]
      refine wpAnyH_take (i := 1) (v := ?_) rfl (by kernel_rfl) (by kernel_rfl) (by kernel_rfl) (fun _ _ _ h => h) (Or.inl ⟨by rfl, ?_⟩) (by assumption) ?_
      rotate_left
      · intro w hSw
        have q0 := hSw.1.cell 0
        have q1 := hSw.1.cell 1
        have q2 := hSw.2.1.cell 2
        have q3 := hSw.2.2.1
        simp at q0 q1 q2
        go_simp
        try with_reducible rfl
      simp only [Act.put, List.setIfInBounds_toArray, List.set_cons_zero, List.set_cons_succ, List.getElem_toArray, List.getElem_cons_zero, List.getElem_cons_succ]
      refine wpAnyH_take (i := 2) (v := ?_) rfl (by kernel_rfl) (by kernel_rfl) (by kernel_rfl) (fun _ _ _ h => h) (Or.inl ⟨by rfl, ?_⟩) (by assumption) ?_
      rotate_left
      · intro w hSw
        try dsimp only at hSw
        go_simp
        try with_reducible rfl
      simp only [Act.put, List.setIfInBounds_toArray, List.set_cons_zero, List.set_cons_succ, List.getElem_toArray, List.getElem_cons_zero, List.getElem_cons_succ]
      refine wpAnyH_take (i := 3) (v := ?_) rfl (by kernel_rfl) (by kernel_rfl) (by kernel_rfl) (fun _ _ _ h => h) (Or.inl ⟨by rfl, ?_⟩) (by assumption) ?_
      rotate_left
      · intro w hSw
        have q0 := hSw.1.cell 0
        have q1 := hSw.1.cell 1
        have q2 := hSw.2.1.cell 2
        have q3 := hSw.2.2.1
        simp at q0 q1 q2
        go_simp
        try with_reducible rfl
      simp only [Act.put, List.setIfInBounds_toArray, List.set_cons_zero, List.set_cons_succ, List.getElem_toArray, List.getElem_cons_zero, List.getElem_cons_succ]
      refine wpAnyH_take (i := 4) (v := ?_) rfl (by kernel_rfl) (by kernel_rfl) (by kernel_rfl) (fun _ _ _ h => h) (Or.inl ⟨by rfl, ?_⟩) (by assumption) ?_
      rotate_left
      · intro w hSw
        try dsimp only at hSw
        go_simp
        try with_reducible rfl
      simp only [Act.put, List.setIfInBounds_toArray, List.set_cons_zero, List.set_cons_succ, List.getElem_toArray, List.getElem_cons_zero, List.getElem_cons_succ]
      refine wpAnyH_take (i := 5) (v := ?_) rfl (by kernel_rfl) (by kernel_rfl) (by kernel_rfl) (fun _ _ _ h => h) (Or.inl ⟨by rfl, ?_⟩) (by assumption) ?_
      rotate_left
      · intro w hSw
        try dsimp only at hSw
        go_simp
        try with_reducible rfl
      simp only [Act.put, List.setIfInBounds_toArray, List.set_cons_zero, List.set_cons_succ, List.getElem_toArray, List.getElem_cons_zero, List.getElem_cons_succ]
      refine wpAnyH_take (i := 6) (v := ?_) rfl (by kernel_rfl) (by kernel_rfl) (by kernel_rfl) (fun _ _ _ h => h) (Or.inl ⟨by rfl, ?_⟩) (by assumption) ?_
      rotate_left
      · intro w hSw
        have q0 := hSw.1.cell 0
        have q1 := hSw.1.cell 1
        have q2 := hSw.2.1.cell 2
        have q3 := hSw.2.2.1
        simp at q0 q1 q2
        go_simp
        try with_reducible rfl
      simp only [Act.put, List.setIfInBounds_toArray, List.set_cons_zero, List.set_cons_succ, List.getElem_toArray, List.getElem_cons_zero, List.getElem_cons_succ]
      refine wpAnyH_take (i := 7) (v := ?_) rfl (by kernel_rfl) (by kernel_rfl) (by kernel_rfl) (fun _ _ _ h => h) (Or.inl ⟨by rfl, ?_⟩) (by assumption) ?_
      rotate_left
      · intro w hSw
        try dsimp only at hSw
        go_simp
        try with_reducible rfl
      simp only [Act.put, List.setIfInBounds_toArray, List.set_cons_zero, List.set_cons_succ, List.getElem_toArray, List.getElem_cons_zero, List.getElem_cons_succ]
      refine wpAnyH_take (i := 8) (v := ?_) rfl (by kernel_rfl) (by kernel_rfl) (by kernel_rfl) (fun _ _ _ h => h) (Or.inl ⟨by rfl, ?_⟩) (by assumption) ?_
      rotate_left
      · intro w hSw
        try dsimp only at hSw
        go_simp
        try with_reducible rfl
      simp only [Act.put, List.setIfInBounds_toArray, List.set_cons_zero, List.set_cons_succ, List.getElem_toArray, List.getElem_cons_zero, List.getElem_cons_succ]
      refine wpAnyH_take (i := 9) (v := ?_) rfl (by kernel_rfl) (by kernel_rfl) (by kernel_rfl) (fun _ _ _ h => h) (Or.inl ⟨by rfl, ?_⟩) (by assumption) ?_
      rotate_left
      · intro w hSw
        have q0 := hSw.1.cell 0
        have q1 := hSw.1.cell 1
        have q2 := hSw.2.1.cell 2
        have q3 := hSw.2.2.1
        simp at q0 q1 q2
        go_simp
        try with_reducible rfl
      simp only [Act.put, List.setIfInBounds_toArray, List.set_cons_zero, List.set_cons_succ, List.getElem_toArray, List.getElem_cons_zero, List.getElem_cons_succ]
      refine wpAnyH_take (i := 10) (v := ?_) rfl (by kernel_rfl) (by kernel_rfl) (by kernel_rfl) (fun _ _ _ h => h) (Or.inl ⟨by rfl, ?_⟩) (by assumption) ?_
      rotate_left
      · intro w hSw
        try dsimp only at hSw
        go_simp
        try with_reducible rfl
      simp only [Act.put, List.setIfInBounds_toArray, List.set_cons_zero, List.set_cons_succ, List.getElem_toArray, List.getElem_cons_zero, List.getElem_cons_succ]
      refine wpAnyH_ready (rs := [11]) (by kernel_rfl) (by simp) ?_
      refine AllReadyH.cons rfl (fun Kc hKc => ?_) AllReadyH.nil
      go_simp
      go_wp2_with (refine (HCALL _).mono ?_; rintro e w' ⟨rfl, hb'⟩)
      refine hKc.out _ _ ?_ (fun hHeld => ?_)
      · first | assumption | exact ⟨hHeld.1.kept hb', hHeld.2.1.kept hb', (hb'.cell (p := ⟨C, j, none⟩) (by have := hHeld.1.lt; show C < _; omega)).trans hHeld.2.2.1, hHeld.2.2.2.1.kept hb', hHeld.2.2.2.2.trans (hb'.mono (by have := hHeld.1.lt; omega))⟩
      clear hKc Kc
      refine wpAnyH_take (i := 12) (v := ?_) rfl (by kernel_rfl) (by kernel_rfl) (by kernel_rfl) (fun _ _ _ h => h) (Or.inl ⟨by rfl, ?_⟩) (by assumption) ?_
      rotate_left
      · intro w hSw
        try dsimp only at hSw
        go_simp
        try with_reducible rfl
      simp only [Act.put, List.setIfInBounds_toArray, List.set_cons_zero, List.set_cons_succ, List.getElem_toArray, List.getElem_cons_zero, List.getElem_cons_succ]
      refine wpAnyH_take (i := 13) (v := ?_) rfl (by kernel_rfl) (by kernel_rfl) (by kernel_rfl) (fun _ _ _ h => h) (Or.inl ⟨by rfl, ?_⟩) (by assumption) ?_
      rotate_left
      · intro w hSw
        try dsimp only at hSw
        go_simp
        try with_reducible rfl
      simp only [Act.put, List.setIfInBounds_toArray, List.set_cons_zero, List.set_cons_succ, List.getElem_toArray, List.getElem_cons_zero, List.getElem_cons_succ]
      refine wpAnyH_take (i := 14) (v := ?_) rfl (by kernel_rfl) (by kernel_rfl) (by kernel_rfl) (fun _ _ _ h => h) (Or.inl ⟨by rfl, ?_⟩) (by assumption) ?_
      rotate_left
      · intro w hSw
        try dsimp only at hSw
        go_simp
        try with_reducible rfl
      simp only [Act.put, List.setIfInBounds_toArray, List.set_cons_zero, List.set_cons_succ, List.getElem_toArray, List.getElem_cons_zero, List.getElem_cons_succ]
      refine wpAnyH_take (i := 15) (v := ?_) rfl (by kernel_rfl) (by kernel_rfl) (by kernel_rfl) (fun _ _ _ h => h) (Or.inl ⟨by rfl, ?_⟩) (by assumption) ?_
      rotate_left
      · intro w hSw
        try dsimp only at hSw
        go_simp
        try with_reducible rfl
      simp only [Act.put, List.setIfInBounds_toArray, List.set_cons_zero, List.set_cons_succ, List.getElem_toArray, List.getElem_cons_zero, List.getElem_cons_succ]
      refine wpAnyH_take (i := 16) (v := ?_) rfl (by kernel_rfl) (by kernel_rfl) (by kernel_rfl) (fun _ _ _ h => h) (Or.inl ⟨by rfl, ?_⟩) (by assumption) ?_
      rotate_left
      · intro w hSw
        try dsimp only at hSw
        go_simp
        try with_reducible rfl
      simp only [Act.put, List.setIfInBounds_toArray, List.set_cons_zero, List.set_cons_succ, List.getElem_toArray, List.getElem_cons_zero, List.getElem_cons_succ]
      refine wpAnyH_done (by kernel_rfl) ?_ _
      obtain ⟨k1, k2, k3, k4, k5⟩ := hHeld
      obtain ⟨v0, hc⟩ := k4.cell hlt
      have hf := k4.frozen j
      have K1 := Lib.hid k1
      have K4 := Lib.hid k4
      have K5 := Lib.hid k5
      have hAn : A ≠ A + 1 := by omega
      clear k1 k2 k3 k4 k5 hb' ch g2 j0 j1
      go_wp2
      go_roundw
      case rel => exact ⟨j + 1, by omega, by go_num, K1.out.far hAn _, K4.out.put HE.out.symm, K5.out.setCell (by simp) _⟩
      case measure => simp [intOf]; omega
    · obtain rfl : j = n := by omega
      have hfull := HR.out.full
      obtain ⟨curO, hcO, hszO, hO⟩ := hfull
      obtain ⟨curG, hcG, hcurG⟩ := HG1.out.cells
      have hlz : zs.length = j := by rw [HG.out.len, HN.out]
      have hlh : hs.length = j := by rw [HH.out.len, HN.out]
      have hlen : Z.length = j := by rw [← HZ.out, List.length_zipWith]; omega
      obtain ⟨X, hX⟩ : ∃ X, Z.map (Value.int .i64) = X := ⟨_, rfl⟩
      have hXl : X.length = j := by rw [← hX, List.length_map, hlen]
      have hsrc : ∀ i v, X[i]? = some v → wr.cell? ((⟨A + 1, 0, none⟩ : Addr).add i) = some v := by
        intro i v hv
        have hi : i < j := by
          have := (List.getElem?_eq_some_iff.1 hv).1
          omega
        have e1 : zs[i]? = some (cellD zs i) := by
          have : i < zs.length := by omega
          simp [cellD, this]
        have e2 : hs[i]? = some (cellD hs i) := by
          have : i < hs.length := by omega
          simp [cellD, this]
        rw [← hX, ← HZ.out, List.getElem?_map, zip_at e1 e2] at hv
        have e3 : (⟨A + 1, 0, none⟩ : Addr).add i = ⟨A + 1, i, none⟩ := by unfold Addr.add; split <;> simp_all
        rw [e3, cell_of_row wr (A + 1) i curO _ _ hcO, hO i hi]
        simpa using hv
      have hfitC : 0 + X.length ≤ curG.size := by
        rw [hXl]
        by_cases h0 : j = 0
        · omega
        · have e1 : zs[j - 1]? = some (cellD zs (j - 1)) := by
            have : j - 1 < zs.length := by omega
            simp [cellD, this]
          have := (Array.getElem?_eq_some_iff.1 (hcurG _ _ e1)).1
          omega
      have HSRC := Lib.hid hsrc
      have HFITC := Lib.hid hfitC
      have HHG := Lib.hid hcG
      have HONE : Hid (∀ v ∈ X, v.oneCell' = true) := Lib.hid (by
        intro v hv
        rw [← hX] at hv
        obtain ⟨a, _, rfl⟩ := List.mem_map.1 hv
        rfl)
      have HLN : Hid (X.length = Nat.min j j) := Lib.hid (by rw [hXl]; exact (Nat.min_self j).symm)
      have HLZ := Lib.hid hlen
      have HXX := Lib.hid hX
      clear hcO hszO hO hcG hcurG hlz hlh hlen hsrc hfitC hX hXl
      go_wp2_with (refine wpList_copy_own rfl (.tmp 79) (.tmp 80) 31 31 rfl 2 Try.underlying31 (by kernel_rfl) C 0 j cg ⟨A + 1, 0, none⟩ j j rfl rfl curG 2 HHG.out X HLN.out HSRC.out HFITC.out HONE.out ?_; generalize hcn : (curG.toList.take 0 ++ (X ++ curG.toList.drop (0 + X.length))).toArray = cn; have HCN := Lib.hid hcn; clear hcn)
      go_ret
      have hgrow : wr.grownBy (wr.setRow C cn) (some C) :=
        ⟨rfl, rfl, rfl, by simp, fun k hk hne => setRow_other wr C k _ (by simpa using hne)⟩
      refine ⟨rfl, ⟨⟨cg, by rw [HN.out]; exact HGB1.out.grown hgrow (by have := HG1.out.ne; simpa using this), by rw [HN.out]; exact hgc⟩, by rw [HLZ.out, HN.out], ⟨_, setRow_heap wr C _ _ _ _ HHG.out, fun i u hu => ?_⟩, HG.out.rows, HG.out.width, HF.out⟩, ?_⟩
      · have hi : i < X.length := by rw [← HXX.out, List.length_map]; exact (List.getElem?_eq_some_iff.1 hu).1
        rw [← HCN.out]
        simp only [List.take_zero, List.nil_append, List.getElem?_toArray]
        rw [List.getElem?_append_left hi, ← HXX.out, List.getElem?_map, hu]
        rfl
      · have hb := HB.out
        exact ⟨(hgrow.os.trans hb.os), hgrow.tape.trans hb.tape, hgrow.output.trans hb.output, Nat.le_trans hb.size hgrow.size, fun k hk hne => (hgrow.block k (Nat.lt_of_lt_of_le hk hb.size) hne).trans (hb.block k (by rw [← HA.out]; exact hk))⟩

set_option maxRecDepth 100000 in
set_option maxHeartbeats 4000000 in
theorem all_no_plus (f : Int → Int → Int) (hop : OpOK 41 f) (w : World) (G C H D R W : Nat) (zs hs : List Int) (hg : GridIs w G C R W zs) (hh : GridIs w H D R W hs) (hfit : ¬ Fit (List.zipWith f zs hs)) :
    Calls Try.prog 51 #[.agg #[.pointer (some ⟨G, 0, none⟩), .func (Fn.func 41) #[] #[]], .pointer (some ⟨H, 0, none⟩)] w (AllNo w 4) := by
  obtain ⟨Z, hZ⟩ : ∃ Z, List.zipWith f zs hs = Z := ⟨_, rfl⟩
  rw [hZ] at hfit
  have HZ := Lib.hid hZ
  clear hZ
  obtain ⟨cg, hgb, hgc⟩ := hg.fields
  obtain ⟨ch, hhb, hhc⟩ := hh.fields
  have HG := Lib.hid hg
  have HH := Lib.hid hh
  have HF := Lib.hid hfit
  have HOP := Lib.hid hop
  have hn1024 : R * W ≤ 1024 := Nat.mul_le_mul hg.rows hg.width
  clear hg hh hfit hop
  generalize hn : R * W = n at *
  have HN := Lib.hid hn
  clear hn
  have HGB := Lib.hid hgb
  have HHB := Lib.hid hhb
  go_enter Try.func51, Try.ntmps51
  go_wp2_with fail
  obtain ⟨ga, hbel, hsz⟩ := news1 w (.cells #[.pointer (some ⟨G, 0, none⟩), .func (Fn.func 41) #[] #[]] 89)
  have hj : Blk _ w.heap.size 89 #[.pointer (some ⟨G, 0, none⟩), .func (Fn.func 41) #[] #[]] := ga
  have hg1 := HGB.out.kept hbel
  have hh1 := HHB.out.kept hbel
  clear ga hgb hhb
  generalize (w.alloc (.cells #[.pointer (some ⟨G, 0, none⟩), .func (Fn.func 41) #[] #[]] 89)) = wz at *
  have j0 := hj.cell 0
  have j1 := hj.cell 1
  have g0 := hg1.cell 0
  have g1 := hg1.cell 1
  have h0 := hh1.cell 0
  have h1 := hh1.cell 1
  have g2 := hg1.cell 2
  have h2 := hh1.cell 2
  simp at j0 j1 g0 g1 h0 h1 g2 h2
  have HJ := Lib.hid hj
  have HB := Lib.hid hbel
  clear hj hbel hg1 hh1
  generalize hA : w.heap.size = A at *
  have HA := Lib.hid hA
  clear hA
  have hH1 : H < A + 1 := by have := HH.out.ltG; have := HA.out; omega
  have hmk := fun W => run_make_row' (P := Try.prog) 31 2 (.int .i64 0) 8 Try.underlying31 Try.info64 rfl .i64 .i64 n (by omega) (by omega) W
  go_quiet (fail)
  go_wp2_with fail
  have hrow := World.rowIs_made (wz.drewN nq) (.int .i64 0) n 2
  simp only [show (wz.drewN nq).heap.size = A + 1 from hsz] at hrow
  have hrow2 := RowUpTo.zeros hrow (fun k => f (cellD zs k) (cellD hs k))
  have HJ2 := Lib.hid ((HJ.out.drewN nq).alloc (.cells (madeCells #[.int .i64 0] n) 2))
  have HB2 : Hid (Below A w ((wz.drewN nq).alloc (.cells (madeCells #[.int .i64 0] n) 2))) := Lib.hid ((below_drewN HB.out nq).alloc (by simp; omega) _)
  clear hrow HJ HB hmk g0 g1 g2 h0 h1 h2 j0 j1
  generalize ((wz.drewN nq).alloc (.cells (madeCells #[.int .i64 0] n) 2)) = wy at *
  have HR2 := Lib.hid hrow2
  clear hrow2
  have hGA : G < A := by have := HG.out.ltG; have := HA.out; omega
  have hHA : H < A := by have := HH.out.ltG; have := HA.out; omega
  have hCA : C < A := by have := HG.out.ltC; have := HA.out; omega
  have hDA : D < A := by have := HH.out.ltC; have := HA.out; omega
  go_loopw [48] (fun i wr => ∃ j : Nat, j ≤ n ∧ i = .int .i64 (j : Int) ∧ Blk wr A 89 #[.pointer (some ⟨G, 0, none⟩), .func (Fn.func 41) #[] #[]] ∧ (∀ k, k < j → In64 (f (cellD zs k) (cellD hs k))) ∧ RowUpTo wr (A + 1) 2 n (fun k => f (cellD zs k) (cellD hs k)) j ∧ Below A w wr) (fun i _ => n - (intOf i).toNat)
  case atStart => exact ⟨0, by omega, rfl, HJ2.out, fun k hk => by omega, HR2.out, HB2.out⟩
  case round =>
    obtain ⟨j, hj, rfl, hjb, hall, hrow, hbel⟩ := hrel
    have HALL := Lib.hid hall
    clear hall
    clear HJ2 HR2 HB2
    have HJ := Lib.hid hjb
    have HR := Lib.hid hrow
    have HB := Lib.hid hbel
    clear hjb hrow hbel
    have HG1 := Lib.hid (HG.out.below HB.out hGA hCA)
    have HH1 := Lib.hid (HH.out.below HB.out hHA hDA)
    have gb := HGB.out.below HB.out hGA
    have hb := HHB.out.below HB.out hHA
    have HGB1 := Lib.hid gb
    have j0 := HJ.out.cell 0
    have j1 := HJ.out.cell 1
    have g2 := gb.cell 2
    simp at j0 j1 g2
    clear gb hb
    by_cases hlt : j < n
    · obtain ⟨curG, hcG, hcurG⟩ := HG1.out.cells
      obtain ⟨curH, hcH, hcurH⟩ := HH1.out.cells
      have hzj : zs[j]? = some (cellD zs j) := by
        have : j < zs.length := by rw [HG.out.len, HN.out]; exact hlt
        simp [cellD, this]
      have hhj : hs[j]? = some (cellD hs j) := by
        have : j < hs.length := by rw [HH.out.len, HN.out]; exact hlt
        simp [cellD, this]
      have cz := (hcG.cell j).trans (hcurG j _ hzj)
      have ch := (hcH.cell j).trans (hcurH j _ hhj)
      have HE : Hid ((fun k => f (cellD zs k) (cellD hs k)) j = f (cellD zs j) (cellD hs j)) := rfl
      have HE2 : Hid (f (cellD zs j) (cellD hs j) = f (cellD zs j) (cellD hs j)) := rfl
      by_cases hfj : In64 (f (cellD zs j) (cellD hs j))
      · have HCALL := fun w => (HOP.out (cellD zs j) (cellD hs j) w (HG.out.fit.get hzj) (HH.out.fit.get hhj)).1 hfj
        have HFJ := Lib.hid hfj
        clear hcG hcurG hcH hcurH hfj hzj hhj
        obtain ⟨v, hv⟩ : ∃ v, f (cellD zs j) (cellD hs j) = v := ⟨_, rfl⟩
        have HE2 := Lib.hid hv
        rw [hv] at HCALL HFJ HE
        clear hv
        obtain ⟨z, hz⟩ : ∃ z, cellD zs j = z := ⟨_, rfl⟩
        obtain ⟨h, hh'⟩ : ∃ h, cellD hs j = h := ⟨_, rfl⟩
        rw [hz] at HCALL cz
        rw [hh'] at HCALL ch
        clear hz hh'
        have HCZ := Lib.hid cz
        clear cz
        have i0 : (0 : Int) ≤ (j : Int) := by omega
        have i1 : (j : Int) < (n : Int) := by omega
        go_wp2_with fail
        refine wp_region_held_drew (S := fun w' => Blk w' A 89 #[.pointer (some ⟨G, 0, none⟩), .func (Fn.func 41) #[] #[]] ∧ Blk w' G 84 #[.int .i64 (R : Int), .int .i64 (W : Int), .slice (some ⟨C, 0, none⟩) n cg] ∧ w'.cell? ⟨C, j, none⟩ = some (.int .i64 z) ∧ RowUpTo w' (A + 1) 2 n (fun k => f (cellD zs k) (cellD hs k)) j ∧ Below A w w') (by kernel_rfl) (by exact ⟨HJ.out.drew, HGB1.out.drew, HCZ.out, HR.out.drewN 1, HB.out.drew⟩) (fun hHeld => ?_)
        refine wpAnyH_take (i := 0) (v := ?_) rfl (by kernel_rfl) (by kernel_rfl) (by kernel_rfl) (fun _ _ _ h => h) (Or.inl ⟨by rfl, ?_⟩) (by assumption) ?_
        rotate_left
        · intro w hSw
          try dsimp only at hSw
          go_simp
          try with_reducible rfl
        simp only [Act.put, List.setIfInBounds_toArray, List.set_cons_zero, List.set_cons_succ, List.getElem_toArray, List.getElem_cons_zero, List.getElem_cons_succ]
        refine wpAnyH_take (i := 1) (v := ?_) rfl (by kernel_rfl) (by kernel_rfl) (by kernel_rfl) (fun _ _ _ h => h) (Or.inl ⟨by rfl, ?_⟩) (by assumption) ?_
        rotate_left
        · intro w hSw
          have q0 := hSw.1.cell 0
          have q1 := hSw.1.cell 1
          have q2 := hSw.2.1.cell 2
          have q3 := hSw.2.2.1
          simp at q0 q1 q2
          go_simp
          try with_reducible rfl
        simp only [Act.put, List.setIfInBounds_toArray, List.set_cons_zero, List.set_cons_succ, List.getElem_toArray, List.getElem_cons_zero, List.getElem_cons_succ]
        refine wpAnyH_take (i := 2) (v := ?_) rfl (by kernel_rfl) (by kernel_rfl) (by kernel_rfl) (fun _ _ _ h => h) (Or.inl ⟨by rfl, ?_⟩) (by assumption) ?_
        rotate_left
        · intro w hSw
          try dsimp only at hSw
          go_simp
          try with_reducible rfl
        simp only [Act.put, List.setIfInBounds_toArray, List.set_cons_zero, List.set_cons_succ, List.getElem_toArray, List.getElem_cons_zero, List.getElem_cons_succ]
        refine wpAnyH_take (i := 3) (v := ?_) rfl (by kernel_rfl) (by kernel_rfl) (by kernel_rfl) (fun _ _ _ h => h) (Or.inl ⟨by rfl, ?_⟩) (by assumption) ?_
        rotate_left
        · intro w hSw
          have q0 := hSw.1.cell 0
          have q1 := hSw.1.cell 1
          have q2 := hSw.2.1.cell 2
          have q3 := hSw.2.2.1
          simp at q0 q1 q2
          go_simp
          try with_reducible rfl
        simp only [Act.put, List.setIfInBounds_toArray, List.set_cons_zero, List.set_cons_succ, List.getElem_toArray, List.getElem_cons_zero, List.getElem_cons_succ]
        refine wpAnyH_take (i := 4) (v := ?_) rfl (by kernel_rfl) (by kernel_rfl) (by kernel_rfl) (fun _ _ _ h => h) (Or.inl ⟨by rfl, ?_⟩) (by assumption) ?_
        rotate_left
        · intro w hSw
          try dsimp only at hSw
          go_simp
          try with_reducible rfl
        simp only [Act.put, List.setIfInBounds_toArray, List.set_cons_zero, List.set_cons_succ, List.getElem_toArray, List.getElem_cons_zero, List.getElem_cons_succ]
        refine wpAnyH_take (i := 5) (v := ?_) rfl (by kernel_rfl) (by kernel_rfl) (by kernel_rfl) (fun _ _ _ h => h) (Or.inl ⟨by rfl, ?_⟩) (by assumption) ?_
        rotate_left
        · intro w hSw
          try dsimp only at hSw
          go_simp
          try with_reducible rfl
        simp only [Act.put, List.setIfInBounds_toArray, List.set_cons_zero, List.set_cons_succ, List.getElem_toArray, List.getElem_cons_zero, List.getElem_cons_succ]
        refine wpAnyH_take (i := 6) (v := ?_) rfl (by kernel_rfl) (by kernel_rfl) (by kernel_rfl) (fun _ _ _ h => h) (Or.inl ⟨by rfl, ?_⟩) (by assumption) ?_
        rotate_left
        · intro w hSw
          have q0 := hSw.1.cell 0
          have q1 := hSw.1.cell 1
          have q2 := hSw.2.1.cell 2
          have q3 := hSw.2.2.1
          simp at q0 q1 q2
          go_simp
          try with_reducible rfl
        simp only [Act.put, List.setIfInBounds_toArray, List.set_cons_zero, List.set_cons_succ, List.getElem_toArray, List.getElem_cons_zero, List.getElem_cons_succ]
        refine wpAnyH_take (i := 7) (v := ?_) rfl (by kernel_rfl) (by kernel_rfl) (by kernel_rfl) (fun _ _ _ h => h) (Or.inl ⟨by rfl, ?_⟩) (by assumption) ?_
        rotate_left
        · intro w hSw
          try dsimp only at hSw
          go_simp
          try with_reducible rfl
        simp only [Act.put, List.setIfInBounds_toArray, List.set_cons_zero, List.set_cons_succ, List.getElem_toArray, List.getElem_cons_zero, List.getElem_cons_succ]
        refine wpAnyH_take (i := 8) (v := ?_) rfl (by kernel_rfl) (by kernel_rfl) (by kernel_rfl) (fun _ _ _ h => h) (Or.inl ⟨by rfl, ?_⟩) (by assumption) ?_
        rotate_left
        · intro w hSw
          try dsimp only at hSw
          go_simp
          try with_reducible rfl
        simp only [Act.put, List.setIfInBounds_toArray, List.set_cons_zero, List.set_cons_succ, List.getElem_toArray, List.getElem_cons_zero, List.getElem_cons_succ]
        refine wpAnyH_take (i := 9) (v := ?_) rfl (by kernel_rfl) (by kernel_rfl) (by kernel_rfl) (fun _ _ _ h => h) (Or.inl ⟨by rfl, ?_⟩) (by assumption) ?_
        rotate_left
        · intro w hSw
          have q0 := hSw.1.cell 0
          have q1 := hSw.1.cell 1
          have q2 := hSw.2.1.cell 2
          have q3 := hSw.2.2.1
          simp at q0 q1 q2
          go_simp
          try with_reducible rfl
        simp only [Act.put, List.setIfInBounds_toArray, List.set_cons_zero, List.set_cons_succ, List.getElem_toArray, List.getElem_cons_zero, List.getElem_cons_succ]
        refine wpAnyH_take (i := 10) (v := ?_) rfl (by kernel_rfl) (by kernel_rfl) (by kernel_rfl) (fun _ _ _ h => h) (Or.inl ⟨by rfl, ?_⟩) (by assumption) ?_
        rotate_left
        · intro w hSw
          try dsimp only at hSw
          go_simp
          try with_reducible rfl
        simp only [Act.put, List.setIfInBounds_toArray, List.set_cons_zero, List.set_cons_succ, List.getElem_toArray, List.getElem_cons_zero, List.getElem_cons_succ]
        refine wpAnyH_ready (rs := [11]) (by kernel_rfl) (by simp) ?_
        refine AllReadyH.cons rfl (fun Kc hKc => ?_) AllReadyH.nil
        go_simp
        go_wp2_with (refine (HCALL _).mono ?_; rintro e w' ⟨rfl, hb'⟩)
        refine hKc.out _ _ ?_ (fun hHeld => ?_)
        · first | assumption | exact ⟨hHeld.1.kept hb', hHeld.2.1.kept hb', (hb'.cell (p := ⟨C, j, none⟩) (by have := hHeld.1.lt; show C < _; omega)).trans hHeld.2.2.1, hHeld.2.2.2.1.kept hb', hHeld.2.2.2.2.trans (hb'.mono (by have := hHeld.1.lt; omega))⟩
        clear hKc Kc
        refine wpAnyH_take (i := 12) (v := ?_) rfl (by kernel_rfl) (by kernel_rfl) (by kernel_rfl) (fun _ _ _ h => h) (Or.inl ⟨by rfl, ?_⟩) (by assumption) ?_
        rotate_left
        · intro w hSw
          try dsimp only at hSw
          go_simp
          try with_reducible rfl
        simp only [Act.put, List.setIfInBounds_toArray, List.set_cons_zero, List.set_cons_succ, List.getElem_toArray, List.getElem_cons_zero, List.getElem_cons_succ]
        refine wpAnyH_take (i := 13) (v := ?_) rfl (by kernel_rfl) (by kernel_rfl) (by kernel_rfl) (fun _ _ _ h => h) (Or.inl ⟨by rfl, ?_⟩) (by assumption) ?_
        rotate_left
        · intro w hSw
          try dsimp only at hSw
          go_simp
          try with_reducible rfl
        simp only [Act.put, List.setIfInBounds_toArray, List.set_cons_zero, List.set_cons_succ, List.getElem_toArray, List.getElem_cons_zero, List.getElem_cons_succ]
        refine wpAnyH_take (i := 14) (v := ?_) rfl (by kernel_rfl) (by kernel_rfl) (by kernel_rfl) (fun _ _ _ h => h) (Or.inl ⟨by rfl, ?_⟩) (by assumption) ?_
        rotate_left
        · intro w hSw
          try dsimp only at hSw
          go_simp
          try with_reducible rfl
        simp only [Act.put, List.setIfInBounds_toArray, List.set_cons_zero, List.set_cons_succ, List.getElem_toArray, List.getElem_cons_zero, List.getElem_cons_succ]
        refine wpAnyH_take (i := 15) (v := ?_) rfl (by kernel_rfl) (by kernel_rfl) (by kernel_rfl) (fun _ _ _ h => h) (Or.inl ⟨by rfl, ?_⟩) (by assumption) ?_
        rotate_left
        · intro w hSw
          try dsimp only at hSw
          go_simp
          try with_reducible rfl
        simp only [Act.put, List.setIfInBounds_toArray, List.set_cons_zero, List.set_cons_succ, List.getElem_toArray, List.getElem_cons_zero, List.getElem_cons_succ]
        refine wpAnyH_take (i := 16) (v := ?_) rfl (by kernel_rfl) (by kernel_rfl) (by kernel_rfl) (fun _ _ _ h => h) (Or.inl ⟨by rfl, ?_⟩) (by assumption) ?_
        rotate_left
        · intro w hSw
          try dsimp only at hSw
          go_simp
          try with_reducible rfl
        simp only [Act.put, List.setIfInBounds_toArray, List.set_cons_zero, List.set_cons_succ, List.getElem_toArray, List.getElem_cons_zero, List.getElem_cons_succ]
        refine wpAnyH_done (by kernel_rfl) ?_ _
        obtain ⟨k1, k2, k3, k4, k5⟩ := hHeld
        obtain ⟨v0, hc⟩ := k4.cell hlt
        have hf := k4.frozen j
        have K1 := Lib.hid k1
        have K4 := Lib.hid k4
        have K5 := Lib.hid k5
        have hAn : A ≠ A + 1 := by omega
        clear k1 k2 k3 k4 k5 hb' ch g2 j0 j1
        go_wp2
        go_roundw
        case rel => exact ⟨j + 1, by omega, by go_num, K1.out.far hAn _, fun k hk => by
              rcases Nat.lt_succ_iff_lt_or_eq.1 hk with h | h
              · exact HALL.out k h
              · subst h; rw [HE2.out]; exact HFJ.out, K4.out.put HE.out.symm, K5.out.setCell (by simp) _⟩
        case measure => simp [intOf]; omega
      · have HCALL := fun w => (HOP.out (cellD zs j) (cellD hs j) w (HG.out.fit.get hzj) (HH.out.fit.get hhj)).2 hfj
        clear hcG hcurG hcH hcurH hfj hzj hhj
        skip
        obtain ⟨z, hz⟩ : ∃ z, cellD zs j = z := ⟨_, rfl⟩
        obtain ⟨h, hh'⟩ : ∃ h, cellD hs j = h := ⟨_, rfl⟩
        rw [hz] at HCALL cz
        rw [hh'] at HCALL ch
        clear hz hh'
        have HCZ := Lib.hid cz
        clear cz
        have i0 : (0 : Int) ≤ (j : Int) := by omega
        have i1 : (j : Int) < (n : Int) := by omega
        go_wp2_with fail
        refine wp_region_held_drew (S := fun w' => Blk w' A 89 #[.pointer (some ⟨G, 0, none⟩), .func (Fn.func 41) #[] #[]] ∧ Blk w' G 84 #[.int .i64 (R : Int), .int .i64 (W : Int), .slice (some ⟨C, 0, none⟩) n cg] ∧ w'.cell? ⟨C, j, none⟩ = some (.int .i64 z) ∧ RowUpTo w' (A + 1) 2 n (fun k => f (cellD zs k) (cellD hs k)) j ∧ Below A w w') (by kernel_rfl) (by exact ⟨HJ.out.drew, HGB1.out.drew, HCZ.out, HR.out.drewN 1, HB.out.drew⟩) (fun hHeld => ?_)
        refine wpAnyH_take (i := 0) (v := ?_) rfl (by kernel_rfl) (by kernel_rfl) (by kernel_rfl) (fun _ _ _ h => h) (Or.inl ⟨by rfl, ?_⟩) (by assumption) ?_
        rotate_left
        · intro w hSw
          try dsimp only at hSw
          go_simp
          try with_reducible rfl
        simp only [Act.put, List.setIfInBounds_toArray, List.set_cons_zero, List.set_cons_succ, List.getElem_toArray, List.getElem_cons_zero, List.getElem_cons_succ]
        refine wpAnyH_take (i := 1) (v := ?_) rfl (by kernel_rfl) (by kernel_rfl) (by kernel_rfl) (fun _ _ _ h => h) (Or.inl ⟨by rfl, ?_⟩) (by assumption) ?_
        rotate_left
        · intro w hSw
          have q0 := hSw.1.cell 0
          have q1 := hSw.1.cell 1
          have q2 := hSw.2.1.cell 2
          have q3 := hSw.2.2.1
          simp at q0 q1 q2
          go_simp
          try with_reducible rfl
        simp only [Act.put, List.setIfInBounds_toArray, List.set_cons_zero, List.set_cons_succ, List.getElem_toArray, List.getElem_cons_zero, List.getElem_cons_succ]
        refine wpAnyH_take (i := 2) (v := ?_) rfl (by kernel_rfl) (by kernel_rfl) (by kernel_rfl) (fun _ _ _ h => h) (Or.inl ⟨by rfl, ?_⟩) (by assumption) ?_
        rotate_left
        · intro w hSw
          try dsimp only at hSw
          go_simp
          try with_reducible rfl
        simp only [Act.put, List.setIfInBounds_toArray, List.set_cons_zero, List.set_cons_succ, List.getElem_toArray, List.getElem_cons_zero, List.getElem_cons_succ]
        refine wpAnyH_take (i := 3) (v := ?_) rfl (by kernel_rfl) (by kernel_rfl) (by kernel_rfl) (fun _ _ _ h => h) (Or.inl ⟨by rfl, ?_⟩) (by assumption) ?_
        rotate_left
        · intro w hSw
          have q0 := hSw.1.cell 0
          have q1 := hSw.1.cell 1
          have q2 := hSw.2.1.cell 2
          have q3 := hSw.2.2.1
          simp at q0 q1 q2
          go_simp
          try with_reducible rfl
        simp only [Act.put, List.setIfInBounds_toArray, List.set_cons_zero, List.set_cons_succ, List.getElem_toArray, List.getElem_cons_zero, List.getElem_cons_succ]
        refine wpAnyH_take (i := 4) (v := ?_) rfl (by kernel_rfl) (by kernel_rfl) (by kernel_rfl) (fun _ _ _ h => h) (Or.inl ⟨by rfl, ?_⟩) (by assumption) ?_
        rotate_left
        · intro w hSw
          try dsimp only at hSw
          go_simp
          try with_reducible rfl
        simp only [Act.put, List.setIfInBounds_toArray, List.set_cons_zero, List.set_cons_succ, List.getElem_toArray, List.getElem_cons_zero, List.getElem_cons_succ]
        refine wpAnyH_take (i := 5) (v := ?_) rfl (by kernel_rfl) (by kernel_rfl) (by kernel_rfl) (fun _ _ _ h => h) (Or.inl ⟨by rfl, ?_⟩) (by assumption) ?_
        rotate_left
        · intro w hSw
          try dsimp only at hSw
          go_simp
          try with_reducible rfl
        simp only [Act.put, List.setIfInBounds_toArray, List.set_cons_zero, List.set_cons_succ, List.getElem_toArray, List.getElem_cons_zero, List.getElem_cons_succ]
        refine wpAnyH_take (i := 6) (v := ?_) rfl (by kernel_rfl) (by kernel_rfl) (by kernel_rfl) (fun _ _ _ h => h) (Or.inl ⟨by rfl, ?_⟩) (by assumption) ?_
        rotate_left
        · intro w hSw
          have q0 := hSw.1.cell 0
          have q1 := hSw.1.cell 1
          have q2 := hSw.2.1.cell 2
          have q3 := hSw.2.2.1
          simp at q0 q1 q2
          go_simp
          try with_reducible rfl
        simp only [Act.put, List.setIfInBounds_toArray, List.set_cons_zero, List.set_cons_succ, List.getElem_toArray, List.getElem_cons_zero, List.getElem_cons_succ]
        refine wpAnyH_take (i := 7) (v := ?_) rfl (by kernel_rfl) (by kernel_rfl) (by kernel_rfl) (fun _ _ _ h => h) (Or.inl ⟨by rfl, ?_⟩) (by assumption) ?_
        rotate_left
        · intro w hSw
          try dsimp only at hSw
          go_simp
          try with_reducible rfl
        simp only [Act.put, List.setIfInBounds_toArray, List.set_cons_zero, List.set_cons_succ, List.getElem_toArray, List.getElem_cons_zero, List.getElem_cons_succ]
        refine wpAnyH_take (i := 8) (v := ?_) rfl (by kernel_rfl) (by kernel_rfl) (by kernel_rfl) (fun _ _ _ h => h) (Or.inl ⟨by rfl, ?_⟩) (by assumption) ?_
        rotate_left
        · intro w hSw
          try dsimp only at hSw
          go_simp
          try with_reducible rfl
        simp only [Act.put, List.setIfInBounds_toArray, List.set_cons_zero, List.set_cons_succ, List.getElem_toArray, List.getElem_cons_zero, List.getElem_cons_succ]
        refine wpAnyH_take (i := 9) (v := ?_) rfl (by kernel_rfl) (by kernel_rfl) (by kernel_rfl) (fun _ _ _ h => h) (Or.inl ⟨by rfl, ?_⟩) (by assumption) ?_
        rotate_left
        · intro w hSw
          have q0 := hSw.1.cell 0
          have q1 := hSw.1.cell 1
          have q2 := hSw.2.1.cell 2
          have q3 := hSw.2.2.1
          simp at q0 q1 q2
          go_simp
          try with_reducible rfl
        simp only [Act.put, List.setIfInBounds_toArray, List.set_cons_zero, List.set_cons_succ, List.getElem_toArray, List.getElem_cons_zero, List.getElem_cons_succ]
        refine wpAnyH_take (i := 10) (v := ?_) rfl (by kernel_rfl) (by kernel_rfl) (by kernel_rfl) (fun _ _ _ h => h) (Or.inl ⟨by rfl, ?_⟩) (by assumption) ?_
        rotate_left
        · intro w hSw
          try dsimp only at hSw
          go_simp
          try with_reducible rfl
        simp only [Act.put, List.setIfInBounds_toArray, List.set_cons_zero, List.set_cons_succ, List.getElem_toArray, List.getElem_cons_zero, List.getElem_cons_succ]
        refine wpAnyH_ready (rs := [11]) (by kernel_rfl) (by simp) ?_
        refine AllReadyH.cons rfl (fun Kc hKc => ?_) AllReadyH.nil
        go_simp
        go_wp2_with (refine (HCALL _).mono ?_; rintro e w' ⟨rfl, hb'⟩)
        refine hKc.out _ _ ?_ (fun hHeld => ?_)
        · first | assumption | exact ⟨hHeld.1.kept hb', hHeld.2.1.kept hb', (hb'.cell (p := ⟨C, j, none⟩) (by have := hHeld.1.lt; show C < _; omega)).trans hHeld.2.2.1, hHeld.2.2.2.1.kept hb', hHeld.2.2.2.2.trans (hb'.mono (by have := hHeld.1.lt; omega))⟩
        clear hKc Kc
        refine wpAnyH_take (i := 12) (v := ?_) rfl (by kernel_rfl) (by kernel_rfl) (by kernel_rfl) (fun _ _ _ h => h) (Or.inl ⟨by rfl, ?_⟩) (by assumption) ?_
        rotate_left
        · intro w hSw
          try dsimp only at hSw
          go_simp
          try with_reducible rfl
        simp only [Act.put, List.setIfInBounds_toArray, List.set_cons_zero, List.set_cons_succ, List.getElem_toArray, List.getElem_cons_zero, List.getElem_cons_succ]
        refine wpAnyH_take (i := 13) (v := ?_) rfl (by kernel_rfl) (by kernel_rfl) (by kernel_rfl) (fun _ _ _ h => h) (Or.inl ⟨by rfl, ?_⟩) (by assumption) ?_
        rotate_left
        · intro w hSw
          try dsimp only at hSw
          go_simp
          try with_reducible rfl
        simp only [Act.put, List.setIfInBounds_toArray, List.set_cons_zero, List.set_cons_succ, List.getElem_toArray, List.getElem_cons_zero, List.getElem_cons_succ]
        refine wpAnyH_take (i := 14) (v := ?_) rfl (by kernel_rfl) (by kernel_rfl) (by kernel_rfl) (fun _ _ _ h => h) (Or.inl ⟨by rfl, ?_⟩) (by assumption) ?_
        rotate_left
        · intro w hSw
          try dsimp only at hSw
          go_simp
          try with_reducible rfl
        simp only [Act.put, List.setIfInBounds_toArray, List.set_cons_zero, List.set_cons_succ, List.getElem_toArray, List.getElem_cons_zero, List.getElem_cons_succ]
        refine wpAnyH_take (i := 15) (v := ?_) rfl (by kernel_rfl) (by kernel_rfl) (by kernel_rfl) (fun _ _ _ h => h) (Or.inl ⟨by rfl, ?_⟩) (by assumption) ?_
        rotate_left
        · intro w hSw
          try dsimp only at hSw
          go_simp
          try with_reducible rfl
        simp only [Act.put, List.setIfInBounds_toArray, List.set_cons_zero, List.set_cons_succ, List.getElem_toArray, List.getElem_cons_zero, List.getElem_cons_succ]
        refine wpAnyH_take (i := 16) (v := ?_) rfl (by kernel_rfl) (by kernel_rfl) (by kernel_rfl) (fun _ _ _ h => h) (Or.inl ⟨by rfl, ?_⟩) (by assumption) ?_
        rotate_left
        · intro w hSw
          try dsimp only at hSw
          go_simp
          try with_reducible rfl
        simp only [Act.put, List.setIfInBounds_toArray, List.set_cons_zero, List.set_cons_succ, List.getElem_toArray, List.getElem_cons_zero, List.getElem_cons_succ]
        refine wpAnyH_done (by kernel_rfl) ?_ _
        have HB9 := Lib.hid hHeld.2.2.2.2
        clear hHeld hb' ch g2 j0 j1
        go_wp2
        go_ret
        exact ⟨rfl, by rw [HA.out]; exact HB9.out⟩
    · exfalso
      obtain rfl : j = n := by omega
      refine HF.out (fun u hu => ?_)
      obtain ⟨i, hi⟩ := List.getElem?_of_mem hu
      rw [← HZ.out, List.getElem?_zipWith] at hi
      have hlz : zs.length = j := by rw [HG.out.len, HN.out]
      have hlh : hs.length = j := by rw [HH.out.len, HN.out]
      by_cases hij : i < j
      · have e1 : zs[i]? = some (cellD zs i) := by
          have : i < zs.length := by omega
          simp [cellD, this]
        have e2 : hs[i]? = some (cellD hs i) := by
          have : i < hs.length := by omega
          simp [cellD, this]
        rw [e1, e2] at hi
        have := HALL.out i hij
        simp at hi
        rw [← hi]
        exact this
      · have e1 : zs[i]? = none := List.getElem?_eq_none (by omega)
        rw [e1] at hi
        simp at hi

set_option maxRecDepth 100000 in
set_option maxHeartbeats 4000000 in
theorem all_yes_minus (f : Int → Int → Int) (hop : OpOK 52 f) (w : World) (G C H D R W : Nat) (zs hs : List Int) (hg : GridIs w G C R W zs) (hh : GridIs w H D R W hs) (hfit : Fit (List.zipWith f zs hs)) :
    Calls Try.prog 51 #[.agg #[.pointer (some ⟨G, 0, none⟩), .func (Fn.func 52) #[] #[]], .pointer (some ⟨H, 0, none⟩)] w (AllYes w G C R W (List.zipWith f zs hs)) := by
  obtain ⟨Z, hZ⟩ : ∃ Z, List.zipWith f zs hs = Z := ⟨_, rfl⟩
  rw [hZ] at hfit ⊢
  have HZ := Lib.hid hZ
  clear hZ
  obtain ⟨cg, hgb, hgc⟩ := hg.fields
  obtain ⟨ch, hhb, hhc⟩ := hh.fields
  have HG := Lib.hid hg
  have HH := Lib.hid hh
  have HF := Lib.hid hfit
  have HOP := Lib.hid hop
  have hn1024 : R * W ≤ 1024 := Nat.mul_le_mul hg.rows hg.width
  clear hg hh hfit hop
  generalize hn : R * W = n at *
  have HN := Lib.hid hn
  clear hn
  have HGB := Lib.hid hgb
  have HHB := Lib.hid hhb
  go_enter Try.func51, Try.ntmps51
  go_wp2_with fail
  obtain ⟨ga, hbel, hsz⟩ := news1 w (.cells #[.pointer (some ⟨G, 0, none⟩), .func (Fn.func 52) #[] #[]] 89)
  have hj : Blk _ w.heap.size 89 #[.pointer (some ⟨G, 0, none⟩), .func (Fn.func 52) #[] #[]] := ga
  have hg1 := HGB.out.kept hbel
  have hh1 := HHB.out.kept hbel
  clear ga hgb hhb
  generalize (w.alloc (.cells #[.pointer (some ⟨G, 0, none⟩), .func (Fn.func 52) #[] #[]] 89)) = wz at *
  have j0 := hj.cell 0
  have j1 := hj.cell 1
  have g0 := hg1.cell 0
  have g1 := hg1.cell 1
  have h0 := hh1.cell 0
  have h1 := hh1.cell 1
  have g2 := hg1.cell 2
  have h2 := hh1.cell 2
  simp at j0 j1 g0 g1 h0 h1 g2 h2
  have HJ := Lib.hid hj
  have HB := Lib.hid hbel
  clear hj hbel hg1 hh1
  generalize hA : w.heap.size = A at *
  have HA := Lib.hid hA
  clear hA
  have hH1 : H < A + 1 := by have := HH.out.ltG; have := HA.out; omega
  have hmk := fun W => run_make_row' (P := Try.prog) 31 2 (.int .i64 0) 8 Try.underlying31 Try.info64 rfl .i64 .i64 n (by omega) (by omega) W
  go_quiet (fail)
  go_wp2_with fail
  have hrow := World.rowIs_made (wz.drewN nq) (.int .i64 0) n 2
  simp only [show (wz.drewN nq).heap.size = A + 1 from hsz] at hrow
  have hrow2 := RowUpTo.zeros hrow (fun k => f (cellD zs k) (cellD hs k))
  have HJ2 := Lib.hid ((HJ.out.drewN nq).alloc (.cells (madeCells #[.int .i64 0] n) 2))
  have HB2 : Hid (Below A w ((wz.drewN nq).alloc (.cells (madeCells #[.int .i64 0] n) 2))) := Lib.hid ((below_drewN HB.out nq).alloc (by simp; omega) _)
  clear hrow HJ HB hmk g0 g1 g2 h0 h1 h2 j0 j1
  generalize ((wz.drewN nq).alloc (.cells (madeCells #[.int .i64 0] n) 2)) = wy at *
  have HR2 := Lib.hid hrow2
  clear hrow2
  have hGA : G < A := by have := HG.out.ltG; have := HA.out; omega
  have hHA : H < A := by have := HH.out.ltG; have := HA.out; omega
  have hCA : C < A := by have := HG.out.ltC; have := HA.out; omega
  have hDA : D < A := by have := HH.out.ltC; have := HA.out; omega
  go_loopw [48] (fun i wr => ∃ j : Nat, j ≤ n ∧ i = .int .i64 (j : Int) ∧ Blk wr A 89 #[.pointer (some ⟨G, 0, none⟩), .func (Fn.func 52) #[] #[]] ∧ RowUpTo wr (A + 1) 2 n (fun k => f (cellD zs k) (cellD hs k)) j ∧ Below A w wr) (fun i _ => n - (intOf i).toNat)
  case atStart => exact ⟨0, by omega, rfl, HJ2.out, HR2.out, HB2.out⟩
  case round =>
    obtain ⟨j, hj, rfl, hjb, hrow, hbel⟩ := hrel
    clear HJ2 HR2 HB2
    have HJ := Lib.hid hjb
    have HR := Lib.hid hrow
    have HB := Lib.hid hbel
    clear hjb hrow hbel
    have HG1 := Lib.hid (HG.out.below HB.out hGA hCA)
    have HH1 := Lib.hid (HH.out.below HB.out hHA hDA)
    have gb := HGB.out.below HB.out hGA
    have hb := HHB.out.below HB.out hHA
    have HGB1 := Lib.hid gb
    have j0 := HJ.out.cell 0
    have j1 := HJ.out.cell 1
    have g2 := gb.cell 2
    simp at j0 j1 g2
    clear gb hb
    by_cases hlt : j < n
    · obtain ⟨curG, hcG, hcurG⟩ := HG1.out.cells
      obtain ⟨curH, hcH, hcurH⟩ := HH1.out.cells
      have hzj : zs[j]? = some (cellD zs j) := by
        have : j < zs.length := by rw [HG.out.len, HN.out]; exact hlt
        simp [cellD, this]
      have hhj : hs[j]? = some (cellD hs j) := by
        have : j < hs.length := by rw [HH.out.len, HN.out]; exact hlt
        simp [cellD, this]
      have cz := (hcG.cell j).trans (hcurG j _ hzj)
      have ch := (hcH.cell j).trans (hcurH j _ hhj)
      have hfj := HF.out.get (by rw [← HZ.out]; exact zip_at (f := f) hzj hhj)
      have HCALL := fun w => (HOP.out (cellD zs j) (cellD hs j) w (HG.out.fit.get hzj) (HH.out.fit.get hhj)).1 hfj
      have HE : Hid ((fun k => f (cellD zs k) (cellD hs k)) j = f (cellD zs j) (cellD hs j)) := rfl
      clear hcG hcurG hcH hcurH hfj hzj hhj
      generalize f (cellD zs j) (cellD hs j) = v at *
      generalize cellD zs j = z at *
      generalize cellD hs j = h at *
      have HCZ := Lib.hid cz
      clear cz
      have i0 : (0 : Int) ≤ (j : Int) := by omega
      have i1 : (j : Int) < (n : Int) := by omega
      go_wp2_with fail
      refine wp_region_held_drew (S := fun w' => Blk w' A 89 #[.pointer (some ⟨G, 0, none⟩), .func (Fn.func 52) #[] #[]] ∧ Blk w' G 84 #[.int .i64 (R : Int), .int .i64 (W : Int), .slice (some ⟨C, 0, none⟩) n cg] ∧ w'.cell? ⟨C, j, none⟩ = some (.int .i64 z) ∧ RowUpTo w' (A + 1) 2 n (fun k => f (cellD zs k) (cellD hs k)) j ∧ Below A w w') (by kernel_rfl) (by exact ⟨HJ.out.drew, HGB1.out.drew, HCZ.out, HR.out.drewN 1, HB.out.drew⟩) (fun hHeld => ?_)
      refine wpAnyH_take (i := 0) (v := ?_) rfl (by kernel_rfl) (by kernel_rfl) (by kernel_rfl) (fun _ _ _ h => h) (Or.inl ⟨by rfl, ?_⟩) (by assumption) ?_
      rotate_left
      · intro w hSw
        try dsimp only at hSw
        go_simp
        try with_reducible rfl
      simp only [Act.put, List.setIfInBounds_toArray, List.set_cons_zero, List.set_cons_succ, List.getElem_toArray, List.getElem_cons_zero, List.getElem_cons_succ]
      refine wpAnyH_take (i := 1) (v := ?_) rfl (by kernel_rfl) (by kernel_rfl) (by kernel_rfl) (fun _ _ _ h => h) (Or.inl ⟨by rfl, ?_⟩) (by assumption) ?_
      rotate_left
      · intro w hSw
        have q0 := hSw.1.cell 0
        have q1 := hSw.1.cell 1
        have q2 := hSw.2.1.cell 2
        have q3 := hSw.2.2.1
        simp at q0 q1 q2
        go_simp
        try with_reducible rfl
      simp only [Act.put, List.setIfInBounds_toArray, List.set_cons_zero, List.set_cons_succ, List.getElem_toArray, List.getElem_cons_zero, List.getElem_cons_succ]
      refine wpAnyH_take (i := 2) (v := ?_) rfl (by kernel_rfl) (by kernel_rfl) (by kernel_rfl) (fun _ _ _ h => h) (Or.inl ⟨by rfl, ?_⟩) (by assumption) ?_
      rotate_left
      · intro w hSw
        try dsimp only at hSw
        go_simp
        try with_reducible rfl
      simp only [Act.put, List.setIfInBounds_toArray, List.set_cons_zero, List.set_cons_succ, List.getElem_toArray, List.getElem_cons_zero, List.getElem_cons_succ]
      refine wpAnyH_take (i := 3) (v := ?_) rfl (by kernel_rfl) (by kernel_rfl) (by kernel_rfl) (fun _ _ _ h => h) (Or.inl ⟨by rfl, ?_⟩) (by assumption) ?_
      rotate_left
      · intro w hSw
        have q0 := hSw.1.cell 0
        have q1 := hSw.1.cell 1
        have q2 := hSw.2.1.cell 2
        have q3 := hSw.2.2.1
        simp at q0 q1 q2
        go_simp
        try with_reducible rfl
      simp only [Act.put, List.setIfInBounds_toArray, List.set_cons_zero, List.set_cons_succ, List.getElem_toArray, List.getElem_cons_zero, List.getElem_cons_succ]
      refine wpAnyH_take (i := 4) (v := ?_) rfl (by kernel_rfl) (by kernel_rfl) (by kernel_rfl) (fun _ _ _ h => h) (Or.inl ⟨by rfl, ?_⟩) (by assumption) ?_
      rotate_left
      · intro w hSw
        try dsimp only at hSw
        go_simp
        try with_reducible rfl
      simp only [Act.put, List.setIfInBounds_toArray, List.set_cons_zero, List.set_cons_succ, List.getElem_toArray, List.getElem_cons_zero, List.getElem_cons_succ]
      refine wpAnyH_take (i := 5) (v := ?_) rfl (by kernel_rfl) (by kernel_rfl) (by kernel_rfl) (fun _ _ _ h => h) (Or.inl ⟨by rfl, ?_⟩) (by assumption) ?_
      rotate_left
      · intro w hSw
        try dsimp only at hSw
        go_simp
        try with_reducible rfl
      simp only [Act.put, List.setIfInBounds_toArray, List.set_cons_zero, List.set_cons_succ, List.getElem_toArray, List.getElem_cons_zero, List.getElem_cons_succ]
      refine wpAnyH_take (i := 6) (v := ?_) rfl (by kernel_rfl) (by kernel_rfl) (by kernel_rfl) (fun _ _ _ h => h) (Or.inl ⟨by rfl, ?_⟩) (by assumption) ?_
      rotate_left
      · intro w hSw
        have q0 := hSw.1.cell 0
        have q1 := hSw.1.cell 1
        have q2 := hSw.2.1.cell 2
        have q3 := hSw.2.2.1
        simp at q0 q1 q2
        go_simp
        try with_reducible rfl
      simp only [Act.put, List.setIfInBounds_toArray, List.set_cons_zero, List.set_cons_succ, List.getElem_toArray, List.getElem_cons_zero, List.getElem_cons_succ]
      refine wpAnyH_take (i := 7) (v := ?_) rfl (by kernel_rfl) (by kernel_rfl) (by kernel_rfl) (fun _ _ _ h => h) (Or.inl ⟨by rfl, ?_⟩) (by assumption) ?_
      rotate_left
      · intro w hSw
        try dsimp only at hSw
        go_simp
        try with_reducible rfl
      simp only [Act.put, List.setIfInBounds_toArray, List.set_cons_zero, List.set_cons_succ, List.getElem_toArray, List.getElem_cons_zero, List.getElem_cons_succ]
      refine wpAnyH_take (i := 8) (v := ?_) rfl (by kernel_rfl) (by kernel_rfl) (by kernel_rfl) (fun _ _ _ h => h) (Or.inl ⟨by rfl, ?_⟩) (by assumption) ?_
      rotate_left
      · intro w hSw
        try dsimp only at hSw
        go_simp
        try with_reducible rfl
      simp only [Act.put, List.setIfInBounds_toArray, List.set_cons_zero, List.set_cons_succ, List.getElem_toArray, List.getElem_cons_zero, List.getElem_cons_succ]
      refine wpAnyH_take (i := 9) (v := ?_) rfl (by kernel_rfl) (by kernel_rfl) (by kernel_rfl) (fun _ _ _ h => h) (Or.inl ⟨by rfl, ?_⟩) (by assumption) ?_
      rotate_left
      · intro w hSw
        have q0 := hSw.1.cell 0
        have q1 := hSw.1.cell 1
        have q2 := hSw.2.1.cell 2
        have q3 := hSw.2.2.1
        simp at q0 q1 q2
        go_simp
        try with_reducible rfl
      simp only [Act.put, List.setIfInBounds_toArray, List.set_cons_zero, List.set_cons_succ, List.getElem_toArray, List.getElem_cons_zero, List.getElem_cons_succ]
      refine wpAnyH_take (i := 10) (v := ?_) rfl (by kernel_rfl) (by kernel_rfl) (by kernel_rfl) (fun _ _ _ h => h) (Or.inl ⟨by rfl, ?_⟩) (by assumption) ?_
      rotate_left
      · intro w hSw
        try dsimp only at hSw
        go_simp
        try with_reducible rfl
      simp only [Act.put, List.setIfInBounds_toArray, List.set_cons_zero, List.set_cons_succ, List.getElem_toArray, List.getElem_cons_zero, List.getElem_cons_succ]
      refine wpAnyH_ready (rs := [11]) (by kernel_rfl) (by simp) ?_
      refine AllReadyH.cons rfl (fun Kc hKc => ?_) AllReadyH.nil
      go_simp
      go_wp2_with (refine (HCALL _).mono ?_; rintro e w' ⟨rfl, hb'⟩)
      refine hKc.out _ _ ?_ (fun hHeld => ?_)
      · first | assumption | exact ⟨hHeld.1.kept hb', hHeld.2.1.kept hb', (hb'.cell (p := ⟨C, j, none⟩) (by have := hHeld.1.lt; show C < _; omega)).trans hHeld.2.2.1, hHeld.2.2.2.1.kept hb', hHeld.2.2.2.2.trans (hb'.mono (by have := hHeld.1.lt; omega))⟩
      clear hKc Kc
      refine wpAnyH_take (i := 12) (v := ?_) rfl (by kernel_rfl) (by kernel_rfl) (by kernel_rfl) (fun _ _ _ h => h) (Or.inl ⟨by rfl, ?_⟩) (by assumption) ?_
      rotate_left
      · intro w hSw
        try dsimp only at hSw
        go_simp
        try with_reducible rfl
      simp only [Act.put, List.setIfInBounds_toArray, List.set_cons_zero, List.set_cons_succ, List.getElem_toArray, List.getElem_cons_zero, List.getElem_cons_succ]
      refine wpAnyH_take (i := 13) (v := ?_) rfl (by kernel_rfl) (by kernel_rfl) (by kernel_rfl) (fun _ _ _ h => h) (Or.inl ⟨by rfl, ?_⟩) (by assumption) ?_
      rotate_left
      · intro w hSw
        try dsimp only at hSw
        go_simp
        try with_reducible rfl
      simp only [Act.put, List.setIfInBounds_toArray, List.set_cons_zero, List.set_cons_succ, List.getElem_toArray, List.getElem_cons_zero, List.getElem_cons_succ]
      refine wpAnyH_take (i := 14) (v := ?_) rfl (by kernel_rfl) (by kernel_rfl) (by kernel_rfl) (fun _ _ _ h => h) (Or.inl ⟨by rfl, ?_⟩) (by assumption) ?_
      rotate_left
      · intro w hSw
        try dsimp only at hSw
        go_simp
        try with_reducible rfl
      simp only [Act.put, List.setIfInBounds_toArray, List.set_cons_zero, List.set_cons_succ, List.getElem_toArray, List.getElem_cons_zero, List.getElem_cons_succ]
      refine wpAnyH_take (i := 15) (v := ?_) rfl (by kernel_rfl) (by kernel_rfl) (by kernel_rfl) (fun _ _ _ h => h) (Or.inl ⟨by rfl, ?_⟩) (by assumption) ?_
      rotate_left
      · intro w hSw
        try dsimp only at hSw
        go_simp
        try with_reducible rfl
      simp only [Act.put, List.setIfInBounds_toArray, List.set_cons_zero, List.set_cons_succ, List.getElem_toArray, List.getElem_cons_zero, List.getElem_cons_succ]
      refine wpAnyH_take (i := 16) (v := ?_) rfl (by kernel_rfl) (by kernel_rfl) (by kernel_rfl) (fun _ _ _ h => h) (Or.inl ⟨by rfl, ?_⟩) (by assumption) ?_
      rotate_left
      · intro w hSw
        try dsimp only at hSw
        go_simp
        try with_reducible rfl
      simp only [Act.put, List.setIfInBounds_toArray, List.set_cons_zero, List.set_cons_succ, List.getElem_toArray, List.getElem_cons_zero, List.getElem_cons_succ]
      refine wpAnyH_done (by kernel_rfl) ?_ _
      obtain ⟨k1, k2, k3, k4, k5⟩ := hHeld
      obtain ⟨v0, hc⟩ := k4.cell hlt
      have hf := k4.frozen j
      have K1 := Lib.hid k1
      have K4 := Lib.hid k4
      have K5 := Lib.hid k5
      have hAn : A ≠ A + 1 := by omega
      clear k1 k2 k3 k4 k5 hb' ch g2 j0 j1
      go_wp2
      go_roundw
      case rel => exact ⟨j + 1, by omega, by go_num, K1.out.far hAn _, K4.out.put HE.out.symm, K5.out.setCell (by simp) _⟩
      case measure => simp [intOf]; omega
    · obtain rfl : j = n := by omega
      have hfull := HR.out.full
      obtain ⟨curO, hcO, hszO, hO⟩ := hfull
      obtain ⟨curG, hcG, hcurG⟩ := HG1.out.cells
      have hlz : zs.length = j := by rw [HG.out.len, HN.out]
      have hlh : hs.length = j := by rw [HH.out.len, HN.out]
      have hlen : Z.length = j := by rw [← HZ.out, List.length_zipWith]; omega
      obtain ⟨X, hX⟩ : ∃ X, Z.map (Value.int .i64) = X := ⟨_, rfl⟩
      have hXl : X.length = j := by rw [← hX, List.length_map, hlen]
      have hsrc : ∀ i v, X[i]? = some v → wr.cell? ((⟨A + 1, 0, none⟩ : Addr).add i) = some v := by
        intro i v hv
        have hi : i < j := by
          have := (List.getElem?_eq_some_iff.1 hv).1
          omega
        have e1 : zs[i]? = some (cellD zs i) := by
          have : i < zs.length := by omega
          simp [cellD, this]
        have e2 : hs[i]? = some (cellD hs i) := by
          have : i < hs.length := by omega
          simp [cellD, this]
        rw [← hX, ← HZ.out, List.getElem?_map, zip_at e1 e2] at hv
        have e3 : (⟨A + 1, 0, none⟩ : Addr).add i = ⟨A + 1, i, none⟩ := by unfold Addr.add; split <;> simp_all
        rw [e3, cell_of_row wr (A + 1) i curO _ _ hcO, hO i hi]
        simpa using hv
      have hfitC : 0 + X.length ≤ curG.size := by
        rw [hXl]
        by_cases h0 : j = 0
        · omega
        · have e1 : zs[j - 1]? = some (cellD zs (j - 1)) := by
            have : j - 1 < zs.length := by omega
            simp [cellD, this]
          have := (Array.getElem?_eq_some_iff.1 (hcurG _ _ e1)).1
          omega
      have HSRC := Lib.hid hsrc
      have HFITC := Lib.hid hfitC
      have HHG := Lib.hid hcG
      have HONE : Hid (∀ v ∈ X, v.oneCell' = true) := Lib.hid (by
        intro v hv
        rw [← hX] at hv
        obtain ⟨a, _, rfl⟩ := List.mem_map.1 hv
        rfl)
      have HLN : Hid (X.length = Nat.min j j) := Lib.hid (by rw [hXl]; exact (Nat.min_self j).symm)
      have HLZ := Lib.hid hlen
      have HXX := Lib.hid hX
      clear hcO hszO hO hcG hcurG hlz hlh hlen hsrc hfitC hX hXl
      go_wp2_with (refine wpList_copy_own rfl (.tmp 79) (.tmp 80) 31 31 rfl 2 Try.underlying31 (by kernel_rfl) C 0 j cg ⟨A + 1, 0, none⟩ j j rfl rfl curG 2 HHG.out X HLN.out HSRC.out HFITC.out HONE.out ?_; generalize hcn : (curG.toList.take 0 ++ (X ++ curG.toList.drop (0 + X.length))).toArray = cn; have HCN := Lib.hid hcn; clear hcn)
      go_ret
      have hgrow : wr.grownBy (wr.setRow C cn) (some C) :=
        ⟨rfl, rfl, rfl, by simp, fun k hk hne => setRow_other wr C k _ (by simpa using hne)⟩
      refine ⟨rfl, ⟨⟨cg, by rw [HN.out]; exact HGB1.out.grown hgrow (by have := HG1.out.ne; simpa using this), by rw [HN.out]; exact hgc⟩, by rw [HLZ.out, HN.out], ⟨_, setRow_heap wr C _ _ _ _ HHG.out, fun i u hu => ?_⟩, HG.out.rows, HG.out.width, HF.out⟩, ?_⟩
      · have hi : i < X.length := by rw [← HXX.out, List.length_map]; exact (List.getElem?_eq_some_iff.1 hu).1
        rw [← HCN.out]
        simp only [List.take_zero, List.nil_append, List.getElem?_toArray]
        rw [List.getElem?_append_left hi, ← HXX.out, List.getElem?_map, hu]
        rfl
      · have hb := HB.out
        exact ⟨(hgrow.os.trans hb.os), hgrow.tape.trans hb.tape, hgrow.output.trans hb.output, Nat.le_trans hb.size hgrow.size, fun k hk hne => (hgrow.block k (Nat.lt_of_lt_of_le hk hb.size) hne).trans (hb.block k (by rw [← HA.out]; exact hk))⟩

set_option maxRecDepth 100000 in
set_option maxHeartbeats 4000000 in
theorem all_no_minus (f : Int → Int → Int) (hop : OpOK 52 f) (w : World) (G C H D R W : Nat) (zs hs : List Int) (hg : GridIs w G C R W zs) (hh : GridIs w H D R W hs) (hfit : ¬ Fit (List.zipWith f zs hs)) :
    Calls Try.prog 51 #[.agg #[.pointer (some ⟨G, 0, none⟩), .func (Fn.func 52) #[] #[]], .pointer (some ⟨H, 0, none⟩)] w (AllNo w 4) := by
  obtain ⟨Z, hZ⟩ : ∃ Z, List.zipWith f zs hs = Z := ⟨_, rfl⟩
  rw [hZ] at hfit
  have HZ := Lib.hid hZ
  clear hZ
  obtain ⟨cg, hgb, hgc⟩ := hg.fields
  obtain ⟨ch, hhb, hhc⟩ := hh.fields
  have HG := Lib.hid hg
  have HH := Lib.hid hh
  have HF := Lib.hid hfit
  have HOP := Lib.hid hop
  have hn1024 : R * W ≤ 1024 := Nat.mul_le_mul hg.rows hg.width
  clear hg hh hfit hop
  generalize hn : R * W = n at *
  have HN := Lib.hid hn
  clear hn
  have HGB := Lib.hid hgb
  have HHB := Lib.hid hhb
  go_enter Try.func51, Try.ntmps51
  go_wp2_with fail
  obtain ⟨ga, hbel, hsz⟩ := news1 w (.cells #[.pointer (some ⟨G, 0, none⟩), .func (Fn.func 52) #[] #[]] 89)
  have hj : Blk _ w.heap.size 89 #[.pointer (some ⟨G, 0, none⟩), .func (Fn.func 52) #[] #[]] := ga
  have hg1 := HGB.out.kept hbel
  have hh1 := HHB.out.kept hbel
  clear ga hgb hhb
  generalize (w.alloc (.cells #[.pointer (some ⟨G, 0, none⟩), .func (Fn.func 52) #[] #[]] 89)) = wz at *
  have j0 := hj.cell 0
  have j1 := hj.cell 1
  have g0 := hg1.cell 0
  have g1 := hg1.cell 1
  have h0 := hh1.cell 0
  have h1 := hh1.cell 1
  have g2 := hg1.cell 2
  have h2 := hh1.cell 2
  simp at j0 j1 g0 g1 h0 h1 g2 h2
  have HJ := Lib.hid hj
  have HB := Lib.hid hbel
  clear hj hbel hg1 hh1
  generalize hA : w.heap.size = A at *
  have HA := Lib.hid hA
  clear hA
  have hH1 : H < A + 1 := by have := HH.out.ltG; have := HA.out; omega
  have hmk := fun W => run_make_row' (P := Try.prog) 31 2 (.int .i64 0) 8 Try.underlying31 Try.info64 rfl .i64 .i64 n (by omega) (by omega) W
  go_quiet (fail)
  go_wp2_with fail
  have hrow := World.rowIs_made (wz.drewN nq) (.int .i64 0) n 2
  simp only [show (wz.drewN nq).heap.size = A + 1 from hsz] at hrow
  have hrow2 := RowUpTo.zeros hrow (fun k => f (cellD zs k) (cellD hs k))
  have HJ2 := Lib.hid ((HJ.out.drewN nq).alloc (.cells (madeCells #[.int .i64 0] n) 2))
  have HB2 : Hid (Below A w ((wz.drewN nq).alloc (.cells (madeCells #[.int .i64 0] n) 2))) := Lib.hid ((below_drewN HB.out nq).alloc (by simp; omega) _)
  clear hrow HJ HB hmk g0 g1 g2 h0 h1 h2 j0 j1
  generalize ((wz.drewN nq).alloc (.cells (madeCells #[.int .i64 0] n) 2)) = wy at *
  have HR2 := Lib.hid hrow2
  clear hrow2
  have hGA : G < A := by have := HG.out.ltG; have := HA.out; omega
  have hHA : H < A := by have := HH.out.ltG; have := HA.out; omega
  have hCA : C < A := by have := HG.out.ltC; have := HA.out; omega
  have hDA : D < A := by have := HH.out.ltC; have := HA.out; omega
  go_loopw [48] (fun i wr => ∃ j : Nat, j ≤ n ∧ i = .int .i64 (j : Int) ∧ Blk wr A 89 #[.pointer (some ⟨G, 0, none⟩), .func (Fn.func 52) #[] #[]] ∧ (∀ k, k < j → In64 (f (cellD zs k) (cellD hs k))) ∧ RowUpTo wr (A + 1) 2 n (fun k => f (cellD zs k) (cellD hs k)) j ∧ Below A w wr) (fun i _ => n - (intOf i).toNat)
  case atStart => exact ⟨0, by omega, rfl, HJ2.out, fun k hk => by omega, HR2.out, HB2.out⟩
  case round =>
    obtain ⟨j, hj, rfl, hjb, hall, hrow, hbel⟩ := hrel
    have HALL := Lib.hid hall
    clear hall
    clear HJ2 HR2 HB2
    have HJ := Lib.hid hjb
    have HR := Lib.hid hrow
    have HB := Lib.hid hbel
    clear hjb hrow hbel
    have HG1 := Lib.hid (HG.out.below HB.out hGA hCA)
    have HH1 := Lib.hid (HH.out.below HB.out hHA hDA)
    have gb := HGB.out.below HB.out hGA
    have hb := HHB.out.below HB.out hHA
    have HGB1 := Lib.hid gb
    have j0 := HJ.out.cell 0
    have j1 := HJ.out.cell 1
    have g2 := gb.cell 2
    simp at j0 j1 g2
    clear gb hb
    by_cases hlt : j < n
    · obtain ⟨curG, hcG, hcurG⟩ := HG1.out.cells
      obtain ⟨curH, hcH, hcurH⟩ := HH1.out.cells
      have hzj : zs[j]? = some (cellD zs j) := by
        have : j < zs.length := by rw [HG.out.len, HN.out]; exact hlt
        simp [cellD, this]
      have hhj : hs[j]? = some (cellD hs j) := by
        have : j < hs.length := by rw [HH.out.len, HN.out]; exact hlt
        simp [cellD, this]
      have cz := (hcG.cell j).trans (hcurG j _ hzj)
      have ch := (hcH.cell j).trans (hcurH j _ hhj)
      have HE : Hid ((fun k => f (cellD zs k) (cellD hs k)) j = f (cellD zs j) (cellD hs j)) := rfl
      have HE2 : Hid (f (cellD zs j) (cellD hs j) = f (cellD zs j) (cellD hs j)) := rfl
      by_cases hfj : In64 (f (cellD zs j) (cellD hs j))
      · have HCALL := fun w => (HOP.out (cellD zs j) (cellD hs j) w (HG.out.fit.get hzj) (HH.out.fit.get hhj)).1 hfj
        have HFJ := Lib.hid hfj
        clear hcG hcurG hcH hcurH hfj hzj hhj
        obtain ⟨v, hv⟩ : ∃ v, f (cellD zs j) (cellD hs j) = v := ⟨_, rfl⟩
        have HE2 := Lib.hid hv
        rw [hv] at HCALL HFJ HE
        clear hv
        obtain ⟨z, hz⟩ : ∃ z, cellD zs j = z := ⟨_, rfl⟩
        obtain ⟨h, hh'⟩ : ∃ h, cellD hs j = h := ⟨_, rfl⟩
        rw [hz] at HCALL cz
        rw [hh'] at HCALL ch
        clear hz hh'
        have HCZ := Lib.hid cz
        clear cz
        have i0 : (0 : Int) ≤ (j : Int) := by omega
        have i1 : (j : Int) < (n : Int) := by omega
        go_wp2_with fail
        refine wp_region_held_drew (S := fun w' => Blk w' A 89 #[.pointer (some ⟨G, 0, none⟩), .func (Fn.func 52) #[] #[]] ∧ Blk w' G 84 #[.int .i64 (R : Int), .int .i64 (W : Int), .slice (some ⟨C, 0, none⟩) n cg] ∧ w'.cell? ⟨C, j, none⟩ = some (.int .i64 z) ∧ RowUpTo w' (A + 1) 2 n (fun k => f (cellD zs k) (cellD hs k)) j ∧ Below A w w') (by kernel_rfl) (by exact ⟨HJ.out.drew, HGB1.out.drew, HCZ.out, HR.out.drewN 1, HB.out.drew⟩) (fun hHeld => ?_)
        refine wpAnyH_take (i := 0) (v := ?_) rfl (by kernel_rfl) (by kernel_rfl) (by kernel_rfl) (fun _ _ _ h => h) (Or.inl ⟨by rfl, ?_⟩) (by assumption) ?_
        rotate_left
        · intro w hSw
          try dsimp only at hSw
          go_simp
          try with_reducible rfl
        simp only [Act.put, List.setIfInBounds_toArray, List.set_cons_zero, List.set_cons_succ, List.getElem_toArray, List.getElem_cons_zero, List.getElem_cons_succ]
        refine wpAnyH_take (i := 1) (v := ?_) rfl (by kernel_rfl) (by kernel_rfl) (by kernel_rfl) (fun _ _ _ h => h) (Or.inl ⟨by rfl, ?_⟩) (by assumption) ?_
        rotate_left
        · intro w hSw
          have q0 := hSw.1.cell 0
          have q1 := hSw.1.cell 1
          have q2 := hSw.2.1.cell 2
          have q3 := hSw.2.2.1
          simp at q0 q1 q2
          go_simp
          try with_reducible rfl
        simp only [Act.put, List.setIfInBounds_toArray, List.set_cons_zero, List.set_cons_succ, List.getElem_toArray, List.getElem_cons_zero, List.getElem_cons_succ]
        refine wpAnyH_take (i := 2) (v := ?_) rfl (by kernel_rfl) (by kernel_rfl) (by kernel_rfl) (fun _ _ _ h => h) (Or.inl ⟨by rfl, ?_⟩) (by assumption) ?_
        rotate_left
        · intro w hSw
          try dsimp only at hSw
          go_simp
          try with_reducible rfl
        simp only [Act.put, List.setIfInBounds_toArray, List.set_cons_zero, List.set_cons_succ, List.getElem_toArray, List.getElem_cons_zero, List.getElem_cons_succ]
        refine wpAnyH_take (i := 3) (v := ?_) rfl (by kernel_rfl) (by kernel_rfl) (by kernel_rfl) (fun _ _ _ h => h) (Or.inl ⟨by rfl, ?_⟩) (by assumption) ?_
        rotate_left
        · intro w hSw
          have q0 := hSw.1.cell 0
          have q1 := hSw.1.cell 1
          have q2 := hSw.2.1.cell 2
          have q3 := hSw.2.2.1
          simp at q0 q1 q2
          go_simp
          try with_reducible rfl
        simp only [Act.put, List.setIfInBounds_toArray, List.set_cons_zero, List.set_cons_succ, List.getElem_toArray, List.getElem_cons_zero, List.getElem_cons_succ]
        refine wpAnyH_take (i := 4) (v := ?_) rfl (by kernel_rfl) (by kernel_rfl) (by kernel_rfl) (fun _ _ _ h => h) (Or.inl ⟨by rfl, ?_⟩) (by assumption) ?_
        rotate_left
        · intro w hSw
          try dsimp only at hSw
          go_simp
          try with_reducible rfl
        simp only [Act.put, List.setIfInBounds_toArray, List.set_cons_zero, List.set_cons_succ, List.getElem_toArray, List.getElem_cons_zero, List.getElem_cons_succ]
        refine wpAnyH_take (i := 5) (v := ?_) rfl (by kernel_rfl) (by kernel_rfl) (by kernel_rfl) (fun _ _ _ h => h) (Or.inl ⟨by rfl, ?_⟩) (by assumption) ?_
        rotate_left
        · intro w hSw
          try dsimp only at hSw
          go_simp
          try with_reducible rfl
        simp only [Act.put, List.setIfInBounds_toArray, List.set_cons_zero, List.set_cons_succ, List.getElem_toArray, List.getElem_cons_zero, List.getElem_cons_succ]
        refine wpAnyH_take (i := 6) (v := ?_) rfl (by kernel_rfl) (by kernel_rfl) (by kernel_rfl) (fun _ _ _ h => h) (Or.inl ⟨by rfl, ?_⟩) (by assumption) ?_
        rotate_left
        · intro w hSw
          have q0 := hSw.1.cell 0
          have q1 := hSw.1.cell 1
          have q2 := hSw.2.1.cell 2
          have q3 := hSw.2.2.1
          simp at q0 q1 q2
          go_simp
          try with_reducible rfl
        simp only [Act.put, List.setIfInBounds_toArray, List.set_cons_zero, List.set_cons_succ, List.getElem_toArray, List.getElem_cons_zero, List.getElem_cons_succ]
        refine wpAnyH_take (i := 7) (v := ?_) rfl (by kernel_rfl) (by kernel_rfl) (by kernel_rfl) (fun _ _ _ h => h) (Or.inl ⟨by rfl, ?_⟩) (by assumption) ?_
        rotate_left
        · intro w hSw
          try dsimp only at hSw
          go_simp
          try with_reducible rfl
        simp only [Act.put, List.setIfInBounds_toArray, List.set_cons_zero, List.set_cons_succ, List.getElem_toArray, List.getElem_cons_zero, List.getElem_cons_succ]
        refine wpAnyH_take (i := 8) (v := ?_) rfl (by kernel_rfl) (by kernel_rfl) (by kernel_rfl) (fun _ _ _ h => h) (Or.inl ⟨by rfl, ?_⟩) (by assumption) ?_
        rotate_left
        · intro w hSw
          try dsimp only at hSw
          go_simp
          try with_reducible rfl
        simp only [Act.put, List.setIfInBounds_toArray, List.set_cons_zero, List.set_cons_succ, List.getElem_toArray, List.getElem_cons_zero, List.getElem_cons_succ]
        refine wpAnyH_take (i := 9) (v := ?_) rfl (by kernel_rfl) (by kernel_rfl) (by kernel_rfl) (fun _ _ _ h => h) (Or.inl ⟨by rfl, ?_⟩) (by assumption) ?_
        rotate_left
        · intro w hSw
          have q0 := hSw.1.cell 0
          have q1 := hSw.1.cell 1
          have q2 := hSw.2.1.cell 2
          have q3 := hSw.2.2.1
          simp at q0 q1 q2
          go_simp
          try with_reducible rfl
        simp only [Act.put, List.setIfInBounds_toArray, List.set_cons_zero, List.set_cons_succ, List.getElem_toArray, List.getElem_cons_zero, List.getElem_cons_succ]
        refine wpAnyH_take (i := 10) (v := ?_) rfl (by kernel_rfl) (by kernel_rfl) (by kernel_rfl) (fun _ _ _ h => h) (Or.inl ⟨by rfl, ?_⟩) (by assumption) ?_
        rotate_left
        · intro w hSw
          try dsimp only at hSw
          go_simp
          try with_reducible rfl
        simp only [Act.put, List.setIfInBounds_toArray, List.set_cons_zero, List.set_cons_succ, List.getElem_toArray, List.getElem_cons_zero, List.getElem_cons_succ]
        refine wpAnyH_ready (rs := [11]) (by kernel_rfl) (by simp) ?_
        refine AllReadyH.cons rfl (fun Kc hKc => ?_) AllReadyH.nil
        go_simp
        go_wp2_with (refine (HCALL _).mono ?_; rintro e w' ⟨rfl, hb'⟩)
        refine hKc.out _ _ ?_ (fun hHeld => ?_)
        · first | assumption | exact ⟨hHeld.1.kept hb', hHeld.2.1.kept hb', (hb'.cell (p := ⟨C, j, none⟩) (by have := hHeld.1.lt; show C < _; omega)).trans hHeld.2.2.1, hHeld.2.2.2.1.kept hb', hHeld.2.2.2.2.trans (hb'.mono (by have := hHeld.1.lt; omega))⟩
        clear hKc Kc
        refine wpAnyH_take (i := 12) (v := ?_) rfl (by kernel_rfl) (by kernel_rfl) (by kernel_rfl) (fun _ _ _ h => h) (Or.inl ⟨by rfl, ?_⟩) (by assumption) ?_
        rotate_left
        · intro w hSw
          try dsimp only at hSw
          go_simp
          try with_reducible rfl
        simp only [Act.put, List.setIfInBounds_toArray, List.set_cons_zero, List.set_cons_succ, List.getElem_toArray, List.getElem_cons_zero, List.getElem_cons_succ]
        refine wpAnyH_take (i := 13) (v := ?_) rfl (by kernel_rfl) (by kernel_rfl) (by kernel_rfl) (fun _ _ _ h => h) (Or.inl ⟨by rfl, ?_⟩) (by assumption) ?_
        rotate_left
        · intro w hSw
          try dsimp only at hSw
          go_simp
          try with_reducible rfl
        simp only [Act.put, List.setIfInBounds_toArray, List.set_cons_zero, List.set_cons_succ, List.getElem_toArray, List.getElem_cons_zero, List.getElem_cons_succ]
        refine wpAnyH_take (i := 14) (v := ?_) rfl (by kernel_rfl) (by kernel_rfl) (by kernel_rfl) (fun _ _ _ h => h) (Or.inl ⟨by rfl, ?_⟩) (by assumption) ?_
        rotate_left
        · intro w hSw
          try dsimp only at hSw
          go_simp
          try with_reducible rfl
        simp only [Act.put, List.setIfInBounds_toArray, List.set_cons_zero, List.set_cons_succ, List.getElem_toArray, List.getElem_cons_zero, List.getElem_cons_succ]
        refine wpAnyH_take (i := 15) (v := ?_) rfl (by kernel_rfl) (by kernel_rfl) (by kernel_rfl) (fun _ _ _ h => h) (Or.inl ⟨by rfl, ?_⟩) (by assumption) ?_
        rotate_left
        · intro w hSw
          try dsimp only at hSw
          go_simp
          try with_reducible rfl
        simp only [Act.put, List.setIfInBounds_toArray, List.set_cons_zero, List.set_cons_succ, List.getElem_toArray, List.getElem_cons_zero, List.getElem_cons_succ]
        refine wpAnyH_take (i := 16) (v := ?_) rfl (by kernel_rfl) (by kernel_rfl) (by kernel_rfl) (fun _ _ _ h => h) (Or.inl ⟨by rfl, ?_⟩) (by assumption) ?_
        rotate_left
        · intro w hSw
          try dsimp only at hSw
          go_simp
          try with_reducible rfl
        simp only [Act.put, List.setIfInBounds_toArray, List.set_cons_zero, List.set_cons_succ, List.getElem_toArray, List.getElem_cons_zero, List.getElem_cons_succ]
        refine wpAnyH_done (by kernel_rfl) ?_ _
        obtain ⟨k1, k2, k3, k4, k5⟩ := hHeld
        obtain ⟨v0, hc⟩ := k4.cell hlt
        have hf := k4.frozen j
        have K1 := Lib.hid k1
        have K4 := Lib.hid k4
        have K5 := Lib.hid k5
        have hAn : A ≠ A + 1 := by omega
        clear k1 k2 k3 k4 k5 hb' ch g2 j0 j1
        go_wp2
        go_roundw
        case rel => exact ⟨j + 1, by omega, by go_num, K1.out.far hAn _, fun k hk => by
              rcases Nat.lt_succ_iff_lt_or_eq.1 hk with h | h
              · exact HALL.out k h
              · subst h; rw [HE2.out]; exact HFJ.out, K4.out.put HE.out.symm, K5.out.setCell (by simp) _⟩
        case measure => simp [intOf]; omega
      · have HCALL := fun w => (HOP.out (cellD zs j) (cellD hs j) w (HG.out.fit.get hzj) (HH.out.fit.get hhj)).2 hfj
        clear hcG hcurG hcH hcurH hfj hzj hhj
        skip
        obtain ⟨z, hz⟩ : ∃ z, cellD zs j = z := ⟨_, rfl⟩
        obtain ⟨h, hh'⟩ : ∃ h, cellD hs j = h := ⟨_, rfl⟩
        rw [hz] at HCALL cz
        rw [hh'] at HCALL ch
        clear hz hh'
        have HCZ := Lib.hid cz
        clear cz
        have i0 : (0 : Int) ≤ (j : Int) := by omega
        have i1 : (j : Int) < (n : Int) := by omega
        go_wp2_with fail
        refine wp_region_held_drew (S := fun w' => Blk w' A 89 #[.pointer (some ⟨G, 0, none⟩), .func (Fn.func 52) #[] #[]] ∧ Blk w' G 84 #[.int .i64 (R : Int), .int .i64 (W : Int), .slice (some ⟨C, 0, none⟩) n cg] ∧ w'.cell? ⟨C, j, none⟩ = some (.int .i64 z) ∧ RowUpTo w' (A + 1) 2 n (fun k => f (cellD zs k) (cellD hs k)) j ∧ Below A w w') (by kernel_rfl) (by exact ⟨HJ.out.drew, HGB1.out.drew, HCZ.out, HR.out.drewN 1, HB.out.drew⟩) (fun hHeld => ?_)
        refine wpAnyH_take (i := 0) (v := ?_) rfl (by kernel_rfl) (by kernel_rfl) (by kernel_rfl) (fun _ _ _ h => h) (Or.inl ⟨by rfl, ?_⟩) (by assumption) ?_
        rotate_left
        · intro w hSw
          try dsimp only at hSw
          go_simp
          try with_reducible rfl
        simp only [Act.put, List.setIfInBounds_toArray, List.set_cons_zero, List.set_cons_succ, List.getElem_toArray, List.getElem_cons_zero, List.getElem_cons_succ]
        refine wpAnyH_take (i := 1) (v := ?_) rfl (by kernel_rfl) (by kernel_rfl) (by kernel_rfl) (fun _ _ _ h => h) (Or.inl ⟨by rfl, ?_⟩) (by assumption) ?_
        rotate_left
        · intro w hSw
          have q0 := hSw.1.cell 0
          have q1 := hSw.1.cell 1
          have q2 := hSw.2.1.cell 2
          have q3 := hSw.2.2.1
          simp at q0 q1 q2
          go_simp
          try with_reducible rfl
        simp only [Act.put, List.setIfInBounds_toArray, List.set_cons_zero, List.set_cons_succ, List.getElem_toArray, List.getElem_cons_zero, List.getElem_cons_succ]
        refine wpAnyH_take (i := 2) (v := ?_) rfl (by kernel_rfl) (by kernel_rfl) (by kernel_rfl) (fun _ _ _ h => h) (Or.inl ⟨by rfl, ?_⟩) (by assumption) ?_
        rotate_left
        · intro w hSw
          try dsimp only at hSw
          go_simp
          try with_reducible rfl
        simp only [Act.put, List.setIfInBounds_toArray, List.set_cons_zero, List.set_cons_succ, List.getElem_toArray, List.getElem_cons_zero, List.getElem_cons_succ]
        refine wpAnyH_take (i := 3) (v := ?_) rfl (by kernel_rfl) (by kernel_rfl) (by kernel_rfl) (fun _ _ _ h => h) (Or.inl ⟨by rfl, ?_⟩) (by assumption) ?_
        rotate_left
        · intro w hSw
          have q0 := hSw.1.cell 0
          have q1 := hSw.1.cell 1
          have q2 := hSw.2.1.cell 2
          have q3 := hSw.2.2.1
          simp at q0 q1 q2
          go_simp
          try with_reducible rfl
        simp only [Act.put, List.setIfInBounds_toArray, List.set_cons_zero, List.set_cons_succ, List.getElem_toArray, List.getElem_cons_zero, List.getElem_cons_succ]
        refine wpAnyH_take (i := 4) (v := ?_) rfl (by kernel_rfl) (by kernel_rfl) (by kernel_rfl) (fun _ _ _ h => h) (Or.inl ⟨by rfl, ?_⟩) (by assumption) ?_
        rotate_left
        · intro w hSw
          try dsimp only at hSw
          go_simp
          try with_reducible rfl
        simp only [Act.put, List.setIfInBounds_toArray, List.set_cons_zero, List.set_cons_succ, List.getElem_toArray, List.getElem_cons_zero, List.getElem_cons_succ]
        refine wpAnyH_take (i := 5) (v := ?_) rfl (by kernel_rfl) (by kernel_rfl) (by kernel_rfl) (fun _ _ _ h => h) (Or.inl ⟨by rfl, ?_⟩) (by assumption) ?_
        rotate_left
        · intro w hSw
          try dsimp only at hSw
          go_simp
          try with_reducible rfl
        simp only [Act.put, List.setIfInBounds_toArray, List.set_cons_zero, List.set_cons_succ, List.getElem_toArray, List.getElem_cons_zero, List.getElem_cons_succ]
        refine wpAnyH_take (i := 6) (v := ?_) rfl (by kernel_rfl) (by kernel_rfl) (by kernel_rfl) (fun _ _ _ h => h) (Or.inl ⟨by rfl, ?_⟩) (by assumption) ?_
        rotate_left
        · intro w hSw
          have q0 := hSw.1.cell 0
          have q1 := hSw.1.cell 1
          have q2 := hSw.2.1.cell 2
          have q3 := hSw.2.2.1
          simp at q0 q1 q2
          go_simp
          try with_reducible rfl
        simp only [Act.put, List.setIfInBounds_toArray, List.set_cons_zero, List.set_cons_succ, List.getElem_toArray, List.getElem_cons_zero, List.getElem_cons_succ]
        refine wpAnyH_take (i := 7) (v := ?_) rfl (by kernel_rfl) (by kernel_rfl) (by kernel_rfl) (fun _ _ _ h => h) (Or.inl ⟨by rfl, ?_⟩) (by assumption) ?_
        rotate_left
        · intro w hSw
          try dsimp only at hSw
          go_simp
          try with_reducible rfl
        simp only [Act.put, List.setIfInBounds_toArray, List.set_cons_zero, List.set_cons_succ, List.getElem_toArray, List.getElem_cons_zero, List.getElem_cons_succ]
        refine wpAnyH_take (i := 8) (v := ?_) rfl (by kernel_rfl) (by kernel_rfl) (by kernel_rfl) (fun _ _ _ h => h) (Or.inl ⟨by rfl, ?_⟩) (by assumption) ?_
        rotate_left
        · intro w hSw
          try dsimp only at hSw
          go_simp
          try with_reducible rfl
        simp only [Act.put, List.setIfInBounds_toArray, List.set_cons_zero, List.set_cons_succ, List.getElem_toArray, List.getElem_cons_zero, List.getElem_cons_succ]
        refine wpAnyH_take (i := 9) (v := ?_) rfl (by kernel_rfl) (by kernel_rfl) (by kernel_rfl) (fun _ _ _ h => h) (Or.inl ⟨by rfl, ?_⟩) (by assumption) ?_
        rotate_left
        · intro w hSw
          have q0 := hSw.1.cell 0
          have q1 := hSw.1.cell 1
          have q2 := hSw.2.1.cell 2
          have q3 := hSw.2.2.1
          simp at q0 q1 q2
          go_simp
          try with_reducible rfl
        simp only [Act.put, List.setIfInBounds_toArray, List.set_cons_zero, List.set_cons_succ, List.getElem_toArray, List.getElem_cons_zero, List.getElem_cons_succ]
        refine wpAnyH_take (i := 10) (v := ?_) rfl (by kernel_rfl) (by kernel_rfl) (by kernel_rfl) (fun _ _ _ h => h) (Or.inl ⟨by rfl, ?_⟩) (by assumption) ?_
        rotate_left
        · intro w hSw
          try dsimp only at hSw
          go_simp
          try with_reducible rfl
        simp only [Act.put, List.setIfInBounds_toArray, List.set_cons_zero, List.set_cons_succ, List.getElem_toArray, List.getElem_cons_zero, List.getElem_cons_succ]
        refine wpAnyH_ready (rs := [11]) (by kernel_rfl) (by simp) ?_
        refine AllReadyH.cons rfl (fun Kc hKc => ?_) AllReadyH.nil
        go_simp
        go_wp2_with (refine (HCALL _).mono ?_; rintro e w' ⟨rfl, hb'⟩)
        refine hKc.out _ _ ?_ (fun hHeld => ?_)
        · first | assumption | exact ⟨hHeld.1.kept hb', hHeld.2.1.kept hb', (hb'.cell (p := ⟨C, j, none⟩) (by have := hHeld.1.lt; show C < _; omega)).trans hHeld.2.2.1, hHeld.2.2.2.1.kept hb', hHeld.2.2.2.2.trans (hb'.mono (by have := hHeld.1.lt; omega))⟩
        clear hKc Kc
        refine wpAnyH_take (i := 12) (v := ?_) rfl (by kernel_rfl) (by kernel_rfl) (by kernel_rfl) (fun _ _ _ h => h) (Or.inl ⟨by rfl, ?_⟩) (by assumption) ?_
        rotate_left
        · intro w hSw
          try dsimp only at hSw
          go_simp
          try with_reducible rfl
        simp only [Act.put, List.setIfInBounds_toArray, List.set_cons_zero, List.set_cons_succ, List.getElem_toArray, List.getElem_cons_zero, List.getElem_cons_succ]
        refine wpAnyH_take (i := 13) (v := ?_) rfl (by kernel_rfl) (by kernel_rfl) (by kernel_rfl) (fun _ _ _ h => h) (Or.inl ⟨by rfl, ?_⟩) (by assumption) ?_
        rotate_left
        · intro w hSw
          try dsimp only at hSw
          go_simp
          try with_reducible rfl
        simp only [Act.put, List.setIfInBounds_toArray, List.set_cons_zero, List.set_cons_succ, List.getElem_toArray, List.getElem_cons_zero, List.getElem_cons_succ]
        refine wpAnyH_take (i := 14) (v := ?_) rfl (by kernel_rfl) (by kernel_rfl) (by kernel_rfl) (fun _ _ _ h => h) (Or.inl ⟨by rfl, ?_⟩) (by assumption) ?_
        rotate_left
        · intro w hSw
          try dsimp only at hSw
          go_simp
          try with_reducible rfl
        simp only [Act.put, List.setIfInBounds_toArray, List.set_cons_zero, List.set_cons_succ, List.getElem_toArray, List.getElem_cons_zero, List.getElem_cons_succ]
        refine wpAnyH_take (i := 15) (v := ?_) rfl (by kernel_rfl) (by kernel_rfl) (by kernel_rfl) (fun _ _ _ h => h) (Or.inl ⟨by rfl, ?_⟩) (by assumption) ?_
        rotate_left
        · intro w hSw
          try dsimp only at hSw
          go_simp
          try with_reducible rfl
        simp only [Act.put, List.setIfInBounds_toArray, List.set_cons_zero, List.set_cons_succ, List.getElem_toArray, List.getElem_cons_zero, List.getElem_cons_succ]
        refine wpAnyH_take (i := 16) (v := ?_) rfl (by kernel_rfl) (by kernel_rfl) (by kernel_rfl) (fun _ _ _ h => h) (Or.inl ⟨by rfl, ?_⟩) (by assumption) ?_
        rotate_left
        · intro w hSw
          try dsimp only at hSw
          go_simp
          try with_reducible rfl
        simp only [Act.put, List.setIfInBounds_toArray, List.set_cons_zero, List.set_cons_succ, List.getElem_toArray, List.getElem_cons_zero, List.getElem_cons_succ]
        refine wpAnyH_done (by kernel_rfl) ?_ _
        have HB9 := Lib.hid hHeld.2.2.2.2
        clear hHeld hb' ch g2 j0 j1
        go_wp2
        go_ret
        exact ⟨rfl, by rw [HA.out]; exact HB9.out⟩
    · exfalso
      obtain rfl : j = n := by omega
      refine HF.out (fun u hu => ?_)
      obtain ⟨i, hi⟩ := List.getElem?_of_mem hu
      rw [← HZ.out, List.getElem?_zipWith] at hi
      have hlz : zs.length = j := by rw [HG.out.len, HN.out]
      have hlh : hs.length = j := by rw [HH.out.len, HN.out]
      by_cases hij : i < j
      · have e1 : zs[i]? = some (cellD zs i) := by
          have : i < zs.length := by omega
          simp [cellD, this]
        have e2 : hs[i]? = some (cellD hs i) := by
          have : i < hs.length := by omega
          simp [cellD, this]
        rw [e1, e2] at hi
        have := HALL.out i hij
        simp at hi
        rw [← hi]
        exact this
      · have e1 : zs[i]? = none := List.getElem?_eq_none (by omega)
        rw [e1] at hi
        simp at hi

end Go.Proofs.Ytcfmipgdhhogcaa
