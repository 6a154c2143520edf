/-
  Sketches in memory; the walks of sketch.New, Cells, Load. Conditions: none beyond those stated at each theorem.
-/
import Derived.Test.YtbghchgmoiniiaaExc
namespace Go.Proofs.Ytbghchgmoiniiaa
open Go.RowKit
set_option linter.unusedVariables false
set_option linter.unusedSimpArgs false

/-- block A is a sketch of a config and a level, over a grid -/
structure SkIs (w : World) (A G C : Nat) (b r d m s l : Int) (zs : List Int) : Prop where
  box : Blk w A 130 #[.pointer (some ⟨G, 0, none⟩), .int .i64 b, .int .i64 r, .int .i64 d, .int .i64 m, .int .u64 s, .int .i64 l]
  grid : GridIs w G C r.toNat d.toNat zs
theorem SkIs.kept {w w' : World} {A G C : Nat} {b r d m s l : Int} {zs : List Int} (h : SkIs w A G C b r d m s l zs) (hb : Below w.heap.size w w') : SkIs w' A G C b r d m s l zs := ⟨h.box.kept hb, h.grid.kept hb⟩
theorem SkIs.grown {w w' : World} {A G C : Nat} {b r d m s l : Int} {zs : List Int} {row : Option Nat} (h : SkIs w A G C b r d m s l zs) (hb : w.grownBy w' row) (h1 : some A ≠ row) (h2 : some G ≠ row) (h3 : some C ≠ row) : SkIs w' A G C b r d m s l zs := ⟨h.box.grown hb h1, h.grid.grown hb h2 h3⟩
theorem SkIs.neA {w : World} {A G C : Nat} {b r d m s l : Int} {zs : List Int} (h : SkIs w A G C b r d m s l zs) : A ≠ C := by
  obtain ⟨cur, hc, -⟩ := h.grid.cells
  exact h.box.ne_ hc (by decide)
def SkNewPost (w : World) (b r d m s l : Int) (e : Ending) (w' : World) : Prop :=
  ∃ A G C, e = .returned (.tuple #[.pointer (some ⟨A, 0, none⟩), .int .i64 0]) ∧ w.heap.size ≤ A ∧ w.heap.size ≤ G ∧ w.heap.size ≤ C ∧ SkIs w' A G C b r d m s l (List.replicate (r.toNat * d.toNat) 0) ∧ Below w.heap.size w w'
theorem clampN_of {n : Int} {top : Nat} (h : n ≤ (top : Int)) : clampN n top = n.toNat := by unfold clampN; omega
set_option maxRecDepth 100000 in
set_option maxHeartbeats 4000000 in
theorem sknew_yes (b r d m s l : Int) (hr : rightB b r d m = true) (h0 : 0 ≤ l) (h1 : l ≤ b) (w : World) :
    Calls Try.prog 56 #[.agg #[.int .i64 b, .int .i64 r, .int .i64 d, .int .i64 m, .int .u64 s], .int .i64 l] w (SkNewPost w b r d m s l) := by
  have hR := right_of hr
  have hk : 0 < keysI b r d m l := by
    rw [keysI_yes hr h0 h1]
    have := pow_le (b - l).toNat (by omega)
    omega
  have PK := Lib.hid (fun w => keys_any b r d m s l w)
  have PN := Lib.hid (fun w => new_any r d w)
  rw [clampN_of (by omega), clampN_of (by omega)] at PN
  have e1 : (keysI b r d m l == 0) = false := by simp; omega
  generalize keysI b r d m l = kk at *
  clear hk hr hR h0 h1
  obtain ⟨g1, hb1, hsz1⟩ := news1 w (.cells #[.int .i64 b, .int .i64 r, .int .i64 d, .int .i64 m, .int .u64 s] 36)
  have hx1 : Blk _ w.heap.size 36 #[.int .i64 b, .int .i64 r, .int .i64 d, .int .i64 m, .int .u64 s] := g1
  have HB1 := Lib.hid hb1
  have HX1 := Lib.hid hx1
  clear g1 hb1 hsz1
  go_enter Try.func56, Try.ntmps56
  go_wp2_with (refine wpList_load_row rfl 36 _ rfl w.heap.size rfl 36 _ (0, 0) _ hx1 Try.underlying36 rfl (by kernel_rfl) ?_)
  with_reducible refine (PK.out _).mono ?_
  rintro e w2 ⟨rfl, hb⟩
  have HB2 := Lib.hid (btr HB1.out hb)
  have HX2 := Lib.hid (HX1.out.kept hb)
  clear hb hx1
  go_wp2_with fail
  refine wp_region_held_drew (S := fun w' => Blk w' w.heap.size 36 #[.int .i64 b, .int .i64 r, .int .i64 d, .int .i64 m, .int .u64 s] ∧ w.heap.size ≤ w'.heap.size) (by kernel_rfl) (by exact ⟨HX2.out.drewN 1, HB2.out.size⟩) (fun hHeld => ?_)
  refine wpAnyH_take (i := 0) (v := ?_) rfl (by kernel_rfl) (by kernel_rfl) (by kernel_rfl) (fun _ _ _ h => h) (Or.inl ⟨by rfl, ?_⟩) (by assumption) ?_
  rotate_left
  · intro w hSw
    try dsimp only at hSw
    go_simp
    try with_reducible rfl
  simp only [Act.put, List.setIfInBounds_toArray, List.set_cons_zero, List.set_cons_succ, List.getElem_toArray, List.getElem_cons_zero, List.getElem_cons_succ]
  refine wpAnyH_take (i := 1) (v := ?_) rfl (by kernel_rfl) (by kernel_rfl) (by kernel_rfl) (fun _ _ _ h => h) (Or.inl ⟨by rfl, ?_⟩) (by assumption) ?_
  rotate_left
  · intro w hSw
    have q0 := hSw.1.cell 0
    have q1 := hSw.1.cell 1
    have q2 := hSw.1.cell 2
    simp at q0 q1 q2
    try refine (exec_load_row 36 _ rfl _ rfl 36 _ (0, 0) _ hSw.1 Try.underlying36 rfl (by kernel_rfl)).trans ?_
    go_simp
    try with_reducible rfl
  simp only [Act.put, List.setIfInBounds_toArray, List.set_cons_zero, List.set_cons_succ, List.getElem_toArray, List.getElem_cons_zero, List.getElem_cons_succ]
  refine wpAnyH_take (i := 2) (v := ?_) rfl (by kernel_rfl) (by kernel_rfl) (by kernel_rfl) (fun _ _ _ h => h) (Or.inl ⟨by rfl, ?_⟩) (by assumption) ?_
  rotate_left
  · intro w hSw
    try dsimp only at hSw
    go_simp
    try with_reducible rfl
  simp only [Act.put, List.setIfInBounds_toArray, List.set_cons_zero, List.set_cons_succ, List.getElem_toArray, List.getElem_cons_zero, List.getElem_cons_succ]
  refine wpAnyH_take (i := 3) (v := ?_) rfl (by kernel_rfl) (by kernel_rfl) (by kernel_rfl) (fun _ _ _ h => h) (Or.inl ⟨by rfl, ?_⟩) (by assumption) ?_
  rotate_left
  · intro w hSw
    have q0 := hSw.1.cell 0
    have q1 := hSw.1.cell 1
    have q2 := hSw.1.cell 2
    simp at q0 q1 q2
    try refine (exec_load_row 36 _ rfl _ rfl 36 _ (0, 0) _ hSw.1 Try.underlying36 rfl (by kernel_rfl)).trans ?_
    go_simp
    try with_reducible rfl
  simp only [Act.put, List.setIfInBounds_toArray, List.set_cons_zero, List.set_cons_succ, List.getElem_toArray, List.getElem_cons_zero, List.getElem_cons_succ]
  refine wpAnyH_take (i := 6) (v := ?_) rfl (by kernel_rfl) (by kernel_rfl) (by kernel_rfl) (fun _ _ _ h => h) (Or.inl ⟨by rfl, ?_⟩) (by assumption) ?_
  rotate_left
  · intro w hSw
    have q0 := hSw.1.cell 0
    have q1 := hSw.1.cell 1
    have q2 := hSw.1.cell 2
    simp at q0 q1 q2
    try refine (exec_load_row 36 _ rfl _ rfl 36 _ (0, 0) _ hSw.1 Try.underlying36 rfl (by kernel_rfl)).trans ?_
    go_simp
    try with_reducible rfl
  simp only [Act.put, List.setIfInBounds_toArray, List.set_cons_zero, List.set_cons_succ, List.getElem_toArray, List.getElem_cons_zero, List.getElem_cons_succ]
  refine wpAnyH_take (i := 7) (v := ?_) rfl (by kernel_rfl) (by kernel_rfl) (by kernel_rfl) (fun _ _ _ h => h) (Or.inl ⟨by rfl, ?_⟩) (by assumption) ?_
  rotate_left
  · intro w hSw
    try dsimp only at hSw
    go_simp
    try with_reducible rfl
  simp only [Act.put, List.setIfInBounds_toArray, List.set_cons_zero, List.set_cons_succ, List.getElem_toArray, List.getElem_cons_zero, List.getElem_cons_succ]
  refine wpAnyH_ready (rs := [4]) (by kernel_rfl) (by simp) ?_
  refine AllReadyH.cons rfl (fun Kc hKc => ?_) AllReadyH.nil
  go_simp
  go_wp2_with (go_at_call 63; refine (PN.out _).mono ?_; rintro e w4 ⟨G, C, rfl, hG, hC, hg, hb'⟩; have HG4 := Lib.hid hg; have HB4 := Lib.hid (btr (below_drewN HB2.out 1) hb'); have hGC : Hid (w.heap.size ≤ G ∧ w.heap.size ≤ C) := ⟨Nat.le_trans hHeld.2 hG, Nat.le_trans hHeld.2 hC⟩; clear hg)
  refine hKc.out _ _ ?_ (fun hHeld => ?_)
  · first | assumption | exact ⟨hHeld.1.kept hb', Nat.le_trans hHeld.2 hb'.size⟩ | exact ⟨hHeld.1.alloc _, by have := hHeld.2; simp; omega⟩
  clear hKc Kc
  refine wpAnyH_take (i := 5) (v := ?_) rfl (by kernel_rfl) (by kernel_rfl) (by kernel_rfl) (fun _ _ _ h => h) (Or.inl ⟨by rfl, ?_⟩) (by assumption) ?_
  rotate_left
  · intro w hSw
    try dsimp only at hSw
    go_simp
    try with_reducible rfl
  simp only [Act.put, List.setIfInBounds_toArray, List.set_cons_zero, List.set_cons_succ, List.getElem_toArray, List.getElem_cons_zero, List.getElem_cons_succ]
  refine wpAnyH_take (i := 8) (v := ?_) rfl (by kernel_rfl) (by kernel_rfl) (by kernel_rfl) (fun _ _ _ h => h) (Or.inl ⟨by rfl, ?_⟩) (by assumption) ?_
  rotate_left
  · intro w hSw
    try dsimp only at hSw
    go_simp
    try with_reducible rfl
  simp only [Act.put, List.setIfInBounds_toArray, List.set_cons_zero, List.set_cons_succ, List.getElem_toArray, List.getElem_cons_zero, List.getElem_cons_succ]
  refine wpAnyH_ready (rs := [9]) (by kernel_rfl) (by simp) ?_
  refine AllReadyH.cons rfl (fun Kc hKc => ?_) AllReadyH.nil
  go_simp
  refine hKc.out _ _ ?_ (fun hHeld => ?_)
  · first | assumption | exact ⟨hHeld.1.kept hb', Nat.le_trans hHeld.2 hb'.size⟩ | exact ⟨hHeld.1.alloc _, by have := hHeld.2; simp; omega⟩
  clear hKc Kc
  refine wpAnyH_take (i := 10) (v := ?_) rfl (by kernel_rfl) (by kernel_rfl) (by kernel_rfl) (fun _ _ _ h => h) (Or.inl ⟨by rfl, ?_⟩) (by assumption) ?_
  rotate_left
  · intro w hSw
    try dsimp only at hSw
    go_simp
    try with_reducible rfl
  simp only [Act.put, List.setIfInBounds_toArray, List.set_cons_zero, List.set_cons_succ, List.getElem_toArray, List.getElem_cons_zero, List.getElem_cons_succ]
  refine wpAnyH_take (i := 11) (v := ?_) rfl (by kernel_rfl) (by kernel_rfl) (by kernel_rfl) (fun _ _ _ h => h) (Or.inl ⟨by rfl, ?_⟩) (by assumption) ?_
  rotate_left
  · intro w hSw
    try dsimp only at hSw
    go_simp
    try with_reducible rfl
  simp only [Act.put, List.setIfInBounds_toArray, List.set_cons_zero, List.set_cons_succ, List.getElem_toArray, List.getElem_cons_zero, List.getElem_cons_succ]
  refine wpAnyH_done (by kernel_rfl) ?_ _
  have HNEW := Lib.hid (Blk.new w4 130 #[.pointer (some ⟨G, 0, none⟩), .int .i64 b, .int .i64 r, .int .i64 d, .int .i64 m, .int .u64 s, .int .i64 l])
  have HAL : Hid (Below w4.heap.size w4 (w4.alloc (.cells #[.pointer (some ⟨G, 0, none⟩), .int .i64 b, .int .i64 r, .int .i64 d, .int .i64 m, .int .u64 s, .int .i64 l] 130))) := Lib.hid ((Below.refl _ _).alloc (Nat.le_refl _) _)
  have HG5 := Lib.hid (HG4.out.kept HAL.out)
  have HB5 := Lib.hid (btr HB4.out HAL.out)
  clear hHeld
  go_wp2_with fail
  go_ret2
  exact ⟨w4.heap.size, G, C, rfl, HB4.out.size, hGC.out.1, hGC.out.2, ⟨HNEW.out, HG5.out⟩, HB5.out⟩
theorem skcells (w : World) (A G C : Nat) (b r d m s l : Int) (zs : List Int) (h : SkIs w A G C b r d m s l zs) :
    Calls Try.prog 102 #[.pointer (some ⟨A, 0, none⟩)] w (CellsPost w zs) := by
  have c0 := h.box.cell 0
  simp at c0
  have P := Lib.hid (cells_any w G C _ _ zs h.grid)
  clear h
  go_enter Try.func102, Try.ntmps102
  go_wp2_with fail
  with_reducible refine P.out.mono ?_
  rintro e w2 ⟨v, rfl, hrest⟩
  have HR := Lib.hid hrest
  clear hrest
  go_wp2
  go_ret
  exact ⟨v, rfl, HR.out⟩
set_option maxRecDepth 100000 in
set_option maxHeartbeats 4000000 in
theorem skload_yes (w : World) (A G C : Nat) (b : Int) (R W : Nat) (m s l : Int) (zs cs : List Int) (v : Value) (h : SkIs w A G C b R W m s l zs) (hW : 0 < W) (hv : IntsAt w v cs) (hl : cs.length = R * W) (hfit : Fit cs) (hvc : v.ownBlock ≠ some C) :
    Calls Try.prog 106 #[.pointer (some ⟨A, 0, none⟩), v] w fun e w' => e = .returned (.bool true) ∧ SkIs w' A G C b R W m s l cs ∧ w.grownBy w' (some C) := by
  have hR8 := h.grid.rows
  have hW8 := h.grid.width
  rw [Int.toNat_natCast] at hR8 hW8
  have hzl : zs.length = R * W := by have := h.grid.len; simpa using this
  have HA := Lib.hid h
  have HNE := Lib.hid h.neA
  obtain ⟨ao, cap, rfl, hcap, hcells⟩ := hv
  have HC := Lib.hid hcells
  have HF := Lib.hid hfit
  have HVC := Lib.hid hvc
  have HLL := Lib.hid (show cs.length = zs.length by omega)
  have HL := Lib.hid hl
  rw [hl] at hcap ⊢
  obtain ⟨n, hn⟩ : ∃ n, n = R * W := ⟨_, rfl⟩
  have hm : (R : Int) * (W : Int) = (n : Int) := by simp [hn]
  have hp : n ≤ 1024 := by rw [hn]; exact Nat.mul_le_mul hR8 hW8
  have HN := Lib.hid hn
  rw [← hn] at hcap ⊢
  have e1 : ((n : Int) != (n : Int)) = false := by simp
  have c2 := h.box.cell 2
  have c3 := h.box.cell 3
  simp at c2 c3
  clear hcells hfit h hzl hvc hl hn
  go_enter Try.func106, Try.ntmps106
  go_wp2_with fail
  go_quiet (fail)
  go_wp2_with fail
  go_loopw [23] (fun i wr => ∃ j : Nat, j ≤ n ∧ i = .int .i64 (j : Int) ∧ SkIs wr A G C b R W m s l (cs.take j ++ zs.drop j) ∧ w.grownBy wr (some C)) (fun i _ => n - (intOf i).toNat)
  case atStart => exact ⟨0, by omega, rfl, by simpa using HA.out.kept (below_drewN (Below.refl _ _) nq), below_gr (below_drewN (Below.refl _ _) nq)⟩
  case round =>
    obtain ⟨j, hj, rfl, ha, hgr⟩ := hrel
    have HA2 := Lib.hid ha
    have HG := Lib.hid hgr
    clear c2 c3
    by_cases hlt : j < n
    · obtain ⟨g, rfl, hg, hc⟩ := HC.out (by have := HL.out; have := HN.out; omega)
      have hgC : g ≠ C := fun e => HVC.out (by simp [Value.ownBlock, e])
      have hcj : cs[j]? = some (cellD cs j) := by
        have : j < cs.length := by have := HL.out; have := HN.out; omega
        simp [cellD, this]
      have cx := hgr.cell (hc j _ hcj) (by simpa using hgC)
      have hrow : j / W < R := Nat.div_lt_of_lt_mul (by have := HN.out; rw [Nat.mul_comm] at this; omega)
      have hcol : j % W < W := Nat.mod_lt _ hW
      have P3 : Hid (∀ wd, SkIs wd A G C b R W m s l (cs.take j ++ zs.drop j) → Calls Try.prog 99 #[.pointer (some ⟨G, 0, none⟩), .int .i64 ((j / W : Nat) : Int), .int .i64 ((j % W : Nat) : Int), .int .i64 (cellD cs j)] wd fun e w'' => e = .returned (.bool true) ∧ w'' = wd.setCell ⟨C, j, none⟩ (.int .i64 (cellD cs j))) := Lib.hid (fun wd hd => by
        have hgd := hd.grid
        rw [Int.toNat_natCast, Int.toNat_natCast] at hgd
        have := put_in wd G C R W (j / W) (j % W) (cellD cs j) _ hgd hrow hcol
        rw [show j / W * W + j % W = j by rw [Nat.mul_comm]; exact Nat.div_add_mod j W] at this
        exact this)
      have HS := Lib.hid (take_drop_set (zs := zs) hcj HLL.out)
      have HX := Lib.hid (fitC HF.out j)
      have i0 : (0 : Int) ≤ (j : Int) := by omega
      have i1 : (j : Int) < (n : Int) := by omega
      have f5 : IntKind.i64.wrap ((j : Int) / (W : Int)) = ((j / W : Nat) : Int) := by
        have h1 : (j : Int) / (W : Int) = ((j / W : Nat) : Int) := (Int.natCast_ediv ..).symm
        have h2 : j / W ≤ j := Nat.div_le_self j W
        rw [h1, wrapI_eq64]
        generalize j / W = q at *
        unfold wrap64; omega
      have f6 : IntKind.i64.wrap ((j : Int) % (W : Int)) = ((j % W : Nat) : Int) := by
        have h1 : (j : Int) % (W : Int) = ((j % W : Nat) : Int) := (Int.natCast_emod ..).symm
        have h2 : j % W ≤ j := Nat.mod_le j W
        rw [h1, wrapI_eq64]
        generalize j % W = q at *
        unfold wrap64; omega
      have f6' : (j : Int) % (W : Int) = ((j % W : Nat) : Int) := (Int.natCast_emod ..).symm
      have e8 : ¬ W = 0 := by omega
      clear ha hgr hc hcj hrow hcol
      generalize cellD cs j = x at *
      generalize j / W = jq at *
      generalize j % W = jr at *
      go_wp2_with fail
      refine wp_region_still_tail 20 (by kernel_rfl) (by kernel_rfl) ?_
      simp only [List.take_succ_cons, List.take_zero, List.drop_succ_cons, List.drop_zero]
      have HA3 : Hid (SkIs { heap := wr.heap, tape := wr.tape, drawn := wr.drawn + 1, os := wr.os, output := wr.output } A G C b R W m s l (cs.take j ++ zs.drop j)) := Lib.hid (HA2.out.kept (below_drewN (Below.refl _ _) 1))
      have HG3 : Hid (w.grownBy { heap := wr.heap, tape := wr.tape, drawn := wr.drawn + 1, os := wr.os, output := wr.output } (some C)) := Lib.hid (gr_trans HG.out (below_gr (below_drewN (Below.refl _ _) 1)))
      generalize ({ heap := wr.heap, tape := wr.tape, drawn := wr.drawn + 1, os := wr.os, output := wr.output } : World) = wd at *
      have q0 := HA3.out.box.cell 0
      have q3 := HA3.out.box.cell 3
      simp at q0 q3
      repeat still_step
      refine wpStill_nil ?_
      go_wp2_with fail
      try simp only [f6']
      with_reducible refine (P3.out _ HA3.out).mono ?_
      rintro e w3 ⟨rfl, hw3⟩
      have HW3 := Lib.hid hw3
      clear hw3 q0 q3 f5 f6 f6'
      go_wp2
      go_roundw
      case rel => exact ⟨j + 1, by omega, by go_num, by rw [← HS.out, HW3.out]; exact ⟨HA3.out.box.far (by have := HNE.out; simpa using this) _, HA3.out.grid.set j x HX.out.1 HX.out.2⟩, by rw [HW3.out]; exact gr_trans HG3.out (grown_set _ _ _ _)⟩
      case measure => simp [intOf]; omega
    · obtain rfl : j = n := by omega
      have HE : Hid (cs.take j ++ zs.drop j = cs) := Lib.hid (by rw [List.take_of_length_le (by have := HL.out; have := HN.out; omega), List.drop_eq_nil_of_le (by have := HL.out; have := HN.out; have := HLL.out; omega)]; simp)
      clear ha hgr
      go_wp2
      go_ret
      exact ⟨rfl, by rw [← HE.out]; exact HA2.out, HG.out⟩
end Go.Proofs.Ytbghchgmoiniiaa
