import Derived.Test.YtbghchgmoiniiaaGreatQac
import Derived.Test.YtbghchgmoiniiaaGreatQab
import Derived.Test.YtbghchgmoiniiaaGreatQaf
import Derived.Test.YtbghchgmoiniiaaGreatQae
/-
  The walk of gaugerlaw23.same for two stacks that are the same. Conditions: none beyond those stated at each theorem.
-/
namespace Go.Proofs.YtbghchgmoiniiaaGreat
open Go.RowKit
set_option linter.unusedVariables false
set_option linter.unusedSimpArgs false

theorem cell_kept {w w' : World} {g i : Nat} {u : Value} (h : w.cell? ⟨g, i, none⟩ = some u) (hb : Below w.heap.size w w') : w'.cell? ⟨g, i, none⟩ = some u :=
  Only.cell (F := fun _ => False) ⟨hb.os, hb.tape, hb.output, hb.size, fun k hk _ => hb.block k hk⟩ (fun h => h) h
theorem ints_kept {w w' : World} {v : Value} {zs : List Int} (hb : Below w.heap.size w w') (h : IntsAt w v zs) : IntsAt w' v zs := h.kept hb
theorem same06_self (va vb : Value) (xs : List Int) (w : World) (ha : IntsAt w va xs) (hb : IntsAt w vb xs) (hx : xs.length ≤ 1024) :
    Calls Tryz.prog 39 #[va, vb] w fun e w' => e = .returned (.bool true) ∧ Below w.heap.size w w' := by
  refine (same06_any va vb xs xs w ha hb (by omega) (by omega)).mono ?_
  rintro e w' ⟨rfl, hb⟩
  exact ⟨by simp, hb⟩
theorem cfgEq_self (b r d m s : Int) : cfgEq b r d m s b r d m s = true := by simp [cfgEq]
set_option maxRecDepth 100000 in
set_option maxHeartbeats 16000000 in
theorem same_yes23 (w : World) (base S L : Nat) (b r d m s : Int) (X : Nat → Value) (A G C : Nat → Nat) (Z : Nat → List Int) (base' RS RL : Nat) (P : Nat → Nat) (F : Nat → Nat → Prop) (Y : Nat → List Int)
    (h : StIs w base S L b r d m s X A G C Z) (k : RStIs w base' RS RL b r d m s P F Y) (e : ∀ q, q ≤ b.toNat → Z q = Y q) :
    Calls Tryz.prog 14 #[.pointer (some ⟨S, 0, none⟩), .pointer (some ⟨RS, 0, none⟩)] w fun e w' => e = .returned (.bool true) ∧ Below w.heap.size w w' := by
  have hgd : Tryz.prog.eqGuardType Tryz.prog.depth 24 = false := by kernel_rfl
  have EQ := eqCfg b r d m s b r d m s
  rw [cfgEq_self] at EQ
  have HRT := Lib.hid k.right
  have hR := right_of k.right
  have HS := Lib.hid h
  have HK := Lib.hid k
  have HE := Lib.hid e
  obtain ⟨n, hn⟩ : ∃ n : Nat, b = (n : Int) := ⟨b.toNat, by omega⟩
  subst hn
  obtain ⟨scap, hbox, hscap⟩ := k.box
  obtain ⟨cur, hcur, hrowp⟩ := k.row
  have hbox' : Blk w RS 40 #[.int .i64 (n : Int), .int .i64 r, .int .i64 d, .int .i64 m, .int .u64 s, .slice (some ⟨RL, 0, none⟩) (n + 1) scap] := hbox
  have HBX := Lib.hid hbox'
  have PSC := Lib.hid (fun wq hq => stconfig wq base S L (n : Int) r d m s X A G C Z hq)
  have hsc : n + 1 ≤ scap := hscap
  clear h k e hbox hbox' hcur hrowp hscap
  go_enter Tryz.func14, Tryz.ntmps14
  go_wp2_with fail
  refine wp_region_held_drew (S := fun w' => StIs w' base S L (n : Int) r d m s X A G C Z ∧ Blk w' RS 40 #[.int .i64 (n : Int), .int .i64 r, .int .i64 d, .int .i64 m, .int .u64 s, .slice (some ⟨RL, 0, none⟩) (n + 1) scap] ∧ Below w.heap.size w w') (by kernel_rfl) (by exact ⟨HS.out.kept (below_drewN (Below.refl _ _) 1), HBX.out.drewN 1, below_drewN (Below.refl _ _) 1⟩) (fun hHeld => ?_)
  refine wpAnyH_take (i := 0) (v := ?_) rfl (by kernel_rfl) (by kernel_rfl) (by kernel_rfl) (fun _ _ _ h => h) (Or.inl ⟨by rfl, ?_⟩) (by assumption) ?_
  rotate_left
  · intro w hSw
    try dsimp only at hSw
    go_simp
    try with_reducible rfl
  simp only [Act.put, List.setIfInBounds_toArray, List.set_cons_zero, List.set_cons_succ, List.getElem_toArray, List.getElem_cons_zero, List.getElem_cons_succ]
  refine wpAnyH_take (i := 1) (v := ?_) rfl (by kernel_rfl) (by kernel_rfl) (by kernel_rfl) (fun _ _ _ h => h) (Or.inl ⟨by rfl, ?_⟩) (by assumption) ?_
  rotate_left
  · intro w hSw
    try dsimp only at hSw
    go_simp
    try with_reducible rfl
  simp only [Act.put, List.setIfInBounds_toArray, List.set_cons_zero, List.set_cons_succ, List.getElem_toArray, List.getElem_cons_zero, List.getElem_cons_succ]
  refine wpAnyH_take (i := 2) (v := ?_) rfl (by kernel_rfl) (by kernel_rfl) (by kernel_rfl) (fun _ _ _ h => h) (Or.inl ⟨by rfl, ?_⟩) (by assumption) ?_
  rotate_left
  · intro w hSw
    try dsimp only at hSw
    go_simp
    try with_reducible rfl
  simp only [Act.put, List.setIfInBounds_toArray, List.set_cons_zero, List.set_cons_succ, List.getElem_toArray, List.getElem_cons_zero, List.getElem_cons_succ]
  refine wpAnyH_take (i := 3) (v := ?_) rfl (by kernel_rfl) (by kernel_rfl) (by kernel_rfl) (fun _ _ _ h => h) (Or.inl ⟨by rfl, ?_⟩) (by assumption) ?_
  rotate_left
  · intro w hSw
    try dsimp only at hSw
    go_simp
    try with_reducible rfl
  simp only [Act.put, List.setIfInBounds_toArray, List.set_cons_zero, List.set_cons_succ, List.getElem_toArray, List.getElem_cons_zero, List.getElem_cons_succ]
  refine wpAnyH_take (i := 4) (v := ?_) rfl (by kernel_rfl) (by kernel_rfl) (by kernel_rfl) (fun _ _ _ h => h) (Or.inl ⟨by rfl, ?_⟩) (by assumption) ?_
  rotate_left
  · intro w hSw
    try dsimp only at hSw
    go_simp
    try with_reducible rfl
  simp only [Act.put, List.setIfInBounds_toArray, List.set_cons_zero, List.set_cons_succ, List.getElem_toArray, List.getElem_cons_zero, List.getElem_cons_succ]
  refine wpAnyH_take (i := 5) (v := ?_) rfl (by kernel_rfl) (by kernel_rfl) (by kernel_rfl) (fun _ _ _ h => h) (Or.inl ⟨by rfl, ?_⟩) (by assumption) ?_
  rotate_left
  · intro w hSw
    try dsimp only at hSw
    go_simp
    try with_reducible rfl
  simp only [Act.put, List.setIfInBounds_toArray, List.set_cons_zero, List.set_cons_succ, List.getElem_toArray, List.getElem_cons_zero, List.getElem_cons_succ]
  refine wpAnyH_take (i := 6) (v := ?_) rfl (by kernel_rfl) (by kernel_rfl) (by kernel_rfl) (fun _ _ _ h => h) (Or.inl ⟨by rfl, ?_⟩) (by assumption) ?_
  rotate_left
  · intro w hSw
    try dsimp only at hSw
    go_simp
    try with_reducible rfl
  simp only [Act.put, List.setIfInBounds_toArray, List.set_cons_zero, List.set_cons_succ, List.getElem_toArray, List.getElem_cons_zero, List.getElem_cons_succ]
  refine wpAnyH_take (i := 7) (v := ?_) rfl (by kernel_rfl) (by kernel_rfl) (by kernel_rfl) (fun _ _ _ h => h) (Or.inl ⟨by rfl, ?_⟩) (by assumption) ?_
  rotate_left
  · intro w hSw
    try dsimp only at hSw
    go_simp
    try with_reducible rfl
  simp only [Act.put, List.setIfInBounds_toArray, List.set_cons_zero, List.set_cons_succ, List.getElem_toArray, List.getElem_cons_zero, List.getElem_cons_succ]
  refine wpAnyH_take (i := 9) (v := ?_) rfl (by kernel_rfl) (by kernel_rfl) (by kernel_rfl) (fun _ _ _ h => h) (Or.inl ⟨by rfl, ?_⟩) (by assumption) ?_
  rotate_left
  · intro w hSw
    try dsimp only at hSw
    go_simp
    try with_reducible rfl
  simp only [Act.put, List.setIfInBounds_toArray, List.set_cons_zero, List.set_cons_succ, List.getElem_toArray, List.getElem_cons_zero, List.getElem_cons_succ]
  refine wpAnyH_take (i := 10) (v := ?_) rfl (by kernel_rfl) (by kernel_rfl) (by kernel_rfl) (fun _ _ _ h => h) (Or.inl ⟨by rfl, ?_⟩) (by assumption) ?_
  rotate_left
  · intro w hSw
    try dsimp only at hSw
    go_simp
    try with_reducible rfl
  simp only [Act.put, List.setIfInBounds_toArray, List.set_cons_zero, List.set_cons_succ, List.getElem_toArray, List.getElem_cons_zero, List.getElem_cons_succ]
  refine wpAnyH_take (i := 11) (v := ?_) rfl (by kernel_rfl) (by kernel_rfl) (by kernel_rfl) (fun _ _ _ h => h) (Or.inl ⟨by rfl, ?_⟩) (by assumption) ?_
  rotate_left
  · intro w hSw
    try dsimp only at hSw
    go_simp
    try with_reducible rfl
  simp only [Act.put, List.setIfInBounds_toArray, List.set_cons_zero, List.set_cons_succ, List.getElem_toArray, List.getElem_cons_zero, List.getElem_cons_succ]
  refine wpAnyH_take (i := 12) (v := ?_) rfl (by kernel_rfl) (by kernel_rfl) (by kernel_rfl) (fun _ _ _ h => h) (Or.inl ⟨by rfl, ?_⟩) (by assumption) ?_
  rotate_left
  · intro w hSw
    have q0 := hSw.2.1.cell 0
    have q1 := hSw.2.1.cell 1
    have q2 := hSw.2.1.cell 2
    have q3 := hSw.2.1.cell 3
    have q4 := hSw.2.1.cell 4
    simp at q0 q1 q2 q3 q4
    go_simp
    try with_reducible rfl
  simp only [Act.put, List.setIfInBounds_toArray, List.set_cons_zero, List.set_cons_succ, List.getElem_toArray, List.getElem_cons_zero, List.getElem_cons_succ]
  refine wpAnyH_ready (rs := [8]) (by kernel_rfl) (by simp) ?_
  refine AllReadyH.cons rfl (fun Kc hKc => ?_) AllReadyH.nil
  go_simp
  go_wp2_with (go_at_call 11; refine (PSC.out _ hHeld.1).mono ?_; rintro e w3 ⟨rfl, hb'⟩)
  refine hKc.out _ _ ?_ (fun hHeld => ?_)
  · first | assumption | exact ⟨hHeld.1.kept hb', hHeld.2.1.kept hb', btr hHeld.2.2 hb'⟩
  clear hKc Kc
  refine wpAnyH_take (i := 13) (v := ?_) rfl (by kernel_rfl) (by kernel_rfl) (by kernel_rfl) (fun _ _ _ h => h) (Or.inl ⟨by rfl, ?_⟩) (by assumption) ?_
  rotate_left
  · intro w hSw
    try dsimp only at hSw
    go_simp
    try with_reducible rfl
  simp only [Act.put, List.setIfInBounds_toArray, List.set_cons_zero, List.set_cons_succ, List.getElem_toArray, List.getElem_cons_zero, List.getElem_cons_succ]
  refine wpAnyH_take (i := 14) (v := ?_) rfl (by kernel_rfl) (by kernel_rfl) (by kernel_rfl) (fun _ _ _ h => h) (Or.inl ⟨by rfl, ?_⟩) (by assumption) ?_
  rotate_left
  · intro w hSw
    try dsimp only at hSw
    go_simp
    try with_reducible rfl
  simp only [Act.put, List.setIfInBounds_toArray, List.set_cons_zero, List.set_cons_succ, List.getElem_toArray, List.getElem_cons_zero, List.getElem_cons_succ]
  refine wpAnyH_done (by kernel_rfl) ?_ _
  have HS3 := Lib.hid hHeld.1
  have HK3 := Lib.hid (HK.out.kept hHeld.2.2)
  have HB3 := Lib.hid hHeld.2.2
  clear hHeld HS HK HBX PSC EQ hgd hb'
  have hwr : True := trivial
  go_wp2_with fail
  go_loopw [5] (fun i wr => ∃ j : Nat, j ≤ n + 1 ∧ i = .int .i64 (j : Int) ∧ StIs wr base S L (n : Int) r d m s X A G C Z ∧ RStIs wr base' RS RL (n : Int) r d m s P F Y ∧ Below w.heap.size w wr) (fun i _ => n + 1 - (intOf i).toNat)
  case atStart => exact ⟨0, by omega, rfl, HS3.out, HK3.out, HB3.out⟩
  case round =>
    obtain ⟨j, hj, rfl, hst, hk, hbl⟩ := hrel
    have HST := Lib.hid hst
    have HKK := Lib.hid hk
    have HBL := Lib.hid hbl
    obtain ⟨scap2, hbox, hscap⟩ := hk.box
    obtain ⟨cur2, hcur, hrowp⟩ := hk.row
    have hbox' : Blk wr RS 40 #[.int .i64 (n : Int), .int .i64 r, .int .i64 d, .int .i64 m, .int .u64 s, .slice (some ⟨RL, 0, none⟩) (n + 1) scap2] := hbox
    have s5 : wr.cell? ⟨RS, 5, none⟩ = some (.slice (some ⟨RL, 0, none⟩) (n + 1) scap2) := by
      have := hbox'.cell 5
      simpa using this
    have HS5 := Lib.hid s5
    clear hst hk hbl hbox hbox' HS3 HK3 HB3
    by_cases hlt : j < n + 1
    · have i0 : (0 : Int) ≤ (j : Int) := by omega
      have i1 : (j : Int) < (n : Int) + 1 := by omega
      have hp := hrowp j (by simp; omega)
      have cp : wr.cell? ⟨RL, j, none⟩ = some (.pointer (some ⟨P j, 0, none⟩)) := (hcur.cell j).trans hp
      have hYZ : Y j = Z j := (HE.out j (by simp; omega)).symm
      have HLE : Hid ((Z j).length ≤ 1024) := Lib.hid (by rw [← hYZ, (HKK.out.lev j (by simp; omega)).len]; exact cellsN_le HRT.out)
      have PCE := Lib.hid (fun wq hq => stcells wq base S L (n : Int) r d m s X A G C Z hq j (by simp; omega))
      have PRC : Hid (∀ wq, RStIs wq base' RS RL (n : Int) r d m s P F Y → Calls Tryz.prog 28 #[.pointer (some ⟨P j, 0, none⟩)] wq (IntsNew wq (Z j))) := Lib.hid (fun wq hq => by
        have := rlcells wq (F j) (P j) (n : Int) r d m s (j : Int) (Y j) (hq.lev j (by simp; omega)) (by rw [hYZ]; exact HLE.out)
        rw [hYZ] at this
        exact this)
      have HCP := Lib.hid cp
      clear hp hrowp hcur hYZ
      go_wp2_with fail
      refine wp_region_held_drew (S := fun w' => StIs w' base S L (n : Int) r d m s X A G C Z ∧ RStIs w' base' RS RL (n : Int) r d m s P F Y ∧ w'.cell? ⟨RS, 5, none⟩ = some (.slice (some ⟨RL, 0, none⟩) (n + 1) scap2) ∧ w'.cell? ⟨RL, j, none⟩ = some (.pointer (some ⟨P j, 0, none⟩)) ∧ Below wr.heap.size wr w') (by kernel_rfl) (by exact ⟨HST.out.kept (below_drewN (Below.refl _ _) 1), HKK.out.kept (below_drewN (Below.refl _ _) 1), HS5.out, HCP.out, below_drewN (Below.refl _ _) 1⟩) (fun hHeld => ?_)
      refine wpAnyH_take (i := 0) (v := ?_) rfl (by kernel_rfl) (by kernel_rfl) (by kernel_rfl) (fun _ _ _ h => h) (Or.inl ⟨by rfl, ?_⟩) (by assumption) ?_
      rotate_left
      · intro w hSw
        try dsimp only at hSw
        go_simp
        try with_reducible rfl
      simp only [Act.put, List.setIfInBounds_toArray, List.set_cons_zero, List.set_cons_succ, List.getElem_toArray, List.getElem_cons_zero, List.getElem_cons_succ]
      refine wpAnyH_take (i := 1) (v := ?_) rfl (by kernel_rfl) (by kernel_rfl) (by kernel_rfl) (fun _ _ _ h => h) (Or.inl ⟨by rfl, ?_⟩) (by assumption) ?_
      rotate_left
      · intro w hSw
        try dsimp only at hSw
        go_simp
        try with_reducible rfl
      simp only [Act.put, List.setIfInBounds_toArray, List.set_cons_zero, List.set_cons_succ, List.getElem_toArray, List.getElem_cons_zero, List.getElem_cons_succ]
      refine wpAnyH_take (i := 3) (v := ?_) rfl (by kernel_rfl) (by kernel_rfl) (by kernel_rfl) (fun _ _ _ h => h) (Or.inl ⟨by rfl, ?_⟩) (by assumption) ?_
      rotate_left
      · intro w hSw
        try dsimp only at hSw
        go_simp
        try with_reducible rfl
      simp only [Act.put, List.setIfInBounds_toArray, List.set_cons_zero, List.set_cons_succ, List.getElem_toArray, List.getElem_cons_zero, List.getElem_cons_succ]
      refine wpAnyH_take (i := 4) (v := ?_) rfl (by kernel_rfl) (by kernel_rfl) (by kernel_rfl) (fun _ _ _ h => h) (Or.inl ⟨by rfl, ?_⟩) (by assumption) ?_
      rotate_left
      · intro w hSw
        try dsimp only at hSw
        go_simp
        try with_reducible rfl
      simp only [Act.put, List.setIfInBounds_toArray, List.set_cons_zero, List.set_cons_succ, List.getElem_toArray, List.getElem_cons_zero, List.getElem_cons_succ]
      refine wpAnyH_take (i := 5) (v := ?_) rfl (by kernel_rfl) (by kernel_rfl) (by kernel_rfl) (fun _ _ _ h => h) (Or.inl ⟨by rfl, ?_⟩) (by assumption) ?_
      rotate_left
      · intro w hSw
        try dsimp only at hSw
        go_simp
        try with_reducible rfl
      simp only [Act.put, List.setIfInBounds_toArray, List.set_cons_zero, List.set_cons_succ, List.getElem_toArray, List.getElem_cons_zero, List.getElem_cons_succ]
      refine wpAnyH_take (i := 6) (v := ?_) rfl (by kernel_rfl) (by kernel_rfl) (by kernel_rfl) (fun _ _ _ h => h) (Or.inl ⟨by rfl, ?_⟩) (by assumption) ?_
      rotate_left
      · intro w hSw
        have q5 := hSw.2.2.1
        have q6 := hSw.2.2.2.1
        go_simp
        try with_reducible rfl
      simp only [Act.put, List.setIfInBounds_toArray, List.set_cons_zero, List.set_cons_succ, List.getElem_toArray, List.getElem_cons_zero, List.getElem_cons_succ]
      refine wpAnyH_take (i := 7) (v := ?_) rfl (by kernel_rfl) (by kernel_rfl) (by kernel_rfl) (fun _ _ _ h => h) (Or.inl ⟨by rfl, ?_⟩) (by assumption) ?_
      rotate_left
      · intro w hSw
        try dsimp only at hSw
        go_simp
        try with_reducible rfl
      simp only [Act.put, List.setIfInBounds_toArray, List.set_cons_zero, List.set_cons_succ, List.getElem_toArray, List.getElem_cons_zero, List.getElem_cons_succ]
      refine wpAnyH_take (i := 8) (v := ?_) rfl (by kernel_rfl) (by kernel_rfl) (by kernel_rfl) (fun _ _ _ h => h) (Or.inl ⟨by rfl, ?_⟩) (by assumption) ?_
      rotate_left
      · intro w hSw
        try dsimp only at hSw
        go_simp
        try with_reducible rfl
      simp only [Act.put, List.setIfInBounds_toArray, List.set_cons_zero, List.set_cons_succ, List.getElem_toArray, List.getElem_cons_zero, List.getElem_cons_succ]
      refine wpAnyH_take (i := 9) (v := ?_) rfl (by kernel_rfl) (by kernel_rfl) (by kernel_rfl) (fun _ _ _ h => h) (Or.inl ⟨by rfl, ?_⟩) (by assumption) ?_
      rotate_left
      · intro w hSw
        have q5 := hSw.2.2.1
        have q6 := hSw.2.2.2.1
        go_simp
        try with_reducible rfl
      simp only [Act.put, List.setIfInBounds_toArray, List.set_cons_zero, List.set_cons_succ, List.getElem_toArray, List.getElem_cons_zero, List.getElem_cons_succ]
      refine wpAnyH_ready (rs := [2]) (by kernel_rfl) (by simp) ?_
      refine AllReadyH.cons rfl (fun Kc hKc => ?_) AllReadyH.nil
      go_simp
      go_wp2_with (first | (go_at_call 24; refine (PCE.out _ hHeld.1).mono ?_; rintro e w5 ⟨v5, rfl, ho5, -, hb'⟩; have hi5 := IntsAt.of_own ho5 rfl; (try have hi6 := ints_kept hb' hi6); clear ho5) | (go_at_call 28; refine (PRC.out _ hHeld.2.1).mono ?_; rintro e w6 ⟨g6, cap6, rfl, -, -, hi6, hb'⟩; (try have hi5 := ints_kept hb' hi5)) | (go_at_call 39; refine (same06_self _ _ (Z j) _ hi5 hi6 HLE.out).mono ?_; rintro e w7 ⟨rfl, hb'⟩))
      refine hKc.out _ _ ?_ (fun hHeld => ?_)
      · first | assumption | exact ⟨hHeld.1.kept hb', hHeld.2.1.kept hb', cell_kept hHeld.2.2.1 hb', cell_kept hHeld.2.2.2.1 hb', btr hHeld.2.2.2.2 hb'⟩
      clear hKc Kc
      refine wpAnyH_ready (rs := [10]) (by kernel_rfl) (by simp) ?_
      refine AllReadyH.cons rfl (fun Kc hKc => ?_) AllReadyH.nil
      go_simp
      go_wp2_with (first | (go_at_call 24; refine (PCE.out _ hHeld.1).mono ?_; rintro e w5 ⟨v5, rfl, ho5, -, hb'⟩; have hi5 := IntsAt.of_own ho5 rfl; (try have hi6 := ints_kept hb' hi6); clear ho5) | (go_at_call 28; refine (PRC.out _ hHeld.2.1).mono ?_; rintro e w6 ⟨g6, cap6, rfl, -, -, hi6, hb'⟩; (try have hi5 := ints_kept hb' hi5)) | (go_at_call 39; refine (same06_self _ _ (Z j) _ hi5 hi6 HLE.out).mono ?_; rintro e w7 ⟨rfl, hb'⟩))
      refine hKc.out _ _ ?_ (fun hHeld => ?_)
      · first | assumption | exact ⟨hHeld.1.kept hb', hHeld.2.1.kept hb', cell_kept hHeld.2.2.1 hb', cell_kept hHeld.2.2.2.1 hb', btr hHeld.2.2.2.2 hb'⟩
      clear hKc Kc
      refine wpAnyH_ready (rs := [11]) (by kernel_rfl) (by simp) ?_
      refine AllReadyH.cons rfl (fun Kc hKc => ?_) AllReadyH.nil
      go_simp
      go_wp2_with (first | (go_at_call 24; refine (PCE.out _ hHeld.1).mono ?_; rintro e w5 ⟨v5, rfl, ho5, -, hb'⟩; have hi5 := IntsAt.of_own ho5 rfl; (try have hi6 := ints_kept hb' hi6); clear ho5) | (go_at_call 28; refine (PRC.out _ hHeld.2.1).mono ?_; rintro e w6 ⟨g6, cap6, rfl, -, -, hi6, hb'⟩; (try have hi5 := ints_kept hb' hi5)) | (go_at_call 39; refine (same06_self _ _ (Z j) _ hi5 hi6 HLE.out).mono ?_; rintro e w7 ⟨rfl, hb'⟩))
      refine hKc.out _ _ ?_ (fun hHeld => ?_)
      · first | assumption | exact ⟨hHeld.1.kept hb', hHeld.2.1.kept hb', cell_kept hHeld.2.2.1 hb', cell_kept hHeld.2.2.2.1 hb', btr hHeld.2.2.2.2 hb'⟩
      clear hKc Kc
      refine wpAnyH_take (i := 12) (v := ?_) rfl (by kernel_rfl) (by kernel_rfl) (by kernel_rfl) (fun _ _ _ h => h) (Or.inl ⟨by rfl, ?_⟩) (by assumption) ?_
      rotate_left
      · intro w hSw
        try dsimp only at hSw
        go_simp
        try with_reducible rfl
      simp only [Act.put, List.setIfInBounds_toArray, List.set_cons_zero, List.set_cons_succ, List.getElem_toArray, List.getElem_cons_zero, List.getElem_cons_succ]
      refine wpAnyH_done (by kernel_rfl) ?_ _
      have HST9 := Lib.hid hHeld.1
      have HKK9 := Lib.hid hHeld.2.1
      have HBL9 := Lib.hid (btr HBL.out hHeld.2.2.2.2)
      clear hHeld HST HKK HBL hb' hi5 hi6 HS5 HCP s5 cp
      go_wp2_with fail
      go_roundw
      case rel => exact ⟨j + 1, by omega, by go_num, HST9.out, HKK9.out, HBL9.out⟩
      case measure => simp [intOf]; omega
    · obtain rfl : j = n + 1 := by omega
      have i1 : ¬ (((n + 1 : Nat) : Int) < (n : Int) + 1) := by omega
      clear hrowp hcur
      go_wp2_with fail
      go_ret
      exact ⟨rfl, HBL.out⟩
end Go.Proofs.YtbghchgmoiniiaaGreat

/-
  The statement WireBack, walked. Conditions: none beyond those stated at each theorem.
-/
namespace Go.Proofs.YtbghchgmoiniiaaGreat
open Go.RowKit
set_option linter.unusedVariables false
set_option linter.unusedSimpArgs false

theorem valUpd {w : World} {v : Value} (h : shUpd.Val w v) : ∃ (k : Nat) (x : Int), v = .agg #[.int .u64 (k : Int), .int .i64 x] ∧ In64 x ∧ k < 18446744073709551616 := by
  obtain ⟨cs, rfl, h⟩ := h
  obtain ⟨k, q1, e, hk, h2⟩ := Sh.reads_int h
  obtain ⟨x, q2, rfl, hx, h3⟩ := Sh.reads_int h2
  obtain rfl := Sh.reads_unit h3
  simp [Lit.wf, IntKind.min, IntKind.max, IntKind.signed, IntKind.bits] at hk hx
  refine ⟨k.toNat, x, ?_, ⟨by omega, by omega⟩, by omega⟩
  rw [agg_of_list e, Int.toNat_of_nonneg (by omega)]
/-- what was encoded is decoded as it was -/
def DecT (w : World) (b r d m s : Int) (Z : Nat → List Int) (e : Ending) (w' : World) : Prop :=
  ∃ T L X A G C, e = .returned (.tuple #[.pointer (some ⟨T, 0, none⟩), .int .i64 0]) ∧ StIs w' w.heap.size T L b r d m s X A G C Z ∧ Below w.heap.size w w'
theorem decode_own {w : World} {v : Value} {b r d m s : Int} {Z : Nat → List Int} (hr : rightB b r d m = true) (s0 : 0 ≤ s) (s1 : s < 18446744073709551616) (hz : Shaped b r d m Z (b.toNat + 1)) (hl : (encB b r d m s Z).length ≤ 100000) (hv : BytesAt w v (encB b r d m s Z)) :
    Calls Tryz.prog 13 #[v] w (DecT w b r d m s Z) := by
  have hd : DecS (encB b r d m s Z) b r d m s Z := ⟨hr, s0, s1, hz, rfl⟩
  refine (decode_any w v _ hv (signB_byts ((headB_byts b r d m s).append (rowsB_byts Z (b.toNat + 1)))) hl).mono ?_
  rintro e w' ⟨⟨b', r', d', m', s', Z', T, L, X, A, G, C, h1, rfl, h3, h4⟩ | ⟨h1, -⟩, hb⟩
  · obtain ⟨rfl, rfl, rfl, rfl, rfl, h5⟩ := hd.unique h1
    exact ⟨T, L, X, A, G, C, rfl, h4.setC (fun n hn => (h5 n hn).symm), hb⟩
  · exact absurd hd (h1 _ _ _ _ _ _)
theorem Two.same {w : World} {n0 S RS : Nat} {b r d m s : Int} {Z : Nat → List Int} (h : Two w n0 S RS b r d m s Z) : Calls Tryz.prog 14 #[.pointer (some ⟨S, 0, none⟩), .pointer (some ⟨RS, 0, none⟩)] w fun e w' => e = .returned (.bool true) ∧ Below w.heap.size w w' := by
  obtain ⟨L, X, A, G, C, RL, P, F, h1, hs, hr, -⟩ := h
  exact same_yes23 w n0 S L b r d m s X A G C Z h1 RS RL P F Z hs hr (fun _ _ => rfl)
theorem Two.same2 {w : World} {n0 S RS n1 T L : Nat} {b r d m s : Int} {Z : Nat → List Int} {X : Nat → Value} {A G C : Nat → Nat} (h : Two w n0 S RS b r d m s Z) (ht : StIs w n1 T L b r d m s X A G C Z) : Calls Tryz.prog 14 #[.pointer (some ⟨T, 0, none⟩), .pointer (some ⟨RS, 0, none⟩)] w fun e w' => e = .returned (.bool true) ∧ Below w.heap.size w w' := by
  obtain ⟨L2, X2, A2, G2, C2, RL, P, F, h1, hs, hr, -⟩ := h
  exact same_yes23 w n1 T L b r d m s X A G C Z h1 RS RL P F Z ht hr (fun _ _ => rfl)
/-- bytes of one's own lie in a block of bytes -/
theorem OwnB.blk {w : World} {base : Nat} {v : Value} {bs : List Int} (h : OwnB w base v bs) (h0 : 0 < bs.length) : ∃ g cap cur, v = .slice (some ⟨g, 0, none⟩) bs.length cap ∧ base ≤ g ∧ Blk w g 5 cur ∧ bs.length ≤ cur.size := by
  rcases h.2 with ⟨-, h1⟩ | ⟨g, cap, cur, e, hb, hg, hn, -, hs, -⟩
  · omega
  · exact ⟨g, cap, cur, e, hb, hg, by omega⟩
set_option maxRecDepth 100000 in
set_option maxHeartbeats 8000000 in
theorem WireBack_walk (v0 v1 : Value) (w : World) (h0 : shPlay.Val w v0) (h1 : shUpd.Val w v1) :
    Calls Tryz.prog 4 #[v0, v1] w fun e w' => e = .returned (.bool true) ∧ Below w.heap.size w w' := by
  obtain ⟨xb, xr, xd, xm, s, l, n, ks, ds, rfl, hl, -, -, -, -, s0, s1⟩ := valPlay h0
  obtain ⟨ku, du, rfl, hdu, hku⟩ := valUpd h1
  clear h0 h1
  have HL := Lib.hid hl
  obtain ⟨ao, cap, rfl, hmx, -, -⟩ := hl
  have PS := Lib.hid shown23
  have PM := Lib.hid (fun w hl => made_any xb xr xd xm s (.slice ao n cap) n ks ds 8 (by decide) (by decide) s0 s1 w hl)
  have hb8 := anyI_bd xb 8 (by decide)
  obtain ⟨b, hb⟩ : ∃ b, b = anyI xb 8 := ⟨_, rfl⟩
  obtain ⟨r, hr⟩ : ∃ r, r = anyI xr 4 := ⟨_, rfl⟩
  obtain ⟨d, hd⟩ : ∃ d, d = anyI xd 9 := ⟨_, rfl⟩
  obtain ⟨m, hm⟩ : ∃ m, m = anyI xm 3 := ⟨_, rfl⟩
  rw [← hb, ← hr, ← hd, ← hm] at PM
  rw [← hb] at hb8
  clear hb hr hd hm
  obtain ⟨g1, g2, hb1, hsz1⟩ := news2 w (.cells #[.int .i64 xb, .int .i64 xr, .int .i64 xd, .int .i64 xm, .int .u64 s, .slice ao n cap] 27) (.cells #[.int .u64 (ku : Int), .int .i64 du] 43)
  have HX1 : Hid (Blk _ w.heap.size 27 #[.int .i64 xb, .int .i64 xr, .int .i64 xd, .int .i64 xm, .int .u64 s, .slice ao n cap]) := Lib.hid g1
  have HU1 : Hid (Blk _ (w.heap.size + 1) 43 #[.int .u64 (ku : Int), .int .i64 du]) := Lib.hid g2
  have HB1 := Lib.hid hb1
  clear g1 g2 hb1 hsz1
  go_enter Tryz.func4, Tryz.ntmps4
  go_wp2_with fail
  generalize ((w.alloc (.cells #[.int .i64 xb, .int .i64 xr, .int .i64 xd, .int .i64 xm, .int .u64 s, .slice ao n cap] 27)).alloc (.cells #[.int .u64 (ku : Int), .int .i64 du] 43)) = w1 at *
  with_reducible refine (PS.out _).mono ?_
  rintro e w2 ⟨rfl, hb⟩
  have HB2 := Lib.hid (btr HB1.out hb)
  have hx2 := HX1.out.kept hb
  have HU2 := Lib.hid (HU1.out.kept hb)
  have HL2 := Lib.hid (HL.out.kept (btr HB1.out hb))
  clear hb
  go_wp2_with (refine wpList_load_row rfl 27 _ rfl w.heap.size rfl 27 _ (0, 0) _ hx2 Tryz.underlying27 rfl (by kernel_rfl) ?_)
  with_reducible refine (PM.out _ HL2.out).mono ?_
  rintro e w3 ⟨S, RS, Z, rfl, htw, hb⟩
  have HT3 := Lib.hid htw
  have HB3 := Lib.hid (btr HB2.out hb)
  have HU3 := Lib.hid (HU2.out.kept hb)
  obtain ⟨n0, hn0⟩ : ∃ n0, n0 = w2.heap.size := ⟨_, rfl⟩
  rw [← hn0] at HT3
  have HSH := Lib.hid htw.shaped
  have HRT := Lib.hid htw.right
  have PE := Lib.hid (HT3.out.encode s0 s1 (by omega))
  have HLE : Hid ((encB b r d m s Z).length ≤ 100000) := Lib.hid (by
    have := enc_le (s := s) HRT.out HSH.out (by omega)
    unfold encB
    rw [signB_len]
    omega)
  have HLP : Hid (0 < (encB b r d m s Z).length) := Lib.hid (by unfold encB; rw [signB_len]; omega)
  clear hb htw hx2 hn0
  go_wp2_with fail
  with_reducible refine PE.out.mono ?_
  rintro e w4 ⟨vb, rfl, hob, hb⟩
  obtain ⟨g, cp, cur, rfl, hg, hbk, hcs⟩ := hob.blk HLP.out
  have HAT := Lib.hid hob.at
  have HBK := Lib.hid hbk
  have HCS := Lib.hid hcs
  have HG := Lib.hid hg
  have HB34 := Lib.hid hb
  have HU4 := Lib.hid (HU3.out.kept hb)
  have PD := Lib.hid (decode_own HRT.out s0 (by omega) HSH.out HLE.out hob.at)
  clear hob hb hbk hcs hg
  go_wp2_with fail
  with_reducible refine PD.out.mono ?_
  rintro e w5 ⟨T, LT, XT, AT, GT, CT, rfl, hst, hb⟩
  have HST := Lib.hid hst
  have HB35 := Lib.hid (btr HB34.out hb)
  have HB45 := Lib.hid hb
  have HBK5 := Lib.hid (HBK.out.kept hb)
  have HAT5 := Lib.hid (HAT.out.kept hb)
  have HU5 := Lib.hid (HU4.out.kept hb)
  have HT5 := Lib.hid (HT3.out.kept HB35.out)
  have HTB : Hid (w3.heap.size ≤ w4.heap.size) := Lib.hid HB34.out.size
  clear hst hb
  have PSM := Lib.hid (fun wq (hq : Two wq n0 S RS b r d m s Z) (ht : StIs wq w4.heap.size T LT b r d m s XT AT GT CT Z) => hq.same2 ht)
  have PEN := Lib.hid (fun wq (ht : StIs wq w4.heap.size T LT b r d m s XT AT GT CT Z) => encode_any wq w4.heap.size T LT b r d m s XT AT GT CT Z ht s0 (by omega) (by have := enc_le (s := s) HRT.out HSH.out (by omega); omega))
  obtain ⟨lb, hlb⟩ : ∃ lb, lb = encB b r d m s Z := ⟨_, rfl⟩
  rw [← hlb] at HAT5 PEN HLE HLP HCS PE PD HAT ⊢
  have HCV := Lib.hid (fun (wq : World) (v : Value) (hq : BytesAt wq v lb) => strB_conv (P := Tryz.prog) hq 33 5 9 Tryz.underlying33 Tryz.underlying5 Tryz.underlying9)
  clear hlb
  go_wp2_with fail
  refine wp_region_held_drew (S := fun w' => Two w' n0 S RS b r d m s Z ∧ StIs w' w4.heap.size T LT b r d m s XT AT GT CT Z ∧ BytesAt w' (.slice (some ⟨g, 0, none⟩) lb.length cp) lb ∧ Sem.run Tryz.prog (convert 33 9 (.slice (some ⟨g, 0, none⟩) lb.length cp)) w' = .ok (.string (strB lb)) w' ∧ Below w5.heap.size w5 w') (by kernel_rfl) (by exact ⟨HT5.out.kept (below_drewN (Below.refl _ _) 1), HST.out.kept (below_drewN (Below.refl _ _) 1), HAT5.out.kept (below_drewN (Below.refl _ _) 1), HCV.out _ _ (HAT5.out.kept (below_drewN (Below.refl _ _) 1)), below_drewN (Below.refl _ _) 1⟩) (fun hHeld => ?_)
  refine wpAnyH_take (i := 0) (v := ?_) rfl (by kernel_rfl) (by kernel_rfl) (by kernel_rfl) (fun _ _ _ h => h) (Or.inl ⟨by rfl, ?_⟩) (by assumption) ?_
  rotate_left
  · intro w hSw
    try dsimp only at hSw
    go_simp
    try with_reducible rfl
  simp only [Act.put, List.setIfInBounds_toArray, List.set_cons_zero, List.set_cons_succ, List.getElem_toArray, List.getElem_cons_zero, List.getElem_cons_succ]
  refine wpAnyH_take (i := 1) (v := ?_) rfl (by kernel_rfl) (by kernel_rfl) (by kernel_rfl) (fun _ _ _ h => h) (Or.inl ⟨by rfl, ?_⟩) (by assumption) ?_
  rotate_left
  · intro w hSw
    try dsimp only at hSw
    go_simp
    try with_reducible rfl
  simp only [Act.put, List.setIfInBounds_toArray, List.set_cons_zero, List.set_cons_succ, List.getElem_toArray, List.getElem_cons_zero, List.getElem_cons_succ]
  refine wpAnyH_take (i := 2) (v := ?_) rfl (by kernel_rfl) (by kernel_rfl) (by kernel_rfl) (fun _ _ _ h => h) (Or.inl ⟨by rfl, ?_⟩) (by assumption) ?_
  rotate_left
  · intro w hSw
    try dsimp only at hSw
    go_simp
    try with_reducible rfl
  simp only [Act.put, List.setIfInBounds_toArray, List.set_cons_zero, List.set_cons_succ, List.getElem_toArray, List.getElem_cons_zero, List.getElem_cons_succ]
  refine wpAnyH_take (i := 3) (v := ?_) rfl (by kernel_rfl) (by kernel_rfl) (by kernel_rfl) (fun _ _ _ h => h) (Or.inl ⟨by rfl, ?_⟩) (by assumption) ?_
  rotate_left
  · intro w hSw
    try dsimp only at hSw
    go_simp
    try with_reducible rfl
  simp only [Act.put, List.setIfInBounds_toArray, List.set_cons_zero, List.set_cons_succ, List.getElem_toArray, List.getElem_cons_zero, List.getElem_cons_succ]
  refine wpAnyH_take (i := 4) (v := ?_) rfl (by kernel_rfl) (by kernel_rfl) (by kernel_rfl) (fun _ _ _ h => h) (Or.inl ⟨by rfl, ?_⟩) (by assumption) ?_
  rotate_left
  · intro w hSw
    try dsimp only at hSw
    go_simp
    try with_reducible rfl
  simp only [Act.put, List.setIfInBounds_toArray, List.set_cons_zero, List.set_cons_succ, List.getElem_toArray, List.getElem_cons_zero, List.getElem_cons_succ]
  refine wpAnyH_take (i := 5) (v := ?_) rfl (by kernel_rfl) (by kernel_rfl) (by kernel_rfl) (fun _ _ _ h => h) (Or.inl ⟨by rfl, ?_⟩) (by assumption) ?_
  rotate_left
  · intro w hSw
    try dsimp only at hSw
    go_simp
    try with_reducible rfl
  simp only [Act.put, List.setIfInBounds_toArray, List.set_cons_zero, List.set_cons_succ, List.getElem_toArray, List.getElem_cons_zero, List.getElem_cons_succ]
  refine wpAnyH_take (i := 6) (v := ?_) rfl (by kernel_rfl) (by kernel_rfl) (by kernel_rfl) (fun _ _ _ h => h) (Or.inl ⟨by rfl, ?_⟩) (by assumption) ?_
  rotate_left
  · intro w hSw
    try dsimp only at hSw
    go_simp
    try with_reducible rfl
  simp only [Act.put, List.setIfInBounds_toArray, List.set_cons_zero, List.set_cons_succ, List.getElem_toArray, List.getElem_cons_zero, List.getElem_cons_succ]
  refine wpAnyH_take (i := 7) (v := ?_) rfl (by kernel_rfl) (by kernel_rfl) (by kernel_rfl) (fun _ _ _ h => h) (Or.inl ⟨by rfl, ?_⟩) (by assumption) ?_
  rotate_left
  · intro w hSw
    try dsimp only at hSw
    go_simp
    try with_reducible rfl
  simp only [Act.put, List.setIfInBounds_toArray, List.set_cons_zero, List.set_cons_succ, List.getElem_toArray, List.getElem_cons_zero, List.getElem_cons_succ]
  refine wpAnyH_take (i := 8) (v := ?_) rfl (by kernel_rfl) (by kernel_rfl) (by kernel_rfl) (fun _ _ _ h => h) (Or.inl ⟨by rfl, ?_⟩) (by assumption) ?_
  rotate_left
  · intro w hSw
    try dsimp only at hSw
    go_simp
    try with_reducible rfl
  simp only [Act.put, List.setIfInBounds_toArray, List.set_cons_zero, List.set_cons_succ, List.getElem_toArray, List.getElem_cons_zero, List.getElem_cons_succ]
  refine wpAnyH_ready (rs := [9]) (by kernel_rfl) (by simp) ?_
  refine AllReadyH.cons rfl (fun Kc hKc => ?_) AllReadyH.nil
  go_simp
  go_wp2_with (first | (go_at_call 14; refine (PSM.out _ hHeld.1 hHeld.2.1).mono ?_; rintro e w7 ⟨rfl, hb'⟩) | (go_at_call 8; refine (PEN.out _ hHeld.2.1).mono ?_; rintro e w8 ⟨v8, rfl, ho8, hb'⟩; have cv8 := HCV.out _ _ ho8.at; clear ho8))
  refine hKc.out _ _ ?_ (fun hHeld => ?_)
  · first | assumption | exact ⟨hHeld.1.kept hb', hHeld.2.1.kept hb', hHeld.2.2.1.kept hb', HCV.out _ _ (hHeld.2.2.1.kept hb'), btr hHeld.2.2.2.2 hb'⟩
  clear hKc Kc
  refine wpAnyH_take (i := 10) (v := ?_) rfl (by kernel_rfl) (by kernel_rfl) (by kernel_rfl) (fun _ _ _ h => h) (Or.inl ⟨by rfl, ?_⟩) (by assumption) ?_
  rotate_left
  · intro w hSw
    try dsimp only at hSw
    go_simp
    try with_reducible rfl
  simp only [Act.put, List.setIfInBounds_toArray, List.set_cons_zero, List.set_cons_succ, List.getElem_toArray, List.getElem_cons_zero, List.getElem_cons_succ]
  refine wpAnyH_take (i := 11) (v := ?_) rfl (by kernel_rfl) (by kernel_rfl) (by kernel_rfl) (fun _ _ _ h => h) (Or.inl ⟨by rfl, ?_⟩) (by assumption) ?_
  rotate_left
  · intro w hSw
    try dsimp only at hSw
    go_simp
    try with_reducible rfl
  simp only [Act.put, List.setIfInBounds_toArray, List.set_cons_zero, List.set_cons_succ, List.getElem_toArray, List.getElem_cons_zero, List.getElem_cons_succ]
  refine wpAnyH_take (i := 12) (v := ?_) rfl (by kernel_rfl) (by kernel_rfl) (by kernel_rfl) (fun _ _ _ h => h) (Or.inl ⟨by rfl, ?_⟩) (by assumption) ?_
  rotate_left
  · intro w hSw
    try dsimp only at hSw
    go_simp
    try with_reducible rfl
  simp only [Act.put, List.setIfInBounds_toArray, List.set_cons_zero, List.set_cons_succ, List.getElem_toArray, List.getElem_cons_zero, List.getElem_cons_succ]
  refine wpAnyH_take (i := 13) (v := ?_) rfl (by kernel_rfl) (by kernel_rfl) (by kernel_rfl) (fun _ _ _ h => h) (Or.inl ⟨by rfl, ?_⟩) (by assumption) ?_
  rotate_left
  · intro w hSw
    try dsimp only at hSw
    go_simp
    try with_reducible rfl
  simp only [Act.put, List.setIfInBounds_toArray, List.set_cons_zero, List.set_cons_succ, List.getElem_toArray, List.getElem_cons_zero, List.getElem_cons_succ]
  refine wpAnyH_take (i := 16) (v := ?_) rfl (by kernel_rfl) (by kernel_rfl) (by kernel_rfl) (fun _ _ _ h => h) (Or.inl ⟨by rfl, ?_⟩) (by assumption) ?_
  rotate_left
  · intro w hSw
    try dsimp only at hSw
    go_simp
    try with_reducible rfl
  simp only [Act.put, List.setIfInBounds_toArray, List.set_cons_zero, List.set_cons_succ, List.getElem_toArray, List.getElem_cons_zero, List.getElem_cons_succ]
  refine wpAnyH_take (i := 17) (v := ?_) rfl (by kernel_rfl) (by kernel_rfl) (by kernel_rfl) (fun _ _ _ h => h) (Or.inl ⟨by rfl, ?_⟩) (by assumption) ?_
  rotate_left
  · intro w hSw
    try dsimp only at hSw
    go_simp
    try with_reducible rfl
  simp only [Act.put, List.setIfInBounds_toArray, List.set_cons_zero, List.set_cons_succ, List.getElem_toArray, List.getElem_cons_zero, List.getElem_cons_succ]
  refine wpAnyH_ready (rs := [14]) (by kernel_rfl) (by simp) ?_
  refine AllReadyH.cons rfl (fun Kc hKc => ?_) AllReadyH.nil
  go_simp
  go_wp2_with (first | (go_at_call 14; refine (PSM.out _ hHeld.1 hHeld.2.1).mono ?_; rintro e w7 ⟨rfl, hb'⟩) | (go_at_call 8; refine (PEN.out _ hHeld.2.1).mono ?_; rintro e w8 ⟨v8, rfl, ho8, hb'⟩; have cv8 := HCV.out _ _ ho8.at; clear ho8))
  refine hKc.out _ _ ?_ (fun hHeld => ?_)
  · first | assumption | exact ⟨hHeld.1.kept hb', hHeld.2.1.kept hb', hHeld.2.2.1.kept hb', HCV.out _ _ (hHeld.2.2.1.kept hb'), btr hHeld.2.2.2.2 hb'⟩
  clear hKc Kc
  refine wpAnyH_ready (rs := [15]) (by kernel_rfl) (by simp) ?_
  refine AllReadyH.cons rfl (fun Kc hKc => ?_) AllReadyH.nil
  go_simp
  refine hKc.out _ _ ?_ (fun hHeld => ?_)
  · first | assumption | exact ⟨hHeld.1.kept hb', hHeld.2.1.kept hb', hHeld.2.2.1.kept hb', HCV.out _ _ (hHeld.2.2.1.kept hb'), btr hHeld.2.2.2.2 hb'⟩
  clear hKc Kc
  refine wpAnyH_take (i := 18) (v := ?_) rfl (by kernel_rfl) (by kernel_rfl) (by kernel_rfl) (fun _ _ _ h => h) (Or.inl ⟨by rfl, ?_⟩) (by assumption) ?_
  rotate_left
  · intro w hSw
    try dsimp only at hSw
    go_simp
    try with_reducible rfl
  simp only [Act.put, List.setIfInBounds_toArray, List.set_cons_zero, List.set_cons_succ, List.getElem_toArray, List.getElem_cons_zero, List.getElem_cons_succ]
  refine wpAnyH_take (i := 19) (v := ?_) rfl (by kernel_rfl) (by kernel_rfl) (by kernel_rfl) (fun _ _ _ h => h) (Or.inl ⟨by rfl, ?_⟩) (by assumption) ?_
  rotate_left
  · intro w hSw
    try dsimp only at hSw
    go_simp
    try with_reducible rfl
  simp only [Act.put, List.setIfInBounds_toArray, List.set_cons_zero, List.set_cons_succ, List.getElem_toArray, List.getElem_cons_zero, List.getElem_cons_succ]
  refine wpAnyH_done (by kernel_rfl) ?_ _
  have HST8 := Lib.hid hHeld.2.1
  have HB38 := Lib.hid (btr HB35.out hHeld.2.2.2.2)
  have HB48 := Lib.hid (btr HB45.out hHeld.2.2.2.2)
  have HBK8 := Lib.hid (HBK5.out.kept hHeld.2.2.2.2)
  have HU8 := Lib.hid (HU5.out.kept hHeld.2.2.2.2)
  have PU := Lib.hid (stupdate w8 w4.heap.size T LT b r d m s XT AT GT CT Z HST8.out s0 s1 ku hku du hdu)
  have k0 := HU8.out.cell 0
  have k1 := HU8.out.cell 1
  simp at k0 k1
  clear hHeld cv8 hb'
  go_wp2_with fail
  with_reducible refine PU.out.mono ?_
  intro e w9 hp
  have hq := hp.1
  subst hq
  have HB39 : Hid (Below w3.heap.size w3 w9) := Lib.hid (HB38.out.trans ((hp.below HST8.out HB48.out.size).mono HTB.out))
  have HBK9 := Lib.hid (hp.far HST8.out HBK8.out (by decide))
  clear hp k0 k1
  obtain ⟨nl, hnl⟩ : ∃ nl, nl = lb.length := ⟨_, rfl⟩
  rw [← hnl] at HCS HLE ⊢
  have hnl2 : nl ≤ 100000 := HLE.out
  clear hnl
  go_wp2_with fail
  go_loopw [11] (fun i wr => ∃ (j : Nat) (cu : Array Value), j ≤ nl ∧ i = .int .i64 (j : Int) ∧ Blk wr g 5 cu ∧ nl ≤ cu.size ∧ Below w3.heap.size w3 wr) (fun i _ => nl - (intOf i).toNat)
  case atStart => exact ⟨0, cur, by omega, rfl, HBK9.out, HCS.out, HB39.out⟩
  case round =>
    obtain ⟨j, cu, hj, rfl, hbk, hcu, hbel⟩ := hrel
    have HBKr := Lib.hid hbk
    have HBr := Lib.hid hbel
    by_cases hlt : j < nl
    · have cx : ∃ x, wr.cell? ⟨g, j, none⟩ = some x := ⟨_, (hbk.cell j).trans (Array.getElem?_eq_getElem (by omega))⟩
      obtain ⟨x, cx⟩ := cx
      have fx := hbk.frozen j
      have i0 : (0 : Int) ≤ (j : Int) := by omega
      have i1 : (j : Int) < (nl : Int) := by omega
      clear hbk hbel
      go_wp2
      go_roundw
      case rel => exact ⟨j + 1, _, by omega, by go_num, HBKr.out.set_ j _, by simpa using hcu, HBr.out.setCell (p := ⟨g, j, none⟩) HG.out _⟩
      case measure => simp [intOf]; omega
    · have hge : nl ≤ j := by omega
      have HTE := Lib.hid (HT3.out.kept hbel)
      have PSE := Lib.hid HTE.out.same
      have HBE := Lib.hid (btr HB3.out hbel)
      clear hbk hbel
      go_wp2_with fail
      with_reducible refine PSE.out.mono ?_
      rintro e w10 ⟨rfl, hb⟩
      have HB10 := Lib.hid (btr HBE.out hb)
      clear hb
      go_wp2
      go_ret
      exact ⟨rfl, HB10.out⟩
end Go.Proofs.YtbghchgmoiniiaaGreat

/-
  Plain: bytes with their sum behind them, of which at most four next to each other are changed, have not their sum behind them; what is cut off of a stack's bytes, or more than them, is no stack. Conditions: none beyond those stated at each theorem.
-/
namespace Go.Proofs.YtbghchgmoiniiaaGreat
open Go.RowKit
set_option linter.unusedVariables false
set_option linter.unusedSimpArgs false

theorem xor_swap (a b c : BitVec 32) : a ^^^ b ^^^ c = a ^^^ c ^^^ b := by
  rw [BitVec.xor_assoc, BitVec.xor_comm b c, ← BitVec.xor_assoc]
theorem xor_zero_eq {a b : BitVec 32} (h : a ^^^ b = 0#32) : a = b := by
  have h1 : a ^^^ b ^^^ b = 0#32 ^^^ b := by rw [h]
  rw [BitVec.xor_assoc, BitVec.xor_self, BitVec.xor_zero, BitVec.zero_xor] at h1
  exact h1
theorem step1_zero {r : BitVec 32} (h : step1 r = 0#32) : r = 0#32 := by
  unfold step1 at h
  cases hb : r.getLsbD 0
  · rw [hb] at h
    simp at h
    apply BitVec.eq_of_getLsbD_eq
    intro i hi
    cases i with
    | zero => rw [hb]; simp
    | succ i =>
      have h1 := congrArg (fun x => BitVec.getLsbD x i) h
      simp only [BitVec.getLsbD_ushiftRight] at h1
      rw [show i + 1 = 1 + i by omega, h1]
      simp
  · rw [hb] at h
    simp at h
    have h1 := congrArg (fun x => BitVec.getLsbD x 31) h
    simp only [BitVec.getLsbD_xor, BitVec.getLsbD_ushiftRight] at h1
    rw [show r.getLsbD (1 + 31) = false from BitVec.getLsbD_of_ge _ _ (by omega), show PO.getLsbD 31 = true by decide +kernel] at h1
    simp at h1
theorem step1_inj {a b : BitVec 32} (h : step1 a = step1 b) : a = b := by
  apply xor_zero_eq
  apply step1_zero
  rw [step1_xor, h, BitVec.xor_self]
theorem stepN_inj (n : Nat) {a b : BitVec 32} (h : stepN n a = stepN n b) : a = b := by
  induction n with
  | zero => exact h
  | succ n ih => exact ih (step1_inj h)
theorem stepN_add (n k : Nat) (a : BitVec 32) : stepN (k + n) a = stepN k (stepN n a) := by
  induction k with
  | zero => rw [Nat.zero_add]; rfl
  | succ k ih => rw [show k + 1 + n = (k + n) + 1 by omega, stepN, ih, stepN]
theorem xor_right_inj {a b x : BitVec 32} (h : a ^^^ x = b ^^^ x) : a = b := by
  apply xor_zero_eq
  have h1 : a ^^^ b = (a ^^^ x) ^^^ (b ^^^ x) := by rw [BitVec.xor_comm b x, ← BitVec.xor_assoc, BitVec.xor_assoc a x x, BitVec.xor_self, BitVec.xor_zero]
  rw [h1, h, BitVec.xor_self]
theorem crcL_inj (l : List Int) : ∀ {a b : BitVec 32}, crcL a l = crcL b l → a = b := by
  induction l with
  | nil => intro a b h; exact h
  | cons x l ih =>
    intro a b h
    have h1 := stepN_inj 8 (ih h)
    exact xor_right_inj h1
/-- four bytes as one word -/
def word4 (x0 x1 x2 x3 : BitVec 32) : BitVec 32 := x0 ^^^ x1 <<< 8 ^^^ x2 <<< 16 ^^^ x3 <<< 24
theorem small_shift {x : BitVec 32} (hx : x.toNat < 256) (n : Nat) (hn : n ≤ 24) : stepN n (x <<< n) = x := by
  rw [stepN_shift n _ (fun i hi => by rw [BitVec.getLsbD_shiftLeft]; simp [hi])]
  apply BitVec.eq_of_getLsbD_eq
  intro i hi
  rw [BitVec.getLsbD_ushiftRight, BitVec.getLsbD_shiftLeft]
  by_cases h : n + i < 32
  · simp [h]
  · have : x.getLsbD i = false := by
      rw [BitVec.getLsbD, Nat.testBit_lt_two_pow]
      exact Nat.lt_of_lt_of_le hx (by rw [show (256 : Nat) = 2 ^ 8 from rfl]; exact Nat.pow_le_pow_right (by decide) (by omega))
    simp [h, this]
theorem crcL_four (r : BitVec 32) (a b c d : Int) (ha : (bw a).toNat < 256) (hb : (bw b).toNat < 256) (hc : (bw c).toNat < 256) (hd : (bw d).toNat < 256) :
    crcL r [a, b, c, d] = stepN 32 (r ^^^ word4 (bw a) (bw b) (bw c) (bw d)) := by
  show stepN 8 (stepN 8 (stepN 8 (stepN 8 (r ^^^ bw a) ^^^ bw b) ^^^ bw c) ^^^ bw d) = _
  have e1 : stepN 8 (r ^^^ bw a) ^^^ bw b = stepN 8 (r ^^^ bw a ^^^ bw b <<< 8) := by rw [stepN_xor 8 (r ^^^ bw a), small_shift hb 8 (by omega)]
  rw [e1, ← stepN_add 8 8]
  have e2 : stepN (8 + 8) (r ^^^ bw a ^^^ bw b <<< 8) ^^^ bw c = stepN 16 (r ^^^ bw a ^^^ bw b <<< 8 ^^^ bw c <<< 16) := by rw [stepN_xor 16 (r ^^^ bw a ^^^ bw b <<< 8), small_shift hc 16 (by omega)]
  rw [e2, ← stepN_add 16 8]
  have e3 : stepN (8 + 16) (r ^^^ bw a ^^^ bw b <<< 8 ^^^ bw c <<< 16) ^^^ bw d = stepN 24 (r ^^^ bw a ^^^ bw b <<< 8 ^^^ bw c <<< 16 ^^^ bw d <<< 24) := by rw [stepN_xor 24 (r ^^^ bw a ^^^ bw b <<< 8 ^^^ bw c <<< 16), small_shift hd 24 (by omega)]
  rw [e3, ← stepN_add 24 8]
  unfold word4
  simp only [BitVec.xor_assoc]
theorem bw_small {u : Int} (h : 0 ≤ u ∧ u ≤ 255) : (bw u).toNat < 256 := by
  have := nw_bw u (by omega) (by omega)
  unfold nw at this
  omega
/-- the bytes of a word, as a word -/
def byteOf (v : BitVec 32) (i : Nat) : BitVec 32 := (v >>> (8 * i)) &&& 255#32
theorem word_of_bytes (v : BitVec 32) : word4 (byteOf v 0) (byteOf v 1) (byteOf v 2) (byteOf v 3) = v := by
  unfold word4 byteOf
  have hf : ∀ i, i < 32 → (255#32).getLsbD i = decide (i < 8) := by decide +kernel
  have hf2 : ∀ i, (255#32).getLsbD i = decide (i < 8) := fun i => by
    by_cases h : i < 32
    · exact hf i h
    · rw [BitVec.getLsbD_of_ge _ _ (by omega)]; simp; omega
  apply BitVec.eq_of_getLsbD_eq
  intro i hi
  simp only [BitVec.getLsbD_xor, BitVec.getLsbD_shiftLeft, BitVec.getLsbD_and, BitVec.getLsbD_ushiftRight, hf2]
  rcases (show i < 8 ∨ (8 ≤ i ∧ i < 16) ∨ (16 ≤ i ∧ i < 24) ∨ (24 ≤ i ∧ i < 32) by omega) with h | h | h | h
  · have a1 : decide (i < 8) = true := decide_eq_true h
    have a2 : decide (i < 16) = true := decide_eq_true (by omega)
    have a3 : decide (i < 24) = true := decide_eq_true (by omega)
    simp only [a1, a2, a3, Nat.mul_zero, Nat.zero_add, Bool.not_true, Bool.and_false, Bool.false_and, Bool.and_true, Bool.xor_false]
  · have a1 : decide (i < 8) = false := decide_eq_false (by omega)
    have a2 : decide (i < 16) = true := decide_eq_true (by omega)
    have a3 : decide (i < 24) = true := decide_eq_true (by omega)
    have b1 : decide (i - 8 < 8) = true := decide_eq_true (by omega)
    have c1 : 8 * 1 + (i - 8) = i := by omega
    have d1 : decide (i < 32) = true := decide_eq_true hi
    simp only [a1, a2, a3, b1, c1, d1, Bool.not_true, Bool.not_false, Bool.and_false, Bool.false_and, Bool.and_true, Bool.true_and, Bool.xor_false, Bool.false_xor]
  · have a1 : decide (i < 8) = false := decide_eq_false (by omega)
    have a2 : decide (i < 16) = false := decide_eq_false (by omega)
    have a3 : decide (i < 24) = true := decide_eq_true (by omega)
    have b1 : decide (i - 8 < 8) = false := decide_eq_false (by omega)
    have b2 : decide (i - 16 < 8) = true := decide_eq_true (by omega)
    have c1 : 8 * 2 + (i - 16) = i := by omega
    have d1 : decide (i < 32) = true := decide_eq_true hi
    simp only [a1, a2, a3, b1, b2, c1, d1, Bool.not_true, Bool.not_false, Bool.and_false, Bool.false_and, Bool.and_true, Bool.true_and, Bool.xor_false, Bool.false_xor]
  · have a1 : decide (i < 8) = false := decide_eq_false (by omega)
    have a2 : decide (i < 16) = false := decide_eq_false (by omega)
    have a3 : decide (i < 24) = false := decide_eq_false (by omega)
    have b1 : decide (i - 8 < 8) = false := decide_eq_false (by omega)
    have b2 : decide (i - 16 < 8) = false := decide_eq_false (by omega)
    have b3 : decide (i - 24 < 8) = true := decide_eq_true (by omega)
    have c1 : 8 * 3 + (i - 24) = i := by omega
    have d1 : decide (i < 32) = true := decide_eq_true hi
    simp only [a1, a2, a3, b1, b2, b3, c1, d1, Bool.not_true, Bool.not_false, Bool.and_false, Bool.false_and, Bool.and_true, Bool.true_and, Bool.xor_false, Bool.false_xor]
theorem leB_byte (v : BitVec 32) (i : Nat) (hi : i < 4) : bw (nw v / 256 ^ i % 256) = byteOf v i := by
  have e : nw v / 256 ^ i % 256 = nw (byteOf v i) := by
    unfold nw byteOf
    rw [BitVec.toNat_and, BitVec.toNat_ushiftRight, show (255#32).toNat = 2 ^ 8 - 1 from rfl, Nat.and_two_pow_sub_one_eq_mod, Nat.shiftRight_eq_div_pow, Nat.pow_mul]
    rw [show (2 : Nat) ^ 8 = 256 from rfl, Int.natCast_emod, Int.natCast_ediv, Int.natCast_pow]
    rfl
  rw [e, bw_nw]
/-- four bytes as one word -/
def wordL : List Int → BitVec 32
  | [a, b, c, d] => word4 (bw a) (bw b) (bw c) (bw d)
  | _ => 0
theorem four_list {l : List Int} (h : l.length = 4) : ∃ a b c d, l = [a, b, c, d] := by
  match l, h with
  | [a, b, c, d], _ => exact ⟨a, b, c, d, rfl⟩
theorem wordL_leB (v : BitVec 32) : wordL (leB (nw v) 4) = v := by
  have e : leB (nw v) 4 = [nw v / 256 ^ 0 % 256, nw v / 256 ^ 1 % 256, nw v / 256 ^ 2 % 256, nw v / 256 ^ 3 % 256] := rfl
  rw [e]
  show word4 (bw (nw v / 256 ^ 0 % 256)) (bw (nw v / 256 ^ 1 % 256)) (bw (nw v / 256 ^ 2 % 256)) (bw (nw v / 256 ^ 3 % 256)) = v
  rw [leB_byte v 0 (by omega), leB_byte v 1 (by omega), leB_byte v 2 (by omega), leB_byte v 3 (by omega)]
  exact word_of_bytes v
theorem crcL_word (r : BitVec 32) {l : List Int} (h : l.length = 4) (hb : Byts l) : crcL r l = stepN 32 (r ^^^ wordL l) := by
  obtain ⟨a, b, c, d, rfl⟩ := four_list h
  exact crcL_four r a b c d (bw_small (hb a (by simp))) (bw_small (hb b (by simp))) (bw_small (hb c (by simp))) (bw_small (hb d (by simp)))
theorem xor_not (r : BitVec 32) : r ^^^ ~~~ r = ~~~ 0#32 := by
  apply BitVec.eq_of_getLsbD_eq
  intro i hi
  rw [BitVec.getLsbD_xor, BitVec.getLsbD_not, BitVec.getLsbD_not]
  cases r.getLsbD i <;> simp [hi]
/-- what all bytes come to that have their sum behind them -/
theorem sum_rest {p : List Int} : crcL (~~~ 0#32) (signB p) = stepN 32 (~~~ 0#32) := by
  unfold signB
  rw [crcL_append, crcL_word _ (leB_len _ _) (leB_byts _ _)]
  have h0 : bw 0 = 0#32 := by decide +kernel
  unfold sumI
  rw [h0, wordL_leB, xor_not]
/-- four bytes next to each other, changed -/
theorem burst {u w1 w2 v : List Int} (h1 : w1.length = 4) (h2 : w2.length = 4) (b1 : Byts w1) (b2 : Byts w2) (hne : wordL w1 ≠ wordL w2) {p q : List Int} (e1 : u ++ (w1 ++ v) = signB p) (e2 : u ++ (w2 ++ v) = signB q) : False := by
  have a1 := sum_rest (p := p)
  have a2 := sum_rest (p := q)
  rw [← e1, crcL_append, crcL_append] at a1
  rw [← e2, crcL_append, crcL_append] at a2
  have h := crcL_inj v (a1.trans a2.symm)
  rw [crcL_word _ h1 b1, crcL_word _ h2 b2] at h
  have h' := stepN_inj 32 h
  rw [BitVec.xor_comm, BitVec.xor_comm _ (wordL w2)] at h'
  exact hne (xor_right_inj h')
/-- bytes xored with those of a word are another word -/
theorem word_xor {a b c d a' b' c' d' : Int} {y : BitVec 32} (ha : bw a' = bw a ^^^ byteOf y 0) (hb : bw b' = bw b ^^^ byteOf y 1) (hc : bw c' = bw c ^^^ byteOf y 2) (hd : bw d' = bw d ^^^ byteOf y 3) :
    wordL [a', b', c', d'] = wordL [a, b, c, d] ^^^ y := by
  show word4 (bw a') (bw b') (bw c') (bw d') = word4 (bw a) (bw b) (bw c) (bw d) ^^^ y
  conv => rhs; rw [← word_of_bytes y]
  unfold word4
  rw [ha, hb, hc, hd, BitVec.shiftLeft_xor_distrib, BitVec.shiftLeft_xor_distrib, BitVec.shiftLeft_xor_distrib]
  apply BitVec.eq_of_getLsbD_eq
  intro i hi
  simp only [BitVec.getLsbD_xor]
  cases (bw a).getLsbD i <;> cases (byteOf y 0).getLsbD i <;> cases (bw b <<< 8).getLsbD i <;> cases (byteOf y 1 <<< 8).getLsbD i <;> cases (bw c <<< 16).getLsbD i <;> cases (byteOf y 2 <<< 16).getLsbD i <;> cases (bw d <<< 24).getLsbD i <;> cases (byteOf y 3 <<< 24).getLsbD i <;> rfl
theorem word_same {v y : BitVec 32} (h : v = v ^^^ y) : y = 0#32 := by
  have : v ^^^ v = v ^^^ (v ^^^ y) := by rw [← h]
  rw [BitVec.xor_self, ← BitVec.xor_assoc, BitVec.xor_self, BitVec.zero_xor] at this
  exact this.symm
/-- what begins as a stack's bytes and is not just them has another length -/
theorem body_rest {b r d m s b' r' d' m' s' : Int} {Z Z' : Nat → List Int} {p q : List Int} (hr : rightB b r d m = true) (s0 : 0 ≤ s) (s1 : s < 18446744073709551616) (hz : Shaped b r d m Z (b.toNat + 1))
    (hr' : rightB b' r' d' m' = true) (s0' : 0 ≤ s') (s1' : s' < 18446744073709551616) (hz' : Shaped b' r' d' m' Z' (b'.toNat + 1))
    (h : headB b r d m s ++ rowsB Z (b.toNat + 1) ++ p = headB b' r' d' m' s' ++ rowsB Z' (b'.toNat + 1) ++ q) : p = q := by
  rw [List.append_assoc, List.append_assoc, headB_cfg, headB_cfg] at h
  have h := List.append_cancel_left h
  have k1 : CfgS (putN b.toNat ++ (putN r.toNat ++ (putN d.toNat ++ (putN m.toNat ++ (leB s 8 ++ (rowsB Z (b.toNat + 1) ++ p)))))) b r d m s (rowsB Z (b.toNat + 1) ++ p) := ⟨hr, s0, s1, rfl⟩
  have k2 : CfgS (putN b.toNat ++ (putN r.toNat ++ (putN d.toNat ++ (putN m.toNat ++ (leB s 8 ++ (rowsB Z (b.toNat + 1) ++ p)))))) b' r' d' m' s' (rowsB Z' (b'.toNat + 1) ++ q) := ⟨hr', s0', s1', h⟩
  obtain ⟨rfl, rfl, rfl, rfl, rfl, e⟩ := k1.unique k2
  exact (rowsB_inj hz hz' e).2
/-- a stack's bytes, cut off ahead of their sum, and signed anew -/
theorem dec_cut {b r d m s : Int} {Z : Nat → List Int} (hr : rightB b r d m = true) (s0 : 0 ≤ s) (s1 : s < 18446744073709551616) (hz : Shaped b r d m Z (b.toNat + 1)) {cut : Nat} (hc : cut < (headB b r d m s ++ rowsB Z (b.toNat + 1)).length) :
    DecNo (signB ((headB b r d m s ++ rowsB Z (b.toNat + 1)).take cut)) := fun b' r' d' m' s' Z' k => by
  obtain ⟨hr', s0', s1', hz', e⟩ := k
  have e := signB_inj e
  have h := body_rest (p := []) (q := (headB b r d m s ++ rowsB Z (b.toNat + 1)).drop cut) hr s0 s1 hz hr' s0' s1' hz' (by rw [← e, List.append_nil, List.take_append_drop])
  have := congrArg List.length h
  rw [List.length_drop] at this
  simp only [List.length_nil] at this
  omega
/-- and with one byte more -/
theorem dec_more {b r d m s : Int} {Z : Nat → List Int} (hr : rightB b r d m = true) (s0 : 0 ≤ s) (s1 : s < 18446744073709551616) (hz : Shaped b r d m Z (b.toNat + 1)) (x : Int) :
    DecNo (signB (headB b r d m s ++ rowsB Z (b.toNat + 1) ++ [x])) := fun b' r' d' m' s' Z' k => by
  obtain ⟨hr', s0', s1', hz', e⟩ := k
  have e := signB_inj e
  have h := body_rest (p := [x]) (q := []) hr s0 s1 hz hr' s0' s1' hz' (by rw [e, List.append_nil])
  cases h
end Go.Proofs.YtbghchgmoiniiaaGreat

/-
  Plain: four bytes next to each other, xored with those of a word. Conditions: none beyond those stated at each theorem.
-/
namespace Go.Proofs.YtbghchgmoiniiaaGreat
open Go.RowKit
set_option linter.unusedVariables false
set_option linter.unusedSimpArgs false

theorem bw_nat {a : Int} (h : 0 ≤ a ∧ a ≤ 255) : (bw a).toNat = a.toNat := by
  unfold bw
  rw [BitVec.toNat_ofInt]
  omega
theorem xor_u8 {a c : Int} (ha : 0 ≤ a ∧ a ≤ 255) (hc : 0 ≤ c ∧ c ≤ 255) : bits BinOp.xor IntKind.u8 a c = nw (bw a ^^^ bw c) ∧ 0 ≤ nw (bw a ^^^ bw c) ∧ nw (bw a ^^^ bw c) ≤ 255 := by
  have h1 : (BitVec.ofInt 8 a ^^^ BitVec.ofInt 8 c).toNat = (bw a ^^^ bw c).toNat := by
    rw [BitVec.toNat_xor, BitVec.toNat_xor, bw_nat ha, bw_nat hc, BitVec.toNat_ofInt, BitVec.toNat_ofInt]
    congr 1 <;> omega
  have h2 : (BitVec.ofInt 8 a ^^^ BitVec.ofInt 8 c).toNat < 256 := (BitVec.ofInt 8 a ^^^ BitVec.ofInt 8 c).isLt
  refine ⟨?_, (nw_bd _).1, ?_⟩
  · show IntKind.u8.wrap ((BitVec.ofInt 8 a ^^^ BitVec.ofInt 8 c).toNat : Int) = _
    rw [h1] at h2 ⊢
    unfold nw
    generalize (bw a ^^^ bw c).toNat = t at h2 ⊢
    simp [IntKind.wrap, IntKind.bits, IntKind.signed]
    omega
  · have h3 := h2
    rw [h1] at h3
    unfold nw
    generalize (bw a ^^^ bw c).toNat = t at h3 ⊢
    omega
/-- byte number i of a word -/
def byY (y : Int) (i : Nat) : Int := y / 256 ^ i % 256
theorem byY_bd (y : Int) (i : Nat) : 0 ≤ byY y i ∧ byY y i ≤ 255 := by unfold byY; omega
theorem byY_bw {y : Int} (h0 : 0 ≤ y) (h1 : y ≤ 4294967295) {i : Nat} (hi : i < 4) : bw (byY y i) = byteOf (bw y) i := by
  have h := leB_byte (bw y) i hi
  rw [nw_bw y h0 h1] at h
  exact h
/-- the first j of four bytes are xored -/
def xorL (lb : List Int) (p : Nat) (y : Int) (j : Nat) : List Int := (List.range lb.length).map fun k => if p ≤ k ∧ k < p + j then nw (bw (cellD lb k) ^^^ bw (byY y (k - p))) else cellD lb k
theorem xorL_len (lb : List Int) (p : Nat) (y : Int) (j : Nat) : (xorL lb p y j).length = lb.length := by simp [xorL]
theorem xorL_cell {lb : List Int} {p : Nat} {y : Int} {j k : Nat} (hk : k < lb.length) : cellD (xorL lb p y j) k = if p ≤ k ∧ k < p + j then nw (bw (cellD lb k) ^^^ bw (byY y (k - p))) else cellD lb k := by
  unfold xorL
  rw [cellD, List.getElem?_map, List.getElem?_range hk]
  rfl
theorem cells_ext {xs ys : List Int} (hl : xs.length = ys.length) (h : ∀ c, c < xs.length → cellD xs c = cellD ys c) : xs = ys := by
  apply List.ext_getElem?
  intro i
  by_cases hi : i < xs.length
  · have := h i hi
    have h2 : i < ys.length := by omega
    simp only [cellD, List.getElem?_eq_getElem hi, List.getElem?_eq_getElem h2, Option.getD_some] at this ⊢
    rw [this]
  · rw [List.getElem?_eq_none (by omega), List.getElem?_eq_none (by omega)]
theorem xorL_zero (lb : List Int) (p : Nat) (y : Int) : xorL lb p y 0 = lb := cells_ext (xorL_len ..) (fun c hc => by
  rw [xorL_len] at hc
  rw [xorL_cell hc, if_neg (by omega)])
theorem cellD_at {zs : List Int} {k c : Nat} {u : Int} (hk : k < zs.length) : cellD (zs.set k u) c = if k = c then u else cellD zs c := by
  unfold cellD
  rw [List.getElem?_set]
  by_cases e : k = c
  · subst e; simp [hk]
  · simp [e]
theorem xorL_next {lb : List Int} {p : Nat} {y : Int} {j : Nat} (h : p + j < lb.length) : xorL lb p y (j + 1) = (xorL lb p y j).set (p + j) (nw (bw (cellD lb (p + j)) ^^^ bw (byY y j))) := by
  refine cells_ext (by rw [List.length_set, xorL_len, xorL_len]) (fun c hc => ?_)
  rw [xorL_len] at hc
  rw [xorL_cell hc, cellD_at (by rw [xorL_len]; exact h), xorL_cell hc]
  by_cases e : p + j = c
  · subst e
    rw [if_pos (by omega), if_pos rfl, Nat.add_sub_cancel_left]
  · rw [if_neg e]
    by_cases e2 : p ≤ c ∧ c < p + j
    · rw [if_pos (by omega), if_pos e2]
    · rw [if_neg (by omega), if_neg e2]
theorem xorL_at {lb : List Int} {p : Nat} {y : Int} {j : Nat} (h : p + j < lb.length) : cellD (xorL lb p y j) (p + j) = cellD lb (p + j) := by rw [xorL_cell h, if_neg (by omega)]
theorem cellD_byts {lb : List Int} (hb : Byts lb) (k : Nat) : 0 ≤ cellD lb k ∧ cellD lb k ≤ 255 := by
  unfold cellD
  cases h : lb[k]? with
  | none => simp
  | some x => exact hb x (List.mem_of_getElem? h)
theorem xorL_byts {lb : List Int} (hb : Byts lb) (p : Nat) (y : Int) (j : Nat) : Byts (xorL lb p y j) := fun u hu => by
  unfold xorL at hu
  obtain ⟨k, -, rfl⟩ := List.mem_map.1 hu
  show 0 ≤ (if p ≤ k ∧ k < p + j then nw (bw (cellD lb k) ^^^ bw (byY y (k - p))) else cellD lb k) ∧ (if p ≤ k ∧ k < p + j then nw (bw (cellD lb k) ^^^ bw (byY y (k - p))) else cellD lb k) ≤ 255
  split
  · exact (xor_u8 (cellD_byts hb k) (byY_bd y _)).2
  · exact cellD_byts hb k
theorem cut4 {lb : List Int} {p : Nat} (h : p + 4 ≤ lb.length) : lb = lb.take p ++ ([cellD lb p, cellD lb (p + 1), cellD lb (p + 2), cellD lb (p + 3)] ++ lb.drop (p + 4)) := by
  have hg : ∀ k, k < lb.length → lb.drop k = cellD lb k :: lb.drop (k + 1) := fun k hk => by
    rw [List.drop_eq_getElem_cons hk]
    simp [cellD, hk]
  have e : lb.drop p = [cellD lb p, cellD lb (p + 1), cellD lb (p + 2), cellD lb (p + 3)] ++ lb.drop (p + 4) := by
    rw [hg p (by omega), hg (p + 1) (by omega), hg (p + 2) (by omega), hg (p + 3) (by omega)]
    rfl
  rw [← e, List.take_append_drop]
theorem xorL_cut {lb : List Int} {p : Nat} {y : Int} (h : p + 4 ≤ lb.length) : xorL lb p y 4 = lb.take p ++ ([cellD (xorL lb p y 4) p, cellD (xorL lb p y 4) (p + 1), cellD (xorL lb p y 4) (p + 2), cellD (xorL lb p y 4) (p + 3)] ++ lb.drop (p + 4)) := by
  have h1 := cut4 (lb := xorL lb p y 4) (p := p) (by rw [xorL_len]; exact h)
  have h2 : (xorL lb p y 4).take p = lb.take p := cells_ext (by rw [List.length_take, List.length_take, xorL_len]) (fun c hc => by
    rw [List.length_take, xorL_len] at hc
    unfold cellD
    rw [List.getElem?_take, List.getElem?_take, if_pos (by omega), if_pos (by omega)]
    have := xorL_cell (lb := lb) (p := p) (y := y) (j := 4) (k := c) (by omega)
    rw [if_neg (by omega)] at this
    exact this)
  have h3 : (xorL lb p y 4).drop (p + 4) = lb.drop (p + 4) := cells_ext (by rw [List.length_drop, List.length_drop, xorL_len]) (fun c hc => by
    rw [List.length_drop, xorL_len] at hc
    unfold cellD
    rw [List.getElem?_drop, List.getElem?_drop]
    have := xorL_cell (lb := lb) (p := p) (y := y) (j := 4) (k := p + 4 + c) (by omega)
    rw [if_neg (by omega)] at this
    exact this)
  rw [h2, h3] at h1
  exact h1
/-- bytes with their sum, four of them changed, have not their sum -/
theorem spoilt {p0 : List Int} {p : Nat} {y : Int} (hb : Byts p0) (h : p + 4 ≤ (signB p0).length) (y0 : 0 ≤ y) (y1 : y ≤ 4294967295) (hy : y ≠ 0) (q : List Int) : xorL (signB p0) p y 4 ≠ signB q := fun e => by
  have hbs := signB_byts hb
  have e1 := (cut4 h).symm
  have e2 := (xorL_cut (y := y) h).symm.trans e
  have hx : ∀ i, i < 4 → bw (cellD (xorL (signB p0) p y 4) (p + i)) = bw (cellD (signB p0) (p + i)) ^^^ byteOf (bw y) i := fun i hi => by
    rw [xorL_cell (by omega), if_pos (by omega), Nat.add_sub_cancel_left, bw_nw, byY_bw y0 y1 hi]
  have hw := word_xor (hx 0 (by omega)) (hx 1 (by omega)) (hx 2 (by omega)) (hx 3 (by omega))
  have hb4 : ∀ (l : List Int), Byts l → ∀ k, Byts [cellD l k, cellD l (k + 1), cellD l (k + 2), cellD l (k + 3)] := fun l hl k u hu => by
    simp at hu
    rcases hu with rfl | rfl | rfl | rfl <;> exact cellD_byts hl _
  refine burst rfl rfl (hb4 _ hbs p) (hb4 _ (xorL_byts hbs p y 4) p) (fun h2 => ?_) e1 e2
  rw [show wordL [cellD (xorL (signB p0) p y 4) p, cellD (xorL (signB p0) p y 4) (p + 1), cellD (xorL (signB p0) p y 4) (p + 2), cellD (xorL (signB p0) p y 4) (p + 3)] = _ from hw] at h2
  have h3 := word_same h2
  have h4 := nw_bw y y0 y1
  rw [h3] at h4
  exact hy (by rw [← h4]; decide +kernel)
theorem xorL_nought {lb : List Int} (hb : Byts lb) (p : Nat) (j : Nat) : xorL lb p 0 j = lb := cells_ext (xorL_len ..) (fun c hc => by
  rw [xorL_len] at hc
  rw [xorL_cell hc]
  split
  · have h0 : byY 0 (c - p) = 0 := by unfold byY; simp
    have h1 : bw 0 = 0#32 := by decide +kernel
    rw [h0, h1, BitVec.xor_zero]
    have := cellD_byts hb c
    exact nw_bw _ (by omega) (by omega)
  · rfl)
end Go.Proofs.YtbghchgmoiniiaaGreat

/-
  The statement WireSpoilt, walked. Conditions: none beyond those stated at each theorem.
-/
namespace Go.Proofs.YtbghchgmoiniiaaGreat
open Go.RowKit
set_option linter.unusedVariables false
set_option linter.unusedSimpArgs false

def shTwo : Sh := .agg (.cons (.int .i64) (.cons (.int .i64) .unit))
theorem valTwo {w : World} {v : Value} (h : shTwo.Val w v) : ∃ a b : Int, v = .agg #[.int .i64 a, .int .i64 b] := by
  obtain ⟨cs, rfl, h⟩ := h
  obtain ⟨a, q1, e, ha, h2⟩ := Sh.reads_int h
  obtain ⟨b, q2, rfl, hb, h3⟩ := Sh.reads_int h2
  obtain rfl := Sh.reads_unit h3
  exact ⟨a, b, by rw [agg_of_list e]⟩
theorem valU32 {w : World} {v : Value} (h : (Sh.int .u32).Val w v) : ∃ y : Int, v = .int .u32 y ∧ 0 ≤ y ∧ y ≤ 4294967295 := by
  obtain ⟨n, e, hn⟩ := h
  simp [Lit.wf, IntKind.min, IntKind.max, IntKind.signed, IntKind.bits] at hn
  exact ⟨n, by simpa using e, by omega, by omega⟩
theorem errOf_sum {bs : List Int} (h4 : 4 ≤ bs.length) (h : ∀ q, bs ≠ signB q) : errOf bs = 9 := by
  unfold errOf
  rw [if_neg (by omega), if_neg (fun e => h _ e.symm)]
theorem errOf_own (bs : List Int) : errOf (signB bs) = 8 := by
  unfold errOf
  have : (signB bs).take ((signB bs).length - 4) = bs := by
    rw [signB_len, Nat.add_sub_cancel, signB, List.take_left]
  rw [if_neg (by rw [signB_len]; omega), this, if_pos rfl]
/-- what is no encoding is refused -/
theorem decode_no {w : World} {v : Value} {bs : List Int} (hv : BytesAt w v bs) (hb : Byts bs) (hl : bs.length ≤ 100000) (hno : DecNo bs) :
    Calls Tryz.prog 13 #[v] w fun e w' => e = .returned (.tuple #[.pointer none, .int .i64 (errOf bs)]) ∧ Below w.heap.size w w' := by
  refine (decode_any w v bs hv hb hl).mono ?_
  rintro e w' ⟨⟨b, r, d, m, s, Z, S, L, X, A, G, C, hds, -⟩ | ⟨-, rfl⟩, hb⟩
  · exact absurd hds (hno _ _ _ _ _ _)
  · exact ⟨rfl, hb⟩
/-- four bytes of an encoding xored: refused, or as it was -/
def SpP (w : World) (y : Int) (e : Ending) (w' : World) : Prop :=
  ∃ (T : Option Addr) (c : Int), e = .returned (.tuple #[.pointer T, .int .i64 c]) ∧ (y ≠ 0 → T = none ∧ c = 9) ∧ (y = 0 → c = 0) ∧ Below w.heap.size w w'
theorem decode_xor {w : World} {v : Value} {b r d m s : Int} {Z : Nat → List Int} {p : Nat} {y : Int} (hr : rightB b r d m = true) (s0 : 0 ≤ s) (s1 : s < 18446744073709551616) (hz : Shaped b r d m Z (b.toNat + 1)) (hl : (encB b r d m s Z).length ≤ 100000)
    (hp : p + 4 ≤ (encB b r d m s Z).length) (y0 : 0 ≤ y) (y1 : y ≤ 4294967295) (hv : BytesAt w v (xorL (encB b r d m s Z) p y 4)) :
    Calls Tryz.prog 13 #[v] w (SpP w y) := by
  have hby : Byts (encB b r d m s Z) := signB_byts ((headB_byts b r d m s).append (rowsB_byts Z (b.toNat + 1)))
  by_cases hy : y = 0
  · subst hy
    rw [xorL_nought hby] at hv
    refine (decode_own hr s0 s1 hz hl hv).mono ?_
    rintro e w' ⟨T, L, X, A, G, C, rfl, -, hb⟩
    exact ⟨_, _, rfl, fun h => absurd rfl h, fun _ => rfl, hb⟩
  · have hsp : ∀ q, xorL (encB b r d m s Z) p y 4 ≠ signB q := fun q => spoilt ((headB_byts b r d m s).append (rowsB_byts Z (b.toNat + 1))) hp y0 y1 hy q
    refine (decode_no hv (xorL_byts hby p y 4) (by rw [xorL_len]; exact hl) (dec_sum (fun e => hsp _ e.symm))).mono ?_
    rintro e w' ⟨rfl, hb⟩
    rw [errOf_sum (by rw [xorL_len]; omega) hsp]
    exact ⟨_, _, rfl, fun _ => ⟨rfl, rfl⟩, fun h => absurd h hy, hb⟩
theorem OwnB.blk2 {w : World} {base : Nat} {v : Value} {bs : List Int} (h : OwnB w base v bs) (h0 : 0 < bs.length) : ∃ g cap cur, v = .slice (some ⟨g, 0, none⟩) bs.length cap ∧ base ≤ g ∧ Blk w g 5 cur ∧ bs.length ≤ cur.size ∧ bs.length ≤ cap ∧ cap ≤ maxLen ∧ ∀ k, k < bs.length → cur[k]? = some (.int .u8 (cellD bs k)) := by
  rcases h.2 with ⟨-, h1⟩ | ⟨g, cap, cur, e, hb, hg, hn, hm, hs, ht⟩
  · omega
  · refine ⟨g, cap, cur, e, hb, hg, by omega, by omega, hm, fun k hk => ?_⟩
    have h1 : (bs.map (Value.int .u8))[k]? = some (.int .u8 (cellD bs k)) := by rw [List.getElem?_map, cellD, List.getElem?_eq_getElem hk]; rfl
    rw [← ht, List.getElem?_take] at h1
    split at h1
    · simpa using h1
    · cases h1
theorem BytesAt.of_cells {w : World} {g n cap : Nat} {bs : List Int} {cur : Array Value} (hn : n = bs.length) (hb : Blk w g 5 cur) (hc : n ≤ cap) (hm : cap ≤ maxLen) (h : ∀ k, k < n → cur[k]? = some (.int .u8 (cellD bs k))) : BytesAt w (.slice (some ⟨g, 0, none⟩) n cap) bs := by
  subst hn
  refine ⟨_, cap, rfl, hc, hm, .inr ⟨g, 0, rfl, hb.lt, fun i u hu => ?_⟩⟩
  have hi : i < bs.length := (List.getElem?_eq_some_iff.1 hu).1
  rw [Nat.zero_add, hb.cell i, h i hi]
  simp [cellD, hu]
theorem enc_ge (b r d m s : Int) (Z : Nat → List Int) : 10 ≤ (headB b r d m s ++ rowsB Z (b.toNat + 1)).length := by
  unfold headB
  simp only [List.length_append, List.length_cons, List.length_nil, leB_len]
  omega
theorem enc_le6 {b r d m s : Int} {Z : Nat → List Int} (hr : rightB b r d m = true) (hz : Shaped b r d m Z (b.toNat + 1)) (hb : b ≤ 6) : (headB b r d m s ++ rowsB Z (b.toNat + 1)).length ≤ 90000 := by
  have h1 := headB_le (s := s) hr
  have h2 := (rowsB_le hz).2
  have h3 := sizeUp_le hr (b.toNat + 1)
  have := right_of hr
  rw [List.length_append]
  omega
/-- a number below another, out of a word -/
theorem below_of (a : Int) {n : Nat} (h : 0 < n) (z : Int) (hz : z = (n : Int)) : ∃ p : Nat, a % 65536 % z = (p : Int) ∧ p < n := by
  subst hz
  refine ⟨(a % 65536 % (n : Int)).toNat, ?_, ?_⟩
  · have := Int.emod_nonneg (a % 65536) (show (n : Int) ≠ 0 by omega)
    omega
  · have := Int.emod_lt_of_pos (a % 65536) (show (0 : Int) < n by omega)
    have := Int.emod_nonneg (a % 65536) (show (n : Int) ≠ 0 by omega)
    omega
theorem pow_8 (j : Nat) : (2 : Int) ^ (8 * j) = 256 ^ j := by rw [Int.pow_mul]; rfl
set_option maxRecDepth 100000 in
set_option maxHeartbeats 8000000 in
theorem WireSpoilt_walk (v0 v1 v2 : Value) (w : World) (h0 : shPlay.Val w v0) (h1 : shTwo.Val w v1) (h2 : (Sh.int .u32).Val w v2) :
    Calls Tryz.prog 5 #[v0, v1, v2] w fun e w' => e = .returned (.bool true) ∧ Below w.heap.size w w' := by
  obtain ⟨i0', hi, hz0, hz1, hz2⟩ := info_parts Tryz.info8
  obtain ⟨xb, xr, xd, xm, s, l, n, ks, ds, rfl, hl, -, -, -, -, s0, s1⟩ := valPlay h0
  obtain ⟨a0, a1, rfl⟩ := valTwo h1
  obtain ⟨y, rfl, y0, y1⟩ := valU32 h2
  clear h0 h1 h2
  have HL := Lib.hid hl
  obtain ⟨ao, cap, rfl, hmx, -, -⟩ := hl
  have PS := Lib.hid shown23
  have PM := Lib.hid (fun w hl => made_any xb xr xd xm s (.slice ao n cap) n ks ds 6 (by decide) (by decide) s0 s1 w hl)
  have hb8 := anyI_bd xb 6 (by decide)
  obtain ⟨b, hb⟩ : ∃ b, b = anyI xb 6 := ⟨_, rfl⟩
  obtain ⟨r, hr⟩ : ∃ r, r = anyI xr 4 := ⟨_, rfl⟩
  obtain ⟨d, hd⟩ : ∃ d, d = anyI xd 9 := ⟨_, rfl⟩
  obtain ⟨m, hm⟩ : ∃ m, m = anyI xm 3 := ⟨_, rfl⟩
  rw [← hb, ← hr, ← hd, ← hm] at PM
  rw [← hb] at hb8
  clear hb hr hd hm
  obtain ⟨g1, g2, hb1, hsz1⟩ := news2 w (.cells #[.int .i64 xb, .int .i64 xr, .int .i64 xd, .int .i64 xm, .int .u64 s, .slice ao n cap] 27) (.cells #[.int .i64 a0, .int .i64 a1] 50)
  have HX1 : Hid (Blk _ w.heap.size 27 #[.int .i64 xb, .int .i64 xr, .int .i64 xd, .int .i64 xm, .int .u64 s, .slice ao n cap]) := Lib.hid g1
  have HU1 : Hid (Blk _ (w.heap.size + 1) 50 #[.int .i64 a0, .int .i64 a1]) := Lib.hid g2
  have HB1 := Lib.hid hb1
  clear g1 g2 hb1 hsz1
  go_enter Tryz.func5, Tryz.ntmps5
  go_wp2_with fail
  generalize ((w.alloc (.cells #[.int .i64 xb, .int .i64 xr, .int .i64 xd, .int .i64 xm, .int .u64 s, .slice ao n cap] 27)).alloc (.cells #[.int .i64 a0, .int .i64 a1] 50)) = w1 at *
  with_reducible refine (PS.out _).mono ?_
  rintro e w2 ⟨rfl, hb⟩
  have HB2 := Lib.hid (btr HB1.out hb)
  have hx2 := HX1.out.kept hb
  have HU2 := Lib.hid (HU1.out.kept hb)
  have HL2 := Lib.hid (HL.out.kept (btr HB1.out hb))
  clear hb
  go_wp2_with (refine wpList_load_row rfl 27 _ rfl w.heap.size rfl 27 _ (0, 0) _ hx2 Tryz.underlying27 rfl (by kernel_rfl) ?_)
  with_reducible refine (PM.out _ HL2.out).mono ?_
  rintro e w3 ⟨S, RS, Z, rfl, htw, hb⟩
  have HB3 := Lib.hid (btr HB2.out hb)
  have HU3 := Lib.hid (HU2.out.kept hb)
  have HSH := Lib.hid htw.shaped
  have HRT := Lib.hid htw.right
  have PE := Lib.hid (htw.encode s0 s1 (by omega))
  have HLE : Hid ((encB b r d m s Z).length ≤ 90004) := Lib.hid (by
    have := enc_le6 (s := s) HRT.out HSH.out (by omega)
    unfold encB
    rw [signB_len]
    omega)
  have PD := Lib.hid (fun (wq : World) (v : Value) (p : Nat) hp hv => decode_xor (w := wq) (v := v) (p := p) (y := y) HRT.out s0 (by omega) HSH.out (by have := HLE.out; omega) hp y0 y1 hv)
  have HDC := Lib.hid (fun cut hc => dec_cut HRT.out s0 (show s < 18446744073709551616 by omega) HSH.out (cut := cut) hc)
  have HDM := Lib.hid (dec_more HRT.out s0 (show s < 18446744073709551616 by omega) HSH.out)
  have HBY : Hid (Byts (headB b r d m s ++ rowsB Z (b.toNat + 1))) := Lib.hid ((headB_byts b r d m s).append (rowsB_byts Z (b.toNat + 1)))
  have HGE := Lib.hid (enc_ge b r d m s Z)
  have HEB : Hid (encB b r d m s Z = signB (headB b r d m s ++ rowsB Z (b.toNat + 1))) := Lib.hid rfl
  rw [HEB.out] at HLE PE PD
  generalize headB b r d m s ++ rowsB Z (b.toNat + 1) = body at *
  rw [signB_len] at HLE
  obtain ⟨bl, hbl⟩ : ∃ bl, bl = body.length := ⟨_, rfl⟩
  have HBL := Lib.hid hbl
  have hb10 : 10 ≤ bl := by rw [hbl]; exact HGE.out
  have hble : bl + 4 ≤ 90004 := by rw [hbl]; exact HLE.out
  have HLB : Hid ((signB body).length = bl + 4) := Lib.hid (by rw [signB_len, hbl])
  have HTK : Hid (∀ c, c ≤ bl → (signB body).take c = body.take c) := Lib.hid (fun c hc => by unfold signB; rw [List.take_append_of_le_length (by omega)])
  have HTB : Hid ((signB body).take bl = body) := Lib.hid (by rw [HTK.out bl (by omega), hbl, List.take_length])
  have HBYS := Lib.hid (signB_byts HBY.out)
  clear hb htw hx2 hbl HEB HGE HLE HSH HRT HL2 HB2
  generalize signB body = lb at *
  go_wp2_with fail
  with_reducible refine PE.out.mono ?_
  rintro e w4 ⟨vb, rfl, hob, hb⟩
  obtain ⟨g, cp, cur, rfl, hg, hbk, hcs⟩ := hob.blk (by rw [HLB.out]; omega)
  have HAT := Lib.hid hob.at
  have HB4 := Lib.hid (btr HB3.out hb)
  have HU4 := Lib.hid (HU3.out.kept hb)
  have hcp : bl + 4 ≤ cp := by
    obtain ⟨ao2, cap2, e, h1, -⟩ := hob.at
    simp only [Value.slice.injEq] at e
    obtain ⟨-, -, rfl⟩ := e
    rw [HLB.out] at h1
    exact h1
  rw [HLB.out] at HAT ⊢
  clear hob hb hbk hcs hg
  obtain ⟨p, hp1, hp2⟩ := below_of a0 (n := bl + 1) (by omega) ((bl : Int) + 4 - 3) (by omega)
  obtain ⟨c, hc1, hc2⟩ := below_of a1 (n := bl) (by omega) (bl : Int) rfl
  have q0 := HU4.out.cell 0
  simp at q0
  have hand := and16 a0
  have HO1 := Lib.hid (World.ownsRow_lit (base := w4.heap.size) (e := 5) (size := 1) w4 #[] 0 (Nat.le_refl _) (by unfold maxLen; omega) (by simp))
  have HB5 : Hid (Below w4.heap.size w4 (w4.alloc (.cells #[] 5))) := Lib.hid ((Below.refl _ _).alloc (Nat.le_refl _) _)
  have HNEWS := Lib.hid (HAT.out.news HLB.out.symm _ HB5.out)
  have HC1 := Lib.hid hc1
  clear hc1
  go_wp2_with (at_builtin; refine wpList_append_lit rfl _ _ 33 rfl w4.heap.size 5 i0' (.int .u8 0) 1 Tryz.underlying33 hi hz0 hz1 hz2 rfl w4.heap.size 0 rfl HO1.out (some ⟨g, 0, none⟩) (bl + 4) cp (lb.map (Value.int .u8)) rfl (by rw [List.length_map]; exact HLB.out) HNEWS.out (fun u hu => by obtain ⟨z, -, rfl⟩ := List.mem_map.1 hu; rfl) (by unfold maxLen; omega) (by omega) (by simp) ?_)
  intro v5 w5 o5 g5 n5 q5
  have HO5 : Hid (OwnB w5 w4.heap.size v5 lb) := Lib.hid (by unfold OwnB; rw [HLB.out]; exact o5)
  have HB45 : Hid (Below w4.heap.size w4 w5) := Lib.hid (HB5.out.grown g5 (by simp) (fun q e => by have := Option.some.inj e; omega))
  obtain ⟨gc, cc, cur2, hv5, hg2, hbk2, hcs2, hcc, hcm, hcells⟩ := HO5.out.blk2 (by rw [HLB.out]; omega)
  subst hv5
  rw [HLB.out] at hcs2 hcc hcells ⊢
  have HBK5 := Lib.hid hbk2
  have HCL5 := Lib.hid hcells
  have HU5 := Lib.hid (HU4.out.kept HB45.out)
  have HAT5 := Lib.hid (HAT.out.kept HB45.out)
  clear o5 g5 n5 q5 HO1 HB5 HNEWS hbk2 hcells hand q0 HO5
  go_wp2_with fail
  go_loopw [13] (fun i wr => ∃ (j : Nat) (cu : Array Value), j ≤ 4 ∧ i = .int .i64 (j : Int) ∧ Blk wr gc 5 cu ∧ bl + 4 ≤ cu.size ∧ (∀ k, k < bl + 4 → cu[k]? = some (.int .u8 (cellD (xorL lb p y j) k))) ∧ Below w4.heap.size w4 wr) (fun i _ => 4 - (intOf i).toNat)
  case atStart => exact ⟨0, cur2, by omega, rfl, HBK5.out, hcs2, by rw [xorL_zero]; exact HCL5.out, HB45.out⟩
  case round =>
    obtain ⟨j, cu, hj, rfl, hbk, hcu, hcl, hbel⟩ := hrel
    have HBKr := Lib.hid hbk
    have HBr := Lib.hid hbel
    have HCr := Lib.hid hcl
    by_cases hlt : j < 4
    · have pj0 : (p : Int) + (j : Int) ≤ 100000 := by omega
      have pj1 : 0 ≤ (p : Int) + (j : Int) := by omega
      have cx := (hbk.cell (p + j)).trans (hcl (p + j) (by omega))
      have fx := hbk.frozen (p + j)
      have i1 : (p : Int) + (j : Int) < (bl : Int) + 4 := by omega
      have i2 : (j : Int) < 4 := by omega
      have hbd := (HBYS.out).cellD (p + j)
      rw [xorL_at (by rw [HLB.out]; omega)] at cx
      generalize hcx : cellD lb (p + j) = x at cx hbd
      have HCX := Lib.hid hcx
      clear hcx
      clear hbk hbel hcl
      have HBL : Hid (bits BinOp.xor IntKind.u8 x (y / 2 ^ (8 * j) % 256) = nw (bw (cellD lb (p + j)) ^^^ bw (byY y j))) := Lib.hid (by
        rw [HCX.out]
        exact (xor_u8 hbd (byY_bd y j)).1.symm ▸ (by unfold byY; rw [pow_8]))
      go_wp2_with fail
      go_roundw
      case rel =>
        refine ⟨j + 1, _, by omega, by go_num, HBKr.out.set_ (p + j) _, by simpa using hcu, fun k hk => ?_, HBr.out.setCell (p := ⟨gc, p + j, none⟩) hg2 _⟩
        rw [xorL_next (by rw [HLB.out]; omega), cellD_at (by rw [xorL_len, HLB.out]; omega), HBL.out]
        by_cases e : p + j = k
        · subst e
          rw [if_pos rfl, Array.getElem?_setIfInBounds_self_of_lt (by omega)]
        · rw [if_neg e]
          simp [e]
          have := HCr.out k hk
          simpa using this
      case measure => simp [intOf]; omega
    · obtain rfl : j = 4 := by omega
      have HATc := Lib.hid (BytesAt.of_cells (n := bl + 4) (by rw [xorL_len, HLB.out]) hbk hcc hcm hcl)
      have PDr := Lib.hid (PD.out wr _ p (by rw [HLB.out]; omega) HATc.out)
      have HUr := Lib.hid (HU4.out.kept hbel)
      have HATr := Lib.hid (HAT.out.kept hbel)
      have HBrr := Lib.hid (btr HB4.out hbel)
      have PSG := Lib.hid (fun wq (hq : BytesAt wq (.slice (some ⟨g, 0, none⟩) (bl + 4) cp) lb) => signed_any wq (.slice (some ⟨g, 0, none⟩) c cp) (lb.take c) (hq.upto2 c (by omega)) (HBYS.out.take c) (by have := HLB.out; simp; omega))
      have PN1 := Lib.hid (fun wq v (hq : BytesAt wq v (signB (lb.take c))) => decode_no hq (signB_byts (HBYS.out.take c)) (by have := HLB.out; rw [signB_len, List.length_take]; omega) (by rw [HTK.out c (by omega)]; exact HDC.out c (by have := HBL.out; omega)))
      rw [errOf_own] at PN1
      obtain ⟨yb, hyb⟩ : ∃ yb, yb = y % 256 := ⟨_, rfl⟩
      have HYB := Lib.hid hyb
      have hyb : 0 ≤ yb ∧ yb ≤ 255 := by omega
      have HBYM : Hid (Byts (body ++ [yb])) := Lib.hid (HBY.out.append (fun u hu => by simp at hu; subst hu; exact hyb))
      have HLM : Hid ((body ++ [yb]).length = bl + 1) := Lib.hid (by rw [List.length_append, ← HBL.out]; rfl)
      have PS2 := Lib.hid (fun wq v (hq : BytesAt wq v (body ++ [yb])) => signed_any wq v _ hq HBYM.out (by have := HLM.out; omega))
      have PN2 := Lib.hid (fun wq v (hq : BytesAt wq v (signB (body ++ [yb]))) => decode_no hq (signB_byts HBYM.out) (by rw [signB_len, HLM.out]; omega) (HDM.out _))
      rw [errOf_own] at PN2
      have hand := and16 a1
      have hc1 := HC1.out
      have k0 : c ≤ cp := by omega
      have k1 : (c : Int) ≤ (cp : Int) := by omega
      have k2 : (0 : Int) ≤ (bl : Int) + 4 - 4 := by omega
      have k3 : (bl : Int) + 4 - 4 ≤ (cp : Int) := by omega
      have k4 : (8 : Int) ≤ (bl : Int) + 4 := by omega
      have k5 : ¬ (bl : Int) + 4 - 4 = 0 := by omega
      clear hbk hbel hcl hyb
      go_wp2_with fail
      with_reducible refine PDr.out.mono ?_
      rintro e w6 ⟨T, c9, rfl, hy1, hy0, hb⟩
      have HU6 := Lib.hid (HUr.out.kept hb)
      have HAT6 := Lib.hid (HATr.out.kept hb)
      have HB6 := Lib.hid (btr HBrr.out hb)
      have q1 := HU6.out.cell 1
      simp at q1
      clear hb PDr HATc HBrr HUr HATr
      by_cases hy : y = 0
      rotate_left
      obtain ⟨rfl, rfl⟩ := hy1 hy
      have HYQ : Hid (yb = y % 256) := HYB
      clear HYB
      rotate_left
      obtain rfl := hy0 hy
      have HYQ : Hid (yb = 0) := Lib.hid (by rw [HYB.out, hy]; rfl)
      clear HYB
      subst hy
      rotate_left
      all_goals
        clear hy1 hy0
        have PSG6 := Lib.hid (PSG.out _ HAT6.out)
        go_wp2_with fail
        with_reducible refine PSG6.out.mono ?_
        rintro e w7 ⟨v7, rfl, ho7, -, hb⟩
        have HAT7 := Lib.hid (HAT6.out.kept hb)
        have HB7 := Lib.hid (btr HB6.out hb)
        have PN17 := Lib.hid (PN1.out _ _ ho7.at)
        obtain ⟨zo, zl, zc, rfl⟩ := ho7.open2
        clear ho7 hb PSG6 q1 HU6 HAT6 HB6
        go_wp2_with fail
        with_reducible refine PN17.out.mono ?_
        rintro e w8 ⟨rfl, hb⟩
        have HAT8 := Lib.hid (HAT7.out.kept hb)
        have HB8 := Lib.hid (btr HB7.out hb)
        clear hb PN17 HAT7 HB7
        have HO1 := Lib.hid (World.ownsRow_lit (base := w8.heap.size) (e := 5) (size := 1) w8 #[] 0 (Nat.le_refl _) (by unfold maxLen; omega) (by simp))
        have HB9 : Hid (Below w8.heap.size w8 (w8.alloc (.cells #[] 5))) := Lib.hid ((Below.refl _ _).alloc (Nat.le_refl _) _)
        have HUP : Hid (BytesAt w8 (.slice (some ⟨g, 0, none⟩) bl cp) body) := Lib.hid (by
          have := HAT8.out.upto2 bl (by omega)
          rw [HTB.out] at this
          exact this)
        have HNEWS := Lib.hid (HUP.out.news HBL.out _ HB9.out)
        go_wp2_with (at_builtin; refine wpList_append_lit rfl _ _ 33 rfl w8.heap.size 5 i0' (.int .u8 0) 1 Tryz.underlying33 hi hz0 hz1 hz2 rfl w8.heap.size 0 rfl HO1.out (some ⟨g, 0, none⟩) bl cp (body.map (Value.int .u8)) rfl (by rw [List.length_map]; exact HBL.out.symm) HNEWS.out (fun u hu => by obtain ⟨z, -, rfl⟩ := List.mem_map.1 hu; rfl) (by unfold maxLen; omega) (by omega) (by simp) ?_)
        intro v9 w9 o9 g9 n9 q9
        have HO9 : Hid (OwnB w9 w8.heap.size v9 body) := Lib.hid (by unfold OwnB; rw [← HBL.out]; exact o9)
        have HB89 : Hid (Below w8.heap.size w8 w9) := Lib.hid (HB9.out.grown g9 (by simp) (fun q e => by have := Option.some.inj e; omega))
        have HBA : Hid (∀ u, Below w8.heap.size w8 (w9.alloc (.cells #[u] 5))) := Lib.hid (fun u => HB89.out.alloc HB89.out.size (.cells #[u] 5))
        have hb1 : body.length + 1 ≤ maxLen := by rw [← HBL.out]; unfold maxLen; omega
        have hb4 : (body.length + 1) * 1 ≤ 140737488355328 := by rw [← HBL.out]; omega
        obtain ⟨xo, xl, xc, rfl⟩ := HO9.out.open2
        clear o9 g9 n9 q9 HO1 HB9 HNEWS HUP
        go_wp2_with (at_builtin; go_loud (refine wpList_append_own_at _ rfl _ _ 33 rfl w8.heap.size 5 i0' (.int .u8 0) 1 1 Tryz.underlying33 hi hz0 hz1 hz2 rfl (by decide) _ body.length _ rfl (World.ownsRow.alloc HO9.out _) ⟨w9.heap.size, 0, none⟩ 1 1 [.int .u8 _] rfl rfl (cell_one_new _ _ _) ?c2 hb1 hb4 ?c5 ?_))
        case c2 => simp [Value.oneCell']
        case c5 => exact (HBA.out _).size
        intro v10 w10 hown' hgrow hnil' hq9
        have HO10 : Hid (OwnB w10 w8.heap.size v10 (body ++ [yb])) := Lib.hid (by unfold OwnB; rw [HYQ.out, List.length_append]; simpa using hown')
        have HB810 : Hid (Below w8.heap.size w8 w10) := Lib.hid ((HBA.out _).grown hgrow (HBA.out _).size (fun k e => (HO9.out.lt k e).1))
        have HB10 := Lib.hid (btr HB8.out HB810.out)
        have PS10 := Lib.hid (PS2.out _ _ HO10.out.at)
        obtain ⟨yo, yl, yc, rfl⟩ := HO10.out.open2
        clear hown' hgrow hnil' hq9 HO9 HBA HB89 HO10 HB810
        go_wp2_with fail
        with_reducible refine PS10.out.mono ?_
        rintro e w11 ⟨v11, rfl, ho11, -, hb⟩
        have HB11 := Lib.hid (btr HB10.out hb)
        have PN11 := Lib.hid (PN2.out _ _ ho11.at)
        obtain ⟨ro, rl, rc, rfl⟩ := ho11.open2
        clear ho11 hb PS10 HB10
        go_wp2_with fail
        with_reducible refine PN11.out.mono ?_
        rintro e w12 ⟨rfl, hb⟩
        have HB12 := Lib.hid (btr HB11.out hb)
        clear hb PN11 HB11
        go_wp2
        go_ret
        exact ⟨rfl, HB12.out⟩
end Go.Proofs.YtbghchgmoiniiaaGreat
