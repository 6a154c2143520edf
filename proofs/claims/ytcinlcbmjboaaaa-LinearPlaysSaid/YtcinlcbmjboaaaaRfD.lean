/-
  The walk of gaugerref08.Change. Conditions: none beyond those stated at each theorem.
-/
import Derived.Test.YtcinlcbmjboaaaaRfC
namespace Go.Proofs.Ytcinlcbmjboaaaa
open Go.RowKit
set_option linter.unusedVariables false
set_option linter.unusedSimpArgs false

def RChangePost (w : World) (N G : Nat) (v : Value) (B K : Nat → Nat) (R W : Nat) (zs cs : List Int) (d : Int) (e : Ending) (w' : World) : Prop :=
  (changeFits W zs cs d ∧ e = .returned (.int .i64 0) ∧ RefIs w' N G v B K R W (changeZ W zs cs d) ∧ RGr w w' B R) ∨ (¬ changeFits W zs cs d ∧ e = .returned (.int .i64 4) ∧ Below w.heap.size w w')
theorem RGr.cell {w w' : World} {B : Nat → Nat} {R g i : Nat} {x : Value} (h : RGr w w' B R) (hc : w.cell? ⟨g, i, none⟩ = some x) (hne : ∀ r, r < R → g ≠ B r) : w'.cell? ⟨g, i, none⟩ = some x := by
  have h1 := cell_block hc
  have h2 := h.block g h1 hne
  simp only [World.cell?] at hc ⊢
  rw [h2]
  exact hc
theorem rchange_no (w : World) (N G : Nat) (v : Value) (B K : Nat → Nat) (R W : Nat) (zs cs : List Int) (d : Int) (vc : Value) (h : RefIs w N G v B K R W zs) (hv : IntsAt w vc cs) (hl : cs.length ≤ 100000) (hm : meetB R W cs = false) :
    Calls Try.prog 27 #[.pointer (some ⟨G, 0, none⟩), vc, .int .i64 d] w fun e w' => e = .returned (.int .i64 1) ∧ Below w.heap.size w w' := by
  have P1 := rmeet_any w N G v B K R W zs cs vc h hv hl
  rw [hm] at P1
  have P1 := Lib.hid P1
  obtain ⟨ao, cap, rfl, hcap, hcells⟩ := hv
  clear hcells h hcap hl
  generalize cs.length = n at *
  go_enter Try.func27, Try.ntmps27
  go_wp2_with fail
  with_reducible refine P1.out.mono ?_
  rintro e w2 ⟨rfl, hb⟩
  have HB := Lib.hid hb
  clear hb
  go_wp2
  go_ret
  exact ⟨rfl, HB.out⟩
set_option maxRecDepth 100000 in
set_option maxHeartbeats 8000000 in
theorem rchange_yes (w : World) (N G : Nat) (v : Value) (B K : Nat → Nat) (R W : Nat) (zs cs : List Int) (d : Int) (vc : Value) (h : RefIs w N G v B K R W zs) (hv : RowI w vc cs) (hm : meetB R W cs = true) (hd : In64 d) (hfit : Fit zs) :
    Calls Try.prog 27 #[.pointer (some ⟨G, 0, none⟩), vc, .int .i64 d] w (RChangePost w N G v B K R W zs cs d) := by
  obtain ⟨h0R, hlR, hcol⟩ := meetB_of hm
  have hR8 := h.rows
  have P1 := rmeet_any w N G v B K R W zs cs vc h hv.ints (by omega)
  rw [hm] at P1
  have P1 := Lib.hid P1
  have HZL := Lib.hid h.len
  obtain ⟨L, vcap, rfl⟩ := h.openL h0R
  have HG := Lib.hid h
  have HCOL := Lib.hid hcol
  have HFIT := Lib.hid hfit
  obtain ⟨g, cap, cur, rfl, hcap, hgb, hcur⟩ := hv
  have HC := Lib.hid (show ∀ i u, cs[i]? = some u → w.cell? ⟨g, i, none⟩ = some (.int .i64 u) from fun i u hu => (hgb.cell i).trans (hcur i u hu))
  have HGL := Lib.hid hgb.lt
  have HGB := Lib.hid (show ∀ r, r < R → g ≠ B r from fun r hr' => by
    obtain ⟨cB, hB, -⟩ := h.cells r hr'
    exact hgb.ne_ hB (by decide))
  have HBL := Lib.hid (show ∀ r, r < R → B r < w.heap.size from fun r hr' => by
    obtain ⟨cB, hB, -⟩ := h.cells r hr'
    exact hB.lt)
  clear h hgb hcur hfit hcol
  obtain ⟨n, hlen⟩ : ∃ n, n = cs.length := ⟨_, rfl⟩
  have HLEN := Lib.hid hlen
  rw [← hlen] at hcap hlR P1 ⊢
  have HNR : Hid (n = R) := Lib.hid hlR
  have hn8 : n ≤ 8 := by omega
  obtain ⟨f, hf⟩ : ∃ f : Nat → Int, f = fun r => cellD zs (r * W + colN cs r) := ⟨_, rfl⟩
  have HF64 : Hid (∀ r, In64 (f r)) := Lib.hid (fun r => by rw [hf]; exact cell_fit HFIT.out _)
  have HFITS : Hid (changeFits W zs cs d ↔ ∀ r, r < n → In64 (f r + d)) := Lib.hid (by rw [hf, hlen]; exact Iff.rfl)
  have HCZ : Hid (changeZ W zs cs d = setsZ W zs (colN cs) (fun r => f r + d) n) := Lib.hid (by rw [hf, hlen]; rfl)
  have HF := Lib.hid hf
  obtain ⟨i0, hi, hz0, hz1, hz2⟩ := info_parts Try.info64
  clear hlen hlR hf
  go_enter Try.func27, Try.ntmps27
  go_wp2_with fail
  with_reducible refine P1.out.mono ?_
  rintro e w2 ⟨rfl, hb⟩
  have hown0 := World.ownsRow_lit (base := w.heap.size) (e := 2) (size := 1) w2 #[] 0 (by have := hb.size; omega) (by unfold maxLen; omega) (by simp)
  have HO2 := Lib.hid hown0
  have HB2 := Lib.hid (hb.alloc hb.size (.cells #[] 2))
  clear hb P1 hown0
  go_wp2_with fail
  go_loopw [7, 8] (fun x i wr => ∃ j : Nat, j ≤ n ∧ i = .int .i64 (j : Int) ∧ x ≠ .slice none 0 0 ∧ wr.ownsRow w.heap.size 2 1 x j (((List.range j).map fun r => f r + d).map (Value.int .i64)) ∧ (∀ k, k < j → In64 (f k + d)) ∧ Below w.heap.size w wr) (fun _ i _ => n - (intOf i).toNat)
  case atStart => exact ⟨0, by omega, rfl, by simp, by simpa using HO2.out, fun k hk => by omega, HB2.out⟩
  case round =>
    obtain ⟨j, hj, rfl, hnil, hown, hok, hbel⟩ := hrel
    clear HO2 HB2
    have HB := Lib.hid hbel
    have HO := Lib.hid hown
    have HNIL := Lib.hid hnil
    have HOK := Lib.hid hok
    have hszr : w.heap.size ≤ wr.heap.size := hbel.size
    by_cases hlt : j < n
    · have hjR : j < R := by have := HNR.out; omega
      obtain ⟨hcj, hcw⟩ := HCOL.out j hjR
      obtain ⟨l0, l1, l2, -⟩ := HG.out.look hjR hcw
      have cx := HC.out j _ hcj
      have HN : Hid (((List.range (j + 1)).map fun r => f r + d).map (Value.int .i64) = ((List.range j).map fun r => f r + d).map (Value.int .i64) ++ [.int .i64 (f j + d)]) := Lib.hid (by rw [List.range_succ]; simp)
      have HFJ : Hid (cellD zs (j * W + colN cs j) = f j) := Lib.hid (by rw [HF.out])
      rw [HFJ.out] at l2
      have hmx1 : j + 1 ≤ maxLen := by unfold maxLen; omega
      have h64f := HF64.out j
      have HNF : Hid (¬ In64 (f j + d) → ¬ changeFits W zs cs d) := Lib.hid (fun h1 h2 => h1 (HFITS.out.1 h2 j hlt))
      have HOK2 : Hid (In64 (f j + d) → ∀ k, k < j + 1 → In64 (f k + d)) := Lib.hid (fun h1 k hk => by
        by_cases e : k = j
        · subst e; exact h1
        · exact HOK.out k (by omega))
      clear hown hnil hbel hcj hok
      generalize hy : colN cs j = y at *
      have HY := Lib.hid hy
      clear hy
      generalize B j = Bj at *
      generalize K j = Kj at *
      generalize f j = fj at *
      have d1 : (0 : Int) ≤ (j : Int) := by omega
      have d2 : (j : Int) < (n : Int) := by omega
      have d3 : (j : Int) < (R : Int) := by omega
      have d4 : (0 : Int) ≤ (y : Int) := by omega
      have d5 : (y : Int) < (W : Int) := by omega
      have L0 := Lib.hid l0
      have L1 := Lib.hid l1
      have L2 := Lib.hid l2
      have CX := Lib.hid cx
      clear l0 l1 l2 cx
      by_cases h64 : In64 (fj + d)
      · have PA := Lib.hid (ladd_yes fj d h64f hd h64)
        unfold TwoPost at PA
        have HOK3 := Lib.hid (HOK2.out h64)
        clear h64 h64f
        generalize fj + d = x at *
        go_wp2_with fail
        refine wp_region_held_drew (S := fun w' => Below w.heap.size w w') (by kernel_rfl) (by exact below_drewN HB.out 1) (fun hHeld => ?_)
        refine wpAnyH_take (i := 0) (v := ?_) rfl (by kernel_rfl) (by kernel_rfl) (by kernel_rfl) (fun _ _ _ h => h) (Or.inl ⟨by rfl, ?_⟩) (by assumption) ?_
        rotate_left
        · intro w hSw
          try dsimp only at hSw
          go_simp
          try with_reducible rfl
        simp only [Act.put, List.setIfInBounds_toArray, List.set_cons_zero, List.set_cons_succ, List.getElem_toArray, List.getElem_cons_zero, List.getElem_cons_succ]
        refine wpAnyH_take (i := 1) (v := ?_) rfl (by kernel_rfl) (by kernel_rfl) (by kernel_rfl) (fun _ _ _ h => h) (Or.inl ⟨by rfl, ?_⟩) (by assumption) ?_
        rotate_left
        · intro w hSw
          try dsimp only at hSw
          go_simp
          try with_reducible rfl
        simp only [Act.put, List.setIfInBounds_toArray, List.set_cons_zero, List.set_cons_succ, List.getElem_toArray, List.getElem_cons_zero, List.getElem_cons_succ]
        refine wpAnyH_take (i := 2) (v := ?_) rfl (by kernel_rfl) (by kernel_rfl) (by kernel_rfl) (fun _ _ _ h => h) (Or.inl ⟨by rfl, ?_⟩) (by assumption) ?_
        rotate_left
        · intro w hSw
          try dsimp only at hSw
          go_simp
          try with_reducible rfl
        simp only [Act.put, List.setIfInBounds_toArray, List.set_cons_zero, List.set_cons_succ, List.getElem_toArray, List.getElem_cons_zero, List.getElem_cons_succ]
        refine wpAnyH_take (i := 3) (v := ?_) rfl (by kernel_rfl) (by kernel_rfl) (by kernel_rfl) (fun _ _ _ h => h) (Or.inl ⟨by rfl, ?_⟩) (by assumption) ?_
        rotate_left
        · intro w hSw
          have q0 := (hSw.cell (p := ⟨G, 0, none⟩) (cell_block L0.out)).trans L0.out
          have q1 := (hSw.cell (p := ⟨L, j, none⟩) (cell_block L1.out)).trans L1.out
          have q2 := (hSw.cell (p := ⟨Bj, y, none⟩) (cell_block L2.out)).trans L2.out
          have q3 := (hSw.cell (p := ⟨g, j, none⟩) (cell_block CX.out)).trans CX.out
          go_simp
          try with_reducible rfl
        simp only [Act.put, List.setIfInBounds_toArray, List.set_cons_zero, List.set_cons_succ, List.getElem_toArray, List.getElem_cons_zero, List.getElem_cons_succ]
        refine wpAnyH_take (i := 4) (v := ?_) rfl (by kernel_rfl) (by kernel_rfl) (by kernel_rfl) (fun _ _ _ h => h) (Or.inl ⟨by rfl, ?_⟩) (by assumption) ?_
        rotate_left
        · intro w hSw
          try dsimp only at hSw
          go_simp
          try with_reducible rfl
        simp only [Act.put, List.setIfInBounds_toArray, List.set_cons_zero, List.set_cons_succ, List.getElem_toArray, List.getElem_cons_zero, List.getElem_cons_succ]
        refine wpAnyH_take (i := 5) (v := ?_) rfl (by kernel_rfl) (by kernel_rfl) (by kernel_rfl) (fun _ _ _ h => h) (Or.inl ⟨by rfl, ?_⟩) (by assumption) ?_
        rotate_left
        · intro w hSw
          try dsimp only at hSw
          go_simp
          try with_reducible rfl
        simp only [Act.put, List.setIfInBounds_toArray, List.set_cons_zero, List.set_cons_succ, List.getElem_toArray, List.getElem_cons_zero, List.getElem_cons_succ]
        refine wpAnyH_take (i := 6) (v := ?_) rfl (by kernel_rfl) (by kernel_rfl) (by kernel_rfl) (fun _ _ _ h => h) (Or.inl ⟨by rfl, ?_⟩) (by assumption) ?_
        rotate_left
        · intro w hSw
          have q0 := (hSw.cell (p := ⟨G, 0, none⟩) (cell_block L0.out)).trans L0.out
          have q1 := (hSw.cell (p := ⟨L, j, none⟩) (cell_block L1.out)).trans L1.out
          have q2 := (hSw.cell (p := ⟨Bj, y, none⟩) (cell_block L2.out)).trans L2.out
          have q3 := (hSw.cell (p := ⟨g, j, none⟩) (cell_block CX.out)).trans CX.out
          go_simp
          try with_reducible rfl
        simp only [Act.put, List.setIfInBounds_toArray, List.set_cons_zero, List.set_cons_succ, List.getElem_toArray, List.getElem_cons_zero, List.getElem_cons_succ]
        refine wpAnyH_take (i := 7) (v := ?_) rfl (by kernel_rfl) (by kernel_rfl) (by kernel_rfl) (fun _ _ _ h => h) (Or.inl ⟨by rfl, ?_⟩) (by assumption) ?_
        rotate_left
        · intro w hSw
          try dsimp only at hSw
          go_simp
          try with_reducible rfl
        simp only [Act.put, List.setIfInBounds_toArray, List.set_cons_zero, List.set_cons_succ, List.getElem_toArray, List.getElem_cons_zero, List.getElem_cons_succ]
        refine wpAnyH_take (i := 8) (v := ?_) rfl (by kernel_rfl) (by kernel_rfl) (by kernel_rfl) (fun _ _ _ h => h) (Or.inl ⟨by rfl, ?_⟩) (by assumption) ?_
        rotate_left
        · intro w hSw
          try dsimp only at hSw
          go_simp
          try with_reducible rfl
        simp only [Act.put, List.setIfInBounds_toArray, List.set_cons_zero, List.set_cons_succ, List.getElem_toArray, List.getElem_cons_zero, List.getElem_cons_succ]
        refine wpAnyH_take (i := 9) (v := ?_) rfl (by kernel_rfl) (by kernel_rfl) (by kernel_rfl) (fun _ _ _ h => h) (Or.inl ⟨by rfl, ?_⟩) (by assumption) ?_
        rotate_left
        · intro w hSw
          try dsimp only at hSw
          go_simp
          try with_reducible rfl
        simp only [Act.put, List.setIfInBounds_toArray, List.set_cons_zero, List.set_cons_succ, List.getElem_toArray, List.getElem_cons_zero, List.getElem_cons_succ]
        refine wpAnyH_take (i := 10) (v := ?_) rfl (by kernel_rfl) (by kernel_rfl) (by kernel_rfl) (fun _ _ _ h => h) (Or.inl ⟨by rfl, ?_⟩) (by assumption) ?_
        rotate_left
        · intro w hSw
          have q0 := (hSw.cell (p := ⟨G, 0, none⟩) (cell_block L0.out)).trans L0.out
          have q1 := (hSw.cell (p := ⟨L, j, none⟩) (cell_block L1.out)).trans L1.out
          have q2 := (hSw.cell (p := ⟨Bj, y, none⟩) (cell_block L2.out)).trans L2.out
          have q3 := (hSw.cell (p := ⟨g, j, none⟩) (cell_block CX.out)).trans CX.out
          go_simp
          try with_reducible rfl
        simp only [Act.put, List.setIfInBounds_toArray, List.set_cons_zero, List.set_cons_succ, List.getElem_toArray, List.getElem_cons_zero, List.getElem_cons_succ]
        refine wpAnyH_take (i := 11) (v := ?_) rfl (by kernel_rfl) (by kernel_rfl) (by kernel_rfl) (fun _ _ _ h => h) (Or.inl ⟨by rfl, ?_⟩) (by assumption) ?_
        rotate_left
        · intro w hSw
          try dsimp only at hSw
          go_simp
          try with_reducible rfl
        simp only [Act.put, List.setIfInBounds_toArray, List.set_cons_zero, List.set_cons_succ, List.getElem_toArray, List.getElem_cons_zero, List.getElem_cons_succ]
        refine wpAnyH_take (i := 12) (v := ?_) rfl (by kernel_rfl) (by kernel_rfl) (by kernel_rfl) (fun _ _ _ h => h) (Or.inl ⟨by rfl, ?_⟩) (by assumption) ?_
        rotate_left
        · intro w hSw
          have q0 := (hSw.cell (p := ⟨G, 0, none⟩) (cell_block L0.out)).trans L0.out
          have q1 := (hSw.cell (p := ⟨L, j, none⟩) (cell_block L1.out)).trans L1.out
          have q2 := (hSw.cell (p := ⟨Bj, y, none⟩) (cell_block L2.out)).trans L2.out
          have q3 := (hSw.cell (p := ⟨g, j, none⟩) (cell_block CX.out)).trans CX.out
          go_simp
          try with_reducible rfl
        simp only [Act.put, List.setIfInBounds_toArray, List.set_cons_zero, List.set_cons_succ, List.getElem_toArray, List.getElem_cons_zero, List.getElem_cons_succ]
        refine wpAnyH_take (i := 13) (v := ?_) rfl (by kernel_rfl) (by kernel_rfl) (by kernel_rfl) (fun _ _ _ h => h) (Or.inl ⟨by rfl, ?_⟩) (by assumption) ?_
        rotate_left
        · intro w hSw
          try dsimp only at hSw
          go_simp
          try with_reducible rfl
        simp only [Act.put, List.setIfInBounds_toArray, List.set_cons_zero, List.set_cons_succ, List.getElem_toArray, List.getElem_cons_zero, List.getElem_cons_succ]
        refine wpAnyH_ready (rs := [14]) (by kernel_rfl) (by simp) ?_
        refine AllReadyH.cons rfl (fun Kc hKc => ?_) AllReadyH.nil
        go_simp
        go_wp2_with ((go_at_call 50; refine (PA.out _).mono ?_; rintro e w5 ⟨rfl, hb5⟩; have HB5 := Lib.hid hb5; clear hb5))
        refine hKc.out _ _ ?_ (fun hHeld => ?_)
        · exact btr hHeld HB5.out
        clear hKc Kc
        refine wpAnyH_take (i := 15) (v := ?_) rfl (by kernel_rfl) (by kernel_rfl) (by kernel_rfl) (fun _ _ _ h => h) (Or.inl ⟨by rfl, ?_⟩) (by assumption) ?_
        rotate_left
        · intro w hSw
          try dsimp only at hSw
          go_simp
          try with_reducible rfl
        simp only [Act.put, List.setIfInBounds_toArray, List.set_cons_zero, List.set_cons_succ, List.getElem_toArray, List.getElem_cons_zero, List.getElem_cons_succ]
        refine wpAnyH_take (i := 16) (v := ?_) rfl (by kernel_rfl) (by kernel_rfl) (by kernel_rfl) (fun _ _ _ h => h) (Or.inl ⟨by rfl, ?_⟩) (by assumption) ?_
        rotate_left
        · intro w hSw
          try dsimp only at hSw
          go_simp
          try with_reducible rfl
        simp only [Act.put, List.setIfInBounds_toArray, List.set_cons_zero, List.set_cons_succ, List.getElem_toArray, List.getElem_cons_zero, List.getElem_cons_succ]
        refine wpAnyH_take (i := 17) (v := ?_) rfl (by kernel_rfl) (by kernel_rfl) (by kernel_rfl) (fun _ _ _ h => h) (Or.inl ⟨by rfl, ?_⟩) (by assumption) ?_
        rotate_left
        · intro w hSw
          try dsimp only at hSw
          go_simp
          try with_reducible rfl
        simp only [Act.put, List.setIfInBounds_toArray, List.set_cons_zero, List.set_cons_succ, List.getElem_toArray, List.getElem_cons_zero, List.getElem_cons_succ]
        refine wpAnyH_take (i := 18) (v := ?_) rfl (by kernel_rfl) (by kernel_rfl) (by kernel_rfl) (fun _ _ _ h => h) (Or.inl ⟨by rfl, ?_⟩) (by assumption) ?_
        rotate_left
        · intro w hSw
          try dsimp only at hSw
          go_simp
          try with_reducible rfl
        simp only [Act.put, List.setIfInBounds_toArray, List.set_cons_zero, List.set_cons_succ, List.getElem_toArray, List.getElem_cons_zero, List.getElem_cons_succ]
        refine wpAnyH_take (i := 19) (v := ?_) rfl (by kernel_rfl) (by kernel_rfl) (by kernel_rfl) (fun _ _ _ h => h) (Or.inl ⟨by rfl, ?_⟩) (by assumption) ?_
        rotate_left
        · intro w hSw
          try dsimp only at hSw
          go_simp
          try with_reducible rfl
        simp only [Act.put, List.setIfInBounds_toArray, List.set_cons_zero, List.set_cons_succ, List.getElem_toArray, List.getElem_cons_zero, List.getElem_cons_succ]
        refine wpAnyH_done (by kernel_rfl) ?_ _
        have HB3 := Lib.hid hHeld
        have HO3 := Lib.hid (HO.out.kept (below_grown (row := none) ((below_drewN (Below.refl wr.heap.size wr) 1).trans HB5.out)) (by cases u7.ownBlock <;> simp))
        have hsz3 : w.heap.size ≤ w5.heap.size := hHeld.size
        clear hHeld
        go_wp2_with (at_builtin; refine wpList_append_own_at _ rfl _ _ 39 rfl w.heap.size 2 i0 (.int .i64 0) 1 8 Try.underlying39 hi hz0 hz1 hz2 rfl (by decide) _ j _ rfl (HO3.out.alloc _) ⟨w5.heap.size, 0, none⟩ 1 1 [.int .i64 x] rfl rfl (cell_one_new _ _ _) ?c2 hmx1 ?c4 ?c5 ?_)
        case c2 => simp [Value.oneCell']
        case c4 => omega
        case c5 => simp; omega
        intro v' w6 hown' hgrow hnil' hq9
        have HNIL' : Hid (v' ≠ .slice none 0 0) := Lib.hid hnil'
        have HO4 : Hid (w6.ownsRow w.heap.size 2 1 v' (j + 1) (((List.range (j + 1)).map fun r => f r + d).map (Value.int .i64))) := Lib.hid (by rw [HN.out, List.map_map]; exact hown')
        have hMk := fun k hk => (HO3.out.lt k hk).1
        have HB4 : Hid (Below w.heap.size w w6) := Lib.hid ((HB3.out.alloc hsz3 _).grown hgrow (by first | omega | (simp; done) | (simp; omega)) (fun k e => hMk k e))
        clear hown' hgrow hnil' hq9 hMk
        go_wp2
        go_roundw
        case rel => exact ⟨j + 1, by omega, by go_num, HNIL'.out, HO4.out, HOK3.out, HB4.out⟩
        case measure => simp [intOf]; omega
      · have PA := Lib.hid (ladd_no fj d h64f hd h64)
        unfold TwoPost at PA
        have HNF2 := Lib.hid (HNF.out h64)
        clear h64 h64f
        go_wp2_with fail
        refine wp_region_held_drew (S := fun w' => Below w.heap.size w w') (by kernel_rfl) (by exact below_drewN HB.out 1) (fun hHeld => ?_)
        refine wpAnyH_take (i := 0) (v := ?_) rfl (by kernel_rfl) (by kernel_rfl) (by kernel_rfl) (fun _ _ _ h => h) (Or.inl ⟨by rfl, ?_⟩) (by assumption) ?_
        rotate_left
        · intro w hSw
          try dsimp only at hSw
          go_simp
          try with_reducible rfl
        simp only [Act.put, List.setIfInBounds_toArray, List.set_cons_zero, List.set_cons_succ, List.getElem_toArray, List.getElem_cons_zero, List.getElem_cons_succ]
        refine wpAnyH_take (i := 1) (v := ?_) rfl (by kernel_rfl) (by kernel_rfl) (by kernel_rfl) (fun _ _ _ h => h) (Or.inl ⟨by rfl, ?_⟩) (by assumption) ?_
        rotate_left
        · intro w hSw
          try dsimp only at hSw
          go_simp
          try with_reducible rfl
        simp only [Act.put, List.setIfInBounds_toArray, List.set_cons_zero, List.set_cons_succ, List.getElem_toArray, List.getElem_cons_zero, List.getElem_cons_succ]
        refine wpAnyH_take (i := 2) (v := ?_) rfl (by kernel_rfl) (by kernel_rfl) (by kernel_rfl) (fun _ _ _ h => h) (Or.inl ⟨by rfl, ?_⟩) (by assumption) ?_
        rotate_left
        · intro w hSw
          try dsimp only at hSw
          go_simp
          try with_reducible rfl
        simp only [Act.put, List.setIfInBounds_toArray, List.set_cons_zero, List.set_cons_succ, List.getElem_toArray, List.getElem_cons_zero, List.getElem_cons_succ]
        refine wpAnyH_take (i := 3) (v := ?_) rfl (by kernel_rfl) (by kernel_rfl) (by kernel_rfl) (fun _ _ _ h => h) (Or.inl ⟨by rfl, ?_⟩) (by assumption) ?_
        rotate_left
        · intro w hSw
          have q0 := (hSw.cell (p := ⟨G, 0, none⟩) (cell_block L0.out)).trans L0.out
          have q1 := (hSw.cell (p := ⟨L, j, none⟩) (cell_block L1.out)).trans L1.out
          have q2 := (hSw.cell (p := ⟨Bj, y, none⟩) (cell_block L2.out)).trans L2.out
          have q3 := (hSw.cell (p := ⟨g, j, none⟩) (cell_block CX.out)).trans CX.out
          go_simp
          try with_reducible rfl
        simp only [Act.put, List.setIfInBounds_toArray, List.set_cons_zero, List.set_cons_succ, List.getElem_toArray, List.getElem_cons_zero, List.getElem_cons_succ]
        refine wpAnyH_take (i := 4) (v := ?_) rfl (by kernel_rfl) (by kernel_rfl) (by kernel_rfl) (fun _ _ _ h => h) (Or.inl ⟨by rfl, ?_⟩) (by assumption) ?_
        rotate_left
        · intro w hSw
          try dsimp only at hSw
          go_simp
          try with_reducible rfl
        simp only [Act.put, List.setIfInBounds_toArray, List.set_cons_zero, List.set_cons_succ, List.getElem_toArray, List.getElem_cons_zero, List.getElem_cons_succ]
        refine wpAnyH_take (i := 5) (v := ?_) rfl (by kernel_rfl) (by kernel_rfl) (by kernel_rfl) (fun _ _ _ h => h) (Or.inl ⟨by rfl, ?_⟩) (by assumption) ?_
        rotate_left
        · intro w hSw
          try dsimp only at hSw
          go_simp
          try with_reducible rfl
        simp only [Act.put, List.setIfInBounds_toArray, List.set_cons_zero, List.set_cons_succ, List.getElem_toArray, List.getElem_cons_zero, List.getElem_cons_succ]
        refine wpAnyH_take (i := 6) (v := ?_) rfl (by kernel_rfl) (by kernel_rfl) (by kernel_rfl) (fun _ _ _ h => h) (Or.inl ⟨by rfl, ?_⟩) (by assumption) ?_
        rotate_left
        · intro w hSw
          have q0 := (hSw.cell (p := ⟨G, 0, none⟩) (cell_block L0.out)).trans L0.out
          have q1 := (hSw.cell (p := ⟨L, j, none⟩) (cell_block L1.out)).trans L1.out
          have q2 := (hSw.cell (p := ⟨Bj, y, none⟩) (cell_block L2.out)).trans L2.out
          have q3 := (hSw.cell (p := ⟨g, j, none⟩) (cell_block CX.out)).trans CX.out
          go_simp
          try with_reducible rfl
        simp only [Act.put, List.setIfInBounds_toArray, List.set_cons_zero, List.set_cons_succ, List.getElem_toArray, List.getElem_cons_zero, List.getElem_cons_succ]
        refine wpAnyH_take (i := 7) (v := ?_) rfl (by kernel_rfl) (by kernel_rfl) (by kernel_rfl) (fun _ _ _ h => h) (Or.inl ⟨by rfl, ?_⟩) (by assumption) ?_
        rotate_left
        · intro w hSw
          try dsimp only at hSw
          go_simp
          try with_reducible rfl
        simp only [Act.put, List.setIfInBounds_toArray, List.set_cons_zero, List.set_cons_succ, List.getElem_toArray, List.getElem_cons_zero, List.getElem_cons_succ]
        refine wpAnyH_take (i := 8) (v := ?_) rfl (by kernel_rfl) (by kernel_rfl) (by kernel_rfl) (fun _ _ _ h => h) (Or.inl ⟨by rfl, ?_⟩) (by assumption) ?_
        rotate_left
        · intro w hSw
          try dsimp only at hSw
          go_simp
          try with_reducible rfl
        simp only [Act.put, List.setIfInBounds_toArray, List.set_cons_zero, List.set_cons_succ, List.getElem_toArray, List.getElem_cons_zero, List.getElem_cons_succ]
        refine wpAnyH_take (i := 9) (v := ?_) rfl (by kernel_rfl) (by kernel_rfl) (by kernel_rfl) (fun _ _ _ h => h) (Or.inl ⟨by rfl, ?_⟩) (by assumption) ?_
        rotate_left
        · intro w hSw
          try dsimp only at hSw
          go_simp
          try with_reducible rfl
        simp only [Act.put, List.setIfInBounds_toArray, List.set_cons_zero, List.set_cons_succ, List.getElem_toArray, List.getElem_cons_zero, List.getElem_cons_succ]
        refine wpAnyH_take (i := 10) (v := ?_) rfl (by kernel_rfl) (by kernel_rfl) (by kernel_rfl) (fun _ _ _ h => h) (Or.inl ⟨by rfl, ?_⟩) (by assumption) ?_
        rotate_left
        · intro w hSw
          have q0 := (hSw.cell (p := ⟨G, 0, none⟩) (cell_block L0.out)).trans L0.out
          have q1 := (hSw.cell (p := ⟨L, j, none⟩) (cell_block L1.out)).trans L1.out
          have q2 := (hSw.cell (p := ⟨Bj, y, none⟩) (cell_block L2.out)).trans L2.out
          have q3 := (hSw.cell (p := ⟨g, j, none⟩) (cell_block CX.out)).trans CX.out
          go_simp
          try with_reducible rfl
        simp only [Act.put, List.setIfInBounds_toArray, List.set_cons_zero, List.set_cons_succ, List.getElem_toArray, List.getElem_cons_zero, List.getElem_cons_succ]
        refine wpAnyH_take (i := 11) (v := ?_) rfl (by kernel_rfl) (by kernel_rfl) (by kernel_rfl) (fun _ _ _ h => h) (Or.inl ⟨by rfl, ?_⟩) (by assumption) ?_
        rotate_left
        · intro w hSw
          try dsimp only at hSw
          go_simp
          try with_reducible rfl
        simp only [Act.put, List.setIfInBounds_toArray, List.set_cons_zero, List.set_cons_succ, List.getElem_toArray, List.getElem_cons_zero, List.getElem_cons_succ]
        refine wpAnyH_take (i := 12) (v := ?_) rfl (by kernel_rfl) (by kernel_rfl) (by kernel_rfl) (fun _ _ _ h => h) (Or.inl ⟨by rfl, ?_⟩) (by assumption) ?_
        rotate_left
        · intro w hSw
          have q0 := (hSw.cell (p := ⟨G, 0, none⟩) (cell_block L0.out)).trans L0.out
          have q1 := (hSw.cell (p := ⟨L, j, none⟩) (cell_block L1.out)).trans L1.out
          have q2 := (hSw.cell (p := ⟨Bj, y, none⟩) (cell_block L2.out)).trans L2.out
          have q3 := (hSw.cell (p := ⟨g, j, none⟩) (cell_block CX.out)).trans CX.out
          go_simp
          try with_reducible rfl
        simp only [Act.put, List.setIfInBounds_toArray, List.set_cons_zero, List.set_cons_succ, List.getElem_toArray, List.getElem_cons_zero, List.getElem_cons_succ]
        refine wpAnyH_take (i := 13) (v := ?_) rfl (by kernel_rfl) (by kernel_rfl) (by kernel_rfl) (fun _ _ _ h => h) (Or.inl ⟨by rfl, ?_⟩) (by assumption) ?_
        rotate_left
        · intro w hSw
          try dsimp only at hSw
          go_simp
          try with_reducible rfl
        simp only [Act.put, List.setIfInBounds_toArray, List.set_cons_zero, List.set_cons_succ, List.getElem_toArray, List.getElem_cons_zero, List.getElem_cons_succ]
        refine wpAnyH_ready (rs := [14]) (by kernel_rfl) (by simp) ?_
        refine AllReadyH.cons rfl (fun Kc hKc => ?_) AllReadyH.nil
        go_simp
        go_wp2_with ((go_at_call 50; refine (PA.out _).mono ?_; rintro e w5 ⟨rfl, hb5⟩; have HB5 := Lib.hid hb5; clear hb5))
        refine hKc.out _ _ ?_ (fun hHeld => ?_)
        · exact btr hHeld HB5.out
        clear hKc Kc
        refine wpAnyH_take (i := 15) (v := ?_) rfl (by kernel_rfl) (by kernel_rfl) (by kernel_rfl) (fun _ _ _ h => h) (Or.inl ⟨by rfl, ?_⟩) (by assumption) ?_
        rotate_left
        · intro w hSw
          try dsimp only at hSw
          go_simp
          try with_reducible rfl
        simp only [Act.put, List.setIfInBounds_toArray, List.set_cons_zero, List.set_cons_succ, List.getElem_toArray, List.getElem_cons_zero, List.getElem_cons_succ]
        refine wpAnyH_take (i := 16) (v := ?_) rfl (by kernel_rfl) (by kernel_rfl) (by kernel_rfl) (fun _ _ _ h => h) (Or.inl ⟨by rfl, ?_⟩) (by assumption) ?_
        rotate_left
        · intro w hSw
          try dsimp only at hSw
          go_simp
          try with_reducible rfl
        simp only [Act.put, List.setIfInBounds_toArray, List.set_cons_zero, List.set_cons_succ, List.getElem_toArray, List.getElem_cons_zero, List.getElem_cons_succ]
        refine wpAnyH_take (i := 17) (v := ?_) rfl (by kernel_rfl) (by kernel_rfl) (by kernel_rfl) (fun _ _ _ h => h) (Or.inl ⟨by rfl, ?_⟩) (by assumption) ?_
        rotate_left
        · intro w hSw
          try dsimp only at hSw
          go_simp
          try with_reducible rfl
        simp only [Act.put, List.setIfInBounds_toArray, List.set_cons_zero, List.set_cons_succ, List.getElem_toArray, List.getElem_cons_zero, List.getElem_cons_succ]
        refine wpAnyH_take (i := 18) (v := ?_) rfl (by kernel_rfl) (by kernel_rfl) (by kernel_rfl) (fun _ _ _ h => h) (Or.inl ⟨by rfl, ?_⟩) (by assumption) ?_
        rotate_left
        · intro w hSw
          try dsimp only at hSw
          go_simp
          try with_reducible rfl
        simp only [Act.put, List.setIfInBounds_toArray, List.set_cons_zero, List.set_cons_succ, List.getElem_toArray, List.getElem_cons_zero, List.getElem_cons_succ]
        refine wpAnyH_take (i := 19) (v := ?_) rfl (by kernel_rfl) (by kernel_rfl) (by kernel_rfl) (fun _ _ _ h => h) (Or.inl ⟨by rfl, ?_⟩) (by assumption) ?_
        rotate_left
        · intro w hSw
          try dsimp only at hSw
          go_simp
          try with_reducible rfl
        simp only [Act.put, List.setIfInBounds_toArray, List.set_cons_zero, List.set_cons_succ, List.getElem_toArray, List.getElem_cons_zero, List.getElem_cons_succ]
        refine wpAnyH_done (by kernel_rfl) ?_ _
        have HB3 := Lib.hid hHeld
        clear hHeld
        go_wp2
        go_ret
        exact .inr ⟨HNF2.out, rfl, HB3.out⟩
    · obtain rfl : j = n := by omega
      have hown2 : wr.ownsRow w.heap.size 2 1 u7 ((List.range j).map fun r => f r + d).length (((List.range j).map fun r => f r + d).map (Value.int .i64)) := by simpa using hown
      obtain ⟨go, cpo, rfl, hgo, hcpo, curo, hco, hcoz⟩ := own_row hown2 hnil
      have hl : ((List.range j).map fun r => f r + d).length = j := by simp
      rw [hl] at hcpo ⊢
      have HOC := Lib.hid (show ∀ k, k < j → wr.cell? ⟨go, k, none⟩ = some (.int .i64 (f k + d)) from fun k hk => (hco.cell k).trans (hcoz k _ (by simp [hk])))
      have HGOB := Lib.hid (show ∀ r, r < R → go ≠ B r from fun r hr' => by have := HBL.out r hr'; omega)
      have HGW := Lib.hid (HG.out.kept hbel)
      have HFT := Lib.hid (HFITS.out.2 hok)
      have HRG : Hid (RGr w wr B R) := Lib.hid (RGr.of_below hbel)
      clear hown hown2 hnil hok hl hco hcoz hbel HO HB HNIL HOK hszr
      generalize wr = wo at *
      go_wp2_with fail
      go_loopw [11] (fun i ws => ∃ k : Nat, k ≤ j ∧ i = .int .i64 (k : Int) ∧ RefIs ws N G (.slice (some ⟨L, 0, none⟩) R vcap) B K R W (setsZ W zs (colN cs) (fun r => f r + d) k) ∧ RGr w ws B R ∧ RGr wo ws B R) (fun i _ => j - (intOf i).toNat)
      case atStart => exact ⟨0, by omega, rfl, HGW.out, HRG.out, RGr.of_below (Below.refl _ _)⟩
      case round =>
        obtain ⟨k, hk, rfl, hg, hgr, hgr2⟩ := hrel
        have HG2 := Lib.hid hg
        have HGR := Lib.hid hgr
        have HGR2 := Lib.hid hgr2
        by_cases hlk : k < j
        · have hkR : k < R := by have := HNR.out; omega
          obtain ⟨hck, hcw⟩ := HCOL.out k hkR
          obtain ⟨l0, l1, l2, l3⟩ := hg.look hkR hcw
          have cx := hgr.cell (HC.out k _ hck) HGB.out
          have co := hgr2.cell (HOC.out k hlk) HGOB.out
          have HSET : Hid (setsZ W zs (colN cs) (fun r => f r + d) (k + 1) = (setsZ W zs (colN cs) (fun r => f r + d) k).set (k * W + colN cs k) (f k + d)) := rfl
          clear hg hgr hgr2 hck
          generalize hxx : cellD (setsZ W zs (colN cs) (fun r => f r + d) k) (k * W + colN cs k) = xx at *
          generalize hy : colN cs k = y at *
          generalize f k + d = zz at *
          have HY := Lib.hid hy
          clear hxx hy
          have d1 : (0 : Int) ≤ (k : Int) := by omega
          have d2 : (k : Int) < (j : Int) := by omega
          have d3 : (k : Int) < (R : Int) := by omega
          have d4 : (0 : Int) ≤ (y : Int) := by omega
          have d5 : (y : Int) < (W : Int) := by omega
          go_wp2_with fail
          refine wp_region_still_tail 16 (by kernel_rfl) (by kernel_rfl) ?_
          simp only [List.take_succ_cons, List.take_zero, List.drop_succ_cons, List.drop_zero]
          have HG3 : Hid (RefIs { heap := wr.heap, tape := wr.tape, drawn := wr.drawn + 1, os := wr.os, output := wr.output } N G (.slice (some ⟨L, 0, none⟩) R vcap) B K R W (setsZ W zs (colN cs) (fun r => f r + d) k)) := Lib.hid (HG2.out.drewN 1)
          have HGR3 : Hid (RGr w { heap := wr.heap, tape := wr.tape, drawn := wr.drawn + 1, os := wr.os, output := wr.output } B R) := Lib.hid (HGR.out.trans (RGr.of_below (below_drewN (Below.refl _ _) 1)))
          have HGR4 : Hid (RGr wo { heap := wr.heap, tape := wr.tape, drawn := wr.drawn + 1, os := wr.os, output := wr.output } B R) := Lib.hid (HGR2.out.trans (RGr.of_below (below_drewN (Below.refl _ _) 1)))
          change World.cell? { heap := wr.heap, tape := wr.tape, drawn := wr.drawn + 1, os := wr.os, output := wr.output } _ = _ at l0 l1 l2 cx co
          change World.frozen? { heap := wr.heap, tape := wr.tape, drawn := wr.drawn + 1, os := wr.os, output := wr.output } _ = _ at l3
          generalize ({ heap := wr.heap, tape := wr.tape, drawn := wr.drawn + 1, os := wr.os, output := wr.output } : World) = wd at *
          generalize hBk : B k = Bk at *
          have HBK := Lib.hid hBk
          clear hBk
          generalize K k = Kk at *
          repeat still_step
          refine wpStill_nil ?_
          go_wp2
          go_roundw
          case rel => exact ⟨k + 1, by omega, by go_num, by rw [HSET.out, ← HBK.out]; exact HG3.out.set k y zz hkR hcw, by rw [← HBK.out]; exact HGR3.out.trans (RGr.set hkR _), by rw [← HBK.out]; exact HGR4.out.trans (RGr.set hkR _)⟩
          case measure => simp [intOf]; omega
        · obtain rfl : k = j := by omega
          clear hg hgr hgr2
          go_wp2
          go_ret
          exact .inl ⟨HFT.out, rfl, by rw [HCZ.out]; exact HG2.out, HGR.out⟩

def CSpec (R W : Nat) (zs cs : List Int) (d : Int) (err : Int) (zs' : List Int) : Prop :=
  (meetB R W cs = false ∧ err = 1 ∧ zs' = zs) ∨ (meetB R W cs = true ∧ ((changeFits W zs cs d ∧ err = 0 ∧ zs' = changeZ W zs cs d) ∨ (¬ changeFits W zs cs d ∧ err = 4 ∧ zs' = zs)))
theorem CSpec.unique {R W : Nat} {zs cs : List Int} {d e1 e2 : Int} {z1 z2 : List Int} (h1 : CSpec R W zs cs d e1 z1) (h2 : CSpec R W zs cs d e2 z2) : e2 = e1 ∧ z2 = z1 := by
  rcases h1 with ⟨m1, rfl, rfl⟩ | ⟨m1, h1⟩
  · rcases h2 with ⟨m2, rfl, rfl⟩ | ⟨m2, h2⟩
    · exact ⟨rfl, rfl⟩
    · rw [m1] at m2; cases m2
  · rcases h2 with ⟨m2, rfl, rfl⟩ | ⟨m2, h2⟩
    · rw [m1] at m2; cases m2
    · rcases h1 with ⟨a1, rfl, rfl⟩ | ⟨a1, rfl, rfl⟩ <;> rcases h2 with ⟨a2, rfl, rfl⟩ | ⟨a2, rfl, rfl⟩ <;> first | exact ⟨rfl, rfl⟩ | exact absurd a1 a2 | exact absurd a2 a1
theorem change_all (w : World) (G C R W : Nat) (zs cs : List Int) (d : Int) (v : Value) (h : GridIs w G C R W zs) (hv : RowI w v cs) (hl : cs.length ≤ 100000) (hd : In64 d) :
    Calls Try.prog 26 #[.pointer (some ⟨G, 0, none⟩), v, .int .i64 d] w fun e w' => ∃ err zs', e = .returned (.int .i64 err) ∧ CSpec R W zs cs d err zs' ∧ GridIs w' G C R W zs' ∧ w.grownBy w' (some C) := by
  cases hm : meetB R W cs with
  | false =>
    refine (change_no w G C R W zs cs d v h hv.ints hl hm).mono ?_
    rintro e w' ⟨rfl, hb⟩
    subst hb
    exact ⟨1, zs, rfl, .inl ⟨hm, rfl, rfl⟩, h, below_grown (Below.refl _ _)⟩
  | true =>
    obtain ⟨curC, hC, -⟩ := h.cells
    refine (change_yes w G C R W zs cs d v h hv.ints hm hd (hv.neC hC (by decide))).mono ?_
    rintro e w' (⟨h1, rfl, hg, hgr⟩ | ⟨h1, rfl, hb⟩)
    · exact ⟨0, _, rfl, .inr ⟨hm, .inl ⟨h1, rfl, rfl⟩⟩, hg, hgr⟩
    · exact ⟨4, zs, rfl, .inr ⟨hm, .inr ⟨h1, rfl, rfl⟩⟩, h.kept hb, below_grown hb⟩
theorem rchange_all (w : World) (N G : Nat) (v : Value) (B K : Nat → Nat) (R W : Nat) (zs cs : List Int) (d : Int) (vc : Value) (h : RefIs w N G v B K R W zs) (hv : RowI w vc cs) (hl : cs.length ≤ 100000) (hd : In64 d) (hfit : Fit zs) :
    Calls Try.prog 27 #[.pointer (some ⟨G, 0, none⟩), vc, .int .i64 d] w fun e w' => ∃ err zs', e = .returned (.int .i64 err) ∧ CSpec R W zs cs d err zs' ∧ RefIs w' N G v B K R W zs' ∧ RGr w w' B R := by
  cases hm : meetB R W cs with
  | false =>
    refine (rchange_no w N G v B K R W zs cs d vc h hv.ints hl hm).mono ?_
    rintro e w' ⟨rfl, hb⟩
    exact ⟨1, zs, rfl, .inl ⟨hm, rfl, rfl⟩, h.kept hb, RGr.of_below hb⟩
  | true =>
    refine (rchange_yes w N G v B K R W zs cs d vc h hv hm hd hfit).mono ?_
    rintro e w' (⟨h1, rfl, hg, hgr⟩ | ⟨h1, rfl, hb⟩)
    · exact ⟨0, _, rfl, .inr ⟨hm, .inl ⟨h1, rfl, rfl⟩⟩, hg, hgr⟩
    · exact ⟨4, zs, rfl, .inr ⟨hm, .inr ⟨h1, rfl, rfl⟩⟩, h.kept hb, RGr.of_below hb⟩
end Go.Proofs.Ytcinlcbmjboaaaa
