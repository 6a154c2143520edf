/-
  The walk of conserve.Raise. Conditions: none beyond those stated at each theorem.
-/
import Derived.Test.YtcinlcbmjboaaaaLinO
import Derived.Test.YtcinlcbmjboaaaaLinS
import Derived.Test.YtcinlcbmjboaaaaGrdM
namespace Go.Proofs.Ytcinlcbmjboaaaa
open Go.RowKit
set_option linter.unusedVariables false
set_option linter.unusedSimpArgs false

def riseV (W : Nat) (zs cs : List Int) (n : Int) (r : Nat) : Int := if cellD zs (r * W + colN cs r) < n then n else cellD zs (r * W + colN cs r)
/-- the cells behind a raise up to n -/
def raiseZ (W : Nat) (zs cs : List Int) (n : Int) : List Int := setsZ W zs (colN cs) (riseV W zs cs n) cs.length
def RaisePost (w : World) (G C R W : Nat) (zs cs : List Int) (d : Int) (e : Ending) (w' : World) : Prop :=
  ∃ u, IsKth (readZ W zs cs) 0 u ∧ ((d < 0 ∧ e = .returned (.int .i64 3) ∧ Below w.heap.size w w') ∨ (0 ≤ d ∧ ¬ In64 (u + d) ∧ e = .returned (.int .i64 4) ∧ Below w.heap.size w w') ∨
    (0 ≤ d ∧ In64 (u + d) ∧ e = .returned (.int .i64 0) ∧ GridIs w' G C R W (raiseZ W zs cs (u + d)) ∧ w.grownBy w' (some C)))

theorem set_same {zs : List Int} {i : Nat} (h : i < zs.length) : zs.set i (cellD zs i) = zs := by
  apply List.ext_getElem?
  intro k
  rw [List.getElem?_set]
  by_cases e : i = k
  · subst e; simp [h, cellD]
  · rw [if_neg e]
def RisePost (w : World) (G C R W r c : Nat) (zs : List Int) (nn : Int) (e : Ending) (w' : World) : Prop :=
  (∃ v, e = .returned v) ∧ GridIs w' G C R W (zs.set (r * W + c) (if cellD zs (r * W + c) < nn then nn else cellD zs (r * W + c))) ∧ w.grownBy w' (some C)
set_option maxRecDepth 100000 in
set_option maxHeartbeats 4000000 in
theorem rise_any (w : World) (A NB G C R W r c : Nat) (zs : List Int) (nn : Int) (h : GridIs w G C R W zs) (hr : r < R) (hc : c < W) (hn : In64 nn) (hA : Blk w A 28 #[.pointer (some ⟨G, 0, none⟩)]) (hN : Blk w NB 2 #[.int .i64 nn]) :
    Calls Try.prog 54 #[.int .i64 (r : Int), .int .i64 (c : Int), .pointer (some ⟨A, 0, none⟩), .pointer (some ⟨NB, 0, none⟩)] w (RisePost w G C R W r c zs nn) := by
  obtain ⟨b1, b2, b3⟩ := placeBd hr hc h.rows h.width
  have hlen : r * W + c < zs.length := by rw [h.len]; omega
  have PA := Lib.hid (at_in (w.drewN 1) G C R W r c zs (h.drewN 1) hr hc)
  have PP := Lib.hid (put_in (w.drewN 1) G C R W r c nn zs (h.drewN 1) hr hc)
  have HG := Lib.hid (h.drewN 1)
  have HA := Lib.hid (hA.drewN 1)
  have HN := Lib.hid (hN.drewN 1)
  have HSAME := Lib.hid (set_same hlen)
  have hgr0 : Hid (w.grownBy (w.drewN 1) (some C)) := Lib.hid (below_grown (below_drewN (Below.refl _ _) 1))
  have a0 := (hA.drewN 1).cell 0
  have n0 := (hN.drewN 1).cell 0
  simp at a0 n0
  unfold RisePost
  clear hlen h b1 b2 b3 hA hN
  generalize cellD zs (r * W + c) = x at *
  go_enter Try.func54, Try.ntmps54
  go_wp2_with fail
  refine wp_region_held_drew (S := fun w' => Blk w' A 28 #[.pointer (some ⟨G, 0, none⟩)] ∧ Blk w' NB 2 #[.int .i64 nn]) (by kernel_rfl) (by exact ⟨HA.out, HN.out⟩) (fun hHeld => ?_)
  refine wpAnyH_take (i := 0) (v := ?_) rfl (by kernel_rfl) (by kernel_rfl) (by kernel_rfl) (fun _ _ _ h => h) (Or.inl ⟨by rfl, ?_⟩) (by assumption) ?_
  rotate_left
  · intro w hSw
    have c1 := hSw.1.cell 0
    have c2 := hSw.2.cell 0
    simp at c1 c2
    go_simp
    try with_reducible rfl
  simp only [Act.put, List.setIfInBounds_toArray, List.set_cons_zero, List.set_cons_succ, List.getElem_toArray, List.getElem_cons_zero, List.getElem_cons_succ]
  refine wpAnyH_take (i := 1) (v := ?_) rfl (by kernel_rfl) (by kernel_rfl) (by kernel_rfl) (fun _ _ _ h => h) (Or.inl ⟨by rfl, ?_⟩) (by assumption) ?_
  rotate_left
  · intro w hSw
    try dsimp only at hSw
    go_simp
    try with_reducible rfl
  simp only [Act.put, List.setIfInBounds_toArray, List.set_cons_zero, List.set_cons_succ, List.getElem_toArray, List.getElem_cons_zero, List.getElem_cons_succ]
  refine wpAnyH_take (i := 2) (v := ?_) rfl (by kernel_rfl) (by kernel_rfl) (by kernel_rfl) (fun _ _ _ h => h) (Or.inl ⟨by rfl, ?_⟩) (by assumption) ?_
  rotate_left
  · intro w hSw
    try dsimp only at hSw
    go_simp
    try with_reducible rfl
  simp only [Act.put, List.setIfInBounds_toArray, List.set_cons_zero, List.set_cons_succ, List.getElem_toArray, List.getElem_cons_zero, List.getElem_cons_succ]
  refine wpAnyH_take (i := 4) (v := ?_) rfl (by kernel_rfl) (by kernel_rfl) (by kernel_rfl) (fun _ _ _ h => h) (Or.inl ⟨by rfl, ?_⟩) (by assumption) ?_
  rotate_left
  · intro w hSw
    have c1 := hSw.1.cell 0
    have c2 := hSw.2.cell 0
    simp at c1 c2
    go_simp
    try with_reducible rfl
  simp only [Act.put, List.setIfInBounds_toArray, List.set_cons_zero, List.set_cons_succ, List.getElem_toArray, List.getElem_cons_zero, List.getElem_cons_succ]
  refine wpAnyH_ready (rs := [3]) (by kernel_rfl) (by simp) ?_
  refine AllReadyH.cons rfl (fun Kc hKc => ?_) AllReadyH.nil
  go_simp
  go_wp2_with (go_at_call 18; refine PA.out.mono ?_; rintro e w' ⟨rfl, hw'⟩; subst hw')
  refine hKc.out _ _ ?_ (fun hHeld => ?_)
  · assumption
  clear hKc Kc
  refine wpAnyH_take (i := 5) (v := ?_) rfl (by kernel_rfl) (by kernel_rfl) (by kernel_rfl) (fun _ _ _ h => h) (Or.inl ⟨by rfl, ?_⟩) (by assumption) ?_
  rotate_left
  · intro w hSw
    try dsimp only at hSw
    go_simp
    try with_reducible rfl
  simp only [Act.put, List.setIfInBounds_toArray, List.set_cons_zero, List.set_cons_succ, List.getElem_toArray, List.getElem_cons_zero, List.getElem_cons_succ]
  refine wpAnyH_done (by kernel_rfl) ?_ _
  clear hHeld
  by_cases hlt : x < nn
  · have e1 : decide (x < nn) = true := decide_eq_true hlt
    have a1 : w.drew.cell? ⟨A, 0, none⟩ = some (.pointer (some ⟨G, 0, none⟩)) := a0
    have n1 : w.drew.cell? ⟨NB, 0, none⟩ = some (.int .i64 nn) := n0
    go_wp2_with fail
    refine PP.out.mono ?_; rintro e w' ⟨rfl, hw'⟩
    have HW := Lib.hid hw'
    clear hw'
    go_wp2
    (try simp only [Exit.inBlock, Exit.then])
    refine bodyPost_end (results_none rfl _ _ _) rfl ?_
    refine ⟨⟨_, rfl⟩, ?_, ?_⟩
    · rw [HW.out]; first | exact HG.out.set _ _ hn.1 hn.2 | (rw [if_pos (by omega)]; exact HG.out.set _ _ hn.1 hn.2)
    · rw [HW.out]; exact grown_trans hgr0.out (grown_set _ _ _ _)
  · have e1 : decide (x < nn) = false := decide_eq_false hlt
    go_wp2
    (try simp only [Exit.inBlock, Exit.then])
    refine bodyPost_end (results_none rfl _ _ _) rfl ?_
    exact ⟨⟨_, rfl⟩, by first | (rw [HSAME.out]; exact HG.out) | (rw [if_neg (by omega), HSAME.out]; exact HG.out), hgr0.out⟩

set_option maxRecDepth 100000 in
set_option maxHeartbeats 4000000 in
theorem raise_yes (w : World) (G C R W : Nat) (zs cs : List Int) (d : Int) (v : Value) (h : GridIs w G C R W zs) (hv : IntsAt w v cs) (hm : meetB R W cs = true) (hd : In64 d) (hvc : v.ownBlock ≠ some C) :
    Calls Try.prog 36 #[.pointer (some ⟨G, 0, none⟩), v, .int .i64 d] w (RaisePost w G C R W zs cs d) := by
  have hR8 := h.rows
  have hfit := h.fit
  obtain ⟨h0R, hlR, hcol⟩ := meetB_of hm
  have HK := Lib.hid (box_kept (w := w) (cs := #[.pointer (some ⟨G, 0, none⟩)]) (t := 28) (Below.refl _ _))
  have P1 := least_yes _ G C R W zs cs v (h.kept HK.out.2) (hv.kept HK.out.2) hm
  unfold TellPost at P1
  have HG := Lib.hid h
  have HCOL := Lib.hid hcol
  have HFIT := Lib.hid hfit
  have HV := Lib.hid hv
  clear h hcol hm hfit
  obtain ⟨ao, cap, rfl, hcap, hcells⟩ := hv
  obtain ⟨g, rfl, hg, hc⟩ := hcells (by omega)
  have HC := Lib.hid hc
  have hgC : g ≠ C := fun e => hvc (by simp [Value.ownBlock, e])
  clear hcells hc hvc
  obtain ⟨n, hlen⟩ : ∃ n, n = cs.length := ⟨_, rfl⟩
  rw [← hlen] at hcap P1 ⊢
  have HLEN := Lib.hid hlen
  have hn8 : n ≤ 8 := by omega
  have hnR : Hid (n = R) := by show _ = _; omega
  clear hlen hlR
  have hbx := HK.out.1
  have q0 := hbx.cell 0
  simp at q0
  go_enter Try.func36, Try.ntmps36
  go_wp2_with fail
  refine P1.mono ?_; clear P1; rintro e w2 ⟨u, rfl, hu, hb⟩
  have HU := Lib.hid hu
  have HX2 := Lib.hid (hbx.kept hb)
  have HB2 := Lib.hid (HK.out.2.trans (hb.mono HK.out.2.size))
  have hu64 : In64 u := by
    have := (kth_zero hu).1
    simp only [readZ, List.mem_map] at this
    obtain ⟨r, _, rfl⟩ := this
    exact cell_fit HFIT.out _
  clear hu hb q0
  by_cases hneg : d < 0
  · have e1 : decide (d < 0) = true := decide_eq_true hneg
    go_wp2
    go_ret
    exact ⟨u, HU.out, .inl ⟨hneg, rfl, HB2.out⟩⟩
  · have e1 : decide (d < 0) = false := decide_eq_false hneg
    by_cases hs64 : In64 (u + d)
    · have P2 := (opok_plus u d w2 hu64 hd).1 hs64
      unfold TwoPost at P2
      go_wp2_with fail
      refine P2.mono ?_; clear P2; rintro e w3 ⟨rfl, hb⟩
      have HX3 := Lib.hid (HX2.out.kept hb)
      have HB3 := Lib.hid (btr HB2.out hb)
      have hA3 := HX3.out.lt
      clear hb
      go_wp2_with fail
      obtain ⟨nn, hnn⟩ : ∃ nn, nn = u + d := ⟨_, rfl⟩
      rw [← hnn]
      have hn64 : In64 nn := by rw [hnn]; exact hs64
      have HNN := Lib.hid hnn
      have hnb := Blk.new w3 2 #[.int .i64 nn]
      have HX4 := Lib.hid (HX3.out.alloc (.cells #[.int .i64 nn] 2))
      have hb4 : Below w.heap.size w (w3.alloc (.cells #[.int .i64 nn] 2)) := btr HB3.out (below_alloc1 _ _)
      have HG4 := Lib.hid (HG.out.kept hb4)
      have HGR4 := Lib.hid (below_grown (row := some C) hb4)
      have HNB := Lib.hid hnb
      have hne1 : w3.heap.size ≠ C := by have := HG.out.ltC; have := HB3.out.size; omega
      have hne2 : w.heap.size ≠ C := by have := HG.out.ltC; omega
      clear hnn hs64 hnb hb4
      generalize (w3.alloc (.cells #[.int .i64 nn] 2)) = w5 at *
      generalize hNB : w3.heap.size = NB at *
      clear hNB
      go_loopw [36] (fun i wr => ∃ j : Nat, j ≤ n ∧ i = .int .i64 (j : Int) ∧ GridIs wr G C R W (setsZ W zs (colN cs) (riseV W zs cs nn) j) ∧ Blk wr w.heap.size 28 #[.pointer (some ⟨G, 0, none⟩)] ∧ Blk wr NB 2 #[.int .i64 nn] ∧ w.grownBy wr (some C)) (fun i _ => n - (intOf i).toNat)
      case atStart => exact ⟨0, by omega, rfl, HG4.out, HX4.out, HNB.out, HGR4.out⟩
      case round =>
        obtain ⟨j, hj, rfl, hg', hx', hnb', hgr'⟩ := hrel
        clear HG4 HX4 HNB HGR4
        have HG5 := Lib.hid hg'
        have HX5 := Lib.hid hx'
        have HN5 := Lib.hid hnb'
        have HGR := Lib.hid hgr'
        by_cases hlt : j < n
        · obtain ⟨hcj, hcw⟩ := HCOL.out j (by have := hnR.out; omega)
          have cx := hgr'.cell (HC.out j _ hcj) (by simpa using hgC)
          have i0 : (0 : Int) ≤ (j : Int) := by omega
          have i1 : (j : Int) < (n : Int) := by omega
          have PR := Lib.hid (rise_any wr w.heap.size NB G C R W j (colN cs j) _ nn hg' (by have := hnR.out; omega) hcw hn64 hx' hnb')
          have HST : Hid ((setsZ W zs (colN cs) (riseV W zs cs nn) j).set (j * W + colN cs j) (if cellD (setsZ W zs (colN cs) (riseV W zs cs nn) j) (j * W + colN cs j) < nn then nn else cellD (setsZ W zs (colN cs) (riseV W zs cs nn) j) (j * W + colN cs j)) = setsZ W zs (colN cs) (riseV W zs cs nn) (j + 1)) := Lib.hid (by
            have e := setsZ_get (cf := colN cs) (vf := riseV W zs cs nn) HG.out.len (fun r hr => (HCOL.out r hr).2) j (by have := hnR.out; omega) j (colN cs j) (by have := hnR.out; omega) hcw
            rw [if_neg (by omega)] at e
            rw [e]; rfl)
          unfold RisePost at PR
          clear hg' hx' hnb' hgr' hcj hcw
          rw [HST.out] at PR
          generalize hy : colN cs j = y at *
          clear hy HST
          go_wp2_with fail
          refine PR.out.mono ?_; rintro e w6 ⟨⟨v, rfl⟩, hg6, hgr6⟩
          have HG6 := Lib.hid hg6
          have HX6 := Lib.hid (HX5.out.grown hgr6 (by simpa using hne2))
          have HN6 := Lib.hid (HN5.out.grown hgr6 (by simpa using hne1))
          have HGR6 := Lib.hid (grown_trans HGR.out hgr6)
          clear hg6 hgr6
          go_wp2
          go_roundw
          case rel => exact ⟨j + 1, by omega, by go_num, HG6.out, HX6.out, HN6.out, HGR6.out⟩
          case measure => simp [intOf]; omega
        · obtain rfl : j = n := by omega
          have HP : Hid (RaisePost w G C R W zs cs d (.returned (.int .i64 0)) wr) := ⟨u, HU.out, .inr (.inr ⟨by omega, by rw [← HNN.out]; exact hn64, rfl, by rw [← HNN.out, raiseZ, ← HLEN.out]; exact HG5.out, HGR.out⟩)⟩
          clear hg' hx' hnb' hgr'
          go_wp2
          go_ret
          exact HP.out
    · have P2 := (opok_plus u d w2 hu64 hd).2 hs64
      unfold TwoPost at P2
      go_wp2_with fail
      refine P2.mono ?_; clear P2; rintro e w3 ⟨rfl, hb⟩
      have HB3 := Lib.hid (btr HB2.out hb)
      have HB4 : Hid (Below w.heap.size w (w3.alloc (.cells #[.int .i64 0] 2))) := Lib.hid (btr HB3.out (below_alloc1 _ _))
      clear hb
      go_wp2
      go_ret
      exact ⟨u, HU.out, .inr (.inl ⟨by omega, hs64, rfl, HB4.out⟩)⟩
end Go.Proofs.Ytcinlcbmjboaaaa
