/-
  The walk of LinearBack. Conditions: the arguments are of their types.
-/
import Derived.Test.YtcinlcbmjboaaaaLinO
import Derived.Test.YtcinlcbmjboaaaaGrdM
namespace Go.Proofs.Ytcinlcbmjboaaaa
open Go.RowKit
set_option linter.unusedVariables false
set_option linter.unusedSimpArgs false

def shColsK : Sh := .slice (.int .i64)
/-- a change taken back -/
theorem change_back {R W : Nat} {zs cs : List Int} {d : Int} (hl : zs.length = R * W) (hm : meetB R W cs = true) : changeZ W (changeZ W zs cs d) cs (-d) = zs := by
  obtain ⟨h0, hlen, hcol⟩ := meetB_of hm
  have hlc : (changeZ W zs cs d).length = R * W := by rw [changeZ, setsZ_len, hl]
  refine cellD_ext (R := R) (W := W) (by rw [changeZ, setsZ_len, hlc]) hl (fun r c hr hc => ?_)
  have h1 : ∀ r c, r < R → c < W → cellD (changeZ W zs cs d) (r * W + c) = if r < R ∧ c = colN cs r then cellD zs (r * W + colN cs r) + d else cellD zs (r * W + c) := fun r c hr hc => by
    rw [changeZ, hlen]; exact setsZ_get hl (fun r hr => (hcol r hr).2) R (Nat.le_refl _) r c hr hc
  rw [changeZ, hlen, setsZ_get hlc (fun r hr => (hcol r hr).2) R (Nat.le_refl _) r c hr hc, h1 r c hr hc, h1 r (colN cs r) hr (hcol r hr).2]
  by_cases e : c = colN cs r
  · rw [if_pos ⟨hr, e⟩, if_pos ⟨hr, rfl⟩, e]; omega
  · rw [if_neg (fun k => e k.2), if_neg (fun k => e k.2)]
theorem back_fits {R W : Nat} {zs cs : List Int} {d : Int} (hl : zs.length = R * W) (hm : meetB R W cs = true) (hf : Fit zs) : changeFits W (changeZ W zs cs d) cs (-d) := by
  obtain ⟨h0, hlen, hcol⟩ := meetB_of hm
  intro r hr
  rw [hlen] at hr
  rw [changeZ, hlen, setsZ_get hl (fun r hr => (hcol r hr).2) R (Nat.le_refl _) r _ hr (hcol r hr).2, if_pos ⟨hr, rfl⟩]
  have := cell_fit hf (r * W + colN cs r)
  obtain ⟨h1, h2⟩ := this
  exact ⟨by omega, by omega⟩

theorem change_undo (w : World) (G C R W : Nat) (zs cs : List Int) (d : Int) (v : Value) (h : GridIs w G C R W (changeZ W zs cs d)) (hv : IntsAt w v cs) (hm : meetB R W cs = true) (hd : In64 (-d)) (hvc : v.ownBlock ≠ some C) (hl : zs.length = R * W) (hf : Fit zs) :
    Calls Try.prog 26 #[.pointer (some ⟨G, 0, none⟩), v, .int .i64 (-d)] w fun e w' => e = .returned (.int .i64 0) ∧ GridIs w' G C R W zs ∧ w.grownBy w' (some C) := by
  refine (change_yes w G C R W _ cs (-d) v h hv hm hd hvc).mono ?_
  rintro e w' (⟨-, h1, h2, h3⟩ | ⟨hno, -, -⟩)
  · have e2 := change_back (d := d) hl hm
    exact ⟨h1, e2 ▸ h2, h3⟩
  · exact absurd (back_fits hl hm hf) hno

set_option maxRecDepth 100000 in
set_option maxHeartbeats 8000000 in
theorem LinearBack_main (r c : Int) (l : Value) (n : Nat) (cs : Nat → List Int) (ds : Nat → Int) (v1 : Value) (c1s : List Int) (d : Int) (hd : In64 d) (w : World) (hl : StepsAt w l n cs ds) (hv1 : ColsAt w v1 c1s) :
    Calls Try.prog 8 #[.agg #[.int .i64 r, .int .i64 c, l], v1, .int .i64 d] w fun e w' => e = .returned (.bool true) ∧ Below w.heap.size w w' := by
  have P0 := Lib.hid (fun w => sized08 r c l w)
  have P1 := Lib.hid (fun w => new_any (sizeR r : Int) (sizeW c : Int) w)
  obtain ⟨r1, r2, -⟩ := sizeR_bd r
  obtain ⟨c1, c2, -⟩ := sizeW_bd c
  generalize sizeR r = R at *
  generalize sizeW c = W at *
  have eR : clampN (R : Int) 8 = R := by unfold clampN; omega
  have eW : clampN (W : Int) 128 = W := by unfold clampN; omega
  rw [eR, eW] at P1
  clear eR eW
  have HL := Lib.hid hl
  have HV := Lib.hid hv1
  have PCUT := Lib.hid (fun w1 (h : ColsAt w1 v1 c1s) => cut_any v1 c1s R W (by omega) (by omega) (by omega) w1 h)
  have HCM := Lib.hid (cut_meet (cs := c1s) (R := R) (W := W) (by omega) (by omega))
  obtain ⟨ao, cap, rfl, hmx, hd64, hcells⟩ := hl
  have HCL := Lib.hid hcells
  have HD64 := Lib.hid hd64
  clear hcells hd64
  obtain ⟨vo, vcap, rfl, hj1, hj2, hj3⟩ := hv1
  clear hj1 hj2 hj3
  generalize c1s.length = n1 at *
  obtain ⟨m, hm⟩ : ∃ m, m = min n 60 := ⟨_, rfl⟩
  have em : ∀ j : Nat, (decide ((j : Int) < (n : Int)) = true ∧ decide ((j : Int) < 60) = true) ↔ j < m := by intro j; rw [hm]; simp only [decide_eq_true_eq]; omega
  have EM := Lib.hid em
  have HM := Lib.hid hm
  clear hm em
  go_enter Try.func8, Try.ntmps8
  go_wp2_with fail
  obtain ⟨g1, hb1, hsz1⟩ := news1 w (.cells #[.int .i64 r, .int .i64 c, .slice ao n cap] 24)
  have hx1 : Blk _ w.heap.size 24 #[.int .i64 r, .int .i64 c, .slice ao n cap] := g1
  have HV1 := Lib.hid (HV.out.kept hb1)
  have HB1 := Lib.hid hb1
  have HX1 := Lib.hid hx1
  clear g1 hb1 hx1
  generalize (w.alloc (.cells #[.int .i64 r, .int .i64 c, .slice ao n cap] 24)) = wz at *
  generalize hA : w.heap.size = A at *
  have HA := Lib.hid hA
  clear hA
  refine (shown08 wz).mono ?_; rintro e w1 ⟨rfl, hb⟩
  have hx1 := HX1.out.kept hb
  have HX2 := Lib.hid hx1
  have HB2 := Lib.hid (HB1.out.trans (hb.mono (by omega)))
  have HV2 := Lib.hid (HV1.out.kept hb)
  have hs1 : A + 1 ≤ w1.heap.size := by have := hb.size; omega
  clear hb
  go_wp2_with (refine wpList_load_row rfl 24 _ rfl A rfl 24 _ (0, 0) _ hx1 Try.underlying24 rfl (by kernel_rfl) ?_)
  refine (P0.out w1).mono ?_; rintro e w2 ⟨rfl, hb⟩
  have HX3 := Lib.hid (HX2.out.kept hb)
  have HB3 := Lib.hid (HB2.out.trans (hb.mono (by omega)))
  have HV3 := Lib.hid (HV2.out.kept hb)
  have hs2 : A + 1 ≤ w2.heap.size := by have := hb.size; omega
  clear hb hx1
  go_wp2_with fail
  refine (P1.out w2).mono ?_; rintro e w3 ⟨G, C, rfl, hG, hC, hg, hb⟩
  have HX4 := Lib.hid (HX3.out.kept hb)
  have HB4 := Lib.hid (HB3.out.trans (hb.mono (by omega)))
  have HV4 := Lib.hid (HV3.out.kept hb)
  have HG4 := Lib.hid hg
  have hGC : A + 1 ≤ G ∧ A + 1 ≤ C := ⟨by omega, by omega⟩
  have hs3 : A + 1 ≤ w3.heap.size := by have := hb.size; omega
  have q2 := (HX3.out.kept hb).cell 2
  simp at q2
  clear hb hg hG hC
  go_wp2_with fail
  go_loopw [11] (fun i wr => ∃ (j : Nat) (zs : List Int), j ≤ m ∧ i = .int .i64 (j : Int) ∧ GridIs wr G C R W zs ∧ Blk wr A 24 #[.int .i64 r, .int .i64 c, .slice ao n cap] ∧ Below A w wr ∧ A + 1 ≤ wr.heap.size) (fun i _ => m - (intOf i).toNat)
  case atStart => exact ⟨0, _, by omega, rfl, HG4.out, HX4.out, HB4.out, hs3⟩
  case round =>
    obtain ⟨j, zs, hjm, rfl, hg, hx, hbel, hsz⟩ := hrel
    clear HG4 HX4 HB4 q2 HX1 HX2 HX3
    have HG := Lib.hid hg
    have HX := Lib.hid hx
    have HB := Lib.hid hbel
    have q2 := hx.cell 2
    simp at q2
    clear hg hx hbel
    by_cases hlt : j < m
    · obtain ⟨d1, d2⟩ := (EM.out j).2 hlt
      have hjn : j < n := by have := HM.out; omega
      have hj60 : j < 60 := by have := HM.out; omega
      obtain ⟨b, off, rfl, hbl, hc⟩ := HCL.out (by omega)
      obtain ⟨⟨vk, ck1, ck2⟩, ck3⟩ := hc j hjn
      have ck1 := (HB.out.cell (p := ⟨b, off + j * 2, none⟩) hbl).trans ck1
      have ck3 := (HB.out.cell (p := ⟨b, off + j * 2 + 1, none⟩) hbl).trans ck3
      have CK2 := Lib.hid (ck2.kept (w' := wr) (HB.out.mono (by rw [HA.out]; exact Nat.le_refl _)))
      have hdj := HD64.out j hjn
      have i0 : (0 : Int) ≤ (j : Int) := by omega
      have i1 : (j : Int) < (n : Int) := by omega
      clear hc ck2
      go_wp2_with fail
      refine (cut_any vk (cs j) 2 1000 (by omega) (by omega) (by omega) wr CK2.out).mono ?_; rintro e wa ⟨v2, rfl, hr2, -, hb⟩
      have hcv0 := cutV_bd (W := 1000) (by omega) (cs j) 0
      have hcv1 := cutV_bd (W := 1000) (by omega) (cs j) 1
      obtain ⟨g2, cp2, cur2, rfl, hcl2, hb2, hx2⟩ := hr2
      have a0 := (hb2.cell 0).trans (hx2 0 (cutV 1000 (cs j) 0) (by simp [cutZ]))
      have a1 := (hb2.cell 1).trans (hx2 1 (cutV 1000 (cs j) 1) (by simp [cutZ]))
      have q2 := (HX.out.kept hb).cell 2
      simp at q2
      have ck3 := (hb.cell (p := ⟨b, off + j * 2 + 1, none⟩) (by show b < _; omega)).trans ck3
      have hlen2 : (cutZ (cs j) 2 1000).length = 2 := cutZ_len
      simp only [hlen2] at *
      have HXa := Lib.hid (HX.out.kept hb)
      have HGa := Lib.hid (HG.out.kept hb)
      have HBa := Lib.hid (HB.out.trans (hb.mono (by omega)))
      have hsa : A + 1 ≤ wa.heap.size := by have := hb.size; omega
      obtain ⟨curC, hCb, -⟩ := HGa.out.cells
      have hg2C : g2 ≠ C := hb2.ne_ hCb (by decide)
      have hAC : A ≠ C := by omega
      have hbC : b ≠ C := by have : b < A := hbl; omega
      clear hb hb2 hx2 hcl2 hlen2 hCb
      generalize cutV 1000 (cs j) 0 = x0 at *
      generalize cutV 1000 (cs j) 1 = x1 at *
      generalize ds j = dj at *
      have hR0 : ((R : Int) == 0) = false := by simp; omega
      have hW0 : ((W : Int) == 0) = false := by simp; omega
      have hR0' : ¬ R = 0 := by omega
      have hW0' : ¬ W = 0 := by omega
      go_wp2_with fail
      refine wp_region_held_drew (S := fun w' => w'.cell? ⟨g2, 0, none⟩ = some (.int .i64 x0) ∧ w'.cell? ⟨g2, 1, none⟩ = some (.int .i64 x1) ∧ w'.cell? ⟨A, 2, none⟩ = some (.slice (some ⟨b, off, none⟩) n cap) ∧ w'.cell? ⟨b, off + j * 2 + 1, none⟩ = some (.int .i64 dj)) (by kernel_rfl) (by exact ⟨a0, a1, q2, ck3⟩) (fun hHeld => ?_)
      refine wpAnyH_take (i := 0) (v := ?_) rfl (by kernel_rfl) (by kernel_rfl) (by kernel_rfl) (fun _ _ _ h => h) (Or.inl ⟨by rfl, ?_⟩) (by assumption) ?_
      rotate_left
      · intro w hSw
        try dsimp only at hSw
        go_simp
        try with_reducible rfl
      simp only [Act.put, List.setIfInBounds_toArray, List.set_cons_zero, List.set_cons_succ, List.getElem_toArray, List.getElem_cons_zero, List.getElem_cons_succ]
      refine wpAnyH_take (i := 1) (v := ?_) rfl (by kernel_rfl) (by kernel_rfl) (by kernel_rfl) (fun _ _ _ h => h) (Or.inl ⟨by rfl, ?_⟩) (by assumption) ?_
      rotate_left
      · intro w hSw
        try dsimp only at hSw
        go_simp
        try with_reducible rfl
      simp only [Act.put, List.setIfInBounds_toArray, List.set_cons_zero, List.set_cons_succ, List.getElem_toArray, List.getElem_cons_zero, List.getElem_cons_succ]
      refine wpAnyH_take (i := 2) (v := ?_) rfl (by kernel_rfl) (by kernel_rfl) (by kernel_rfl) (fun _ _ _ h => h) (Or.inl ⟨by rfl, ?_⟩) (by assumption) ?_
      rotate_left
      · intro w hSw
        try dsimp only at hSw
        go_simp
        try with_reducible rfl
      simp only [Act.put, List.setIfInBounds_toArray, List.set_cons_zero, List.set_cons_succ, List.getElem_toArray, List.getElem_cons_zero, List.getElem_cons_succ]
      refine wpAnyH_take (i := 3) (v := ?_) rfl (by kernel_rfl) (by kernel_rfl) (by kernel_rfl) (fun _ _ _ h => h) (Or.inl ⟨by rfl, ?_⟩) (by assumption) ?_
      rotate_left
      · intro w hSw
        obtain ⟨s1, s2, s3, s4⟩ := hSw
        go_simp
        try with_reducible rfl
      simp only [Act.put, List.setIfInBounds_toArray, List.set_cons_zero, List.set_cons_succ, List.getElem_toArray, List.getElem_cons_zero, List.getElem_cons_succ]
      refine wpAnyH_take (i := 4) (v := ?_) rfl (by kernel_rfl) (by kernel_rfl) (by kernel_rfl) (fun _ _ _ h => h) (Or.inl ⟨by rfl, ?_⟩) (by assumption) ?_
      rotate_left
      · intro w hSw
        try dsimp only at hSw
        go_simp
        try with_reducible rfl
      simp only [Act.put, List.setIfInBounds_toArray, List.set_cons_zero, List.set_cons_succ, List.getElem_toArray, List.getElem_cons_zero, List.getElem_cons_succ]
      refine wpAnyH_take (i := 5) (v := ?_) rfl (by kernel_rfl) (by kernel_rfl) (by kernel_rfl) (fun _ _ _ h => h) (Or.inl ⟨by rfl, ?_⟩) (by assumption) ?_
      rotate_left
      · intro w hSw
        try dsimp only at hSw
        go_simp
        try with_reducible rfl
      simp only [Act.put, List.setIfInBounds_toArray, List.set_cons_zero, List.set_cons_succ, List.getElem_toArray, List.getElem_cons_zero, List.getElem_cons_succ]
      refine wpAnyH_take (i := 6) (v := ?_) rfl (by kernel_rfl) (by kernel_rfl) (by kernel_rfl) (fun _ _ _ h => h) (Or.inl ⟨by rfl, ?_⟩) (by assumption) ?_
      rotate_left
      · intro w hSw
        try dsimp only at hSw
        go_simp
        try with_reducible rfl
      simp only [Act.put, List.setIfInBounds_toArray, List.set_cons_zero, List.set_cons_succ, List.getElem_toArray, List.getElem_cons_zero, List.getElem_cons_succ]
      refine wpAnyH_take (i := 7) (v := ?_) rfl (by kernel_rfl) (by kernel_rfl) (by kernel_rfl) (fun _ _ _ h => h) (Or.inl ⟨by rfl, ?_⟩) (by assumption) ?_
      rotate_left
      · intro w hSw
        try dsimp only at hSw
        go_simp
        try with_reducible rfl
      simp only [Act.put, List.setIfInBounds_toArray, List.set_cons_zero, List.set_cons_succ, List.getElem_toArray, List.getElem_cons_zero, List.getElem_cons_succ]
      refine wpAnyH_take (i := 8) (v := ?_) rfl (by kernel_rfl) (by kernel_rfl) (by kernel_rfl) (fun _ _ _ h => h) (Or.inl ⟨by rfl, ?_⟩) (by assumption) ?_
      rotate_left
      · intro w hSw
        obtain ⟨s1, s2, s3, s4⟩ := hSw
        go_simp
        try with_reducible rfl
      simp only [Act.put, List.setIfInBounds_toArray, List.set_cons_zero, List.set_cons_succ, List.getElem_toArray, List.getElem_cons_zero, List.getElem_cons_succ]
      refine wpAnyH_take (i := 9) (v := ?_) rfl (by kernel_rfl) (by kernel_rfl) (by kernel_rfl) (fun _ _ _ h => h) (Or.inl ⟨by rfl, ?_⟩) (by assumption) ?_
      rotate_left
      · intro w hSw
        try dsimp only at hSw
        go_simp
        try with_reducible rfl
      simp only [Act.put, List.setIfInBounds_toArray, List.set_cons_zero, List.set_cons_succ, List.getElem_toArray, List.getElem_cons_zero, List.getElem_cons_succ]
      refine wpAnyH_take (i := 10) (v := ?_) rfl (by kernel_rfl) (by kernel_rfl) (by kernel_rfl) (fun _ _ _ h => h) (Or.inl ⟨by rfl, ?_⟩) (by assumption) ?_
      rotate_left
      · intro w hSw
        try dsimp only at hSw
        go_simp
        try with_reducible rfl
      simp only [Act.put, List.setIfInBounds_toArray, List.set_cons_zero, List.set_cons_succ, List.getElem_toArray, List.getElem_cons_zero, List.getElem_cons_succ]
      refine wpAnyH_take (i := 11) (v := ?_) rfl (by kernel_rfl) (by kernel_rfl) (by kernel_rfl) (fun _ _ _ h => h) (Or.inl ⟨by rfl, ?_⟩) (by assumption) ?_
      rotate_left
      · intro w hSw
        try dsimp only at hSw
        go_simp
        try with_reducible rfl
      simp only [Act.put, List.setIfInBounds_toArray, List.set_cons_zero, List.set_cons_succ, List.getElem_toArray, List.getElem_cons_zero, List.getElem_cons_succ]
      refine wpAnyH_take (i := 12) (v := ?_) rfl (by kernel_rfl) (by kernel_rfl) (by kernel_rfl) (fun _ _ _ h => h) (Or.inl ⟨by rfl, ?_⟩) (by assumption) ?_
      rotate_left
      · intro w hSw
        obtain ⟨s1, s2, s3, s4⟩ := hSw
        go_simp
        try with_reducible rfl
      simp only [Act.put, List.setIfInBounds_toArray, List.set_cons_zero, List.set_cons_succ, List.getElem_toArray, List.getElem_cons_zero, List.getElem_cons_succ]
      refine wpAnyH_take (i := 13) (v := ?_) rfl (by kernel_rfl) (by kernel_rfl) (by kernel_rfl) (fun _ _ _ h => h) (Or.inl ⟨by rfl, ?_⟩) (by assumption) ?_
      rotate_left
      · intro w hSw
        try dsimp only at hSw
        go_simp
        try with_reducible rfl
      simp only [Act.put, List.setIfInBounds_toArray, List.set_cons_zero, List.set_cons_succ, List.getElem_toArray, List.getElem_cons_zero, List.getElem_cons_succ]
      refine wpAnyH_take (i := 14) (v := ?_) rfl (by kernel_rfl) (by kernel_rfl) (by kernel_rfl) (fun _ _ _ h => h) (Or.inl ⟨by rfl, ?_⟩) (by assumption) ?_
      rotate_left
      · intro w hSw
        try dsimp only at hSw
        go_simp
        try with_reducible rfl
      simp only [Act.put, List.setIfInBounds_toArray, List.set_cons_zero, List.set_cons_succ, List.getElem_toArray, List.getElem_cons_zero, List.getElem_cons_succ]
      refine wpAnyH_take (i := 15) (v := ?_) rfl (by kernel_rfl) (by kernel_rfl) (by kernel_rfl) (fun _ _ _ h => h) (Or.inl ⟨by rfl, ?_⟩) (by assumption) ?_
      rotate_left
      · intro w hSw
        try dsimp only at hSw
        go_simp
        try with_reducible rfl
      simp only [Act.put, List.setIfInBounds_toArray, List.set_cons_zero, List.set_cons_succ, List.getElem_toArray, List.getElem_cons_zero, List.getElem_cons_succ]
      refine wpAnyH_take (i := 16) (v := ?_) rfl (by kernel_rfl) (by kernel_rfl) (by kernel_rfl) (fun _ _ _ h => h) (Or.inl ⟨by rfl, ?_⟩) (by assumption) ?_
      rotate_left
      · intro w hSw
        obtain ⟨s1, s2, s3, s4⟩ := hSw
        go_simp
        try with_reducible rfl
      simp only [Act.put, List.setIfInBounds_toArray, List.set_cons_zero, List.set_cons_succ, List.getElem_toArray, List.getElem_cons_zero, List.getElem_cons_succ]
      refine wpAnyH_ready (rs := [17]) (by kernel_rfl) (by simp) ?_
      refine AllReadyH.cons rfl (fun Kc hKc => ?_) AllReadyH.nil
      go_simp
      go_wp2_with (go_at_call 34; refine (put_any _ G C R W _ _ _ dj (HGa.out.drewN 1) hdj.1 hdj.2).mono ?_; rintro e w' ⟨rfl, hg', hgr⟩; have HG1 := Lib.hid hg'; have HGR := Lib.hid hgr; clear hg' hgr)
      refine hKc.out _ _ ?_ (fun hHeld => ?_)
      · first | assumption | exact ⟨HGR.out.cell hHeld.1 (by simpa using hg2C), HGR.out.cell hHeld.2.1 (by simpa using hg2C), HGR.out.cell hHeld.2.2.1 (by simpa using hAC), HGR.out.cell hHeld.2.2.2 (by simpa using hbC)⟩
      clear hKc Kc
      refine wpAnyH_done (by kernel_rfl) ?_ _
      clear hHeld
      have HX5 := Lib.hid ((HXa.out.drewN 1).grown HGR.out (by simpa using hAC))
      have HB5 := Lib.hid ((below_drewN HBa.out 1).grown HGR.out (by show A ≤ wa.heap.size; omega) (fun k e => by have := Option.some.inj e; omega))
      have hs5 : A + 1 ≤ w'.heap.size := by have h : wa.heap.size ≤ w'.heap.size := HGR.out.size; omega
      go_wp2
      go_roundw
      case rel => exact ⟨j + 1, _, by omega, by go_num, HG1.out, HX5.out, HB5.out, hs5⟩
      case measure => simp [intOf]; omega
    · obtain rfl : j = m := by omega
      have hd' : (decide (j < n) = false ∧ decide ((j : Int) < (n : Int)) = false) ∨ ((decide (j < n) = true ∧ decide ((j : Int) < (n : Int)) = true) ∧ decide ((j : Int) < 60) = false ∧ decide (j < 60) = false) := by
        have := HM.out
        by_cases h1 : j < n
        · exact .inr ⟨⟨decide_eq_true h1, decide_eq_true (by omega)⟩, decide_eq_false (by omega), decide_eq_false (by omega)⟩
        · exact .inl ⟨decide_eq_false h1, decide_eq_false (by omega)⟩
      have hzl : zs.length ≤ 1024 := by rw [HG.out.len]; exact Nat.mul_le_mul HG.out.rows HG.out.width
      have hab : A ≤ wr.heap.size := by omega
      have HVr := Lib.hid (HV.out.kept (w' := wr) (HB.out.mono (by rw [HA.out]; exact Nat.le_refl _)))
      have PC1 := cells_ints wr G C R W _ HG.out
      have hCr := HG.out.ltC
      clear hlt
      rcases hd' with ⟨d3, d5⟩ | ⟨⟨d3, d5⟩, d4, d6⟩
      all_goals
        go_wp2_with fail
        refine PC1.mono ?_; clear PC1; rintro e w4 ⟨gw, cw, rfl, hcw, hgw, hin, hb⟩
        have hgwC : gw ≠ C := by omega
        have HI4 := Lib.hid hin
        have HG4 := Lib.hid (HG.out.kept hb)
        have HV5 := Lib.hid (HVr.out.kept hb)
        have HB4 := Lib.hid (HB.out.trans (hb.mono hab))
        have hs4 : A + 1 ≤ w4.heap.size := by have := hb.size; omega
        clear hin hb hgw
        go_wp2_with fail
        refine (PCUT.out w4 HV5.out).mono ?_; rintro e w5 ⟨v2, rfl, hr2, -, hb⟩
        have HR2 := Lib.hid hr2
        have HI5 := Lib.hid (HI4.out.kept hb)
        have HG5 := Lib.hid (HG4.out.kept hb)
        have HB5 := Lib.hid (HB4.out.trans (hb.mono (by omega)))
        have hs5 : A + 1 ≤ w5.heap.size := by have := hb.size; omega
        clear hr2 hb
        obtain ⟨curC, hCb, -⟩ := HG5.out.cells
        have PCH := change_yes w5 G C R W zs _ d v2 HG5.out HR2.out.ints HCM.out hd (HR2.out.neC hCb (by decide))
        have HCB := Lib.hid hCb
        clear hCb
        go_wp2_with fail
        refine PCH.mono ?_; clear PCH; rintro e w6 (⟨-, rfl, hg6, hgr⟩ | ⟨-, rfl, hb⟩)
        · have HG6 := Lib.hid hg6
          have HI6 := Lib.hid (HI5.out.grown hgr (.inr (by simpa [Value.ownBlock] using hgwC)))
          have HB6 := Lib.hid (HB5.out.grown hgr (by omega) (fun k e => by have := Option.some.inj e; omega))
          have HR6 := Lib.hid (HR2.out.far hgr HCB.out (by decide))
          have hs6 : A + 1 ≤ w6.heap.size := by have := hgr.size; omega
          clear hg6 hgr
          by_cases hmin : d = -9223372036854775808
          · have e1 : (d == -9223372036854775808) = true := by simp [hmin]
            clear hmin
            go_wp2
            go_ret
            exact ⟨rfl, by rw [HA.out]; exact HB6.out⟩
          · have e1 : (d == -9223372036854775808) = false := by simp [hmin]
            have hneg : In64 (-d) := by obtain ⟨h1, h2⟩ := hd; exact ⟨by omega, by omega⟩
            have e2 : wrap64 (-d) = -d := by have h1 := hd.1; have h2 := hd.2; unfold wrap64; omega
            have e3 : IntKind.i64.wrap (-d) = -d := wrapI_of _ hneg.1 hneg.2
            obtain ⟨curC6, hCb, -⟩ := HG6.out.cells
            have PCH := change_undo w6 G C R W zs _ d v2 HG6.out HR6.out.ints HCM.out hneg (HR6.out.neC hCb (by decide)) HG5.out.len HG5.out.fit
            clear hCb hmin
            go_wp2_with fail
            refine PCH.mono ?_; clear PCH; rintro e w7 ⟨rfl, hg7, hgr⟩
            · have HG7 := Lib.hid hg7
              have HI7 := Lib.hid (HI6.out.grown hgr (.inr (by simpa [Value.ownBlock] using hgwC)))
              have HB7 := Lib.hid (HB6.out.grown hgr (by omega) (fun k e => by have := Option.some.inj e; omega))
              have hs7 : A + 1 ≤ w7.heap.size := by have := hgr.size; omega
              clear hg7 hgr
              have PC1 := cells_ints w7 G C R W _ HG7.out
              go_wp2_with fail
              refine PC1.mono ?_; clear PC1; rintro e w8 ⟨g8, c8, rfl, hc8, -, hin, hb⟩
              have HI8 := Lib.hid (HI7.out.kept hb)
              have HJ8 := Lib.hid hin
              have HB8 := Lib.hid (HB7.out.trans (hb.mono (by omega)))
              have hs8 : A + 1 ≤ w8.heap.size := by have := hb.size; omega
              clear hin hb
              have PS := same_yes HJ8.out HI8.out (by omega)
              go_wp2_with fail
              refine PS.mono ?_; clear PS; rintro e w9 ⟨rfl, hb⟩
              have HB9 := Lib.hid (HB8.out.trans (hb.mono (by omega)))
              clear hb
              go_wp2
              go_ret
              exact ⟨rfl, by rw [HA.out]; exact HB9.out⟩
        · have HG6 := Lib.hid (HG5.out.kept hb)
          have HI6 := Lib.hid (HI5.out.kept hb)
          have HB6 := Lib.hid (HB5.out.trans (hb.mono (by omega)))
          have hs6 : A + 1 ≤ w6.heap.size := by have := hb.size; omega
          clear hb
          have PC1 := cells_ints w6 G C R W _ HG6.out
          go_wp2_with fail
          refine PC1.mono ?_; clear PC1; rintro e w8 ⟨g8, c8, rfl, hc8, -, hin, hb⟩
          have HI8 := Lib.hid (HI6.out.kept hb)
          have HJ8 := Lib.hid hin
          have HB8 := Lib.hid (HB6.out.trans (hb.mono (by omega)))
          have hs8 : A + 1 ≤ w8.heap.size := by have := hb.size; omega
          clear hin hb
          have PS := same_yes HJ8.out HI8.out (by omega)
          go_wp2_with fail
          refine PS.mono ?_; clear PS; rintro e w9 ⟨rfl, hb⟩
          have HB9 := Lib.hid (HB8.out.trans (hb.mono (by omega)))
          clear hb
          go_wp2
          go_ret
          exact ⟨rfl, by rw [HA.out]; exact HB9.out⟩
theorem LinearBack_walk (v0 v1 v2 : Value) (w : World) (h0 : shPlay.Val w v0) (h1 : (Sh.slice (.int .i64)).Val w v1) (h2 : (Sh.int .i64).Val w v2) :
    Calls Try.prog 8 #[v0, v1, v2] w fun e w' => e = .returned (.bool true) ∧ Below w.heap.size w w' := by
  obtain ⟨r, c, l, n, cs, ds, rfl, h⟩ := val_play h0
  obtain ⟨c1s, hc⟩ := cols_of_val h1
  obtain ⟨d, rfl, hz⟩ := Sh.val_int h2
  refine LinearBack_main r c l n cs ds v1 c1s d ?_ w h hc
  simp [Lit.wf, IntKind.min, IntKind.max, IntKind.signed, IntKind.bits] at hz
  exact ⟨by omega, by omega⟩
end Go.Proofs.Ytcinlcbmjboaaaa
