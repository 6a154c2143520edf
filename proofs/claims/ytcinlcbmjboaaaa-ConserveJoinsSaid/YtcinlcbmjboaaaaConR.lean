/-
  The walk of ConserveRises. Conditions: the arguments are of their types.
-/
import Derived.Test.YtcinlcbmjboaaaaConS
import Derived.Test.YtcinlcbmjboaaaaLinO
import Derived.Test.YtcinlcbmjboaaaaGrdM
namespace Go.Proofs.Ytcinlcbmjboaaaa
open Go.RowKit
set_option linter.unusedVariables false
set_option linter.unusedSimpArgs false

def shColsR : Sh := .slice (.int .i64)
theorem raise_get {R W : Nat} {zs cs : List Int} {n : Int} (hl : zs.length = R * W) (hm : meetB R W cs = true) (r c : Nat) (hr : r < R) (hc : c < W) :
    cellD (raiseZ W zs cs n) (r * W + c) = if c = colN cs r then (if cellD zs (r * W + c) < n then n else cellD zs (r * W + c)) else cellD zs (r * W + c) := by
  obtain ⟨h0, hlen, hcol⟩ := meetB_of hm
  rw [raiseZ, hlen, setsZ_get hl (fun r hr => (hcol r hr).2) R (Nat.le_refl _) r c hr hc]
  by_cases e : c = colN cs r
  · rw [if_pos ⟨hr, e⟩, if_pos e, e]; rfl
  · rw [if_neg (fun k => e k.2), if_neg e]
theorem raise_len {W : Nat} {zs cs : List Int} {n : Int} : (raiseZ W zs cs n).length = zs.length := by rw [raiseZ, setsZ_len]
/-- behind a raise the least one is just so much more -/
theorem raise_least {R W : Nat} {zs cs : List Int} {u d t : Int} (hl : zs.length = R * W) (hm : meetB R W cs = true) (hu : IsKth (readZ W zs cs) 0 u) (hd : 0 ≤ d) (ht : IsKth (readZ W (raiseZ W zs cs (u + d)) cs) 0 t) : t = u + d := by
  obtain ⟨h0, hlen, hcol⟩ := meetB_of hm
  have hg : ∀ r, r < R → cellD (raiseZ W zs cs (u + d)) (r * W + colN cs r) = if cellD zs (r * W + colN cs r) < u + d then u + d else cellD zs (r * W + colN cs r) := fun r hr => by
    rw [raise_get hl hm r _ hr (hcol r hr).2, if_pos rfl]
  obtain ⟨hm1, hle1⟩ := kth_zero hu
  obtain ⟨hm2, hle2⟩ := kth_zero ht
  simp only [readZ, List.mem_map, List.mem_range] at hm1 hm2
  obtain ⟨r1, hr1, e1⟩ := hm1
  obtain ⟨r2, hr2, e2⟩ := hm2
  rw [hlen] at hr1 hr2
  have h3 : t ≤ cellD (raiseZ W zs cs (u + d)) (r1 * W + colN cs r1) := hle2 _ (by simp only [readZ, List.mem_map, List.mem_range]; exact ⟨r1, by omega, rfl⟩)
  rw [hg r1 hr1, e1] at h3
  rw [hg r2 hr2] at e2
  split at h3 <;> split at e2 <;> omega

set_option maxRecDepth 100000 in
set_option maxHeartbeats 8000000 in
theorem ConserveRises_main (r c : Int) (l : Value) (n : Nat) (cs : Nat → List Int) (ds : Nat → Int) (v1 : Value) (c1s : List Int) (d : Int) (hd : In64 d) (w : World) (hl : StepsAt w l n cs ds) (hv1 : ColsAt w v1 c1s) :
    Calls Try.prog 10 #[.agg #[.int .i64 r, .int .i64 c, l], v1, .int .i64 d] w fun e w' => e = .returned (.bool true) ∧ Below w.heap.size w w' := by
  have P0 := Lib.hid (fun w => sized09 r c l w)
  have P1 := Lib.hid (fun w => new_any (sizeR r : Int) (sizeW c : Int) w)
  obtain ⟨r1, r2, -⟩ := sizeR_bd r
  obtain ⟨c1, c2, -⟩ := sizeW_bd c
  generalize sizeR r = R at *
  generalize sizeW c = W at *
  have eR : clampN (R : Int) 8 = R := by unfold clampN; omega
  have eW : clampN (W : Int) 128 = W := by unfold clampN; omega
  rw [eR, eW] at P1
  clear eR eW
  have HL := Lib.hid hl
  have HV := Lib.hid hv1
  have PCUT := Lib.hid (fun w1 (h : ColsAt w1 v1 c1s) => cut_any v1 c1s R W (by omega) (by omega) (by omega) w1 h)
  have HCM := Lib.hid (cut_meet (cs := c1s) (R := R) (W := W) (by omega) (by omega))
  obtain ⟨ao, cap, rfl, hmx, hd64, hcells⟩ := hl
  have HCL := Lib.hid hcells
  have HD64 := Lib.hid hd64
  clear hcells hd64
  obtain ⟨vo, vcap, rfl, hj1, hj2, hj3⟩ := hv1
  clear hj1 hj2 hj3
  generalize c1s.length = n1 at *
  obtain ⟨m, hm⟩ : ∃ m, m = min n 60 := ⟨_, rfl⟩
  have em : ∀ j : Nat, (decide ((j : Int) < (n : Int)) = true ∧ decide ((j : Int) < 60) = true) ↔ j < m := by intro j; rw [hm]; simp only [decide_eq_true_eq]; omega
  have EM := Lib.hid em
  have HM := Lib.hid hm
  clear hm em
  go_enter Try.func10, Try.ntmps10
  go_wp2_with fail
  obtain ⟨g1, hb1, hsz1⟩ := news1 w (.cells #[.int .i64 r, .int .i64 c, .slice ao n cap] 63)
  have hx1 : Blk _ w.heap.size 63 #[.int .i64 r, .int .i64 c, .slice ao n cap] := g1
  have HV1 := Lib.hid (HV.out.kept hb1)
  have HB1 := Lib.hid hb1
  have HX1 := Lib.hid hx1
  clear g1 hb1 hx1
  generalize (w.alloc (.cells #[.int .i64 r, .int .i64 c, .slice ao n cap] 63)) = wz at *
  generalize hA : w.heap.size = A at *
  have HA := Lib.hid hA
  clear hA
  refine (shown09 wz).mono ?_; rintro e w1 ⟨rfl, hb⟩
  have hx1 := HX1.out.kept hb
  have HX2 := Lib.hid hx1
  have HB2 := Lib.hid (HB1.out.trans (hb.mono (by omega)))
  have HV2 := Lib.hid (HV1.out.kept hb)
  have hs1 : A + 1 ≤ w1.heap.size := by have := hb.size; omega
  clear hb
  go_wp2_with (refine wpList_load_row rfl 63 _ rfl A rfl 63 _ (0, 0) _ hx1 Try.underlying63 rfl (by kernel_rfl) ?_)
  refine (P0.out w1).mono ?_; rintro e w2 ⟨rfl, hb⟩
  have HX3 := Lib.hid (HX2.out.kept hb)
  have HB3 := Lib.hid (HB2.out.trans (hb.mono (by omega)))
  have HV3 := Lib.hid (HV2.out.kept hb)
  have hs2 : A + 1 ≤ w2.heap.size := by have := hb.size; omega
  clear hb hx1
  go_wp2_with fail
  refine (P1.out w2).mono ?_; rintro e w3 ⟨G, C, rfl, hG, hC, hg, hb⟩
  have HX4 := Lib.hid (HX3.out.kept hb)
  have HB4 := Lib.hid (HB3.out.trans (hb.mono (by omega)))
  have HV4 := Lib.hid (HV3.out.kept hb)
  have HG4 := Lib.hid hg
  have hGC : A + 1 ≤ G ∧ A + 1 ≤ C := ⟨by omega, by omega⟩
  have hs3 : A + 1 ≤ w3.heap.size := by have := hb.size; omega
  have q2 := (HX3.out.kept hb).cell 2
  simp at q2
  clear hb hg hG hC
  go_wp2_with fail
  go_loopw [11] (fun i wr => ∃ (j : Nat) (zs : List Int), j ≤ m ∧ i = .int .i64 (j : Int) ∧ GridIs wr G C R W zs ∧ Blk wr A 63 #[.int .i64 r, .int .i64 c, .slice ao n cap] ∧ Below A w wr ∧ A + 1 ≤ wr.heap.size) (fun i _ => m - (intOf i).toNat)
  case atStart => exact ⟨0, _, by omega, rfl, HG4.out, HX4.out, HB4.out, hs3⟩
  case round =>
    obtain ⟨j, zs, hjm, rfl, hg, hx, hbel, hsz⟩ := hrel
    clear HG4 HX4 HB4 q2 HX1 HX2 HX3
    have HG := Lib.hid hg
    have HX := Lib.hid hx
    have HB := Lib.hid hbel
    have q2 := hx.cell 2
    simp at q2
    clear hg hx hbel
    by_cases hlt : j < m
    · obtain ⟨d1, d2⟩ := (EM.out j).2 hlt
      have hjn : j < n := by have := HM.out; omega
      have hj60 : j < 60 := by have := HM.out; omega
      obtain ⟨b, off, rfl, hbl, hc⟩ := HCL.out (by omega)
      obtain ⟨⟨vk, ck1, ck2⟩, ck3⟩ := hc j hjn
      have ck1 := (HB.out.cell (p := ⟨b, off + j * 2, none⟩) hbl).trans ck1
      have ck3 := (HB.out.cell (p := ⟨b, off + j * 2 + 1, none⟩) hbl).trans ck3
      have CK2 := Lib.hid (ck2.kept (w' := wr) (HB.out.mono (by rw [HA.out]; exact Nat.le_refl _)))
      have hdj := HD64.out j hjn
      have i0 : (0 : Int) ≤ (j : Int) := by omega
      have i1 : (j : Int) < (n : Int) := by omega
      clear hc ck2
      go_wp2_with fail
      refine (cut_any vk (cs j) 2 1000 (by omega) (by omega) (by omega) wr CK2.out).mono ?_; rintro e wa ⟨v2, rfl, hr2, -, hb⟩
      have hcv0 := cutV_bd (W := 1000) (by omega) (cs j) 0
      have hcv1 := cutV_bd (W := 1000) (by omega) (cs j) 1
      obtain ⟨g2, cp2, cur2, rfl, hcl2, hb2, hx2⟩ := hr2
      have a0 := (hb2.cell 0).trans (hx2 0 (cutV 1000 (cs j) 0) (by simp [cutZ]))
      have a1 := (hb2.cell 1).trans (hx2 1 (cutV 1000 (cs j) 1) (by simp [cutZ]))
      have q2 := (HX.out.kept hb).cell 2
      simp at q2
      have ck3 := (hb.cell (p := ⟨b, off + j * 2 + 1, none⟩) (by show b < _; omega)).trans ck3
      have hlen2 : (cutZ (cs j) 2 1000).length = 2 := cutZ_len
      simp only [hlen2] at *
      have HXa := Lib.hid (HX.out.kept hb)
      have HGa := Lib.hid (HG.out.kept hb)
      have HBa := Lib.hid (HB.out.trans (hb.mono (by omega)))
      have hsa : A + 1 ≤ wa.heap.size := by have := hb.size; omega
      obtain ⟨curC, hCb, -⟩ := HGa.out.cells
      have hg2C : g2 ≠ C := hb2.ne_ hCb (by decide)
      have hAC : A ≠ C := by omega
      have hbC : b ≠ C := by have : b < A := hbl; omega
      clear hb hb2 hx2 hcl2 hlen2 hCb
      generalize cutV 1000 (cs j) 0 = x0 at *
      generalize cutV 1000 (cs j) 1 = x1 at *
      generalize ds j = dj at *
      have hR0 : ((R : Int) == 0) = false := by simp; omega
      have hW0 : ((W : Int) == 0) = false := by simp; omega
      have hR0' : ¬ R = 0 := by omega
      have hW0' : ¬ W = 0 := by omega
      go_wp2_with fail
      refine wp_region_held_drew (S := fun w' => w'.cell? ⟨g2, 0, none⟩ = some (.int .i64 x0) ∧ w'.cell? ⟨g2, 1, none⟩ = some (.int .i64 x1) ∧ w'.cell? ⟨A, 2, none⟩ = some (.slice (some ⟨b, off, none⟩) n cap) ∧ w'.cell? ⟨b, off + j * 2 + 1, none⟩ = some (.int .i64 dj)) (by kernel_rfl) (by exact ⟨a0, a1, q2, ck3⟩) (fun hHeld => ?_)
      refine wpAnyH_take (i := 0) (v := ?_) rfl (by kernel_rfl) (by kernel_rfl) (by kernel_rfl) (fun _ _ _ h => h) (Or.inl ⟨by rfl, ?_⟩) (by assumption) ?_
      rotate_left
      · intro w hSw
        try dsimp only at hSw
        go_simp
        try with_reducible rfl
      simp only [Act.put, List.setIfInBounds_toArray, List.set_cons_zero, List.set_cons_succ, List.getElem_toArray, List.getElem_cons_zero, List.getElem_cons_succ]
      refine wpAnyH_take (i := 1) (v := ?_) rfl (by kernel_rfl) (by kernel_rfl) (by kernel_rfl) (fun _ _ _ h => h) (Or.inl ⟨by rfl, ?_⟩) (by assumption) ?_
      rotate_left
      · intro w hSw
        try dsimp only at hSw
        go_simp
        try with_reducible rfl
      simp only [Act.put, List.setIfInBounds_toArray, List.set_cons_zero, List.set_cons_succ, List.getElem_toArray, List.getElem_cons_zero, List.getElem_cons_succ]
      refine wpAnyH_take (i := 2) (v := ?_) rfl (by kernel_rfl) (by kernel_rfl) (by kernel_rfl) (fun _ _ _ h => h) (Or.inl ⟨by rfl, ?_⟩) (by assumption) ?_
      rotate_left
      · intro w hSw
        try dsimp only at hSw
        go_simp
        try with_reducible rfl
      simp only [Act.put, List.setIfInBounds_toArray, List.set_cons_zero, List.set_cons_succ, List.getElem_toArray, List.getElem_cons_zero, List.getElem_cons_succ]
      refine wpAnyH_take (i := 3) (v := ?_) rfl (by kernel_rfl) (by kernel_rfl) (by kernel_rfl) (fun _ _ _ h => h) (Or.inl ⟨by rfl, ?_⟩) (by assumption) ?_
      rotate_left
      · intro w hSw
        obtain ⟨s1, s2, s3, s4⟩ := hSw
        go_simp
        try with_reducible rfl
      simp only [Act.put, List.setIfInBounds_toArray, List.set_cons_zero, List.set_cons_succ, List.getElem_toArray, List.getElem_cons_zero, List.getElem_cons_succ]
      refine wpAnyH_take (i := 4) (v := ?_) rfl (by kernel_rfl) (by kernel_rfl) (by kernel_rfl) (fun _ _ _ h => h) (Or.inl ⟨by rfl, ?_⟩) (by assumption) ?_
      rotate_left
      · intro w hSw
        try dsimp only at hSw
        go_simp
        try with_reducible rfl
      simp only [Act.put, List.setIfInBounds_toArray, List.set_cons_zero, List.set_cons_succ, List.getElem_toArray, List.getElem_cons_zero, List.getElem_cons_succ]
      refine wpAnyH_take (i := 5) (v := ?_) rfl (by kernel_rfl) (by kernel_rfl) (by kernel_rfl) (fun _ _ _ h => h) (Or.inl ⟨by rfl, ?_⟩) (by assumption) ?_
      rotate_left
      · intro w hSw
        try dsimp only at hSw
        go_simp
        try with_reducible rfl
      simp only [Act.put, List.setIfInBounds_toArray, List.set_cons_zero, List.set_cons_succ, List.getElem_toArray, List.getElem_cons_zero, List.getElem_cons_succ]
      refine wpAnyH_take (i := 6) (v := ?_) rfl (by kernel_rfl) (by kernel_rfl) (by kernel_rfl) (fun _ _ _ h => h) (Or.inl ⟨by rfl, ?_⟩) (by assumption) ?_
      rotate_left
      · intro w hSw
        try dsimp only at hSw
        go_simp
        try with_reducible rfl
      simp only [Act.put, List.setIfInBounds_toArray, List.set_cons_zero, List.set_cons_succ, List.getElem_toArray, List.getElem_cons_zero, List.getElem_cons_succ]
      refine wpAnyH_take (i := 7) (v := ?_) rfl (by kernel_rfl) (by kernel_rfl) (by kernel_rfl) (fun _ _ _ h => h) (Or.inl ⟨by rfl, ?_⟩) (by assumption) ?_
      rotate_left
      · intro w hSw
        try dsimp only at hSw
        go_simp
        try with_reducible rfl
      simp only [Act.put, List.setIfInBounds_toArray, List.set_cons_zero, List.set_cons_succ, List.getElem_toArray, List.getElem_cons_zero, List.getElem_cons_succ]
      refine wpAnyH_take (i := 8) (v := ?_) rfl (by kernel_rfl) (by kernel_rfl) (by kernel_rfl) (fun _ _ _ h => h) (Or.inl ⟨by rfl, ?_⟩) (by assumption) ?_
      rotate_left
      · intro w hSw
        obtain ⟨s1, s2, s3, s4⟩ := hSw
        go_simp
        try with_reducible rfl
      simp only [Act.put, List.setIfInBounds_toArray, List.set_cons_zero, List.set_cons_succ, List.getElem_toArray, List.getElem_cons_zero, List.getElem_cons_succ]
      refine wpAnyH_take (i := 9) (v := ?_) rfl (by kernel_rfl) (by kernel_rfl) (by kernel_rfl) (fun _ _ _ h => h) (Or.inl ⟨by rfl, ?_⟩) (by assumption) ?_
      rotate_left
      · intro w hSw
        try dsimp only at hSw
        go_simp
        try with_reducible rfl
      simp only [Act.put, List.setIfInBounds_toArray, List.set_cons_zero, List.set_cons_succ, List.getElem_toArray, List.getElem_cons_zero, List.getElem_cons_succ]
      refine wpAnyH_take (i := 10) (v := ?_) rfl (by kernel_rfl) (by kernel_rfl) (by kernel_rfl) (fun _ _ _ h => h) (Or.inl ⟨by rfl, ?_⟩) (by assumption) ?_
      rotate_left
      · intro w hSw
        try dsimp only at hSw
        go_simp
        try with_reducible rfl
      simp only [Act.put, List.setIfInBounds_toArray, List.set_cons_zero, List.set_cons_succ, List.getElem_toArray, List.getElem_cons_zero, List.getElem_cons_succ]
      refine wpAnyH_take (i := 11) (v := ?_) rfl (by kernel_rfl) (by kernel_rfl) (by kernel_rfl) (fun _ _ _ h => h) (Or.inl ⟨by rfl, ?_⟩) (by assumption) ?_
      rotate_left
      · intro w hSw
        try dsimp only at hSw
        go_simp
        try with_reducible rfl
      simp only [Act.put, List.setIfInBounds_toArray, List.set_cons_zero, List.set_cons_succ, List.getElem_toArray, List.getElem_cons_zero, List.getElem_cons_succ]
      refine wpAnyH_take (i := 12) (v := ?_) rfl (by kernel_rfl) (by kernel_rfl) (by kernel_rfl) (fun _ _ _ h => h) (Or.inl ⟨by rfl, ?_⟩) (by assumption) ?_
      rotate_left
      · intro w hSw
        obtain ⟨s1, s2, s3, s4⟩ := hSw
        go_simp
        try with_reducible rfl
      simp only [Act.put, List.setIfInBounds_toArray, List.set_cons_zero, List.set_cons_succ, List.getElem_toArray, List.getElem_cons_zero, List.getElem_cons_succ]
      refine wpAnyH_take (i := 13) (v := ?_) rfl (by kernel_rfl) (by kernel_rfl) (by kernel_rfl) (fun _ _ _ h => h) (Or.inl ⟨by rfl, ?_⟩) (by assumption) ?_
      rotate_left
      · intro w hSw
        try dsimp only at hSw
        go_simp
        try with_reducible rfl
      simp only [Act.put, List.setIfInBounds_toArray, List.set_cons_zero, List.set_cons_succ, List.getElem_toArray, List.getElem_cons_zero, List.getElem_cons_succ]
      refine wpAnyH_take (i := 14) (v := ?_) rfl (by kernel_rfl) (by kernel_rfl) (by kernel_rfl) (fun _ _ _ h => h) (Or.inl ⟨by rfl, ?_⟩) (by assumption) ?_
      rotate_left
      · intro w hSw
        try dsimp only at hSw
        go_simp
        try with_reducible rfl
      simp only [Act.put, List.setIfInBounds_toArray, List.set_cons_zero, List.set_cons_succ, List.getElem_toArray, List.getElem_cons_zero, List.getElem_cons_succ]
      refine wpAnyH_take (i := 15) (v := ?_) rfl (by kernel_rfl) (by kernel_rfl) (by kernel_rfl) (fun _ _ _ h => h) (Or.inl ⟨by rfl, ?_⟩) (by assumption) ?_
      rotate_left
      · intro w hSw
        try dsimp only at hSw
        go_simp
        try with_reducible rfl
      simp only [Act.put, List.setIfInBounds_toArray, List.set_cons_zero, List.set_cons_succ, List.getElem_toArray, List.getElem_cons_zero, List.getElem_cons_succ]
      refine wpAnyH_take (i := 16) (v := ?_) rfl (by kernel_rfl) (by kernel_rfl) (by kernel_rfl) (fun _ _ _ h => h) (Or.inl ⟨by rfl, ?_⟩) (by assumption) ?_
      rotate_left
      · intro w hSw
        obtain ⟨s1, s2, s3, s4⟩ := hSw
        go_simp
        try with_reducible rfl
      simp only [Act.put, List.setIfInBounds_toArray, List.set_cons_zero, List.set_cons_succ, List.getElem_toArray, List.getElem_cons_zero, List.getElem_cons_succ]
      refine wpAnyH_ready (rs := [17]) (by kernel_rfl) (by simp) ?_
      refine AllReadyH.cons rfl (fun Kc hKc => ?_) AllReadyH.nil
      go_simp
      go_wp2_with (go_at_call 34; refine (put_any _ G C R W _ _ _ dj (HGa.out.drewN 1) hdj.1 hdj.2).mono ?_; rintro e w' ⟨rfl, hg', hgr⟩; have HG1 := Lib.hid hg'; have HGR := Lib.hid hgr; clear hg' hgr)
      refine hKc.out _ _ ?_ (fun hHeld => ?_)
      · first | assumption | exact ⟨HGR.out.cell hHeld.1 (by simpa using hg2C), HGR.out.cell hHeld.2.1 (by simpa using hg2C), HGR.out.cell hHeld.2.2.1 (by simpa using hAC), HGR.out.cell hHeld.2.2.2 (by simpa using hbC)⟩
      clear hKc Kc
      refine wpAnyH_done (by kernel_rfl) ?_ _
      clear hHeld
      have HX5 := Lib.hid ((HXa.out.drewN 1).grown HGR.out (by simpa using hAC))
      have HB5 := Lib.hid ((below_drewN HBa.out 1).grown HGR.out (by show A ≤ wa.heap.size; omega) (fun k e => by have := Option.some.inj e; omega))
      have hs5 : A + 1 ≤ w'.heap.size := by have h : wa.heap.size ≤ w'.heap.size := HGR.out.size; omega
      go_wp2
      go_roundw
      case rel => exact ⟨j + 1, _, by omega, by go_num, HG1.out, HX5.out, HB5.out, hs5⟩
      case measure => simp [intOf]; omega
    · obtain rfl : j = m := by omega
      have hd' : (decide (j < n) = false ∧ decide ((j : Int) < (n : Int)) = false) ∨ ((decide (j < n) = true ∧ decide ((j : Int) < (n : Int)) = true) ∧ decide ((j : Int) < 60) = false ∧ decide (j < 60) = false) := by
        have := HM.out
        by_cases h1 : j < n
        · exact .inr ⟨⟨decide_eq_true h1, decide_eq_true (by omega)⟩, decide_eq_false (by omega), decide_eq_false (by omega)⟩
        · exact .inl ⟨decide_eq_false h1, decide_eq_false (by omega)⟩
      have hzl : zs.length ≤ 1024 := by rw [HG.out.len]; exact Nat.mul_le_mul HG.out.rows HG.out.width
      have hab : A ≤ wr.heap.size := by omega
      have HVr := Lib.hid (HV.out.kept (w' := wr) (HB.out.mono (by rw [HA.out]; exact Nat.le_refl _)))
      have PC1 := fun w5 (h : GridIs w5 G C R W zs) => copy_any w5 G C R W zs h
      have PC1 := Lib.hid PC1
      have hCr := HG.out.ltC
      clear hlt
      rcases hd' with ⟨d3, d5⟩ | ⟨⟨d3, d5⟩, d4, d6⟩
      all_goals
        go_wp2_with fail
        refine (PCUT.out wr HVr.out).mono ?_; rintro e w5 ⟨v2, rfl, hr2, -, hb⟩
        have HR5 := Lib.hid hr2
        have HG5 := Lib.hid (HG.out.kept hb)
        have HB5 := Lib.hid (HB.out.trans (hb.mono hab))
        have hs5 : A + 1 ≤ w5.heap.size := by have := hb.size; omega
        clear hr2 hb
        go_wp2_with fail
        refine (PC1.out w5 HG5.out).mono ?_; rintro e w6 ⟨H, D, rfl, hH, hD, hh, hb⟩
        have HH6 := Lib.hid hh
        have HG6 := Lib.hid (HG5.out.kept hb)
        have HR6 := Lib.hid (HR5.out.kept hb)
        have HB6 := Lib.hid (HB5.out.trans (hb.mono (by omega)))
        have hs6 : A + 1 ≤ w6.heap.size := by have := hb.size; omega
        have HDC : Hid (H ≠ C ∧ D ≠ C) := by have := HG5.out.ltC; exact ⟨by omega, by omega⟩
        clear hh hb hH hD
        have PL := least_yes w6 G C R W zs (cutZ c1s R W) v2 HG6.out HR6.out.ints HCM.out
        unfold TellPost at PL
        go_wp2_with fail
        refine PL.mono ?_; clear PL; rintro e w7 ⟨u, rfl, hu, hb⟩
        have HU := Lib.hid hu
        have HH7 := Lib.hid (HH6.out.kept hb)
        have HG7 := Lib.hid (HG6.out.kept hb)
        have HR7 := Lib.hid (HR6.out.kept hb)
        have HB7 := Lib.hid (HB6.out.trans (hb.mono (by omega)))
        have hs7 : A + 1 ≤ w7.heap.size := by have := hb.size; omega
        clear hu hb
        obtain ⟨curC, hCb, -⟩ := HG7.out.cells
        have PR := raise_yes w7 G C R W zs (cutZ c1s R W) d v2 HG7.out HR7.out.ints HCM.out hd (HR7.out.neC hCb (by decide))
        have HCB := Lib.hid hCb
        clear hCb
        go_wp2_with fail
        refine PR.mono ?_; clear PR; rintro e w8 ⟨u', hu', ⟨hn, rfl, hb⟩ | ⟨hn, hno, rfl, hb⟩ | ⟨hn, hs64, rfl, hg8, hgr⟩⟩
        · obtain rfl := hu'.unique HU.out
          clear hu'
          have HH8 := Lib.hid (HH7.out.kept hb)
          have HG8 := Lib.hid (HG7.out.kept hb)
          have HR8 := Lib.hid (HR7.out.kept hb)
          have HB8 := Lib.hid (HB7.out.trans (hb.mono (by omega)))
          have hs8 : A + 1 ≤ w8.heap.size := by have := hb.size; omega
          clear hb
          have e1 : decide (d < 0) = true := decide_eq_true hn
          have PL := least_yes w8 G C R W zs (cutZ c1s R W) v2 HG8.out HR8.out.ints HCM.out
          unfold TellPost at PL
          go_wp2_with fail
          refine PL.mono ?_; clear PL; rintro e w9 ⟨t, rfl, ht, hb⟩
          obtain rfl := ht.unique HU.out
          have HH9 := Lib.hid (HH8.out.kept hb)
          have HG9 := Lib.hid (HG8.out.kept hb)
          have HB9 := Lib.hid (HB8.out.trans (hb.mono (by omega)))
          have hs9 : A + 1 ≤ w9.heap.size := by have := hb.size; omega
          clear ht hb
          have PQ := cells_ints w9 G C R W _ HG9.out
          go_wp2_with fail
          refine PQ.mono ?_; clear PQ; rintro e wa ⟨ga, ca, rfl, hca, -, hin, hb⟩
          have Ia := Lib.hid hin
          have Ha := Lib.hid (HH9.out.kept hb)
          have HBa := Lib.hid (HB9.out.trans (hb.mono (by omega)))
          have hsa : A + 1 ≤ wa.heap.size := by have := hb.size; omega
          clear hin hb
          have PQ := cells_ints wa H D R W _ Ha.out
          go_wp2_with fail
          refine PQ.mono ?_; clear PQ; rintro e wb ⟨gb, cb, rfl, hcb, -, hin, hb⟩
          have Jb := Lib.hid hin
          have Ib := Lib.hid (Ia.out.kept hb)
          have HBb := Lib.hid (HBa.out.trans (hb.mono (by omega)))
          have hsb : A + 1 ≤ wb.heap.size := by have := hb.size; omega
          clear hin hb
          have PQ := same_yes Ib.out Jb.out (by omega)
          go_wp2_with fail
          refine PQ.mono ?_; clear PQ; rintro e wc ⟨rfl, hb⟩
          have HBc := Lib.hid (HBb.out.trans (hb.mono (by omega)))
          clear hb
          go_wp2
          go_ret
          exact ⟨rfl, by rw [HA.out]; exact HBc.out⟩
        · obtain rfl := hu'.unique HU.out
          clear hu'
          have HH8 := Lib.hid (HH7.out.kept hb)
          have HG8 := Lib.hid (HG7.out.kept hb)
          have HR8 := Lib.hid (HR7.out.kept hb)
          have HB8 := Lib.hid (HB7.out.trans (hb.mono (by omega)))
          have hs8 : A + 1 ≤ w8.heap.size := by have := hb.size; omega
          clear hb
          have hu64 : In64 u' := by
            have := (kth_zero HU.out).1
            simp only [readZ, List.mem_map] at this
            obtain ⟨r, _, rfl⟩ := this
            exact cell_fit HG7.out.fit _
          have hpos : 0 < d ∧ 0 < u' := by
            have h1 := hu64.1; have h2 := hu64.2; have h3 := hd.2
            have h4 : ¬ (-9223372036854775808 ≤ u' + d ∧ u' + d ≤ 9223372036854775807) := hno
            omega
          have e1 : decide (0 < d) = true := decide_eq_true hpos.1
          have e2 : decide (0 < u') = true := decide_eq_true hpos.2
          clear hno hu64
          have PL := least_yes w8 G C R W zs (cutZ c1s R W) v2 HG8.out HR8.out.ints HCM.out
          unfold TellPost at PL
          go_wp2_with fail
          refine PL.mono ?_; clear PL; rintro e w9 ⟨t, rfl, ht, hb⟩
          obtain rfl := ht.unique HU.out
          have HH9 := Lib.hid (HH8.out.kept hb)
          have HG9 := Lib.hid (HG8.out.kept hb)
          have HB9 := Lib.hid (HB8.out.trans (hb.mono (by omega)))
          have hs9 : A + 1 ≤ w9.heap.size := by have := hb.size; omega
          clear ht hb
          have PQ := cells_ints w9 G C R W _ HG9.out
          go_wp2_with fail
          refine PQ.mono ?_; clear PQ; rintro e wa ⟨ga, ca, rfl, hca, -, hin, hb⟩
          have Ia := Lib.hid hin
          have Ha := Lib.hid (HH9.out.kept hb)
          have HBa := Lib.hid (HB9.out.trans (hb.mono (by omega)))
          have hsa : A + 1 ≤ wa.heap.size := by have := hb.size; omega
          clear hin hb
          have PQ := cells_ints wa H D R W _ Ha.out
          go_wp2_with fail
          refine PQ.mono ?_; clear PQ; rintro e wb ⟨gb, cb, rfl, hcb, -, hin, hb⟩
          have Jb := Lib.hid hin
          have Ib := Lib.hid (Ia.out.kept hb)
          have HBb := Lib.hid (HBa.out.trans (hb.mono (by omega)))
          have hsb : A + 1 ≤ wb.heap.size := by have := hb.size; omega
          clear hin hb
          have PQ := same_yes Ib.out Jb.out (by omega)
          go_wp2_with fail
          refine PQ.mono ?_; clear PQ; rintro e wc ⟨rfl, hb⟩
          have HBc := Lib.hid (HBb.out.trans (hb.mono (by omega)))
          clear hb
          go_wp2
          go_ret
          exact ⟨rfl, by rw [HA.out]; exact HBc.out⟩
        · obtain rfl := hu'.unique HU.out
          clear hu'
          have HG8 := Lib.hid hg8
          have HH8 := Lib.hid (HH7.out.grown hgr (by simpa using HDC.out.1) (by simpa using HDC.out.2))
          have HR8 := Lib.hid (HR7.out.far hgr HCB.out (by decide))
          have HB8 := Lib.hid (HB7.out.grown hgr (by omega) (fun k e => by have := Option.some.inj e; omega))
          have hs8 : A + 1 ≤ w8.heap.size := by have := hgr.size; omega
          clear hg8 hgr
          have PL := least_yes w8 G C R W _ (cutZ c1s R W) v2 HG8.out HR8.out.ints HCM.out
          unfold TellPost at PL
          go_wp2_with fail
          refine PL.mono ?_; clear PL; rintro e w9 ⟨t, rfl, ht, hb⟩
          obtain rfl := raise_least HG7.out.len HCM.out HU.out hn ht
          have HH9 := Lib.hid (HH8.out.kept hb)
          have HG9 := Lib.hid (HG8.out.kept hb)
          have HR9 := Lib.hid (HR8.out.kept hb)
          have HB9 := Lib.hid (HB8.out.trans (hb.mono (by omega)))
          clear ht hb
          have ed : decide (0 ≤ d) = true := decide_eq_true hn
          have ew : wrap64 (u' + d) = u' + d := by have h1 := hs64.1; have h2 := hs64.2; unfold wrap64; omega
          have HNN : Hid (∃ nn, nn = u' + d) := ⟨_, rfl⟩
          have HGET := Lib.hid (fun rr cc hr hc => raise_get (n := u' + d) (cs := cutZ c1s R W) HG7.out.len HCM.out rr cc hr hc)
          have HCOL := Lib.hid (meetB_of HCM.out).2.2
          obtain ⟨g2, cp2, cur2, rfl, -, hb2, hx2⟩ := HR9.out
          rw [cutZ_len]
          have HB2 := Lib.hid hb2
          have HX2 := Lib.hid hx2
          clear hb2 hx2
          generalize cutZ c1s R W = mi at *
          go_wp2_with fail
          go_loop [19] (fun i => ∃ rr : Nat, rr ≤ R ∧ i = .int .i64 (rr : Int)) (fun i => R - (intOf i).toNat)
          case atStart => exact ⟨0, by omega, rfl⟩
          case round =>
            obtain ⟨rr, hrr, rfl⟩ := hrel
            by_cases hlr : rr < R
            · go_wp2_with fail
              go_loop [20] (fun i => ∃ cc : Nat, cc ≤ W ∧ i = .int .i64 (cc : Int)) (fun i => W - (intOf i).toNat)
              case atStart => exact ⟨0, by omega, rfl⟩
              case round =>
                obtain ⟨cc, hcc, rfl⟩ := hrel
                by_cases hlc : cc < W
                · have PA := at_in w9 H D R W rr cc zs HH9.out hlr hlc
                  have PB := at_in w9 G C R W rr cc _ HG9.out hlr hlc
                  rw [HGET.out rr cc hlr hlc] at PB
                  obtain ⟨hcv, -⟩ := HCOL.out rr hlr
                  have cv := (HB2.out.cell rr).trans (HX2.out rr _ hcv)
                  have i0 : (0 : Int) ≤ (rr : Int) := by omega
                  have i1 : (rr : Int) < (R : Int) := by omega
                  clear hcv
                  generalize colN mi rr = y at *
                  generalize cellD zs (rr * W + cc) = o at *
                  obtain ⟨nw, hnw⟩ : ∃ nw, nw = (if cc = y then (if o < u' + d then u' + d else o) else o) := ⟨_, rfl⟩
                  rw [← hnw] at PB
                  have hf : decide (nw < o) = false ∧ ((nw != o) = false ∨ ((nw != o) = true ∧ ((cc : Int) != (y : Int)) = false ∧ (cc != y) = false ∧ (nw != u' + d) = false)) := by
                    rw [hnw]
                    by_cases e : cc = y
                    · rw [if_pos e]
                      by_cases h : o < u' + d
                      · rw [if_pos h]; exact ⟨decide_eq_false (by omega), .inr ⟨by simp; omega, by simp [e], by simp [e], by simp⟩⟩
                      · rw [if_neg h]; exact ⟨decide_eq_false (by omega), .inl (by simp)⟩
                    · rw [if_neg e]; exact ⟨decide_eq_false (by omega), .inl (by simp)⟩
                  clear hnw
                  obtain ⟨hf1, hf2⟩ := hf
                  go_wp2_with fail
                  refine PA.mono ?_; clear PA; rintro e w' ⟨rfl, hw'⟩; subst hw'
                  go_wp2_with fail
                  refine PB.mono ?_; clear PB; rintro e w' ⟨rfl, hw'⟩; subst hw'
                  rcases hf2 with hf2 | ⟨hf2, hf3, hf4, hf5⟩
                  all_goals
                    go_wp2
                    go_round
                    case rel => exact ⟨cc + 1, by omega, by go_num⟩
                    case measure => simp [intOf]; omega
                · obtain rfl : cc = W := by omega
                  go_wp2
                  go_round
                  case rel => exact ⟨rr + 1, by omega, by go_num⟩
                  case measure => simp [intOf]; omega
            · obtain rfl : rr = R := by omega
              go_wp2
              go_ret
              exact ⟨rfl, by rw [HA.out]; exact HB9.out⟩
theorem ConserveRises_walk (v0 v1 v2 : Value) (w : World) (h0 : shPlay.Val w v0) (h1 : (Sh.slice (.int .i64)).Val w v1) (h2 : (Sh.int .i64).Val w v2) :
    Calls Try.prog 10 #[v0, v1, v2] w fun e w' => e = .returned (.bool true) ∧ Below w.heap.size w w' := by
  obtain ⟨r, c, l, n, cs, ds, rfl, h⟩ := val_play h0
  obtain ⟨c1s, hc⟩ := cols_of_val h1
  obtain ⟨d, rfl, hz⟩ := Sh.val_int h2
  refine ConserveRises_main r c l n cs ds v1 c1s d ?_ w h hc
  simp [Lit.wf, IntKind.min, IntKind.max, IntKind.signed, IntKind.bits] at hz
  exact ⟨by omega, by omega⟩
end Go.Proofs.Ytcinlcbmjboaaaa
