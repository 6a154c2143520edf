/-
  The walk of ConserveJoins. Conditions: the arguments are of their types.
-/
import Derived.Test.YtcinlcbmjboaaaaConF
import Derived.Test.YtcinlcbmjboaaaaConJ
import Derived.Test.YtcinlcbmjboaaaaGrdK
namespace Go.Proofs.Ytcinlcbmjboaaaa
open Go.RowKit
set_option linter.unusedVariables false
set_option linter.unusedSimpArgs false

def shColsJ : Sh := .slice (.int .i64)
set_option maxRecDepth 100000 in
set_option maxHeartbeats 8000000 in
theorem ConserveJoins_main (r c : Int) (l : Value) (n : Nat) (cs : Nat → List Int) (ds : Nat → Int) (at0 : Int) (v1 : Value) (c1s : List Int) (w : World) (hl : StepsAt w l n cs ds) (hv1 : ColsAt w v1 c1s) :
    Calls Try.prog 13 #[.agg #[.int .i64 r, .int .i64 c, l], .int .i64 at0, v1] w fun e w' => e = .returned (.bool true) ∧ Below w.heap.size w w' := by
  have P0 := Lib.hid (fun w => sized09 r c l w)
  obtain ⟨t, ht⟩ : ∃ t, t = at0 % 65536 % 61 := ⟨_, rfl⟩
  have ht0 : 0 ≤ t ∧ t ≤ 60 := by omega
  have ea := and16' at0
  have et : (at0 % 65536).tmod 61 = t := by rw [Int.tmod_eq_emod_of_nonneg (by omega)]; exact ht.symm
  clear ht
  have P1 := Lib.hid (fun w hl => both09 r c l n cs ds 0 t w hl)
  have P2 := Lib.hid (fun w hl => both09 r c l n cs ds t 60 w hl)
  obtain ⟨r1, r2, -⟩ := sizeR_bd r
  obtain ⟨c1, c2, -⟩ := sizeW_bd c
  generalize sizeR r = R at *
  generalize sizeW c = W at *
  have HL := Lib.hid hl
  have HV := Lib.hid hv1
  have PCUT := Lib.hid (fun w1 (h : ColsAt w1 v1 c1s) => cut_any v1 c1s R W (by omega) (by omega) (by omega) w1 h)
  have HCM := Lib.hid (fun cs => cut_meet (cs := cs) (R := R) (W := W) (by omega) (by omega))
  have POWN := Lib.hid (fun w va vk K hl hm hm60 hva hvk hK => own09 r c l va vk n (min n 60) R W cs ds K w hl hm hm60 (by omega) hva hvk hK)
  obtain ⟨ao, cap, rfl, hmx, hd64, hcells⟩ := hl
  clear hcells hd64
  obtain ⟨vo, vcap, rfl, hj1, hj2, hj3⟩ := hv1
  clear hj1 hj2 hj3
  generalize c1s.length = n1 at *
  unfold BothPost at P1 P2
  obtain ⟨m, hm⟩ : ∃ m, m = min n 60 := ⟨_, rfl⟩
  rw [← hm] at P1 P2 POWN
  have hm60 : m ≤ 60 := by omega
  have hmn : m ≤ n := by omega
  clear hm
  obtain ⟨i1', hj, hy0, hy1, hy2⟩ := info_parts Try.infoSlI
  go_enter Try.func13, Try.ntmps13
  go_wp2_with fail
  obtain ⟨g1, hb1, hsz1⟩ := news1 w (.cells #[.int .i64 r, .int .i64 c, .slice ao n cap] 63)
  have hx1 : Blk _ w.heap.size 63 #[.int .i64 r, .int .i64 c, .slice ao n cap] := g1
  have HL1 := Lib.hid (HL.out.kept hb1)
  have HV1 := Lib.hid (HV.out.kept hb1)
  have HB1 := Lib.hid hb1
  have HX1 := Lib.hid hx1
  clear g1 hb1 hx1
  generalize (w.alloc (.cells #[.int .i64 r, .int .i64 c, .slice ao n cap] 63)) = wz at *
  refine (shown09 wz).mono ?_; rintro e w1 ⟨rfl, hb⟩
  have hx1 := HX1.out.kept hb
  have HX2 := Lib.hid hx1
  have HB2 := Lib.hid (btr HB1.out hb)
  have HL2 := Lib.hid (HL1.out.kept hb)
  have HV2 := Lib.hid (HV1.out.kept hb)
  clear hb
  go_wp2_with (refine wpList_load_row rfl 63 _ rfl w.heap.size rfl 63 _ (0, 0) _ hx1 Try.underlying63 rfl (by kernel_rfl) ?_)
  with_reducible refine (P0.out w1).mono ?_
  rintro e w2 ⟨rfl, hb⟩
  have hx1 := HX2.out.kept hb
  have HX3 := Lib.hid hx1
  have HB3 := Lib.hid (btr HB2.out hb)
  have HL3 := Lib.hid (HL2.out.kept hb)
  have HV3 := Lib.hid (HV2.out.kept hb)
  clear hb
  go_wp2_with (refine wpList_load_row rfl 63 _ rfl w.heap.size rfl 63 _ (0, 0) _ hx1 Try.underlying63 rfl (by kernel_rfl) ?_)
  with_reducible refine (P1.out w2 HL3.out).mono ?_
  rintro e w2b ⟨G, C, H, D, va, vs, zg1, zh1, rfl, hf1, hne1, hg, hh, hinv, hall, hb⟩
  have HI1 := Lib.hid hinv
  have G1 := Lib.hid hg
  have H1 := Lib.hid hh
  have A1 := Lib.hid hall
  have hx1 := HX3.out.kept hb
  have X1 := Lib.hid hx1
  have B1 := Lib.hid (btr HB3.out hb)
  have V1 := Lib.hid (HV3.out.kept hb)
  have L1 := Lib.hid (HL3.out.kept hb)
  have hs12 := hb.size
  have hAlt := HX3.out.lt
  have HF1 := Lib.hid hf1
  have HNE1 := Lib.hid hne1
  clear hb hg hh hinv hall hf1 hne1
  go_wp2_with (refine wpList_load_row rfl 63 _ rfl w.heap.size rfl 63 _ (0, 0) _ hx1 Try.underlying63 rfl (by kernel_rfl) ?_)
  with_reducible refine (P2.out w2b L1.out).mono ?_
  rintro e w2c ⟨G', C', H', D', va', vs', zg2, zh2, rfl, hf2, hne2, hg, hh, hinv, -, hb⟩
  have HI2 := Lib.hid hinv
  have G2' := Lib.hid hg
  have H2' := Lib.hid hh
  have G2 := Lib.hid (G1.out.kept hb)
  have H2 := Lib.hid (H1.out.kept hb)
  have A2 := Lib.hid (A1.out.kept hb)
  have X2 := Lib.hid (X1.out.kept hb)
  have B2 := Lib.hid (btr B1.out hb)
  have V2 := Lib.hid (V1.out.kept hb)
  have hs2 := hb.size
  have HFIT := Lib.hid (joins_fit HI1.out HI2.out (by omega))
  have HC : Hid (G' ≠ C ∧ C' ≠ C ∧ H' ≠ C ∧ D' ≠ C ∧ G' ≠ D ∧ C' ≠ D ∧ H' ≠ D ∧ D' ≠ D) := by have := G1.out.ltC; have := H1.out.ltC; exact ⟨by omega, by omega, by omega, by omega, by omega, by omega, by omega, by omega⟩
  have hCw : w.heap.size ≤ C ∧ w.heap.size ≤ D := by have := HF1.out; omega
  have hAC : w.heap.size ≠ C ∧ w.heap.size ≠ D := by have := HF1.out; omega
  clear hb hg hh hinv hf2 hne2 hx1
  have PG := gplus_yes w2c G C G' C' R W zg1 zg2 G2.out G2'.out HFIT.out.1
  unfold AllYes at PG
  go_wp2_with fail
  with_reducible refine PG.mono ?_
  clear PG; rintro e w2d ⟨rfl, hg, hgr⟩
  obtain ⟨cu, hcu, -⟩ := G2.out.cells
  have G3 := Lib.hid hg
  have H3 := Lib.hid (H2.out.grown hgr (by have := HNE1.out.2.1; simpa using this) (by have := HNE1.out.2.2.1; simpa using this))
  have H3' := Lib.hid (H2'.out.grown hgr (by have := HC.out.2.2.1; simpa using this) (by have := HC.out.2.2.2.1; simpa using this))
  have A3 := Lib.hid (A2.out.grownC hgr hcu)
  have X3 := Lib.hid (X2.out.grown hgr (by have := hAC.1; simpa using this))
  have B3 := Lib.hid (bgr B2.out hgr hCw.1)
  have V3 := Lib.hid (HV.out.kept B3.out)
  have hs3 := hgr.size
  clear hg hgr hcu
  have PG := gplus_yes w2d H D H' D' R W zh1 zh2 H3.out H3'.out HFIT.out.2
  unfold AllYes at PG
  go_wp2_with fail
  with_reducible refine PG.mono ?_
  clear PG; rintro e w3 ⟨rfl, hg, hgr⟩
  obtain ⟨cu, hcu, -⟩ := H3.out.cells
  have HH3 := Lib.hid hg
  have HG3 := Lib.hid (G3.out.grown hgr (by have := HNE1.out.2.2.2; simpa using this) (by have := HNE1.out.2.2.1; simpa using this.symm))
  have HAL3 := Lib.hid (A3.out.grownC hgr hcu)
  have HX4 := Lib.hid (X3.out.grown hgr (by have := hAC.2; simpa using this))
  have HB4 := Lib.hid (bgr B3.out hgr hCw.2)
  have HV4 := Lib.hid (HV.out.kept HB4.out)
  have hs23 : w2.heap.size ≤ w3.heap.size := by have := hgr.size; omega
  have HJOIN := Lib.hid (fun K a b hm ha hb => joins_least HI1.out HI2.out (fun i hi => act_parts ht0.1 ht0.2 (by omega)) hm ha hb (K := K) (a := a) (b := b))
  clear hg hgr hcu hCw hAC
  generalize List.zipWith (fun a b => a + b) zg1 zg2 = zg at *
  generalize List.zipWith (fun a b => a + b) zh1 zh2 = zh at *
  go_wp2_with fail
  refine (PCUT.out w3 HV4.out).mono ?_
  rintro e w4 ⟨v2, rfl, hr2, -, hb⟩
  obtain ⟨g2, cp2, rfl⟩ : ∃ g2 cp2, v2 = .slice (some ⟨g2, 0, none⟩) R cp2 := by obtain ⟨g, cp, cur, e, _⟩ := hr2; exact ⟨g, cp, by rw [e, cutZ_len]⟩
  have R4 := Lib.hid hr2
  have G4 := Lib.hid (HG3.out.kept hb)
  have H4 := Lib.hid (HH3.out.kept hb)
  have A4 := Lib.hid (HAL3.out.kept hb)
  have X4 := Lib.hid (HX4.out.kept hb)
  have hs34 := hb.size
  have B4 := Lib.hid (btr HB4.out hb)
  clear hr2 hb
  have hml : Hid (((List.range m).map fun i => cutZ (cs i) R W).length = m) := Lib.hid (by simp)
  have hm1 : m + 1 ≤ maxLen := by unfold maxLen; omega
  have hb2 : Below w4.heap.size w4 (w4.alloc (.cells #[.slice (some ⟨g2, 0, none⟩) R cp2] 32)) := (Below.refl _ _).alloc (Nat.le_refl _) _
  have HALc := Lib.hid (A4.out.kept hb2)
  have hown := HALc.out.1
  rw [hml.out] at hown
  have HOWN := Lib.hid hown
  clear hown
  have hAw := X4.out.lt
  go_wp2_with (at_builtin; refine wpList_append_own_at _ rfl _ _ 29 rfl w2.heap.size 32 i1' (.slice none 0 0) 1 24 Try.underlying29 hj hy0 hy1 hy2 rfl (by decide) _ m _ rfl HOWN.out ⟨w4.heap.size, 0, none⟩ 1 1 [.slice (some ⟨g2, 0, none⟩) R cp2] rfl rfl (cell_one_new _ _ _) ?c2 hm1 ?c4 ?c5 ?_)
  case c2 => simp [Value.oneCell']
  case c4 => omega
  case c5 => simp; omega
  intro v' w5 hown' hgrow hnil' hq9
  have R4c := Lib.hid (R4.out.kept hb2)
  have A5 := Lib.hid (HALc.out.push hgrow (by rw [hml.out]; exact hown') R4c.out)
  have hvo := fun k hk => (HOWN.out.lt k hk).1
  obtain ⟨cG, hGb, -⟩ := (G4.out.kept hb2).fields
  obtain ⟨curC, hCb, -⟩ := (G4.out.kept hb2).cells
  obtain ⟨cH, hHb, -⟩ := (H4.out.kept hb2).fields
  obtain ⟨curD, hDb, -⟩ := (H4.out.kept hb2).cells
  have G5 := Lib.hid ((G4.out.kept hb2).grown hgrow (fun e => own_ne HOWN.out hGb (by decide) e.symm) (fun e => own_ne HOWN.out hCb (by decide) e.symm))
  have H5 := Lib.hid ((H4.out.kept hb2).grown hgrow (fun e => own_ne HOWN.out hHb (by decide) e.symm) (fun e => own_ne HOWN.out hDb (by decide) e.symm))
  have hA2 : w.heap.size < w2.heap.size := hAlt
  have X5 := Lib.hid ((X4.out.kept hb2).grown hgrow (fun e => by have := hvo w.heap.size e.symm; omega))
  have B5 : Hid (Below w.heap.size w w5) := Lib.hid ((B4.out.alloc B4.out.size _).grown hgrow (by have := B4.out.size; simp; omega) (fun k e => by have := hvo k e; omega))
  have L5 := Lib.hid (HL.out.kept B5.out)
  have hmsl : (((List.range m).map fun i => cutZ (cs i) R W) ++ [cutZ c1s R W]).length = m + 1 := by simp
  obtain ⟨ga, ca, hv', hcale, hcl⟩ := A5.out.open_ (by rw [hmsl]; omega)
  rw [hmsl] at hv' hcale
  subst hv'
  have HEL : Hid (∀ i, i < m + 1 → ∃ mi vi, w5.cell? ⟨ga, i, none⟩ = some vi ∧ RowI w5 vi mi ∧ mi.length = R ∧ meetB R W mi = true) := Lib.hid (fun i hi => by
    by_cases h : i < m
    · obtain ⟨vi, h1, h2⟩ := hcl i (cutZ (cs i) R W) (by rw [List.getElem?_append_left (by simp; omega)]; simp [h])
      exact ⟨_, vi, h1, h2, cutZ_len, HCM.out _⟩
    · have e : i = m := by omega
      subst e
      obtain ⟨vi, h1, h2⟩ := hcl i (cutZ c1s R W) (by rw [List.getElem?_append_right (by simp)]; simp)
      exact ⟨_, vi, h1, h2, cutZ_len, HCM.out _⟩)
  have HRD : Hid (RowsAt w5 (.slice (some ⟨ga, 0, none⟩) m ca) ((List.range m).map fun i => cutZ (cs i) R W)) := Lib.hid ⟨some ⟨ga, 0, none⟩, ca, by simp, fun i mi hi => by
    have hlt := (List.getElem?_eq_some_iff.1 hi).1
    obtain ⟨vi, h1, h2⟩ := hcl i mi (by rw [List.getElem?_append_left hlt]; exact hi)
    exact ⟨ga, vi, rfl, h1, h2⟩⟩
  clear hGb hCb hHb hDb hown' hgrow hnil' hq9 hvo hmsl hcl HALc HOWN A4 A5 HAL3
  have ewm2 : IntKind.i64.wrap (m : Int) = (m : Int) := wrapI_of _ (by omega) (by omega)
  have hmc0 : (0 : Int) ≤ (m : Int) := by omega
  have hmc1 : (m : Int) ≤ (ca : Int) := by omega
  have ewm : wrap64 ((m : Int) + 1 - 1) = (m : Int) := by unfold wrap64; omega
  go_wp2_with fail
  go_loopw [18] (fun i wr => ∃ j : Nat, j ≤ m + 1 ∧ i = .int .i64 (j : Int) ∧ Below w5.heap.size w5 wr) (fun i _ => m + 1 - (intOf i).toNat)
  case atStart => exact ⟨0, by omega, rfl, Below.refl _ _⟩
  case round =>
    obtain ⟨j, hjm, rfl, hbel⟩ := hrel
    have HB := Lib.hid hbel
    have GR := Lib.hid (G5.out.kept hbel)
    have HR := Lib.hid (H5.out.kept hbel)
    have XR := Lib.hid (X5.out.kept hbel)
    by_cases hlt : j < m + 1
    · obtain ⟨mi, vi, hcell, hri, hmil, hmeet⟩ := HEL.out j hlt
      have hgl := cell_block hcell
      have cj := (hbel.cell (p := ⟨ga, j, none⟩) hgl).trans hcell
      have RI := Lib.hid (hri.kept hbel)
      have HME := Lib.hid hmeet
      have HMIL := Lib.hid hmil
      obtain ⟨gi, ci, curi, rfl, -⟩ := hri
      rw [hmil] at cj
      have CJ := Lib.hid cj
      have i0 : (0 : Int) ≤ (j : Int) := by omega
      have i1 : (j : Int) < (m : Int) + 1 := by omega
      have PA := least_yes wr G C R W zg mi _ GR.out RI.out.ints HME.out
      unfold TellPost at PA
      rw [HMIL.out] at PA
      clear hmil hmeet hcell hbel
      go_wp2_with fail
      with_reducible refine PA.mono ?_
      clear PA; rintro e w6 ⟨a, rfl, hka, hb⟩
      have KA := Lib.hid hka
      have H6 := Lib.hid (HR.out.kept hb)
      have RI6 := Lib.hid (RI.out.kept hb)
      have cj := (hb.cell (p := ⟨ga, j, none⟩) (Nat.lt_of_lt_of_le hgl HB.out.size)).trans CJ.out
      have CJ6 := Lib.hid cj
      have HB6 := Lib.hid (btr HB.out hb)
      clear hka hb
      have PB := least_yes w6 H D R W zh mi _ H6.out RI6.out.ints HME.out
      unfold TellPost at PB
      rw [HMIL.out] at PB
      go_wp2_with fail
      with_reducible refine PB.mono ?_
      clear PB; rintro e w7 ⟨b, rfl, hkb, hb⟩
      have KB := Lib.hid hkb
      have RI7 := Lib.hid (RI6.out.kept hb)
      have cj := (hb.cell (p := ⟨ga, j, none⟩) (Nat.lt_of_lt_of_le hgl HB6.out.size)).trans CJ6.out
      have HB7 := Lib.hid (btr HB6.out hb)
      have X7 := Lib.hid (X5.out.kept HB7.out)
      obtain ⟨hab, hoa⟩ := HJOIN.out mi a b HME.out KA.out hkb
      have e1 : decide (b < a) = false := decide_eq_false (by omega)
      have POW := Lib.hid (POWN.out (w7.drewN 1) (.slice (some ⟨ga, 0, none⟩) m ca) _ mi (L5.out.kept (below_drewN HB7.out 1)) hmn hm60 (HRD.out.kept (below_drewN HB7.out 1)) (RI7.out.kept (below_drewN (Below.refl _ _) 1)) (by rw [HMIL.out]; omega))
      generalize ownAll R W cs (fun i => plainZ true (ds i)) mi m = o at *
      rw [HMIL.out] at POW
      have e2 : decide (a < o) = false := decide_eq_false (by omega)
      clear hkb hb hab hoa
      go_wp2_with fail
      refine wp_region_held_drew (S := fun w' => Blk w' w.heap.size 63 #[.int .i64 r, .int .i64 c, .slice ao n cap] ∧ w'.cell? ⟨ga, j, none⟩ = some (.slice (some ⟨gi, 0, none⟩) R ci)) (by kernel_rfl) (by exact ⟨X7.out.drewN 1, cj⟩) (fun hHeld => ?_)
      refine wpAnyH_take (i := 0) (v := ?_) rfl (by kernel_rfl) (by kernel_rfl) (by kernel_rfl) (fun _ _ _ h => h) (Or.inl ⟨by rfl, ?_⟩) (by assumption) ?_
      rotate_left
      · intro w hSw
        try dsimp only at hSw
        go_simp
        try with_reducible rfl
      simp only [Act.put, List.setIfInBounds_toArray, List.set_cons_zero, List.set_cons_succ, List.getElem_toArray, List.getElem_cons_zero, List.getElem_cons_succ]
      refine wpAnyH_take (i := 1) (v := ?_) rfl (by kernel_rfl) (by kernel_rfl) (by kernel_rfl) (fun _ _ _ h => h) (Or.inl ⟨by rfl, ?_⟩) (by assumption) ?_
      rotate_left
      · intro w hSw
        try dsimp only at hSw
        go_simp
        try with_reducible rfl
      simp only [Act.put, List.setIfInBounds_toArray, List.set_cons_zero, List.set_cons_succ, List.getElem_toArray, List.getElem_cons_zero, List.getElem_cons_succ]
      refine wpAnyH_take (i := 2) (v := ?_) rfl (by kernel_rfl) (by kernel_rfl) (by kernel_rfl) (fun _ _ _ h => h) (Or.inl ⟨by rfl, ?_⟩) (by assumption) ?_
      rotate_left
      · intro w hSw
        try dsimp only at hSw
        go_simp
        try with_reducible rfl
      simp only [Act.put, List.setIfInBounds_toArray, List.set_cons_zero, List.set_cons_succ, List.getElem_toArray, List.getElem_cons_zero, List.getElem_cons_succ]
      refine wpAnyH_take (i := 3) (v := ?_) rfl (by kernel_rfl) (by kernel_rfl) (by kernel_rfl) (fun _ _ _ h => h) (Or.inl ⟨by rfl, ?_⟩) (by assumption) ?_
      rotate_left
      · intro w hSw
        try dsimp only at hSw
        go_simp
        try with_reducible rfl
      simp only [Act.put, List.setIfInBounds_toArray, List.set_cons_zero, List.set_cons_succ, List.getElem_toArray, List.getElem_cons_zero, List.getElem_cons_succ]
      refine wpAnyH_take (i := 4) (v := ?_) rfl (by kernel_rfl) (by kernel_rfl) (by kernel_rfl) (fun _ _ _ h => h) (Or.inl ⟨by rfl, ?_⟩) (by assumption) ?_
      rotate_left
      · intro w hSw
        try dsimp only at hSw
        go_simp
        try with_reducible rfl
      simp only [Act.put, List.setIfInBounds_toArray, List.set_cons_zero, List.set_cons_succ, List.getElem_toArray, List.getElem_cons_zero, List.getElem_cons_succ]
      refine wpAnyH_take (i := 5) (v := ?_) rfl (by kernel_rfl) (by kernel_rfl) (by kernel_rfl) (fun _ _ _ h => h) (Or.inl ⟨by rfl, ?_⟩) (by assumption) ?_
      rotate_left
      · intro w hSw
        try dsimp only at hSw
        go_simp
        try with_reducible rfl
      simp only [Act.put, List.setIfInBounds_toArray, List.set_cons_zero, List.set_cons_succ, List.getElem_toArray, List.getElem_cons_zero, List.getElem_cons_succ]
      refine wpAnyH_take (i := 6) (v := ?_) rfl (by kernel_rfl) (by kernel_rfl) (by kernel_rfl) (fun _ _ _ h => h) (Or.inl ⟨by rfl, ?_⟩) (by assumption) ?_
      rotate_left
      · intro w hSw
        try dsimp only at hSw
        go_simp
        try with_reducible rfl
      simp only [Act.put, List.setIfInBounds_toArray, List.set_cons_zero, List.set_cons_succ, List.getElem_toArray, List.getElem_cons_zero, List.getElem_cons_succ]
      refine wpAnyH_take (i := 7) (v := ?_) rfl (by kernel_rfl) (by kernel_rfl) (by kernel_rfl) (fun _ _ _ h => h) (Or.inl ⟨by rfl, ?_⟩) (by assumption) ?_
      rotate_left
      · intro w hSw
        try dsimp only at hSw
        go_simp
        try with_reducible rfl
      simp only [Act.put, List.setIfInBounds_toArray, List.set_cons_zero, List.set_cons_succ, List.getElem_toArray, List.getElem_cons_zero, List.getElem_cons_succ]
      refine wpAnyH_take (i := 8) (v := ?_) rfl (by kernel_rfl) (by kernel_rfl) (by kernel_rfl) (fun _ _ _ h => h) (Or.inl ⟨by rfl, ?_⟩) (by assumption) ?_
      rotate_left
      · intro w hSw
        try dsimp only at hSw
        go_simp
        try with_reducible rfl
      simp only [Act.put, List.setIfInBounds_toArray, List.set_cons_zero, List.set_cons_succ, List.getElem_toArray, List.getElem_cons_zero, List.getElem_cons_succ]
      refine wpAnyH_take (i := 9) (v := ?_) rfl (by kernel_rfl) (by kernel_rfl) (by kernel_rfl) (fun _ _ _ h => h) (Or.inl ⟨by rfl, ?_⟩) (by assumption) ?_
      rotate_left
      · intro w hSw
        try dsimp only at hSw
        go_simp
        try with_reducible rfl
      simp only [Act.put, List.setIfInBounds_toArray, List.set_cons_zero, List.set_cons_succ, List.getElem_toArray, List.getElem_cons_zero, List.getElem_cons_succ]
      refine wpAnyH_take (i := 10) (v := ?_) rfl (by kernel_rfl) (by kernel_rfl) (by kernel_rfl) (fun _ _ _ h => h) (Or.inl ⟨by rfl, ?_⟩) (by assumption) ?_
      rotate_left
      · intro w hSw
        try dsimp only at hSw
        go_simp
        try with_reducible rfl
      simp only [Act.put, List.setIfInBounds_toArray, List.set_cons_zero, List.set_cons_succ, List.getElem_toArray, List.getElem_cons_zero, List.getElem_cons_succ]
      refine wpAnyH_take (i := 11) (v := ?_) rfl (by kernel_rfl) (by kernel_rfl) (by kernel_rfl) (fun _ _ _ h => h) (Or.inl ⟨by rfl, ?_⟩) (by assumption) ?_
      rotate_left
      · intro w hSw
        try dsimp only at hSw
        go_simp
        try with_reducible rfl
      simp only [Act.put, List.setIfInBounds_toArray, List.set_cons_zero, List.set_cons_succ, List.getElem_toArray, List.getElem_cons_zero, List.getElem_cons_succ]
      refine wpAnyH_take (i := 12) (v := ?_) rfl (by kernel_rfl) (by kernel_rfl) (by kernel_rfl) (fun _ _ _ h => h) (Or.inl ⟨by rfl, ?_⟩) (by assumption) ?_
      rotate_left
      · intro w hSw
        try dsimp only at hSw
        go_simp
        try with_reducible rfl
      simp only [Act.put, List.setIfInBounds_toArray, List.set_cons_zero, List.set_cons_succ, List.getElem_toArray, List.getElem_cons_zero, List.getElem_cons_succ]
      refine wpAnyH_take (i := 13) (v := ?_) rfl (by kernel_rfl) (by kernel_rfl) (by kernel_rfl) (fun _ _ _ h => h) (Or.inl ⟨by rfl, ?_⟩) (by assumption) ?_
      rotate_left
      · intro w hSw
        have s2 := hSw.2
        try refine (exec_load_row 63 _ rfl _ rfl 63 _ (0, 0) _ hSw.1 Try.underlying63 rfl (by kernel_rfl)).trans ?_
        go_simp
        try with_reducible rfl
      simp only [Act.put, List.setIfInBounds_toArray, List.set_cons_zero, List.set_cons_succ, List.getElem_toArray, List.getElem_cons_zero, List.getElem_cons_succ]
      refine wpAnyH_take (i := 14) (v := ?_) rfl (by kernel_rfl) (by kernel_rfl) (by kernel_rfl) (fun _ _ _ h => h) (Or.inl ⟨by rfl, ?_⟩) (by assumption) ?_
      rotate_left
      · intro w hSw
        try dsimp only at hSw
        go_simp
        try with_reducible rfl
      simp only [Act.put, List.setIfInBounds_toArray, List.set_cons_zero, List.set_cons_succ, List.getElem_toArray, List.getElem_cons_zero, List.getElem_cons_succ]
      refine wpAnyH_take (i := 15) (v := ?_) rfl (by kernel_rfl) (by kernel_rfl) (by kernel_rfl) (fun _ _ _ h => h) (Or.inl ⟨by rfl, ?_⟩) (by assumption) ?_
      rotate_left
      · intro w hSw
        try dsimp only at hSw
        go_simp
        try with_reducible rfl
      simp only [Act.put, List.setIfInBounds_toArray, List.set_cons_zero, List.set_cons_succ, List.getElem_toArray, List.getElem_cons_zero, List.getElem_cons_succ]
      refine wpAnyH_take (i := 16) (v := ?_) rfl (by kernel_rfl) (by kernel_rfl) (by kernel_rfl) (fun _ _ _ h => h) (Or.inl ⟨by rfl, ?_⟩) (by assumption) ?_
      rotate_left
      · intro w hSw
        try dsimp only at hSw
        go_simp
        try with_reducible rfl
      simp only [Act.put, List.setIfInBounds_toArray, List.set_cons_zero, List.set_cons_succ, List.getElem_toArray, List.getElem_cons_zero, List.getElem_cons_succ]
      refine wpAnyH_take (i := 17) (v := ?_) rfl (by kernel_rfl) (by kernel_rfl) (by kernel_rfl) (fun _ _ _ h => h) (Or.inl ⟨by rfl, ?_⟩) (by assumption) ?_
      rotate_left
      · intro w hSw
        try dsimp only at hSw
        go_simp
        try with_reducible rfl
      simp only [Act.put, List.setIfInBounds_toArray, List.set_cons_zero, List.set_cons_succ, List.getElem_toArray, List.getElem_cons_zero, List.getElem_cons_succ]
      refine wpAnyH_take (i := 18) (v := ?_) rfl (by kernel_rfl) (by kernel_rfl) (by kernel_rfl) (fun _ _ _ h => h) (Or.inl ⟨by rfl, ?_⟩) (by assumption) ?_
      rotate_left
      · intro w hSw
        try dsimp only at hSw
        go_simp
        try with_reducible rfl
      simp only [Act.put, List.setIfInBounds_toArray, List.set_cons_zero, List.set_cons_succ, List.getElem_toArray, List.getElem_cons_zero, List.getElem_cons_succ]
      refine wpAnyH_take (i := 19) (v := ?_) rfl (by kernel_rfl) (by kernel_rfl) (by kernel_rfl) (fun _ _ _ h => h) (Or.inl ⟨by rfl, ?_⟩) (by assumption) ?_
      rotate_left
      · intro w hSw
        try dsimp only at hSw
        go_simp
        try with_reducible rfl
      simp only [Act.put, List.setIfInBounds_toArray, List.set_cons_zero, List.set_cons_succ, List.getElem_toArray, List.getElem_cons_zero, List.getElem_cons_succ]
      refine wpAnyH_take (i := 20) (v := ?_) rfl (by kernel_rfl) (by kernel_rfl) (by kernel_rfl) (fun _ _ _ h => h) (Or.inl ⟨by rfl, ?_⟩) (by assumption) ?_
      rotate_left
      · intro w hSw
        try dsimp only at hSw
        go_simp
        try with_reducible rfl
      simp only [Act.put, List.setIfInBounds_toArray, List.set_cons_zero, List.set_cons_succ, List.getElem_toArray, List.getElem_cons_zero, List.getElem_cons_succ]
      refine wpAnyH_take (i := 21) (v := ?_) rfl (by kernel_rfl) (by kernel_rfl) (by kernel_rfl) (fun _ _ _ h => h) (Or.inl ⟨by rfl, ?_⟩) (by assumption) ?_
      rotate_left
      · intro w hSw
        try dsimp only at hSw
        go_simp
        try with_reducible rfl
      simp only [Act.put, List.setIfInBounds_toArray, List.set_cons_zero, List.set_cons_succ, List.getElem_toArray, List.getElem_cons_zero, List.getElem_cons_succ]
      refine wpAnyH_take (i := 22) (v := ?_) rfl (by kernel_rfl) (by kernel_rfl) (by kernel_rfl) (fun _ _ _ h => h) (Or.inl ⟨by rfl, ?_⟩) (by assumption) ?_
      rotate_left
      · intro w hSw
        have s2 := hSw.2
        try refine (exec_load_row 63 _ rfl _ rfl 63 _ (0, 0) _ hSw.1 Try.underlying63 rfl (by kernel_rfl)).trans ?_
        go_simp
        try with_reducible rfl
      simp only [Act.put, List.setIfInBounds_toArray, List.set_cons_zero, List.set_cons_succ, List.getElem_toArray, List.getElem_cons_zero, List.getElem_cons_succ]
      refine wpAnyH_ready (rs := [23]) (by kernel_rfl) (by simp) ?_
      refine AllReadyH.cons rfl (fun Kc hKc => ?_) AllReadyH.nil
      go_simp
      go_wp2_with (go_at_call 41; refine POW.out.mono ?_; rintro e w8 ⟨rfl, hb'⟩)
      refine hKc.out _ _ ?_ (fun hHeld => ?_)
      · first | assumption | exact ⟨hHeld.1.kept hb', (hb'.cell (p := ⟨ga, j, none⟩) (cell_block hHeld.2)).trans hHeld.2⟩
      clear hKc Kc
      refine wpAnyH_take (i := 24) (v := ?_) rfl (by kernel_rfl) (by kernel_rfl) (by kernel_rfl) (fun _ _ _ h => h) (Or.inl ⟨by rfl, ?_⟩) (by assumption) ?_
      rotate_left
      · intro w hSw
        try dsimp only at hSw
        go_simp
        try with_reducible rfl
      simp only [Act.put, List.setIfInBounds_toArray, List.set_cons_zero, List.set_cons_succ, List.getElem_toArray, List.getElem_cons_zero, List.getElem_cons_succ]
      refine wpAnyH_take (i := 25) (v := ?_) rfl (by kernel_rfl) (by kernel_rfl) (by kernel_rfl) (fun _ _ _ h => h) (Or.inl ⟨by rfl, ?_⟩) (by assumption) ?_
      rotate_left
      · intro w hSw
        try dsimp only at hSw
        go_simp
        try with_reducible rfl
      simp only [Act.put, List.setIfInBounds_toArray, List.set_cons_zero, List.set_cons_succ, List.getElem_toArray, List.getElem_cons_zero, List.getElem_cons_succ]
      refine wpAnyH_done (by kernel_rfl) ?_ _
      have HB9 := Lib.hid (btr (below_drewN HB7.out 1) hb')
      clear hHeld hb'
      go_wp2
      go_roundw
      case rel => exact ⟨j + 1, by omega, by go_num, HB9.out⟩
      case measure => simp [intOf]; omega
    · obtain rfl : j = m + 1 := by omega
      have HBr := Lib.hid (btr B5.out HB.out)
      clear hbel
      go_wp2
      go_ret
      exact ⟨rfl, HBr.out⟩
theorem ConserveJoins_walk (v0 va v1 : Value) (w : World) (h0 : shPlay.Val w v0) (ha : (Sh.int .i64).Val w va) (h1 : (Sh.slice (.int .i64)).Val w v1) :
    Calls Try.prog 13 #[v0, va, v1] w fun e w' => e = .returned (.bool true) ∧ Below w.heap.size w w' := by
  obtain ⟨r, c, l, n, cs, ds, rfl, h⟩ := val_play h0
  obtain ⟨at0, rfl, _⟩ := Sh.val_int ha
  obtain ⟨c1s, hc⟩ := cols_of_val h1
  exact ConserveJoins_main r c l n cs ds at0 v1 c1s w h hc
end Go.Proofs.Ytcinlcbmjboaaaa
