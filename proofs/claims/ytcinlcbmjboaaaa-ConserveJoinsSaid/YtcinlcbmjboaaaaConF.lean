/-
  The walk of ConserveBounds. Conditions: the arguments are of their types.
-/
import Derived.Test.YtcinlcbmjboaaaaConO
namespace Go.Proofs.Ytcinlcbmjboaaaa
open Go.RowKit
set_option linter.unusedVariables false
set_option linter.unusedSimpArgs false

def shColsD : Sh := .slice (.int .i64)
theorem own_all {R W m : Nat} {cs : Nat → List Int} {dz : Nat → Int} {K : List Int} (hm : m ≤ 60) : ownS R W cs dz (actB 0 60) K m = ownAll R W cs dz K m := by
  refine sumTo_congr (fun i hi => ?_)
  have : actB 0 60 i = true := by simp [actB]; omega
  simp [this]
/-- what Least tells of both grids -/
theorem both_least {R W m : Nat} {cs : Nat → List Int} {dz : Nat → Int} {act : Nat → Bool} {zg zh K : List Int} {a b : Int} (h : BothInv R W cs dz act zg zh m) (hm : meetB R W K = true) (ha : IsKth (readZ W zg K) 0 a) (hb : IsKth (readZ W zh K) 0 b) :
    a ≤ b ∧ ownS R W cs dz act K m ≤ a := by
  obtain ⟨h0, hlen, hcol⟩ := meetB_of hm
  obtain ⟨⟨r1, hr1, e1⟩, h1⟩ := least_cells hm ha
  obtain ⟨⟨r2, hr2, e2⟩, h2⟩ := least_cells hm hb
  have h3 := h.le r2 _ hr2 (hcol r2 hr2).2
  have h4 := h1 r2 hr2
  have h5 := h.own K r1 hr1 (hcol r1 hr1).2
  omega
theorem inv_cell {R W m : Nat} {cs : Nat → List Int} {dz : Nat → Int} {act : Nat → Bool} {zg zh : List Int} (h : BothInv R W cs dz act zg zh m) (i : Nat) (hi : i < R * W) : 0 ≤ cellD zg i ∧ cellD zg i ≤ cellD zh i := by
  have hW : 0 < W := by
    rcases Nat.eq_zero_or_pos W with h0 | h0
    · rw [h0] at hi; omega
    · exact h0
  have e : i = i / W * W + i % W := by rw [Nat.mul_comm]; exact (Nat.div_add_mod i W).symm
  have hr : i / W < R := Nat.div_lt_of_lt_mul (by rw [Nat.mul_comm]; exact hi)
  have := h.le (i / W) (i % W) hr (Nat.mod_lt i hW)
  rw [← e] at this
  exact ⟨this.1, this.2.1⟩
theorem AllAt.open_ {w : World} {base : Nat} {v : Value} {vs : List Value} {ms : List (List Int)} (h : AllAt w base v vs ms) (h0 : 0 < ms.length) : ∃ ga ca, v = .slice (some ⟨ga, 0, none⟩) ms.length ca ∧ ms.length ≤ ca ∧ ∀ (i : Nat) (m : List Int), ms[i]? = some m → ∃ vi, w.cell? ⟨ga, i, none⟩ = some vi ∧ RowI w vi m := by
  have hc := h.cell
  rcases h.1.2 with ⟨_, h1⟩ | ⟨g, cap, cur, rfl, hb, hg, hnc, -⟩
  · omega
  · obtain ⟨ao, cap', e, hx⟩ := hc
    simp only [Value.slice.injEq] at e
    obtain ⟨rfl, -, rfl⟩ := e
    refine ⟨g, cap, rfl, hnc, fun i m hm => ?_⟩
    obtain ⟨g', vi, e2, h1, h2⟩ := hx i m hm
    simp only [Option.some.injEq, Addr.mk.injEq, and_true] at e2
    subst e2
    exact ⟨vi, h1, h2⟩
set_option maxRecDepth 100000 in
set_option maxHeartbeats 8000000 in
theorem ConserveBounds_main (r c : Int) (l : Value) (n : Nat) (cs : Nat → List Int) (ds : Nat → Int) (v1 : Value) (c1s : List Int) (w : World) (hl : StepsAt w l n cs ds) (hv1 : ColsAt w v1 c1s) :
    Calls Try.prog 11 #[.agg #[.int .i64 r, .int .i64 c, l], v1] w fun e w' => e = .returned (.bool true) ∧ Below w.heap.size w w' := by
  have P0 := Lib.hid (fun w => sized09 r c l w)
  have P1 := Lib.hid (fun w hl => both09 r c l n cs ds 0 60 w hl)
  obtain ⟨r1, r2, -⟩ := sizeR_bd r
  obtain ⟨c1, c2, -⟩ := sizeW_bd c
  generalize sizeR r = R at *
  generalize sizeW c = W at *
  have HL := Lib.hid hl
  have HV := Lib.hid hv1
  have PCUT := Lib.hid (fun w1 (h : ColsAt w1 v1 c1s) => cut_any v1 c1s R W (by omega) (by omega) (by omega) w1 h)
  have HCM := Lib.hid (fun cs => cut_meet (cs := cs) (R := R) (W := W) (by omega) (by omega))
  have POWN := Lib.hid (fun w va vk K hl hm hm60 hva hvk hK => own09 r c l va vk n (min n 60) R W cs ds K w hl hm hm60 (by omega) hva hvk hK)
  obtain ⟨ao, cap, rfl, hmx, hd64, hcells⟩ := hl
  clear hcells hd64
  obtain ⟨vo, vcap, rfl, hj1, hj2, hj3⟩ := hv1
  clear hj1 hj2 hj3
  generalize c1s.length = n1 at *
  unfold BothPost at P1
  obtain ⟨m, hm⟩ : ∃ m, m = min n 60 := ⟨_, rfl⟩
  rw [← hm] at P1 POWN
  have hm60 : m ≤ 60 := by omega
  have hmn : m ≤ n := by omega
  clear hm
  obtain ⟨i1', hj, hy0, hy1, hy2⟩ := info_parts Try.infoSlI
  go_enter Try.func11, Try.ntmps11
  go_wp2_with fail
  obtain ⟨g1, hb1, hsz1⟩ := news1 w (.cells #[.int .i64 r, .int .i64 c, .slice ao n cap] 63)
  have hx1 : Blk _ w.heap.size 63 #[.int .i64 r, .int .i64 c, .slice ao n cap] := g1
  have HL1 := Lib.hid (HL.out.kept hb1)
  have HV1 := Lib.hid (HV.out.kept hb1)
  have HB1 := Lib.hid hb1
  have HX1 := Lib.hid hx1
  clear g1 hb1 hx1
  generalize (w.alloc (.cells #[.int .i64 r, .int .i64 c, .slice ao n cap] 63)) = wz at *
  refine (shown09 wz).mono ?_; rintro e w1 ⟨rfl, hb⟩
  have hx1 := HX1.out.kept hb
  have HX2 := Lib.hid hx1
  have HB2 := Lib.hid (btr HB1.out hb)
  have HL2 := Lib.hid (HL1.out.kept hb)
  have HV2 := Lib.hid (HV1.out.kept hb)
  clear hb
  go_wp2_with (refine wpList_load_row rfl 63 _ rfl w.heap.size rfl 63 _ (0, 0) _ hx1 Try.underlying63 rfl (by kernel_rfl) ?_)
  with_reducible refine (P0.out w1).mono ?_
  rintro e w2 ⟨rfl, hb⟩
  have hx1 := HX2.out.kept hb
  have HX3 := Lib.hid hx1
  have HB3 := Lib.hid (btr HB2.out hb)
  have HL3 := Lib.hid (HL2.out.kept hb)
  have HV3 := Lib.hid (HV2.out.kept hb)
  clear hb
  go_wp2_with (refine wpList_load_row rfl 63 _ rfl w.heap.size rfl 63 _ (0, 0) _ hx1 Try.underlying63 rfl (by kernel_rfl) ?_)
  with_reducible refine (P1.out w2 HL3.out).mono ?_
  rintro e w3 ⟨G, C, H, D, va, vs, zg, zh, rfl, -, -, hg, hh, hinv, hall, hb⟩
  have HI := Lib.hid hinv
  have HG3 := Lib.hid hg
  have HH3 := Lib.hid hh
  have HAL3 := Lib.hid hall
  have HX4 := Lib.hid (HX3.out.kept hb)
  have HB4 := Lib.hid (btr HB3.out hb)
  have HV4 := Lib.hid (HV3.out.kept hb)
  have hs23 := hb.size
  have hAlt := HX3.out.lt
  clear hb hg hh hinv hall hx1 HL1 HL2 HL3 HV HV1 HV2 HV3 HX1 HX2 HX3 P0 P1
  go_wp2_with fail
  refine (PCUT.out w3 HV4.out).mono ?_
  rintro e w4 ⟨v2, rfl, hr2, -, hb⟩
  obtain ⟨g2, cp2, rfl⟩ : ∃ g2 cp2, v2 = .slice (some ⟨g2, 0, none⟩) R cp2 := by obtain ⟨g, cp, cur, e, _⟩ := hr2; exact ⟨g, cp, by rw [e, cutZ_len]⟩
  have R4 := Lib.hid hr2
  have G4 := Lib.hid (HG3.out.kept hb)
  have H4 := Lib.hid (HH3.out.kept hb)
  have A4 := Lib.hid (HAL3.out.kept hb)
  have X4 := Lib.hid (HX4.out.kept hb)
  have hs34 := hb.size
  have B4 := Lib.hid (btr HB4.out hb)
  clear hr2 hb
  have hml : Hid (((List.range m).map fun i => cutZ (cs i) R W).length = m) := Lib.hid (by simp)
  have hm1 : m + 1 ≤ maxLen := by unfold maxLen; omega
  have hb2 : Below w4.heap.size w4 (w4.alloc (.cells #[.slice (some ⟨g2, 0, none⟩) R cp2] 32)) := (Below.refl _ _).alloc (Nat.le_refl _) _
  have HALc := Lib.hid (A4.out.kept hb2)
  have hown := HALc.out.1
  rw [hml.out] at hown
  have HOWN := Lib.hid hown
  clear hown
  have hAw := X4.out.lt
  go_wp2_with (at_builtin; refine wpList_append_own_at _ rfl _ _ 29 rfl w2.heap.size 32 i1' (.slice none 0 0) 1 24 Try.underlying29 hj hy0 hy1 hy2 rfl (by decide) _ m _ rfl HOWN.out ⟨w4.heap.size, 0, none⟩ 1 1 [.slice (some ⟨g2, 0, none⟩) R cp2] rfl rfl (cell_one_new _ _ _) ?c2 hm1 ?c4 ?c5 ?_)
  case c2 => simp [Value.oneCell']
  case c4 => omega
  case c5 => simp; omega
  intro v' w5 hown' hgrow hnil' hq9
  have R4c := Lib.hid (R4.out.kept hb2)
  have A5 := Lib.hid (HALc.out.push hgrow (by rw [hml.out]; exact hown') R4c.out)
  have hvo := fun k hk => (HOWN.out.lt k hk).1
  obtain ⟨cG, hGb, -⟩ := (G4.out.kept hb2).fields
  obtain ⟨curC, hCb, -⟩ := (G4.out.kept hb2).cells
  obtain ⟨cH, hHb, -⟩ := (H4.out.kept hb2).fields
  obtain ⟨curD, hDb, -⟩ := (H4.out.kept hb2).cells
  have G5 := Lib.hid ((G4.out.kept hb2).grown hgrow (fun e => own_ne HOWN.out hGb (by decide) e.symm) (fun e => own_ne HOWN.out hCb (by decide) e.symm))
  have H5 := Lib.hid ((H4.out.kept hb2).grown hgrow (fun e => own_ne HOWN.out hHb (by decide) e.symm) (fun e => own_ne HOWN.out hDb (by decide) e.symm))
  have hA2 : w.heap.size < w2.heap.size := hAlt
  have X5 := Lib.hid ((X4.out.kept hb2).grown hgrow (fun e => by have := hvo w.heap.size e.symm; omega))
  have B5 : Hid (Below w.heap.size w w5) := Lib.hid ((B4.out.alloc B4.out.size _).grown hgrow (by have := B4.out.size; simp; omega) (fun k e => by have := hvo k e; omega))
  have L5 := Lib.hid (HL.out.kept B5.out)
  have hmsl : (((List.range m).map fun i => cutZ (cs i) R W) ++ [cutZ c1s R W]).length = m + 1 := by simp
  obtain ⟨ga, ca, hv', hcale, hcl⟩ := A5.out.open_ (by rw [hmsl]; omega)
  rw [hmsl] at hv' hcale
  subst hv'
  have HEL : Hid (∀ i, i < m + 1 → ∃ mi vi, w5.cell? ⟨ga, i, none⟩ = some vi ∧ RowI w5 vi mi ∧ mi.length = R ∧ meetB R W mi = true) := Lib.hid (fun i hi => by
    by_cases h : i < m
    · obtain ⟨vi, h1, h2⟩ := hcl i (cutZ (cs i) R W) (by rw [List.getElem?_append_left (by simp; omega)]; simp [h])
      exact ⟨_, vi, h1, h2, cutZ_len, HCM.out _⟩
    · have e : i = m := by omega
      subst e
      obtain ⟨vi, h1, h2⟩ := hcl i (cutZ c1s R W) (by rw [List.getElem?_append_right (by simp)]; simp)
      exact ⟨_, vi, h1, h2, cutZ_len, HCM.out _⟩)
  have HRD : Hid (RowsAt w5 (.slice (some ⟨ga, 0, none⟩) m ca) ((List.range m).map fun i => cutZ (cs i) R W)) := Lib.hid ⟨some ⟨ga, 0, none⟩, ca, by simp, fun i mi hi => by
    have hlt := (List.getElem?_eq_some_iff.1 hi).1
    obtain ⟨vi, h1, h2⟩ := hcl i mi (by rw [List.getElem?_append_left hlt]; exact hi)
    exact ⟨ga, vi, rfl, h1, h2⟩⟩
  clear hGb hCb hHb hDb hown' hgrow hnil' hq9 hvo hmsl hcl HALc HOWN A4 A5 HAL3
  have ewm2 : IntKind.i64.wrap (m : Int) = (m : Int) := wrapI_of _ (by omega) (by omega)
  have hmc0 : (0 : Int) ≤ (m : Int) := by omega
  have hmc1 : (m : Int) ≤ (ca : Int) := by omega
  have ewm : wrap64 ((m : Int) + 1 - 1) = (m : Int) := by unfold wrap64; omega
  go_wp2_with fail
  go_loopw [11] (fun i wr => ∃ j : Nat, j ≤ m + 1 ∧ i = .int .i64 (j : Int) ∧ Below w5.heap.size w5 wr) (fun i _ => m + 1 - (intOf i).toNat)
  case atStart => exact ⟨0, by omega, rfl, Below.refl _ _⟩
  case round =>
    obtain ⟨j, hjm, rfl, hbel⟩ := hrel
    have HB := Lib.hid hbel
    have GR := Lib.hid (G5.out.kept hbel)
    have HR := Lib.hid (H5.out.kept hbel)
    have XR := Lib.hid (X5.out.kept hbel)
    by_cases hlt : j < m + 1
    · obtain ⟨mi, vi, hcell, hri, hmil, hmeet⟩ := HEL.out j hlt
      have hgl := cell_block hcell
      have cj := (hbel.cell (p := ⟨ga, j, none⟩) hgl).trans hcell
      have RI := Lib.hid (hri.kept hbel)
      have HME := Lib.hid hmeet
      have HMIL := Lib.hid hmil
      obtain ⟨gi, ci, curi, rfl, -⟩ := hri
      rw [hmil] at cj
      have CJ := Lib.hid cj
      have i0 : (0 : Int) ≤ (j : Int) := by omega
      have i1 : (j : Int) < (m : Int) + 1 := by omega
      have PA := least_yes wr G C R W zg mi _ GR.out RI.out.ints HME.out
      unfold TellPost at PA
      rw [HMIL.out] at PA
      clear hmil hmeet hcell hbel
      go_wp2_with fail
      with_reducible refine PA.mono ?_
      clear PA; rintro e w6 ⟨a, rfl, hka, hb⟩
      have KA := Lib.hid hka
      have H6 := Lib.hid (HR.out.kept hb)
      have RI6 := Lib.hid (RI.out.kept hb)
      have cj := (hb.cell (p := ⟨ga, j, none⟩) (Nat.lt_of_lt_of_le hgl HB.out.size)).trans CJ.out
      have CJ6 := Lib.hid cj
      have HB6 := Lib.hid (btr HB.out hb)
      clear hka hb
      have PB := least_yes w6 H D R W zh mi _ H6.out RI6.out.ints HME.out
      unfold TellPost at PB
      rw [HMIL.out] at PB
      go_wp2_with fail
      with_reducible refine PB.mono ?_
      clear PB; rintro e w7 ⟨b, rfl, hkb, hb⟩
      have KB := Lib.hid hkb
      have RI7 := Lib.hid (RI6.out.kept hb)
      have cj := (hb.cell (p := ⟨ga, j, none⟩) (Nat.lt_of_lt_of_le hgl HB6.out.size)).trans CJ6.out
      have HB7 := Lib.hid (btr HB6.out hb)
      have X7 := Lib.hid (X5.out.kept HB7.out)
      obtain ⟨hab, hoa⟩ := both_least HI.out HME.out KA.out hkb
      rw [own_all hm60] at hoa
      have e1 : decide (b < a) = false := decide_eq_false (by omega)
      have POW := Lib.hid (POWN.out (w7.drewN 1) (.slice (some ⟨ga, 0, none⟩) m ca) _ mi (L5.out.kept (below_drewN HB7.out 1)) hmn hm60 (HRD.out.kept (below_drewN HB7.out 1)) (RI7.out.kept (below_drewN (Below.refl _ _) 1)) (by rw [HMIL.out]; omega))
      generalize ownAll R W cs (fun i => plainZ true (ds i)) mi m = o at *
      rw [HMIL.out] at POW
      have e2 : decide (a < o) = false := decide_eq_false (by omega)
      clear hkb hb hab hoa
      go_wp2_with fail
      refine wp_region_held_drew (S := fun w' => Blk w' w.heap.size 63 #[.int .i64 r, .int .i64 c, .slice ao n cap] ∧ w'.cell? ⟨ga, j, none⟩ = some (.slice (some ⟨gi, 0, none⟩) R ci)) (by kernel_rfl) (by exact ⟨X7.out.drewN 1, cj⟩) (fun hHeld => ?_)
      refine wpAnyH_take (i := 0) (v := ?_) rfl (by kernel_rfl) (by kernel_rfl) (by kernel_rfl) (fun _ _ _ h => h) (Or.inl ⟨by rfl, ?_⟩) (by assumption) ?_
      rotate_left
      · intro w hSw
        try dsimp only at hSw
        go_simp
        try with_reducible rfl
      simp only [Act.put, List.setIfInBounds_toArray, List.set_cons_zero, List.set_cons_succ, List.getElem_toArray, List.getElem_cons_zero, List.getElem_cons_succ]
      refine wpAnyH_take (i := 1) (v := ?_) rfl (by kernel_rfl) (by kernel_rfl) (by kernel_rfl) (fun _ _ _ h => h) (Or.inl ⟨by rfl, ?_⟩) (by assumption) ?_
      rotate_left
      · intro w hSw
        try dsimp only at hSw
        go_simp
        try with_reducible rfl
      simp only [Act.put, List.setIfInBounds_toArray, List.set_cons_zero, List.set_cons_succ, List.getElem_toArray, List.getElem_cons_zero, List.getElem_cons_succ]
      refine wpAnyH_take (i := 2) (v := ?_) rfl (by kernel_rfl) (by kernel_rfl) (by kernel_rfl) (fun _ _ _ h => h) (Or.inl ⟨by rfl, ?_⟩) (by assumption) ?_
      rotate_left
      · intro w hSw
        try dsimp only at hSw
        go_simp
        try with_reducible rfl
      simp only [Act.put, List.setIfInBounds_toArray, List.set_cons_zero, List.set_cons_succ, List.getElem_toArray, List.getElem_cons_zero, List.getElem_cons_succ]
      refine wpAnyH_take (i := 3) (v := ?_) rfl (by kernel_rfl) (by kernel_rfl) (by kernel_rfl) (fun _ _ _ h => h) (Or.inl ⟨by rfl, ?_⟩) (by assumption) ?_
      rotate_left
      · intro w hSw
        try dsimp only at hSw
        go_simp
        try with_reducible rfl
      simp only [Act.put, List.setIfInBounds_toArray, List.set_cons_zero, List.set_cons_succ, List.getElem_toArray, List.getElem_cons_zero, List.getElem_cons_succ]
      refine wpAnyH_take (i := 4) (v := ?_) rfl (by kernel_rfl) (by kernel_rfl) (by kernel_rfl) (fun _ _ _ h => h) (Or.inl ⟨by rfl, ?_⟩) (by assumption) ?_
      rotate_left
      · intro w hSw
        try dsimp only at hSw
        go_simp
        try with_reducible rfl
      simp only [Act.put, List.setIfInBounds_toArray, List.set_cons_zero, List.set_cons_succ, List.getElem_toArray, List.getElem_cons_zero, List.getElem_cons_succ]
      refine wpAnyH_take (i := 5) (v := ?_) rfl (by kernel_rfl) (by kernel_rfl) (by kernel_rfl) (fun _ _ _ h => h) (Or.inl ⟨by rfl, ?_⟩) (by assumption) ?_
      rotate_left
      · intro w hSw
        try dsimp only at hSw
        go_simp
        try with_reducible rfl
      simp only [Act.put, List.setIfInBounds_toArray, List.set_cons_zero, List.set_cons_succ, List.getElem_toArray, List.getElem_cons_zero, List.getElem_cons_succ]
      refine wpAnyH_take (i := 6) (v := ?_) rfl (by kernel_rfl) (by kernel_rfl) (by kernel_rfl) (fun _ _ _ h => h) (Or.inl ⟨by rfl, ?_⟩) (by assumption) ?_
      rotate_left
      · intro w hSw
        try dsimp only at hSw
        go_simp
        try with_reducible rfl
      simp only [Act.put, List.setIfInBounds_toArray, List.set_cons_zero, List.set_cons_succ, List.getElem_toArray, List.getElem_cons_zero, List.getElem_cons_succ]
      refine wpAnyH_take (i := 7) (v := ?_) rfl (by kernel_rfl) (by kernel_rfl) (by kernel_rfl) (fun _ _ _ h => h) (Or.inl ⟨by rfl, ?_⟩) (by assumption) ?_
      rotate_left
      · intro w hSw
        try dsimp only at hSw
        go_simp
        try with_reducible rfl
      simp only [Act.put, List.setIfInBounds_toArray, List.set_cons_zero, List.set_cons_succ, List.getElem_toArray, List.getElem_cons_zero, List.getElem_cons_succ]
      refine wpAnyH_take (i := 8) (v := ?_) rfl (by kernel_rfl) (by kernel_rfl) (by kernel_rfl) (fun _ _ _ h => h) (Or.inl ⟨by rfl, ?_⟩) (by assumption) ?_
      rotate_left
      · intro w hSw
        try dsimp only at hSw
        go_simp
        try with_reducible rfl
      simp only [Act.put, List.setIfInBounds_toArray, List.set_cons_zero, List.set_cons_succ, List.getElem_toArray, List.getElem_cons_zero, List.getElem_cons_succ]
      refine wpAnyH_take (i := 9) (v := ?_) rfl (by kernel_rfl) (by kernel_rfl) (by kernel_rfl) (fun _ _ _ h => h) (Or.inl ⟨by rfl, ?_⟩) (by assumption) ?_
      rotate_left
      · intro w hSw
        try dsimp only at hSw
        go_simp
        try with_reducible rfl
      simp only [Act.put, List.setIfInBounds_toArray, List.set_cons_zero, List.set_cons_succ, List.getElem_toArray, List.getElem_cons_zero, List.getElem_cons_succ]
      refine wpAnyH_take (i := 10) (v := ?_) rfl (by kernel_rfl) (by kernel_rfl) (by kernel_rfl) (fun _ _ _ h => h) (Or.inl ⟨by rfl, ?_⟩) (by assumption) ?_
      rotate_left
      · intro w hSw
        try dsimp only at hSw
        go_simp
        try with_reducible rfl
      simp only [Act.put, List.setIfInBounds_toArray, List.set_cons_zero, List.set_cons_succ, List.getElem_toArray, List.getElem_cons_zero, List.getElem_cons_succ]
      refine wpAnyH_take (i := 11) (v := ?_) rfl (by kernel_rfl) (by kernel_rfl) (by kernel_rfl) (fun _ _ _ h => h) (Or.inl ⟨by rfl, ?_⟩) (by assumption) ?_
      rotate_left
      · intro w hSw
        try dsimp only at hSw
        go_simp
        try with_reducible rfl
      simp only [Act.put, List.setIfInBounds_toArray, List.set_cons_zero, List.set_cons_succ, List.getElem_toArray, List.getElem_cons_zero, List.getElem_cons_succ]
      refine wpAnyH_take (i := 12) (v := ?_) rfl (by kernel_rfl) (by kernel_rfl) (by kernel_rfl) (fun _ _ _ h => h) (Or.inl ⟨by rfl, ?_⟩) (by assumption) ?_
      rotate_left
      · intro w hSw
        try dsimp only at hSw
        go_simp
        try with_reducible rfl
      simp only [Act.put, List.setIfInBounds_toArray, List.set_cons_zero, List.set_cons_succ, List.getElem_toArray, List.getElem_cons_zero, List.getElem_cons_succ]
      refine wpAnyH_take (i := 13) (v := ?_) rfl (by kernel_rfl) (by kernel_rfl) (by kernel_rfl) (fun _ _ _ h => h) (Or.inl ⟨by rfl, ?_⟩) (by assumption) ?_
      rotate_left
      · intro w hSw
        have s2 := hSw.2
        try refine (exec_load_row 63 _ rfl _ rfl 63 _ (0, 0) _ hSw.1 Try.underlying63 rfl (by kernel_rfl)).trans ?_
        go_simp
        try with_reducible rfl
      simp only [Act.put, List.setIfInBounds_toArray, List.set_cons_zero, List.set_cons_succ, List.getElem_toArray, List.getElem_cons_zero, List.getElem_cons_succ]
      refine wpAnyH_take (i := 14) (v := ?_) rfl (by kernel_rfl) (by kernel_rfl) (by kernel_rfl) (fun _ _ _ h => h) (Or.inl ⟨by rfl, ?_⟩) (by assumption) ?_
      rotate_left
      · intro w hSw
        try dsimp only at hSw
        go_simp
        try with_reducible rfl
      simp only [Act.put, List.setIfInBounds_toArray, List.set_cons_zero, List.set_cons_succ, List.getElem_toArray, List.getElem_cons_zero, List.getElem_cons_succ]
      refine wpAnyH_take (i := 15) (v := ?_) rfl (by kernel_rfl) (by kernel_rfl) (by kernel_rfl) (fun _ _ _ h => h) (Or.inl ⟨by rfl, ?_⟩) (by assumption) ?_
      rotate_left
      · intro w hSw
        try dsimp only at hSw
        go_simp
        try with_reducible rfl
      simp only [Act.put, List.setIfInBounds_toArray, List.set_cons_zero, List.set_cons_succ, List.getElem_toArray, List.getElem_cons_zero, List.getElem_cons_succ]
      refine wpAnyH_take (i := 16) (v := ?_) rfl (by kernel_rfl) (by kernel_rfl) (by kernel_rfl) (fun _ _ _ h => h) (Or.inl ⟨by rfl, ?_⟩) (by assumption) ?_
      rotate_left
      · intro w hSw
        try dsimp only at hSw
        go_simp
        try with_reducible rfl
      simp only [Act.put, List.setIfInBounds_toArray, List.set_cons_zero, List.set_cons_succ, List.getElem_toArray, List.getElem_cons_zero, List.getElem_cons_succ]
      refine wpAnyH_take (i := 17) (v := ?_) rfl (by kernel_rfl) (by kernel_rfl) (by kernel_rfl) (fun _ _ _ h => h) (Or.inl ⟨by rfl, ?_⟩) (by assumption) ?_
      rotate_left
      · intro w hSw
        try dsimp only at hSw
        go_simp
        try with_reducible rfl
      simp only [Act.put, List.setIfInBounds_toArray, List.set_cons_zero, List.set_cons_succ, List.getElem_toArray, List.getElem_cons_zero, List.getElem_cons_succ]
      refine wpAnyH_take (i := 18) (v := ?_) rfl (by kernel_rfl) (by kernel_rfl) (by kernel_rfl) (fun _ _ _ h => h) (Or.inl ⟨by rfl, ?_⟩) (by assumption) ?_
      rotate_left
      · intro w hSw
        try dsimp only at hSw
        go_simp
        try with_reducible rfl
      simp only [Act.put, List.setIfInBounds_toArray, List.set_cons_zero, List.set_cons_succ, List.getElem_toArray, List.getElem_cons_zero, List.getElem_cons_succ]
      refine wpAnyH_take (i := 19) (v := ?_) rfl (by kernel_rfl) (by kernel_rfl) (by kernel_rfl) (fun _ _ _ h => h) (Or.inl ⟨by rfl, ?_⟩) (by assumption) ?_
      rotate_left
      · intro w hSw
        try dsimp only at hSw
        go_simp
        try with_reducible rfl
      simp only [Act.put, List.setIfInBounds_toArray, List.set_cons_zero, List.set_cons_succ, List.getElem_toArray, List.getElem_cons_zero, List.getElem_cons_succ]
      refine wpAnyH_take (i := 20) (v := ?_) rfl (by kernel_rfl) (by kernel_rfl) (by kernel_rfl) (fun _ _ _ h => h) (Or.inl ⟨by rfl, ?_⟩) (by assumption) ?_
      rotate_left
      · intro w hSw
        try dsimp only at hSw
        go_simp
        try with_reducible rfl
      simp only [Act.put, List.setIfInBounds_toArray, List.set_cons_zero, List.set_cons_succ, List.getElem_toArray, List.getElem_cons_zero, List.getElem_cons_succ]
      refine wpAnyH_take (i := 21) (v := ?_) rfl (by kernel_rfl) (by kernel_rfl) (by kernel_rfl) (fun _ _ _ h => h) (Or.inl ⟨by rfl, ?_⟩) (by assumption) ?_
      rotate_left
      · intro w hSw
        try dsimp only at hSw
        go_simp
        try with_reducible rfl
      simp only [Act.put, List.setIfInBounds_toArray, List.set_cons_zero, List.set_cons_succ, List.getElem_toArray, List.getElem_cons_zero, List.getElem_cons_succ]
      refine wpAnyH_take (i := 22) (v := ?_) rfl (by kernel_rfl) (by kernel_rfl) (by kernel_rfl) (fun _ _ _ h => h) (Or.inl ⟨by rfl, ?_⟩) (by assumption) ?_
      rotate_left
      · intro w hSw
        have s2 := hSw.2
        try refine (exec_load_row 63 _ rfl _ rfl 63 _ (0, 0) _ hSw.1 Try.underlying63 rfl (by kernel_rfl)).trans ?_
        go_simp
        try with_reducible rfl
      simp only [Act.put, List.setIfInBounds_toArray, List.set_cons_zero, List.set_cons_succ, List.getElem_toArray, List.getElem_cons_zero, List.getElem_cons_succ]
      refine wpAnyH_ready (rs := [23]) (by kernel_rfl) (by simp) ?_
      refine AllReadyH.cons rfl (fun Kc hKc => ?_) AllReadyH.nil
      go_simp
      go_wp2_with (go_at_call 41; refine POW.out.mono ?_; rintro e w8 ⟨rfl, hb'⟩)
      refine hKc.out _ _ ?_ (fun hHeld => ?_)
      · first | assumption | exact ⟨hHeld.1.kept hb', (hb'.cell (p := ⟨ga, j, none⟩) (cell_block hHeld.2)).trans hHeld.2⟩
      clear hKc Kc
      refine wpAnyH_take (i := 24) (v := ?_) rfl (by kernel_rfl) (by kernel_rfl) (by kernel_rfl) (fun _ _ _ h => h) (Or.inl ⟨by rfl, ?_⟩) (by assumption) ?_
      rotate_left
      · intro w hSw
        try dsimp only at hSw
        go_simp
        try with_reducible rfl
      simp only [Act.put, List.setIfInBounds_toArray, List.set_cons_zero, List.set_cons_succ, List.getElem_toArray, List.getElem_cons_zero, List.getElem_cons_succ]
      refine wpAnyH_take (i := 25) (v := ?_) rfl (by kernel_rfl) (by kernel_rfl) (by kernel_rfl) (fun _ _ _ h => h) (Or.inl ⟨by rfl, ?_⟩) (by assumption) ?_
      rotate_left
      · intro w hSw
        try dsimp only at hSw
        go_simp
        try with_reducible rfl
      simp only [Act.put, List.setIfInBounds_toArray, List.set_cons_zero, List.set_cons_succ, List.getElem_toArray, List.getElem_cons_zero, List.getElem_cons_succ]
      refine wpAnyH_done (by kernel_rfl) ?_ _
      have HB9 := Lib.hid (btr (below_drewN HB7.out 1) hb')
      clear hHeld hb'
      go_wp2
      go_roundw
      case rel => exact ⟨j + 1, by omega, by go_num, HB9.out⟩
      case measure => simp [intOf]; omega
    · obtain rfl : j = m + 1 := by omega
      have HBr := Lib.hid (btr B5.out HB.out)
      have hlg := Lib.hid HI.out.lg
      have hlh := Lib.hid HI.out.lh
      have hsm : R * W ≤ 5 * 9 := Nat.mul_le_mul r2 c2
      have HINV := Lib.hid (fun i hi => inv_cell HI.out i hi)
      clear hbel
      go_wp2_with fail
      with_reducible refine (cells_any wr G C R W zg GR.out).mono ?_
      rintro e w6 ⟨x, rfl, hown, hne, hb⟩
      obtain ⟨g6, k6, rfl, -, hk6, cur6, hc6, hx6⟩ := own_row hown hne
      have H6 := Lib.hid (HR.out.kept hb)
      have C6 := Lib.hid hc6
      have X6 := Lib.hid hx6
      have B6 := Lib.hid (btr HBr.out hb)
      clear hown hne hb hc6 hx6
      go_wp2_with fail
      with_reducible refine (cells_any w6 H D R W zh H6.out).mono ?_
      rintro e w7 ⟨x, rfl, hown, hne, hb⟩
      obtain ⟨g7, k7, rfl, -, hk7, cur7, hc7, hx7⟩ := own_row hown hne
      have C6b := Lib.hid (C6.out.kept hb)
      have C7 := Lib.hid hc7
      have X7 := Lib.hid hx7
      have B7 := Lib.hid (btr B6.out hb)
      clear hown hne hb hc7 hx7
      rw [hlg.out] at hk6 ⊢
      rw [hlh.out] at hk7 ⊢
      obtain ⟨q, hq⟩ : ∃ q, q = R * W := ⟨_, rfl⟩
      have hqm : (R : Int) * (W : Int) = (q : Int) := by rw [hq]; simp
      rw [← hq] at hk6 hk7 ⊢
      have HQ := Lib.hid hq
      have hq45 : q ≤ 45 := by omega
      clear hq
      go_wp2_with fail
      go_loopw [18] (fun i wr => ∃ j : Nat, j ≤ q ∧ i = .int .i64 (j : Int) ∧ Below w7.heap.size w7 wr) (fun i _ => q - (intOf i).toNat)
      case atStart => exact ⟨0, by omega, rfl, Below.refl _ _⟩
      case round =>
        obtain ⟨k, hkq, rfl, hbel⟩ := hrel
        have HBk := Lib.hid hbel
        by_cases hlt2 : k < q
        · have hki : k < R * W := by have := HQ.out; omega
          have z1 : zg[k]? = some (cellD zg k) := by
            have : k < zg.length := by rw [hlg.out]; exact hki
            simp [cellD, this]
          have z2 : zh[k]? = some (cellD zh k) := by
            have : k < zh.length := by rw [hlh.out]; exact hki
            simp [cellD, this]
          have p1 := ((C6b.out.kept hbel).cell k).trans (X6.out k _ z1)
          have p2 := ((C7.out.kept hbel).cell k).trans (X7.out k _ z2)
          obtain ⟨h1, h2⟩ := HINV.out k hki
          clear z1 z2 hki hbel
          generalize cellD zg k = y1 at *
          generalize cellD zh k = y2 at *
          have e1 : decide (y2 < y1) = false := decide_eq_false (by omega)
          have e2 : decide (y1 < 0) = false := decide_eq_false (by omega)
          have i0 : (0 : Int) ≤ (k : Int) := by omega
          have i1 : (k : Int) < (q : Int) := by omega
          clear h1 h2
          go_wp2_with fail
          go_quiet (fail)
          go_wp2
          go_roundw
          case rel => exact ⟨k + 1, by omega, by go_num, below_drewN HBk.out nq⟩
          case measure => simp [intOf]; omega
        · obtain rfl : k = q := by omega
          have B9 := Lib.hid (btr B7.out HBk.out)
          clear hbel
          go_wp2
          go_ret
          exact ⟨rfl, B9.out⟩
theorem ConserveBounds_walk (v0 v1 : Value) (w : World) (h0 : shPlay.Val w v0) (h1 : (Sh.slice (.int .i64)).Val w v1) :
    Calls Try.prog 11 #[v0, v1] w fun e w' => e = .returned (.bool true) ∧ Below w.heap.size w w' := by
  obtain ⟨r, c, l, n, cs, ds, rfl, h⟩ := val_play h0
  obtain ⟨c1s, hc⟩ := cols_of_val h1
  exact ConserveBounds_main r c l n cs ds v1 c1s w h hc
end Go.Proofs.Ytcinlcbmjboaaaa
