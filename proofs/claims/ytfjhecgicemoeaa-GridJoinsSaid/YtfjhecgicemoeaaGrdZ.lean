/-
  The walk of GridJoins. Conditions: the arguments are of their types.
-/
import Derived.Test.YtfjhecgicemoeaaGrdQ
namespace Go.Proofs.Ytfjhecgicemoeaa
open Go.RowKit
set_option linter.unusedVariables false
set_option linter.unusedSimpArgs false

theorem same_yes {va vb : Value} {xs : List Int} {w : World} (ha : IntsAt w va xs) (hb : IntsAt w vb xs) (hx : xs.length ≤ 9223372036854775807) :
    Calls Try.prog 39 #[va, vb] w fun e w' => e = .returned (.bool true) ∧ Below w.heap.size w w' := by
  refine (same06_any va vb xs xs w ha hb hx hx).mono ?_
  rintro e w' ⟨rfl, h⟩
  exact ⟨by simp, h⟩
/-- a grid's cells and the document's are the same -/
theorem fit_puts {R W : Nat} {zs : List Int} {pr pc pu : Nat → Int} (h : Fit zs) (k : Nat) (hu : ∀ i, i < k → In64 (pu i)) : Fit (putsZ R W zs pr pc pu k) := by
  induction k with
  | zero => exact h
  | succ k ih => exact putZ_fit (ih (fun i hi => hu i (by omega))) _ _ (hu k (by omega)).1 (hu k (by omega)).2
theorem xor1_bd (W : Nat) (h : W ≤ 128) : 0 ≤ bits BinOp.xor IntKind.i64 (W : Int) 1 ∧ bits BinOp.xor IntKind.i64 (W : Int) 1 ≤ 200 := by
  have key : ∀ x : Fin 129, 0 ≤ bits BinOp.xor IntKind.i64 ((x.val : Nat) : Int) 1 ∧ bits BinOp.xor IntKind.i64 ((x.val : Nat) : Int) 1 ≤ 200 := by decide +kernel
  exact key ⟨W, by omega⟩
theorem puts_fit (R W : Nat) {l : Value} {n : Nat} {pr pc pu : Nat → Int} {w : World} (h : PutsAt w l n pr pc pu) (k : Nat) (hk : k ≤ n) : Fit (putsZ R W (List.replicate (R * W) 0) pr pc pu k) := by
  obtain ⟨ao, cap, e, hm, hu, _⟩ := h
  exact fit_puts (fun u hu => by simp at hu; omega) k (fun i hi => hu i (by omega))

set_option maxRecDepth 100000 in
set_option maxHeartbeats 8000000 in
theorem GridJoins_main (r c mo : Int) (mi : Bool) (l k : Value) (n n' : Nat) (pr pc pu pr' pc' pu' : Nat → Int) (w : World) (hl : PutsAt w l n pr pc pu) (hk : PutsAt w k n' pr' pc' pu') :
    Calls Try.prog 10 #[.agg #[.int .i64 r, .int .i64 c, l, .int .i64 mo, k], .bool mi] w fun e w' => e = .returned (.bool true) ∧ Below w.heap.size w w' := by
  have HL := Lib.hid hl
  have HK := Lib.hid hk
  have HMADE := Lib.hid (fun w hl => made_any r c l n pr pc pu w hl)
  have HMADE' := Lib.hid (fun cI w hl => made_any r cI k n' pr' pc' pu' w hl)
  have HZF := Lib.hid (fun R W => puts_fit R W hl (min n 200) (Nat.min_le_left _ _))
  have HHF := Lib.hid (fun R W => puts_fit R W hk (min n' 200) (Nat.min_le_left _ _))
  obtain ⟨ao, cap, rfl, hj⟩ := hl
  obtain ⟨ao', cap', rfl, hj'⟩ := hk
  clear hj hj'
  have b1 := clampN_le r 8
  have b2 := clampN_le c 128
  obtain ⟨mc, ec⟩ : ∃ m, (if c < 0 then 0 else c) = m := ⟨_, rfl⟩
  have fc : (if 128 < mc then 128 else mc) = (clampN c 128 : Int) := by simp only [clampN]; split at ec <;> split <;> omega
  generalize clampN r 8 = R at *
  generalize clampN c 128 = W at *
  obtain ⟨hx0, hx1⟩ := xor1_bd W b2
  obtain ⟨O, hO⟩ : ∃ O, O = if (bits BinOp.and IntKind.i64 mo 1 == 1) = true then bits BinOp.xor IntKind.i64 (W : Int) 1 else (W : Int) := ⟨_, rfl⟩
  have hOb : 0 ≤ O ∧ O ≤ 200 := by rw [hO]; split <;> omega
  have HO := Lib.hid hO
  have b3 := clampN_le O 128
  have fO : (if 128 < O then 128 else O) = (clampN O 128 : Int) := by simp only [clampN]; split <;> omega
  have HM2 := Lib.hid (HMADE'.out O)
  generalize clampN O 128 = W' at *
  have hsm : R * W ≤ 8 * 128 := Nat.mul_le_mul b1 b2
  have hsm' : R * W' ≤ 8 * 128 := Nat.mul_le_mul b1 b3
  clear hO hx0 hx1 HMADE'
  go_enter Try.func10, Try.ntmps10
  go_wp2_with fail
  refine (shown06 _).mono ?_; rintro e w1 ⟨rfl, hb'⟩
  obtain ⟨hbx, hb⟩ := box_kept hb'
  have HB1 := Lib.hid hb
  have HX1 := Lib.hid hbx
  have HL1 := Lib.hid (HL.out.kept hb)
  have HK1 := Lib.hid (HK.out.kept hb)
  have q0 := hbx.cell 0
  have q1 := hbx.cell 1
  have q2 := hbx.cell 2
  simp at q0 q1 q2
  clear hb hb' hbx HL HK
  go_wp2_with fail
  refine (HMADE.out w1 HL1.out).mono ?_; rintro e w2 ⟨G, C, N, H, v, B, K, rfl, hG, hC, hGN, hCN, hg, hr, hb⟩
  have HB2 := Lib.hid (btr HB1.out hb)
  have G2 := Lib.hid hg
  have R2 := Lib.hid hr
  have HC0 : Hid (w.heap.size ≤ C ∧ w.heap.size ≤ N ∧ C < N) := Lib.hid (by have := HB1.out.size; omega)
  have HK2 := Lib.hid (HK1.out.kept hb)
  have hbx := HX1.out.kept hb
  have HX2 := Lib.hid hbx
  have q0 := hbx.cell 0
  have q1 := hbx.cell 1
  have q3 := hbx.cell 3
  have q4 := hbx.cell 4
  simp at q0 q1 q3 q4
  have HZF2 := Lib.hid (HZF.out R W)
  clear hG hC hg hr hb hGN hCN HMADE HL1 hbx HK1 HZF
  generalize putsZ R W (List.replicate (R * W) 0) pr pc pu (min n 200) = zs at *
  have HHF2 := Lib.hid (HHF.out R W')
  clear HHF
  have hcase : (bits BinOp.and IntKind.i64 mo 1 == 1) = true ∨ (bits BinOp.and IntKind.i64 mo 1 == 1) = false := by cases (bits BinOp.and IntKind.i64 mo 1 == 1) <;> simp
  unfold MadePost at HM2
  generalize putsZ R W' (List.replicate (R * W') 0) pr' pc' pu' (min n' 200) = hs at *
  rcases hcase with hcs | hcs
  · have hOc := HO.out
    rw [hcs] at hOc
    simp only [if_true] at hOc
    have hOs := hOc.symm
    clear hOc HO
    go_wp2_with fail
    refine (HM2.out w2 HK2.out).mono ?_; rintro e w3 ⟨G', C', N', H', v', B', K', rfl, hG', hC', hGN', hCN', hg', hr', hb⟩
    have hg0 := (G2.out.kept hb)
    have hr0 := (R2.out.kept hb)
    have HNE : Hid (G ≠ H ∧ C ≠ H ∧ G' ≠ H ∧ C' ≠ H ∧ H < N') := by
      obtain ⟨cap1, hfg, -⟩ := hg0.fields
      obtain ⟨cu1, hfc, -⟩ := hg0.cells
      obtain ⟨cap2, hfg', -⟩ := hg'.fields
      obtain ⟨cu2, hfc', -⟩ := hg'.cells
      have := R2.out.ltG
      exact ⟨hfg.ne_ hr0.box (by decide), hfc.ne_ hr0.box (by decide), hfg'.ne_ hr0.box (by decide), hfc'.ne_ hr0.box (by decide), by omega⟩
    have HCC : Hid (G' ≠ C ∧ C' ≠ C) := by have := G2.out.ltC; exact ⟨by omega, by omega⟩
    have HCN : Hid (C < N') := by have := G2.out.ltC; show C < N'; omega
    have G3 := Lib.hid hg0
    have R3 := Lib.hid hr0
    have G3' := Lib.hid hg'
    have R3' := Lib.hid hr'
    have HB3 := Lib.hid (btr HB2.out hb)
    have hbx := HX2.out.kept hb
    have q1 := hbx.cell 1
    simp at q1
    clear hg0 hr0 hg' hr' hb hbx hG' hC' hGN' hCN'
    by_cases hne : W = W'
    · subst hne
      have hnb : ((W : Int) == (W : Int)) = true := by simp
      cases mi
      · skip
        have PJ := rjoin_any 1 (fun a b => a + b) (.inl ⟨rfl, rfl⟩) w3 N H N' H' v v' B K B' K' R W zs hs R3.out R3'.out HZF2.out HHF2.out
        by_cases hfit : Fit (List.zipWith (fun a b => a + b) zs hs)
        · have HFIT := Lib.hid hfit
          clear hfit
          go_wp2_with fail
          refine PJ.mono ?_; clear PJ; rintro e w4 (⟨-, v4, B4, K4, rfl, hr4, hgr⟩ | ⟨hno, -, -⟩)
          · have G4 := Lib.hid (G3.out.grown hgr (by simpa using HNE.out.1) (by simpa using HNE.out.2.1))
            have G4' := Lib.hid (G3'.out.grown hgr (by simpa using HNE.out.2.2.1) (by simpa using HNE.out.2.2.2.1))
            have R4 := Lib.hid hr4
            have R4' := Lib.hid (R3'.out.grown hgr (fun q e => by have := Option.some.inj e; have := HNE.out.2.2.2.2; omega))
            have HB4 := Lib.hid (bgr HB3.out hgr (by have := R3.out.lo.1; have := HC0.out; omega))
            clear hr4 hgr
            have PG := gplus_yes w4 G C G' C' R W zs hs G4.out G4'.out HFIT.out
            go_wp2_with fail
            refine PG.mono ?_; clear PG; rintro e w5 ⟨rfl, hg5, hgr⟩
            have G5 := Lib.hid hg5
            have G5' := Lib.hid (G4'.out.grown hgr (by simpa using HCC.out.1) (by simpa using HCC.out.2))
            have R5 := Lib.hid (R4.out.grown hgr (fun q e => by have := Option.some.inj e; have := HC0.out; omega))
            have R5' := Lib.hid (R4'.out.grown hgr (fun q e => by have := Option.some.inj e; have := HCN.out; omega))
            have HB5 := Lib.hid (bgr HB4.out hgr HC0.out.1)
            clear hg5 hgr
            generalize List.zipWith (fun a b => a + b) zs hs = fs at *
            have HL1 := Lib.hid G5.out.len
            have HL2 := Lib.hid G5'.out.len
            have PC := cells_ints w5 G C R W _ G5.out
            go_wp2_with fail
            refine PC.mono ?_; clear PC; rintro e w6 ⟨g6, c6, rfl, hc6, -, hin, hb⟩
            have I6 := Lib.hid hin
            have G6' := Lib.hid (G5'.out.kept hb)
            have R6 := Lib.hid (R5.out.kept hb)
            have R6' := Lib.hid (R5'.out.kept hb)
            have HB6 := Lib.hid (btr HB5.out hb)
            clear hin hb
            have PC := rcells_any w6 N H _ _ _ R W _ R6.out
            go_wp2_with fail
            refine PC.mono ?_; clear PC; rintro e w7 ⟨g7, c7, rfl, hc7, -, hin, hb⟩
            have J7 := Lib.hid hin
            have I7 := Lib.hid (I6.out.kept hb)
            have G7' := Lib.hid (G6'.out.kept hb)
            have R7' := Lib.hid (R6'.out.kept hb)
            have HB7 := Lib.hid (btr HB6.out hb)
            clear hin hb
            have PC := same_yes I7.out J7.out (by have := HL1.out; omega)
            go_wp2_with fail
            refine PC.mono ?_; clear PC; rintro e w8 ⟨rfl, hb⟩
            have G8' := Lib.hid (G7'.out.kept hb)
            have R8' := Lib.hid (R7'.out.kept hb)
            have HB8 := Lib.hid (btr HB7.out hb)
            clear hb
            have PC := cells_ints w8 G' C' R W _ G8'.out
            go_wp2_with fail
            refine PC.mono ?_; clear PC; rintro e w9 ⟨g9, c9, rfl, hc9, -, hin, hb⟩
            have I9 := Lib.hid hin
            have R9' := Lib.hid (R8'.out.kept hb)
            have HB9 := Lib.hid (btr HB8.out hb)
            clear hin hb
            have PC := rcells_any w9 N' H' _ _ _ R W _ R9'.out
            go_wp2_with fail
            refine PC.mono ?_; clear PC; rintro e wa ⟨ga, ca, rfl, hca, -, hin, hb⟩
            have Ja := Lib.hid hin
            have Ia := Lib.hid (I9.out.kept hb)
            have HBa := Lib.hid (btr HB9.out hb)
            clear hin hb
            have PC := same_yes Ia.out Ja.out (by have := HL2.out; omega)
            go_wp2_with fail
            refine PC.mono ?_; clear PC; rintro e wb ⟨rfl, hb⟩
            have HBb := Lib.hid (btr HBa.out hb)
            clear hb
            go_wp2
            go_ret
            exact ⟨rfl, HBb.out⟩
          · exact absurd HFIT.out hno
        · have HFIT := Lib.hid hfit
          clear hfit
          go_wp2_with fail
          refine PJ.mono ?_; clear PJ; rintro e w4 (⟨hyes, -⟩ | ⟨-, rfl, hb⟩)
          · exact absurd hyes HFIT.out
          · have G4 := Lib.hid (G3.out.kept hb)
            have G4' := Lib.hid (G3'.out.kept hb)
            have R4 := Lib.hid (R3.out.kept hb)
            have R4' := Lib.hid (R3'.out.kept hb)
            have HB4 := Lib.hid (btr HB3.out hb)
            clear hb
            have PG := gplus_no w4 G C G' C' R W zs hs G4.out G4'.out HFIT.out
            go_wp2_with fail
            refine PG.mono ?_; clear PG; rintro e w5 ⟨rfl, hb⟩
            have G5 := Lib.hid (G4.out.kept hb)
            have G5' := Lib.hid (G4'.out.kept hb)
            have R5 := Lib.hid (R4.out.kept hb)
            have R5' := Lib.hid (R4'.out.kept hb)
            have HB5 := Lib.hid (btr HB4.out hb)
            clear hb
            have HL1 := Lib.hid G5.out.len
            have HL2 := Lib.hid G5'.out.len
            have PC := cells_ints w5 G C R W _ G5.out
            go_wp2_with fail
            refine PC.mono ?_; clear PC; rintro e w6 ⟨g6, c6, rfl, hc6, -, hin, hb⟩
            have I6 := Lib.hid hin
            have G6' := Lib.hid (G5'.out.kept hb)
            have R6 := Lib.hid (R5.out.kept hb)
            have R6' := Lib.hid (R5'.out.kept hb)
            have HB6 := Lib.hid (btr HB5.out hb)
            clear hin hb
            have PC := rcells_any w6 N H _ _ _ R W _ R6.out
            go_wp2_with fail
            refine PC.mono ?_; clear PC; rintro e w7 ⟨g7, c7, rfl, hc7, -, hin, hb⟩
            have J7 := Lib.hid hin
            have I7 := Lib.hid (I6.out.kept hb)
            have G7' := Lib.hid (G6'.out.kept hb)
            have R7' := Lib.hid (R6'.out.kept hb)
            have HB7 := Lib.hid (btr HB6.out hb)
            clear hin hb
            have PC := same_yes I7.out J7.out (by have := HL1.out; omega)
            go_wp2_with fail
            refine PC.mono ?_; clear PC; rintro e w8 ⟨rfl, hb⟩
            have G8' := Lib.hid (G7'.out.kept hb)
            have R8' := Lib.hid (R7'.out.kept hb)
            have HB8 := Lib.hid (btr HB7.out hb)
            clear hb
            have PC := cells_ints w8 G' C' R W _ G8'.out
            go_wp2_with fail
            refine PC.mono ?_; clear PC; rintro e w9 ⟨g9, c9, rfl, hc9, -, hin, hb⟩
            have I9 := Lib.hid hin
            have R9' := Lib.hid (R8'.out.kept hb)
            have HB9 := Lib.hid (btr HB8.out hb)
            clear hin hb
            have PC := rcells_any w9 N' H' _ _ _ R W _ R9'.out
            go_wp2_with fail
            refine PC.mono ?_; clear PC; rintro e wa ⟨ga, ca, rfl, hca, -, hin, hb⟩
            have Ja := Lib.hid hin
            have Ia := Lib.hid (I9.out.kept hb)
            have HBa := Lib.hid (btr HB9.out hb)
            clear hin hb
            have PC := same_yes Ia.out Ja.out (by have := HL2.out; omega)
            go_wp2_with fail
            refine PC.mono ?_; clear PC; rintro e wb ⟨rfl, hb⟩
            have HBb := Lib.hid (btr HBa.out hb)
            clear hb
            go_wp2
            go_ret
            exact ⟨rfl, HBb.out⟩
      · skip
        have PJ := rjoin_any (-1) (fun a b => a - b) (.inr ⟨rfl, rfl⟩) w3 N H N' H' v v' B K B' K' R W zs hs R3.out R3'.out HZF2.out HHF2.out
        by_cases hfit : Fit (List.zipWith (fun a b => a - b) zs hs)
        · have HFIT := Lib.hid hfit
          clear hfit
          go_wp2_with fail
          refine PJ.mono ?_; clear PJ; rintro e w4 (⟨-, v4, B4, K4, rfl, hr4, hgr⟩ | ⟨hno, -, -⟩)
          · have G4 := Lib.hid (G3.out.grown hgr (by simpa using HNE.out.1) (by simpa using HNE.out.2.1))
            have G4' := Lib.hid (G3'.out.grown hgr (by simpa using HNE.out.2.2.1) (by simpa using HNE.out.2.2.2.1))
            have R4 := Lib.hid hr4
            have R4' := Lib.hid (R3'.out.grown hgr (fun q e => by have := Option.some.inj e; have := HNE.out.2.2.2.2; omega))
            have HB4 := Lib.hid (bgr HB3.out hgr (by have := R3.out.lo.1; have := HC0.out; omega))
            clear hr4 hgr
            have PG := gminus_yes w4 G C G' C' R W zs hs G4.out G4'.out HFIT.out
            go_wp2_with fail
            refine PG.mono ?_; clear PG; rintro e w5 ⟨rfl, hg5, hgr⟩
            have G5 := Lib.hid hg5
            have G5' := Lib.hid (G4'.out.grown hgr (by simpa using HCC.out.1) (by simpa using HCC.out.2))
            have R5 := Lib.hid (R4.out.grown hgr (fun q e => by have := Option.some.inj e; have := HC0.out; omega))
            have R5' := Lib.hid (R4'.out.grown hgr (fun q e => by have := Option.some.inj e; have := HCN.out; omega))
            have HB5 := Lib.hid (bgr HB4.out hgr HC0.out.1)
            clear hg5 hgr
            generalize List.zipWith (fun a b => a - b) zs hs = fs at *
            have HL1 := Lib.hid G5.out.len
            have HL2 := Lib.hid G5'.out.len
            have PC := cells_ints w5 G C R W _ G5.out
            go_wp2_with fail
            refine PC.mono ?_; clear PC; rintro e w6 ⟨g6, c6, rfl, hc6, -, hin, hb⟩
            have I6 := Lib.hid hin
            have G6' := Lib.hid (G5'.out.kept hb)
            have R6 := Lib.hid (R5.out.kept hb)
            have R6' := Lib.hid (R5'.out.kept hb)
            have HB6 := Lib.hid (btr HB5.out hb)
            clear hin hb
            have PC := rcells_any w6 N H _ _ _ R W _ R6.out
            go_wp2_with fail
            refine PC.mono ?_; clear PC; rintro e w7 ⟨g7, c7, rfl, hc7, -, hin, hb⟩
            have J7 := Lib.hid hin
            have I7 := Lib.hid (I6.out.kept hb)
            have G7' := Lib.hid (G6'.out.kept hb)
            have R7' := Lib.hid (R6'.out.kept hb)
            have HB7 := Lib.hid (btr HB6.out hb)
            clear hin hb
            have PC := same_yes I7.out J7.out (by have := HL1.out; omega)
            go_wp2_with fail
            refine PC.mono ?_; clear PC; rintro e w8 ⟨rfl, hb⟩
            have G8' := Lib.hid (G7'.out.kept hb)
            have R8' := Lib.hid (R7'.out.kept hb)
            have HB8 := Lib.hid (btr HB7.out hb)
            clear hb
            have PC := cells_ints w8 G' C' R W _ G8'.out
            go_wp2_with fail
            refine PC.mono ?_; clear PC; rintro e w9 ⟨g9, c9, rfl, hc9, -, hin, hb⟩
            have I9 := Lib.hid hin
            have R9' := Lib.hid (R8'.out.kept hb)
            have HB9 := Lib.hid (btr HB8.out hb)
            clear hin hb
            have PC := rcells_any w9 N' H' _ _ _ R W _ R9'.out
            go_wp2_with fail
            refine PC.mono ?_; clear PC; rintro e wa ⟨ga, ca, rfl, hca, -, hin, hb⟩
            have Ja := Lib.hid hin
            have Ia := Lib.hid (I9.out.kept hb)
            have HBa := Lib.hid (btr HB9.out hb)
            clear hin hb
            have PC := same_yes Ia.out Ja.out (by have := HL2.out; omega)
            go_wp2_with fail
            refine PC.mono ?_; clear PC; rintro e wb ⟨rfl, hb⟩
            have HBb := Lib.hid (btr HBa.out hb)
            clear hb
            go_wp2
            go_ret
            exact ⟨rfl, HBb.out⟩
          · exact absurd HFIT.out hno
        · have HFIT := Lib.hid hfit
          clear hfit
          go_wp2_with fail
          refine PJ.mono ?_; clear PJ; rintro e w4 (⟨hyes, -⟩ | ⟨-, rfl, hb⟩)
          · exact absurd hyes HFIT.out
          · have G4 := Lib.hid (G3.out.kept hb)
            have G4' := Lib.hid (G3'.out.kept hb)
            have R4 := Lib.hid (R3.out.kept hb)
            have R4' := Lib.hid (R3'.out.kept hb)
            have HB4 := Lib.hid (btr HB3.out hb)
            clear hb
            have PG := gminus_no w4 G C G' C' R W zs hs G4.out G4'.out HFIT.out
            go_wp2_with fail
            refine PG.mono ?_; clear PG; rintro e w5 ⟨rfl, hb⟩
            have G5 := Lib.hid (G4.out.kept hb)
            have G5' := Lib.hid (G4'.out.kept hb)
            have R5 := Lib.hid (R4.out.kept hb)
            have R5' := Lib.hid (R4'.out.kept hb)
            have HB5 := Lib.hid (btr HB4.out hb)
            clear hb
            have HL1 := Lib.hid G5.out.len
            have HL2 := Lib.hid G5'.out.len
            have PC := cells_ints w5 G C R W _ G5.out
            go_wp2_with fail
            refine PC.mono ?_; clear PC; rintro e w6 ⟨g6, c6, rfl, hc6, -, hin, hb⟩
            have I6 := Lib.hid hin
            have G6' := Lib.hid (G5'.out.kept hb)
            have R6 := Lib.hid (R5.out.kept hb)
            have R6' := Lib.hid (R5'.out.kept hb)
            have HB6 := Lib.hid (btr HB5.out hb)
            clear hin hb
            have PC := rcells_any w6 N H _ _ _ R W _ R6.out
            go_wp2_with fail
            refine PC.mono ?_; clear PC; rintro e w7 ⟨g7, c7, rfl, hc7, -, hin, hb⟩
            have J7 := Lib.hid hin
            have I7 := Lib.hid (I6.out.kept hb)
            have G7' := Lib.hid (G6'.out.kept hb)
            have R7' := Lib.hid (R6'.out.kept hb)
            have HB7 := Lib.hid (btr HB6.out hb)
            clear hin hb
            have PC := same_yes I7.out J7.out (by have := HL1.out; omega)
            go_wp2_with fail
            refine PC.mono ?_; clear PC; rintro e w8 ⟨rfl, hb⟩
            have G8' := Lib.hid (G7'.out.kept hb)
            have R8' := Lib.hid (R7'.out.kept hb)
            have HB8 := Lib.hid (btr HB7.out hb)
            clear hb
            have PC := cells_ints w8 G' C' R W _ G8'.out
            go_wp2_with fail
            refine PC.mono ?_; clear PC; rintro e w9 ⟨g9, c9, rfl, hc9, -, hin, hb⟩
            have I9 := Lib.hid hin
            have R9' := Lib.hid (R8'.out.kept hb)
            have HB9 := Lib.hid (btr HB8.out hb)
            clear hin hb
            have PC := rcells_any w9 N' H' _ _ _ R W _ R9'.out
            go_wp2_with fail
            refine PC.mono ?_; clear PC; rintro e wa ⟨ga, ca, rfl, hca, -, hin, hb⟩
            have Ja := Lib.hid hin
            have Ia := Lib.hid (I9.out.kept hb)
            have HBa := Lib.hid (btr HB9.out hb)
            clear hin hb
            have PC := same_yes Ia.out Ja.out (by have := HL2.out; omega)
            go_wp2_with fail
            refine PC.mono ?_; clear PC; rintro e wb ⟨rfl, hb⟩
            have HBb := Lib.hid (btr HBa.out hb)
            clear hb
            go_wp2
            go_ret
            exact ⟨rfl, HBb.out⟩
    · cases mi
      · skip
        have PG := gplus_unlike w3 G C G' C' R W R W' zs hs G3.out G3'.out (fun h => hne h.2)
        have hnb : ((W : Int) == (W' : Int)) = false := by simp; omega
        have hnb2 : (W == W') = false := by simp; omega
        have hnb3 : decide (W = W') = false := decide_eq_false hne
        go_wp2_with fail
        refine PG.mono ?_; clear PG; rintro e w5 ⟨rfl, hb⟩
        have G5 := Lib.hid (G3.out.kept hb)
        have G5' := Lib.hid (G3'.out.kept hb)
        have R5 := Lib.hid (R3.out.kept hb)
        have R5' := Lib.hid (R3'.out.kept hb)
        have HB5 := Lib.hid (btr HB3.out hb)
        clear hb
        have HL1 := Lib.hid G5.out.len
        have HL2 := Lib.hid G5'.out.len
        have PC := cells_ints w5 G C R W _ G5.out
        go_wp2_with fail
        refine PC.mono ?_; clear PC; rintro e w6 ⟨g6, c6, rfl, hc6, -, hin, hb⟩
        have I6 := Lib.hid hin
        have G6' := Lib.hid (G5'.out.kept hb)
        have R6 := Lib.hid (R5.out.kept hb)
        have R6' := Lib.hid (R5'.out.kept hb)
        have HB6 := Lib.hid (btr HB5.out hb)
        clear hin hb
        have PC := rcells_any w6 N H _ _ _ R W _ R6.out
        go_wp2_with fail
        refine PC.mono ?_; clear PC; rintro e w7 ⟨g7, c7, rfl, hc7, -, hin, hb⟩
        have J7 := Lib.hid hin
        have I7 := Lib.hid (I6.out.kept hb)
        have G7' := Lib.hid (G6'.out.kept hb)
        have R7' := Lib.hid (R6'.out.kept hb)
        have HB7 := Lib.hid (btr HB6.out hb)
        clear hin hb
        have PC := same_yes I7.out J7.out (by have := HL1.out; omega)
        go_wp2_with fail
        refine PC.mono ?_; clear PC; rintro e w8 ⟨rfl, hb⟩
        have G8' := Lib.hid (G7'.out.kept hb)
        have R8' := Lib.hid (R7'.out.kept hb)
        have HB8 := Lib.hid (btr HB7.out hb)
        clear hb
        have PC := cells_ints w8 G' C' R W' _ G8'.out
        go_wp2_with fail
        refine PC.mono ?_; clear PC; rintro e w9 ⟨g9, c9, rfl, hc9, -, hin, hb⟩
        have I9 := Lib.hid hin
        have R9' := Lib.hid (R8'.out.kept hb)
        have HB9 := Lib.hid (btr HB8.out hb)
        clear hin hb
        have PC := rcells_any w9 N' H' _ _ _ R W' _ R9'.out
        go_wp2_with fail
        refine PC.mono ?_; clear PC; rintro e wa ⟨ga, ca, rfl, hca, -, hin, hb⟩
        have Ja := Lib.hid hin
        have Ia := Lib.hid (I9.out.kept hb)
        have HBa := Lib.hid (btr HB9.out hb)
        clear hin hb
        have PC := same_yes Ia.out Ja.out (by have := HL2.out; omega)
        go_wp2_with fail
        refine PC.mono ?_; clear PC; rintro e wb ⟨rfl, hb⟩
        have HBb := Lib.hid (btr HBa.out hb)
        clear hb
        go_wp2
        go_ret
        exact ⟨rfl, HBb.out⟩
      · skip
        have PG := gminus_unlike w3 G C G' C' R W R W' zs hs G3.out G3'.out (fun h => hne h.2)
        have hnb : ((W : Int) == (W' : Int)) = false := by simp; omega
        have hnb2 : (W == W') = false := by simp; omega
        have hnb3 : decide (W = W') = false := decide_eq_false hne
        go_wp2_with fail
        refine PG.mono ?_; clear PG; rintro e w5 ⟨rfl, hb⟩
        have G5 := Lib.hid (G3.out.kept hb)
        have G5' := Lib.hid (G3'.out.kept hb)
        have R5 := Lib.hid (R3.out.kept hb)
        have R5' := Lib.hid (R3'.out.kept hb)
        have HB5 := Lib.hid (btr HB3.out hb)
        clear hb
        have HL1 := Lib.hid G5.out.len
        have HL2 := Lib.hid G5'.out.len
        have PC := cells_ints w5 G C R W _ G5.out
        go_wp2_with fail
        refine PC.mono ?_; clear PC; rintro e w6 ⟨g6, c6, rfl, hc6, -, hin, hb⟩
        have I6 := Lib.hid hin
        have G6' := Lib.hid (G5'.out.kept hb)
        have R6 := Lib.hid (R5.out.kept hb)
        have R6' := Lib.hid (R5'.out.kept hb)
        have HB6 := Lib.hid (btr HB5.out hb)
        clear hin hb
        have PC := rcells_any w6 N H _ _ _ R W _ R6.out
        go_wp2_with fail
        refine PC.mono ?_; clear PC; rintro e w7 ⟨g7, c7, rfl, hc7, -, hin, hb⟩
        have J7 := Lib.hid hin
        have I7 := Lib.hid (I6.out.kept hb)
        have G7' := Lib.hid (G6'.out.kept hb)
        have R7' := Lib.hid (R6'.out.kept hb)
        have HB7 := Lib.hid (btr HB6.out hb)
        clear hin hb
        have PC := same_yes I7.out J7.out (by have := HL1.out; omega)
        go_wp2_with fail
        refine PC.mono ?_; clear PC; rintro e w8 ⟨rfl, hb⟩
        have G8' := Lib.hid (G7'.out.kept hb)
        have R8' := Lib.hid (R7'.out.kept hb)
        have HB8 := Lib.hid (btr HB7.out hb)
        clear hb
        have PC := cells_ints w8 G' C' R W' _ G8'.out
        go_wp2_with fail
        refine PC.mono ?_; clear PC; rintro e w9 ⟨g9, c9, rfl, hc9, -, hin, hb⟩
        have I9 := Lib.hid hin
        have R9' := Lib.hid (R8'.out.kept hb)
        have HB9 := Lib.hid (btr HB8.out hb)
        clear hin hb
        have PC := rcells_any w9 N' H' _ _ _ R W' _ R9'.out
        go_wp2_with fail
        refine PC.mono ?_; clear PC; rintro e wa ⟨ga, ca, rfl, hca, -, hin, hb⟩
        have Ja := Lib.hid hin
        have Ia := Lib.hid (I9.out.kept hb)
        have HBa := Lib.hid (btr HB9.out hb)
        clear hin hb
        have PC := same_yes Ia.out Ja.out (by have := HL2.out; omega)
        go_wp2_with fail
        refine PC.mono ?_; clear PC; rintro e wb ⟨rfl, hb⟩
        have HBb := Lib.hid (btr HBa.out hb)
        clear hb
        go_wp2
        go_ret
        exact ⟨rfl, HBb.out⟩
  · have hOc := HO.out
    rw [hcs] at hOc
    simp only [if_false, Bool.false_eq_true] at hOc
    subst hOc
    obtain rfl : W' = W := by split at fO <;> omega
    have fO2 : (if 128 < W' then (128 : Int) else (W' : Int)) = (W' : Int) := by split <;> omega
    clear HO
    go_wp2_with fail
    refine (HM2.out w2 HK2.out).mono ?_; rintro e w3 ⟨G', C', N', H', v', B', K', rfl, hG', hC', hGN', hCN', hg', hr', hb⟩
    have hg0 := (G2.out.kept hb)
    have hr0 := (R2.out.kept hb)
    have HNE : Hid (G ≠ H ∧ C ≠ H ∧ G' ≠ H ∧ C' ≠ H ∧ H < N') := by
      obtain ⟨cap1, hfg, -⟩ := hg0.fields
      obtain ⟨cu1, hfc, -⟩ := hg0.cells
      obtain ⟨cap2, hfg', -⟩ := hg'.fields
      obtain ⟨cu2, hfc', -⟩ := hg'.cells
      have := R2.out.ltG
      exact ⟨hfg.ne_ hr0.box (by decide), hfc.ne_ hr0.box (by decide), hfg'.ne_ hr0.box (by decide), hfc'.ne_ hr0.box (by decide), by omega⟩
    have HCC : Hid (G' ≠ C ∧ C' ≠ C) := by have := G2.out.ltC; exact ⟨by omega, by omega⟩
    have HCN : Hid (C < N') := by have := G2.out.ltC; show C < N'; omega
    have G3 := Lib.hid hg0
    have R3 := Lib.hid hr0
    have G3' := Lib.hid hg'
    have R3' := Lib.hid hr'
    have HB3 := Lib.hid (btr HB2.out hb)
    have hbx := HX2.out.kept hb
    have q1 := hbx.cell 1
    simp at q1
    clear hg0 hr0 hg' hr' hb hbx hG' hC' hGN' hCN'
    skip
    · have hnb : ((W' : Int) == (W' : Int)) = true := by simp
      cases mi
      · skip
        have PJ := rjoin_any 1 (fun a b => a + b) (.inl ⟨rfl, rfl⟩) w3 N H N' H' v v' B K B' K' R W' zs hs R3.out R3'.out HZF2.out HHF2.out
        by_cases hfit : Fit (List.zipWith (fun a b => a + b) zs hs)
        · have HFIT := Lib.hid hfit
          clear hfit
          go_wp2_with fail
          refine PJ.mono ?_; clear PJ; rintro e w4 (⟨-, v4, B4, K4, rfl, hr4, hgr⟩ | ⟨hno, -, -⟩)
          · have G4 := Lib.hid (G3.out.grown hgr (by simpa using HNE.out.1) (by simpa using HNE.out.2.1))
            have G4' := Lib.hid (G3'.out.grown hgr (by simpa using HNE.out.2.2.1) (by simpa using HNE.out.2.2.2.1))
            have R4 := Lib.hid hr4
            have R4' := Lib.hid (R3'.out.grown hgr (fun q e => by have := Option.some.inj e; have := HNE.out.2.2.2.2; omega))
            have HB4 := Lib.hid (bgr HB3.out hgr (by have := R3.out.lo.1; have := HC0.out; omega))
            clear hr4 hgr
            have PG := gplus_yes w4 G C G' C' R W' zs hs G4.out G4'.out HFIT.out
            go_wp2_with fail
            refine PG.mono ?_; clear PG; rintro e w5 ⟨rfl, hg5, hgr⟩
            have G5 := Lib.hid hg5
            have G5' := Lib.hid (G4'.out.grown hgr (by simpa using HCC.out.1) (by simpa using HCC.out.2))
            have R5 := Lib.hid (R4.out.grown hgr (fun q e => by have := Option.some.inj e; have := HC0.out; omega))
            have R5' := Lib.hid (R4'.out.grown hgr (fun q e => by have := Option.some.inj e; have := HCN.out; omega))
            have HB5 := Lib.hid (bgr HB4.out hgr HC0.out.1)
            clear hg5 hgr
            generalize List.zipWith (fun a b => a + b) zs hs = fs at *
            have HL1 := Lib.hid G5.out.len
            have HL2 := Lib.hid G5'.out.len
            have PC := cells_ints w5 G C R W' _ G5.out
            go_wp2_with fail
            refine PC.mono ?_; clear PC; rintro e w6 ⟨g6, c6, rfl, hc6, -, hin, hb⟩
            have I6 := Lib.hid hin
            have G6' := Lib.hid (G5'.out.kept hb)
            have R6 := Lib.hid (R5.out.kept hb)
            have R6' := Lib.hid (R5'.out.kept hb)
            have HB6 := Lib.hid (btr HB5.out hb)
            clear hin hb
            have PC := rcells_any w6 N H _ _ _ R W' _ R6.out
            go_wp2_with fail
            refine PC.mono ?_; clear PC; rintro e w7 ⟨g7, c7, rfl, hc7, -, hin, hb⟩
            have J7 := Lib.hid hin
            have I7 := Lib.hid (I6.out.kept hb)
            have G7' := Lib.hid (G6'.out.kept hb)
            have R7' := Lib.hid (R6'.out.kept hb)
            have HB7 := Lib.hid (btr HB6.out hb)
            clear hin hb
            have PC := same_yes I7.out J7.out (by have := HL1.out; omega)
            go_wp2_with fail
            refine PC.mono ?_; clear PC; rintro e w8 ⟨rfl, hb⟩
            have G8' := Lib.hid (G7'.out.kept hb)
            have R8' := Lib.hid (R7'.out.kept hb)
            have HB8 := Lib.hid (btr HB7.out hb)
            clear hb
            have PC := cells_ints w8 G' C' R W' _ G8'.out
            go_wp2_with fail
            refine PC.mono ?_; clear PC; rintro e w9 ⟨g9, c9, rfl, hc9, -, hin, hb⟩
            have I9 := Lib.hid hin
            have R9' := Lib.hid (R8'.out.kept hb)
            have HB9 := Lib.hid (btr HB8.out hb)
            clear hin hb
            have PC := rcells_any w9 N' H' _ _ _ R W' _ R9'.out
            go_wp2_with fail
            refine PC.mono ?_; clear PC; rintro e wa ⟨ga, ca, rfl, hca, -, hin, hb⟩
            have Ja := Lib.hid hin
            have Ia := Lib.hid (I9.out.kept hb)
            have HBa := Lib.hid (btr HB9.out hb)
            clear hin hb
            have PC := same_yes Ia.out Ja.out (by have := HL2.out; omega)
            go_wp2_with fail
            refine PC.mono ?_; clear PC; rintro e wb ⟨rfl, hb⟩
            have HBb := Lib.hid (btr HBa.out hb)
            clear hb
            go_wp2
            go_ret
            exact ⟨rfl, HBb.out⟩
          · exact absurd HFIT.out hno
        · have HFIT := Lib.hid hfit
          clear hfit
          go_wp2_with fail
          refine PJ.mono ?_; clear PJ; rintro e w4 (⟨hyes, -⟩ | ⟨-, rfl, hb⟩)
          · exact absurd hyes HFIT.out
          · have G4 := Lib.hid (G3.out.kept hb)
            have G4' := Lib.hid (G3'.out.kept hb)
            have R4 := Lib.hid (R3.out.kept hb)
            have R4' := Lib.hid (R3'.out.kept hb)
            have HB4 := Lib.hid (btr HB3.out hb)
            clear hb
            have PG := gplus_no w4 G C G' C' R W' zs hs G4.out G4'.out HFIT.out
            go_wp2_with fail
            refine PG.mono ?_; clear PG; rintro e w5 ⟨rfl, hb⟩
            have G5 := Lib.hid (G4.out.kept hb)
            have G5' := Lib.hid (G4'.out.kept hb)
            have R5 := Lib.hid (R4.out.kept hb)
            have R5' := Lib.hid (R4'.out.kept hb)
            have HB5 := Lib.hid (btr HB4.out hb)
            clear hb
            have HL1 := Lib.hid G5.out.len
            have HL2 := Lib.hid G5'.out.len
            have PC := cells_ints w5 G C R W' _ G5.out
            go_wp2_with fail
            refine PC.mono ?_; clear PC; rintro e w6 ⟨g6, c6, rfl, hc6, -, hin, hb⟩
            have I6 := Lib.hid hin
            have G6' := Lib.hid (G5'.out.kept hb)
            have R6 := Lib.hid (R5.out.kept hb)
            have R6' := Lib.hid (R5'.out.kept hb)
            have HB6 := Lib.hid (btr HB5.out hb)
            clear hin hb
            have PC := rcells_any w6 N H _ _ _ R W' _ R6.out
            go_wp2_with fail
            refine PC.mono ?_; clear PC; rintro e w7 ⟨g7, c7, rfl, hc7, -, hin, hb⟩
            have J7 := Lib.hid hin
            have I7 := Lib.hid (I6.out.kept hb)
            have G7' := Lib.hid (G6'.out.kept hb)
            have R7' := Lib.hid (R6'.out.kept hb)
            have HB7 := Lib.hid (btr HB6.out hb)
            clear hin hb
            have PC := same_yes I7.out J7.out (by have := HL1.out; omega)
            go_wp2_with fail
            refine PC.mono ?_; clear PC; rintro e w8 ⟨rfl, hb⟩
            have G8' := Lib.hid (G7'.out.kept hb)
            have R8' := Lib.hid (R7'.out.kept hb)
            have HB8 := Lib.hid (btr HB7.out hb)
            clear hb
            have PC := cells_ints w8 G' C' R W' _ G8'.out
            go_wp2_with fail
            refine PC.mono ?_; clear PC; rintro e w9 ⟨g9, c9, rfl, hc9, -, hin, hb⟩
            have I9 := Lib.hid hin
            have R9' := Lib.hid (R8'.out.kept hb)
            have HB9 := Lib.hid (btr HB8.out hb)
            clear hin hb
            have PC := rcells_any w9 N' H' _ _ _ R W' _ R9'.out
            go_wp2_with fail
            refine PC.mono ?_; clear PC; rintro e wa ⟨ga, ca, rfl, hca, -, hin, hb⟩
            have Ja := Lib.hid hin
            have Ia := Lib.hid (I9.out.kept hb)
            have HBa := Lib.hid (btr HB9.out hb)
            clear hin hb
            have PC := same_yes Ia.out Ja.out (by have := HL2.out; omega)
            go_wp2_with fail
            refine PC.mono ?_; clear PC; rintro e wb ⟨rfl, hb⟩
            have HBb := Lib.hid (btr HBa.out hb)
            clear hb
            go_wp2
            go_ret
            exact ⟨rfl, HBb.out⟩
      · skip
        have PJ := rjoin_any (-1) (fun a b => a - b) (.inr ⟨rfl, rfl⟩) w3 N H N' H' v v' B K B' K' R W' zs hs R3.out R3'.out HZF2.out HHF2.out
        by_cases hfit : Fit (List.zipWith (fun a b => a - b) zs hs)
        · have HFIT := Lib.hid hfit
          clear hfit
          go_wp2_with fail
          refine PJ.mono ?_; clear PJ; rintro e w4 (⟨-, v4, B4, K4, rfl, hr4, hgr⟩ | ⟨hno, -, -⟩)
          · have G4 := Lib.hid (G3.out.grown hgr (by simpa using HNE.out.1) (by simpa using HNE.out.2.1))
            have G4' := Lib.hid (G3'.out.grown hgr (by simpa using HNE.out.2.2.1) (by simpa using HNE.out.2.2.2.1))
            have R4 := Lib.hid hr4
            have R4' := Lib.hid (R3'.out.grown hgr (fun q e => by have := Option.some.inj e; have := HNE.out.2.2.2.2; omega))
            have HB4 := Lib.hid (bgr HB3.out hgr (by have := R3.out.lo.1; have := HC0.out; omega))
            clear hr4 hgr
            have PG := gminus_yes w4 G C G' C' R W' zs hs G4.out G4'.out HFIT.out
            go_wp2_with fail
            refine PG.mono ?_; clear PG; rintro e w5 ⟨rfl, hg5, hgr⟩
            have G5 := Lib.hid hg5
            have G5' := Lib.hid (G4'.out.grown hgr (by simpa using HCC.out.1) (by simpa using HCC.out.2))
            have R5 := Lib.hid (R4.out.grown hgr (fun q e => by have := Option.some.inj e; have := HC0.out; omega))
            have R5' := Lib.hid (R4'.out.grown hgr (fun q e => by have := Option.some.inj e; have := HCN.out; omega))
            have HB5 := Lib.hid (bgr HB4.out hgr HC0.out.1)
            clear hg5 hgr
            generalize List.zipWith (fun a b => a - b) zs hs = fs at *
            have HL1 := Lib.hid G5.out.len
            have HL2 := Lib.hid G5'.out.len
            have PC := cells_ints w5 G C R W' _ G5.out
            go_wp2_with fail
            refine PC.mono ?_; clear PC; rintro e w6 ⟨g6, c6, rfl, hc6, -, hin, hb⟩
            have I6 := Lib.hid hin
            have G6' := Lib.hid (G5'.out.kept hb)
            have R6 := Lib.hid (R5.out.kept hb)
            have R6' := Lib.hid (R5'.out.kept hb)
            have HB6 := Lib.hid (btr HB5.out hb)
            clear hin hb
            have PC := rcells_any w6 N H _ _ _ R W' _ R6.out
            go_wp2_with fail
            refine PC.mono ?_; clear PC; rintro e w7 ⟨g7, c7, rfl, hc7, -, hin, hb⟩
            have J7 := Lib.hid hin
            have I7 := Lib.hid (I6.out.kept hb)
            have G7' := Lib.hid (G6'.out.kept hb)
            have R7' := Lib.hid (R6'.out.kept hb)
            have HB7 := Lib.hid (btr HB6.out hb)
            clear hin hb
            have PC := same_yes I7.out J7.out (by have := HL1.out; omega)
            go_wp2_with fail
            refine PC.mono ?_; clear PC; rintro e w8 ⟨rfl, hb⟩
            have G8' := Lib.hid (G7'.out.kept hb)
            have R8' := Lib.hid (R7'.out.kept hb)
            have HB8 := Lib.hid (btr HB7.out hb)
            clear hb
            have PC := cells_ints w8 G' C' R W' _ G8'.out
            go_wp2_with fail
            refine PC.mono ?_; clear PC; rintro e w9 ⟨g9, c9, rfl, hc9, -, hin, hb⟩
            have I9 := Lib.hid hin
            have R9' := Lib.hid (R8'.out.kept hb)
            have HB9 := Lib.hid (btr HB8.out hb)
            clear hin hb
            have PC := rcells_any w9 N' H' _ _ _ R W' _ R9'.out
            go_wp2_with fail
            refine PC.mono ?_; clear PC; rintro e wa ⟨ga, ca, rfl, hca, -, hin, hb⟩
            have Ja := Lib.hid hin
            have Ia := Lib.hid (I9.out.kept hb)
            have HBa := Lib.hid (btr HB9.out hb)
            clear hin hb
            have PC := same_yes Ia.out Ja.out (by have := HL2.out; omega)
            go_wp2_with fail
            refine PC.mono ?_; clear PC; rintro e wb ⟨rfl, hb⟩
            have HBb := Lib.hid (btr HBa.out hb)
            clear hb
            go_wp2
            go_ret
            exact ⟨rfl, HBb.out⟩
          · exact absurd HFIT.out hno
        · have HFIT := Lib.hid hfit
          clear hfit
          go_wp2_with fail
          refine PJ.mono ?_; clear PJ; rintro e w4 (⟨hyes, -⟩ | ⟨-, rfl, hb⟩)
          · exact absurd hyes HFIT.out
          · have G4 := Lib.hid (G3.out.kept hb)
            have G4' := Lib.hid (G3'.out.kept hb)
            have R4 := Lib.hid (R3.out.kept hb)
            have R4' := Lib.hid (R3'.out.kept hb)
            have HB4 := Lib.hid (btr HB3.out hb)
            clear hb
            have PG := gminus_no w4 G C G' C' R W' zs hs G4.out G4'.out HFIT.out
            go_wp2_with fail
            refine PG.mono ?_; clear PG; rintro e w5 ⟨rfl, hb⟩
            have G5 := Lib.hid (G4.out.kept hb)
            have G5' := Lib.hid (G4'.out.kept hb)
            have R5 := Lib.hid (R4.out.kept hb)
            have R5' := Lib.hid (R4'.out.kept hb)
            have HB5 := Lib.hid (btr HB4.out hb)
            clear hb
            have HL1 := Lib.hid G5.out.len
            have HL2 := Lib.hid G5'.out.len
            have PC := cells_ints w5 G C R W' _ G5.out
            go_wp2_with fail
            refine PC.mono ?_; clear PC; rintro e w6 ⟨g6, c6, rfl, hc6, -, hin, hb⟩
            have I6 := Lib.hid hin
            have G6' := Lib.hid (G5'.out.kept hb)
            have R6 := Lib.hid (R5.out.kept hb)
            have R6' := Lib.hid (R5'.out.kept hb)
            have HB6 := Lib.hid (btr HB5.out hb)
            clear hin hb
            have PC := rcells_any w6 N H _ _ _ R W' _ R6.out
            go_wp2_with fail
            refine PC.mono ?_; clear PC; rintro e w7 ⟨g7, c7, rfl, hc7, -, hin, hb⟩
            have J7 := Lib.hid hin
            have I7 := Lib.hid (I6.out.kept hb)
            have G7' := Lib.hid (G6'.out.kept hb)
            have R7' := Lib.hid (R6'.out.kept hb)
            have HB7 := Lib.hid (btr HB6.out hb)
            clear hin hb
            have PC := same_yes I7.out J7.out (by have := HL1.out; omega)
            go_wp2_with fail
            refine PC.mono ?_; clear PC; rintro e w8 ⟨rfl, hb⟩
            have G8' := Lib.hid (G7'.out.kept hb)
            have R8' := Lib.hid (R7'.out.kept hb)
            have HB8 := Lib.hid (btr HB7.out hb)
            clear hb
            have PC := cells_ints w8 G' C' R W' _ G8'.out
            go_wp2_with fail
            refine PC.mono ?_; clear PC; rintro e w9 ⟨g9, c9, rfl, hc9, -, hin, hb⟩
            have I9 := Lib.hid hin
            have R9' := Lib.hid (R8'.out.kept hb)
            have HB9 := Lib.hid (btr HB8.out hb)
            clear hin hb
            have PC := rcells_any w9 N' H' _ _ _ R W' _ R9'.out
            go_wp2_with fail
            refine PC.mono ?_; clear PC; rintro e wa ⟨ga, ca, rfl, hca, -, hin, hb⟩
            have Ja := Lib.hid hin
            have Ia := Lib.hid (I9.out.kept hb)
            have HBa := Lib.hid (btr HB9.out hb)
            clear hin hb
            have PC := same_yes Ia.out Ja.out (by have := HL2.out; omega)
            go_wp2_with fail
            refine PC.mono ?_; clear PC; rintro e wb ⟨rfl, hb⟩
            have HBb := Lib.hid (btr HBa.out hb)
            clear hb
            go_wp2
            go_ret
            exact ⟨rfl, HBb.out⟩

theorem GridJoins_walk (v0 v1 : Value) (w : World) (h0 : shGrdTwo.Val w v0) (hb1 : Sh.bool.Val w v1) :
    Calls Try.prog 10 #[v0, v1] w fun e w' => e = .returned (.bool true) ∧ Below w.heap.size w w' := by
  obtain ⟨r, c, l, m, k, rfl, _, _, _, hl, hk⟩ := valGrdTwo h0
  obtain ⟨n, pr, pc, pu, h1⟩ := puts_of_val hl
  obtain ⟨n', pr', pc', pu', h2⟩ := puts_of_val hk
  obtain ⟨mi, rfl⟩ := Sh.val_bool hb1
  exact GridJoins_main r c m mi l k n n' pr pc pu pr' pc' pu' w h1 h2
end Go.Proofs.Ytfjhecgicemoeaa
