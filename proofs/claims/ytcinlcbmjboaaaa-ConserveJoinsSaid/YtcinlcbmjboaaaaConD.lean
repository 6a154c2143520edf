/-
  The walk of gaugerlaw09.both. Conditions: none beyond those stated at each theorem.
-/
import Derived.Test.YtcinlcbmjboaaaaConB
namespace Go.Proofs.Ytcinlcbmjboaaaa
open Go.RowKit
set_option linter.unusedVariables false
set_option linter.unusedSimpArgs false

def actB (f t : Int) (i : Nat) : Bool := decide (f ≤ (i : Int)) && decide ((i : Int) < t)
def BothPost (w : World) (R W : Nat) (cs : Nat → List Int) (ds : Nat → Int) (m : Nat) (f t : Int) (e : Ending) (w' : World) : Prop :=
  ∃ G C H D va vs zg zh, e = .returned (.tuple #[.pointer (some ⟨G, 0, none⟩), .pointer (some ⟨H, 0, none⟩), va]) ∧ (w.heap.size ≤ G ∧ w.heap.size ≤ C ∧ w.heap.size ≤ H ∧ w.heap.size ≤ D) ∧ (G ≠ H ∧ H ≠ C ∧ D ≠ C ∧ G ≠ D) ∧
    GridIs w' G C R W zg ∧ GridIs w' H D R W zh ∧ BothInv R W cs (fun i => plainZ true (ds i)) (actB f t) zg zh m ∧ AllAt w' w.heap.size va vs ((List.range m).map fun i => cutZ (cs i) R W) ∧ Below w.heap.size w w'

set_option maxRecDepth 100000 in
set_option maxHeartbeats 8000000 in
theorem both09 (r c : Int) (l : Value) (n : Nat) (cs : Nat → List Int) (ds : Nat → Int) (f t : Int) (w : World) (hl : StepsAt w l n cs ds) :
    Calls Try.prog 40 #[.agg #[.int .i64 r, .int .i64 c, l], .int .i64 f, .int .i64 t] w (BothPost w (sizeR r) (sizeW c) cs ds (min n 60) f t) := by
  have P0 := Lib.hid (fun w => sized09 r c l w)
  have P1 := Lib.hid (fun w => new_any (sizeR r : Int) (sizeW c : Int) w)
  obtain ⟨r1, r2, -⟩ := sizeR_bd r
  obtain ⟨c1, c2, -⟩ := sizeW_bd c
  generalize sizeR r = R at *
  generalize sizeW c = W at *
  have eR : clampN (R : Int) 8 = R := by unfold clampN; omega
  have eW : clampN (W : Int) 128 = W := by unfold clampN; omega
  rw [eR, eW] at P1
  clear eR eW
  have HL := Lib.hid hl
  obtain ⟨ao, cap, rfl, hmx, hd64, hcells⟩ := hl
  have HCL := Lib.hid hcells
  clear hcells hd64
  obtain ⟨m, hm⟩ : ∃ m, m = min n 60 := ⟨_, rfl⟩
  rw [← hm]
  have em : ∀ j : Nat, (decide ((j : Int) < (n : Int)) = true ∧ decide ((j : Int) < 60) = true) ↔ j < m := by intro j; rw [hm]; simp only [decide_eq_true_eq]; omega
  have EM := Lib.hid em
  have HM := Lib.hid hm
  clear hm em
  obtain ⟨i1', hj, hy0, hy1, hy2⟩ := info_parts Try.infoSlI
  have HDB : Hid (∀ i, 0 ≤ plainZ true (ds i) ∧ plainZ true (ds i) ≤ 1099511627775) := Lib.hid (fun i => ⟨plainZ_nn _, (plainZ_bd true _).2⟩)
  obtain ⟨dz, hdz⟩ : ∃ dz : Nat → Int, dz = fun i => plainZ true (ds i) := ⟨_, rfl⟩
  have HDZ := Lib.hid hdz
  have HDB : Hid (∀ i, 0 ≤ dz i ∧ dz i ≤ 1099511627775) := Lib.hid (fun i => by rw [hdz]; exact HDB.out i)
  unfold BothPost
  rw [← hdz]
  clear hdz
  go_enter Try.func40, Try.ntmps40
  go_wp2_with fail
  obtain ⟨g1, hb1, hsz1⟩ := news1 w (.cells #[.int .i64 r, .int .i64 c, .slice ao n cap] 63)
  have hx1 : Blk (w.alloc (.cells #[.int .i64 r, .int .i64 c, .slice ao n cap] 63)) w.heap.size 63 #[.int .i64 r, .int .i64 c, .slice ao n cap] := g1
  clear g1
  generalize (w.alloc (.cells #[.int .i64 r, .int .i64 c, .slice ao n cap] 63)) = wz at *
  generalize hA : w.heap.size = A at *
  have HA := Lib.hid hA
  clear hA
  have HB1 := Lib.hid hb1
  have HX1 := Lib.hid hx1
  go_wp2_with (first
    | refine wpList_load_row rfl 63 _ rfl A rfl 63 _ (0, 0) _ hx1 Try.underlying63 rfl (by kernel_rfl) ?_
    | (go_at_call 38; refine (P0.out _).mono ?_; rintro e w2 ⟨rfl, hb⟩; have HX2 := Lib.hid (HX1.out.kept hb); have HB2 := Lib.hid (HB1.out.trans (hb.mono (by omega))); have hs2 := hb.size; clear hb))
  refine (P1.out w2).mono ?_; rintro e w3 ⟨G, C, rfl, hG, hC, hg, hb⟩
  have HX3 := Lib.hid (HX2.out.kept hb)
  have HG3 := Lib.hid hg
  have HB3 := Lib.hid (HB2.out.trans (hb.mono (by omega)))
  have hs3 : A + 1 ≤ w3.heap.size := by have := hb.size; omega
  have hGC : A + 1 ≤ G ∧ A + 1 ≤ C := ⟨by omega, by omega⟩
  clear hG hC hg hb
  go_wp2_with fail
  refine (P1.out w3).mono ?_; rintro e w4 ⟨H, D, rfl, hH, hD, hh, hb⟩
  have hx4 := HX3.out.kept hb
  have HX4 := Lib.hid hx4
  have HG4 := Lib.hid (HG3.out.kept hb)
  have HH4 := Lib.hid hh
  have HB4 := Lib.hid (HB3.out.trans (hb.mono (by omega)))
  have hs4 : A + 1 ≤ w4.heap.size := by have := hb.size; omega
  have hHD : A + 1 ≤ H ∧ A + 1 ≤ D := ⟨by omega, by omega⟩
  have HNE : Hid (G ≠ H ∧ H ≠ C ∧ D ≠ C ∧ G ≠ D) := by have := HG3.out.ltG; have := HG3.out.ltC; exact ⟨by omega, by omega, by omega, by omega⟩
  have q2 := hx4.cell 2
  simp at q2
  clear hH hD hh hb hx4 hx1 hb1
  go_wp2_with fail
  go_loopw [14, 13] (fun i va wr => ∃ (j : Nat) (vs : List Value) (zg zh : List Int), j ≤ m ∧ i = .int .i64 (j : Int) ∧ GridIs wr G C R W zg ∧ GridIs wr H D R W zh ∧ BothInv R W cs dz (actB f t) zg zh j ∧ AllAt wr (A + 1) va vs ((List.range j).map fun i => cutZ (cs i) R W) ∧
    Blk wr A 63 #[.int .i64 r, .int .i64 c, .slice ao n cap] ∧ Below A w wr ∧ A + 1 ≤ wr.heap.size) (fun i _ _ => m - (intOf i).toNat)
  case atStart => exact ⟨0, [], _, _, by omega, rfl, HG4.out, HH4.out, BothInv.zero _ _ _ _ _, AllAt.nil _ _, HX4.out, HB4.out, hs4⟩
  case round =>
    obtain ⟨j, vs, zg, zh, hjm, rfl, hg, hh, hinv, hall, hx, hbel, hsz⟩ := hrel
    clear HG4 HH4 HX4 HB4 q2 HX1 HX2 HX3 HB1 HB2 HB3 HG3
    have HG := Lib.hid hg
    have HH := Lib.hid hh
    have HI := Lib.hid hinv
    have HAL := Lib.hid hall
    have HX := Lib.hid hx
    have HB := Lib.hid hbel
    have q2 := hx.cell 2
    simp at q2
    clear hg hh hinv hall hbel hx
    by_cases hlt : j < m
    · obtain ⟨d1, d2⟩ := (EM.out j).2 hlt
      have hjn : j < n := by have := HM.out; omega
      have hj60 : j < 60 := by have := HM.out; omega
      obtain ⟨b, off, rfl, hbl, hc⟩ := HCL.out (by omega)
      have hbl2 : b < A := hbl
      obtain ⟨⟨vk, ck1, ck2⟩, ck3⟩ := hc j hjn
      have ck1 := (HB.out.cell (p := ⟨b, off + j * 2, none⟩) hbl2).trans ck1
      have ck3 := (HB.out.cell (p := ⟨b, off + j * 2 + 1, none⟩) hbl2).trans ck3
      have CK2 := Lib.hid (ck2.kept (w' := wr) (HB.out.mono (by rw [HA.out]; exact Nat.le_refl _)))
      have PS := Lib.hid (fun w => plain09 (ds j) w)
      have hdj := HDB.out j
      have HDJ : Hid (plainZ true (ds j) = dz j) := Lib.hid (by rw [HDZ.out])
      rw [HDJ.out] at PS
      have PX1 := Lib.hid (cut_any vk (cs j) R W (by omega) (by omega) (by omega) wr CK2.out)
      have HN : Hid ((List.range (j + 1)).map (fun i => cutZ (cs i) R W) = (List.range j).map (fun i => cutZ (cs i) R W) ++ [cutZ (cs j) R W]) := Lib.hid (by rw [List.range_succ]; simp)
      have HMT := Lib.hid (cut_meet (cs := cs j) (R := R) (W := W) (by omega) (by omega))
      have HJL : Hid (((List.range j).map fun i => cutZ (cs i) R W).length = j) := Lib.hid (by simp)
      have hjm1 : j + 1 ≤ maxLen := by unfold maxLen; omega
      have i0 : (0 : Int) ≤ (j : Int) := by omega
      have i1 : (j : Int) < (n : Int) := by omega
      clear hc ck2 hbl HDJ
      generalize hms : (List.range j).map (fun i => cutZ (cs i) R W) = ms at *
      have HMS := Lib.hid hms
      clear hms
      generalize ds j = dj at *
      generalize hdd : dz j = dd at *
      have HDD := Lib.hid hdd
      clear hdd
      go_wp2_with fail
      with_reducible refine PX1.out.mono ?_
      rintro e wa ⟨v1, rfl, hr1, -, hb⟩
      obtain ⟨g2, cp2, rfl⟩ : ∃ g2 cp2, v1 = .slice (some ⟨g2, 0, none⟩) R cp2 := by obtain ⟨g, cp, cur, e, _⟩ := hr1; exact ⟨g, cp, by rw [e, cutZ_len]⟩
      have R1 := Lib.hid hr1
      have HXa := Lib.hid (HX.out.kept hb)
      have ck3 := (hb.cell (p := ⟨b, off + j * 2 + 1, none⟩) (by show b < _; omega)).trans ck3
      have HBa := Lib.hid (HB.out.trans (hb.mono (by omega)))
      have haba : A + 1 ≤ wa.heap.size := by have := hb.size; omega
      have HGa := Lib.hid (HG.out.kept hb)
      have HHa := Lib.hid (HH.out.kept hb)
      have HALa := Lib.hid (HAL.out.kept hb)
      have hb2 : Below wa.heap.size wa (wa.alloc (.cells #[.slice (some ⟨g2, 0, none⟩) R cp2] 32)) := (Below.refl _ _).alloc (Nat.le_refl _) _
      have HALc := Lib.hid (HALa.out.kept hb2)
      have hown := HALc.out.1
      rw [HJL.out] at hown
      have HOWN := Lib.hid hown
      clear hr1 hb hown
      go_wp2_with (at_builtin; refine wpList_append_own_at _ rfl _ _ 29 rfl (A + 1) 32 i1' (.slice none 0 0) 1 24 Try.underlying29 hj hy0 hy1 hy2 rfl (by decide) _ j _ rfl HOWN.out ⟨wa.heap.size, 0, none⟩ 1 1 [.slice (some ⟨g2, 0, none⟩) R cp2] rfl rfl (cell_one_new _ _ _) ?c2 hjm1 ?c4 ?c5 ?_)
      case c2 => simp [Value.oneCell']
      case c4 => omega
      case c5 => simp; omega
      intro v' w5 hown' hgrow hnil' hq9
      have R1c := Lib.hid (R1.out.kept hb2)
      have HAL5 : Hid (AllAt w5 (A + 1) v' _ _) := Lib.hid (HALc.out.push hgrow (by rw [HJL.out]; exact hown') R1c.out)
      have hvo := fun k hk => (HOWN.out.lt k hk).1
      obtain ⟨cG, hGb, -⟩ := (HGa.out.kept hb2).fields
      obtain ⟨curC, hCb, -⟩ := (HGa.out.kept hb2).cells
      obtain ⟨cH, hHb, -⟩ := (HHa.out.kept hb2).fields
      obtain ⟨curD, hDb, -⟩ := (HHa.out.kept hb2).cells
      have HG5 := Lib.hid ((HGa.out.kept hb2).grown hgrow (fun e => own_ne HOWN.out hGb (by decide) e.symm) (fun e => own_ne HOWN.out hCb (by decide) e.symm))
      have HH5 := Lib.hid ((HHa.out.kept hb2).grown hgrow (fun e => own_ne HOWN.out hHb (by decide) e.symm) (fun e => own_ne HOWN.out hDb (by decide) e.symm))
      have hx5 := (HXa.out.kept hb2).grown hgrow (fun e => by have := hvo A e.symm; omega)
      have HX5 := Lib.hid hx5
      have q2 := hx5.cell 2
      simp at q2
      have R5 := Lib.hid (R1c.out.grown hgrow (by
        obtain ⟨g, cp, cur, e, -, hb, -⟩ := R1c.out
        rw [e]
        exact fun e => own_ne HOWN.out hb (by decide) e.symm))
      have ck3 : w5.cell? ⟨b, off + j * 2 + 1, none⟩ = some (.int .i64 dj) := by
        refine hgrow.cell ((hb2.cell (p := ⟨b, off + j * 2 + 1, none⟩) (by show b < _; omega)).trans ck3) ?_
        intro e
        have := hvo b e.symm
        omega
      have HB5 : Hid (Below A w w5) := Lib.hid ((HBa.out.alloc (by omega) _).grown hgrow (by simp; omega) (fun k e => by have := hvo k e; omega))
      have hs5 : A + 1 ≤ w5.heap.size := by have := hgrow.size; simp at this; omega
      clear hGb hCb hHb hDb hown' hgrow hnil' hq9 hvo hx5
      by_cases ha : actB f t j = true
      · have hft : decide ((j : Int) < f) = false ∧ decide (t ≤ (j : Int)) = false := by
          simp only [actB, Bool.and_eq_true, decide_eq_true_eq] at ha
          exact ⟨decide_eq_false (by omega), decide_eq_false (by omega)⟩
        obtain ⟨hf1, hf2⟩ := hft
        have HACT := Lib.hid ha
        clear ha
        obtain ⟨cur5, hC5, -⟩ := HG5.out.cells
        obtain ⟨cur5d, hD5, -⟩ := HH5.out.cells
        have PR := Lib.hid (raise_yes w5 G C R W zg (cutZ (cs j) R W) dd _ HG5.out R5.out.ints HMT.out ⟨by omega, by omega⟩ (R5.out.neC hC5 (by decide)))
        have HC5 := Lib.hid hC5
        clear hC5 hD5
        go_wp2_with (go_at_call 55; refine (PS.out _).mono ?_; rintro e w' ⟨rfl, hw'⟩; subst hw')
        with_reducible refine PR.out.mono ?_
        rintro e w6 ⟨u, hu, ⟨hn, -⟩ | ⟨-, hno, -⟩ | ⟨-, -, rfl, hg6, hgr⟩⟩
        · omega
        · exact absurd (by have := (HI.out.fits (by omega) (by omega) (by omega) HDB.out hu).1; rw [HDD.out] at this; exact this) hno
        · have hfits := (HI.out.fits (by omega) (by omega) (by omega) HDB.out hu).2
          have hnext := HI.out.step HACT.out (by omega) (by omega) HDB.out hu
          rw [HDD.out] at hfits hnext
          have HFT := Lib.hid hfits
          have HNX := Lib.hid hnext
          have HG6 := Lib.hid hg6
          have HH6 := Lib.hid (HH5.out.grown hgr (by simpa using HNE.out.2.1) (by simpa using HNE.out.2.2.1))
          have HAL6 := Lib.hid (HAL5.out.grownC hgr HC5.out)
          have HX6 := Lib.hid (HX5.out.grown hgr (fun e => by have := Option.some.inj e; omega))
          have R6 := Lib.hid (R5.out.far hgr HC5.out (by decide))
          have HB6 := Lib.hid (HB5.out.grown hgr (by omega) (fun k e => by have := Option.some.inj e; omega))
          have hs6 : A + 1 ≤ w6.heap.size := by have := hgr.size; omega
          clear hfits hnext hg6 hgr hu
          obtain ⟨cur6, hD6, -⟩ := HH6.out.cells
          have PC := Lib.hid (change_yes w6 H D R W zh (cutZ (cs j) R W) dd _ HH6.out R6.out.ints HMT.out ⟨by omega, by omega⟩ (R6.out.neC hD6 (by decide)))
          have HD6 := Lib.hid hD6
          clear hD6
          go_wp2_with fail
          with_reducible refine PC.out.mono ?_
          rintro e w7 (⟨-, rfl, hh7, hgr⟩ | ⟨hno, -, -⟩)
          · have HH7 := Lib.hid hh7
            have HG7 := Lib.hid (HG6.out.grown hgr (by simpa using HNE.out.2.2.2) (by simpa using HNE.out.2.2.1.symm))
            have HAL7 := Lib.hid (HAL6.out.grownC hgr HD6.out)
            have HX7 := Lib.hid (HX6.out.grown hgr (fun e => by have := Option.some.inj e; omega))
            have HB7 := Lib.hid (HB6.out.grown hgr (by omega) (fun k e => by have := Option.some.inj e; omega))
            have hs7 : A + 1 ≤ w7.heap.size := by have := hgr.size; omega
            clear hh7 hgr
            go_wp2
            go_roundw
            case rel => exact ⟨j + 1, _, _, _, by omega, by go_num, HG7.out, HH7.out, HNX.out, by rw [HN.out]; exact HAL7.out, HX7.out, HB7.out, hs7⟩
            case measure => simp [intOf]; omega
          · exact absurd HFT.out hno
      · have hft : decide ((j : Int) < f) = true ∨ (decide ((j : Int) < f) = false ∧ decide (t ≤ (j : Int)) = true) := by
          have ha2 : ¬ (f ≤ (j : Int) ∧ (j : Int) < t) := fun h => ha (by simp [actB, h])
          by_cases h : (j : Int) < f
          · exact .inl (decide_eq_true h)
          · exact .inr ⟨decide_eq_false h, decide_eq_true (by omega)⟩
        have HSK := Lib.hid (HI.out.skip (by simpa using ha))
        clear ha
        rcases hft with hf1 | ⟨hf1, hf2⟩
        all_goals
          go_wp2
          go_roundw
          case rel => exact ⟨j + 1, _, _, _, by omega, by go_num, HG5.out, HH5.out, HSK.out, by rw [HN.out]; exact HAL5.out, HX5.out, HB5.out, hs5⟩
          case measure => simp [intOf]; omega
    · obtain rfl : j = m := by omega
      have hd' : (decide (j < n) = false ∧ decide ((j : Int) < (n : Int)) = false) ∨ ((decide (j < n) = true ∧ decide ((j : Int) < (n : Int)) = true) ∧ decide ((j : Int) < 60) = false ∧ decide (j < 60) = false) := by
        have := HM.out
        by_cases h1 : j < n
        · exact .inr ⟨⟨decide_eq_true h1, decide_eq_true (by omega)⟩, decide_eq_false (by omega), decide_eq_false (by omega)⟩
        · exact .inl ⟨decide_eq_false h1, decide_eq_false (by omega)⟩
      have HAL0 : Hid (AllAt wr A u13 vs ((List.range j).map fun i => cutZ (cs i) R W)) := by
        obtain ⟨h1, h2, h3⟩ := HAL.out
        refine ⟨⟨h1.1, ?_⟩, h2, h3⟩
        rcases h1.2 with h | ⟨g, cap', cur, e1, e2, e3⟩
        · exact .inl h
        · exact .inr ⟨g, cap', cur, e1, by omega, e3⟩
      rcases hd' with ⟨d3, d5⟩ | ⟨⟨d3, d5⟩, d4, d6⟩
      all_goals
        go_wp2
        go_ret3
        exact ⟨G, C, H, D, u13, vs, zg, zh, rfl, by rw [HA.out]; exact ⟨by omega, by omega, by omega, by omega⟩, HNE.out, HG.out, HH.out, HI.out, by rw [HA.out]; exact HAL0.out, by rw [HA.out]; exact HB.out⟩
end Go.Proofs.Ytcinlcbmjboaaaa
