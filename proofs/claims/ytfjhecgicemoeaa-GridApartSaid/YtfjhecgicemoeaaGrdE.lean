/-
  The walk of GridApart. Conditions: the arguments are of their types.
-/
import Derived.Test.YtfjhecgicemoeaaGrdD
namespace Go.Proofs.Ytfjhecgicemoeaa
open Go.RowKit
set_option linter.unusedVariables false
set_option linter.unusedSimpArgs false

theorem rows_keep (w : World) (G C R W : Nat) (zs : List Int) (h : GridIs w G C R W zs) :
    Calls Try.prog 37 #[.pointer (some ⟨G, 0, none⟩)] w fun e w' => e = .returned (.int .i64 (R : Int)) ∧ w = w' := (rows_any w G C R W zs h).mono fun _ _ h => ⟨h.1, h.2.symm⟩
theorem width_keep (w : World) (G C R W : Nat) (zs : List Int) (h : GridIs w G C R W zs) :
    Calls Try.prog 38 #[.pointer (some ⟨G, 0, none⟩)] w fun e w' => e = .returned (.int .i64 (W : Int)) ∧ w = w' := (width_any w G C R W zs h).mono fun _ _ h => ⟨h.1, h.2.symm⟩
def shApart : Sh := .agg (.cons (.int .i64) (.cons (.int .i64) (.cons (.slice shPut) (.cons shPut .unit))))
theorem valApart {w : World} {v : Value} (h : shApart.Val w v) : ∃ r c l a b n, v = .agg #[.int .i64 r, .int .i64 c, l, .int .i64 a, .int .i64 b, .int .i64 n] ∧ (Sh.slice shPut).Val w l ∧ In64 n := by
  obtain ⟨cs, rfl, h⟩ := h
  obtain ⟨r, d1, e1, wr, h⟩ := Sh.reads_int h
  obtain ⟨c, d2, e2, wc, h⟩ := Sh.reads_int h
  obtain ⟨l, d3, e3, hl, h⟩ := Sh.reads_slice h
  obtain ⟨p, d4, e4, hp, h⟩ := Sh.reads_agg h
  have h9 := Sh.reads_unit h
  obtain ⟨a, f1, g1, wa, hp⟩ := Sh.reads_int hp
  obtain ⟨b, f2, g2, wb, hp⟩ := Sh.reads_int hp
  obtain ⟨n, f3, g3, wn, hp⟩ := Sh.reads_int hp
  have g9 := Sh.reads_unit hp
  subst h9 g9 g3 g2
  subst g1
  subst e4
  subst e3
  subst e2
  refine ⟨r, c, l, a, b, n, by rw [agg_of_list e1]; simp, hl, ?_⟩
  simp [Lit.wf, IntKind.min, IntKind.max, IntKind.signed, IntKind.bits] at wn
  exact ⟨by omega, by omega⟩
theorem samePost_true {w : World} {zs : List Int} {e : Ending} {w' : World} (h : SamePost w zs zs e w') : e = .returned (.bool true) ∧ Below w.heap.size w w' := by
  obtain ⟨rfl, h⟩ := h; exact ⟨by simp, h⟩
theorem atZ_put {R W : Nat} {zs : List Int} {r c u : Int} (h : ¬ (r = 0 ∧ c = 0)) : atZ R W (putZ R W zs r c u) 0 0 = atZ R W zs 0 0 := by
  unfold atZ
  split
  · rename_i h0
    unfold putZ
    split
    · rename_i h1
      obtain ⟨r', c', rfl, rfl, hr, hc⟩ := inB_yes h1
      obtain ⟨_, _, _, _, h2, h3⟩ := inB_yes h0
      have hne : ¬ (r' * W + c' = 0) := by
        intro e
        have e1 : c' = 0 := by omega
        have e2 : r' * W = 0 := by omega
        rcases Nat.mul_eq_zero.1 e2 with e3 | e3
        · exact h ⟨by omega, by omega⟩
        · omega
      have hne2 : ¬ (r' * W = 0 ∧ c' = 0) := fun h => hne (by omega)
      simp [cellD, List.getElem?_set, hne2]
    · rfl
  · rfl

set_option maxRecDepth 100000 in
set_option maxHeartbeats 8000000 in
theorem GridApart_main (r c a b u : Int) (hu : In64 u) (l : Value) (n : Nat) (pr pc pu : Nat → Int) (w : World) (hl : PutsAt w l n pr pc pu) :
    Calls Try.prog 13 #[.agg #[.int .i64 r, .int .i64 c, l, .int .i64 a, .int .i64 b, .int .i64 u]] w fun e w' => e = .returned (.bool true) ∧ Below w.heap.size w w' := by
  have HL := Lib.hid hl
  have HMADE := Lib.hid (fun w hl => made_any r c l n pr pc pu w hl)
  obtain ⟨ao, cap, rfl, hj⟩ := hl
  clear hj
  have b1 := clampN_le r 8
  have b2 := clampN_le c 128
  generalize clampN r 8 = R at *
  generalize clampN c 128 = W at *
  have HU := Lib.hid hu
  clear hu
  go_enter Try.func13, Try.ntmps13
  go_wp2_with fail
  refine (shown06 _).mono ?_; rintro e w1 ⟨rfl, hb'⟩
  obtain ⟨hbx, hb⟩ := box_kept hb'
  have HB1 := Lib.hid hb
  have HX1 := Lib.hid hbx
  have HL1 := Lib.hid (HL.out.kept hb)
  have q0 := hbx.cell 0
  have q1 := hbx.cell 1
  have q2 := hbx.cell 2
  have q3 := hbx.cell 3
  have q4 := hbx.cell 4
  have q5 := hbx.cell 5
  simp at q0 q1 q2 q3 q4 q5
  have hlt0 := hbx.lt
  clear hb hb' hbx HL
  go_wp2_with fail
  obtain ⟨gx, hb, _⟩ := news1 w1 (.cells #[.int .i64 a, .int .i64 b, .int .i64 u] 52)
  have hx : Blk _ w1.heap.size 52 #[.int .i64 a, .int .i64 b, .int .i64 u] := gx
  have HB1 := Lib.hid (btr HB1.out hb)
  have HX1 := Lib.hid (HX1.out.kept hb)
  have HL1 := Lib.hid (HL1.out.kept hb)
  have HP1 := Lib.hid hx
  clear gx hx hb q0 q1 q2 q3 q4 q5
  generalize (w1.alloc (.cells #[.int .i64 a, .int .i64 b, .int .i64 u] 52)) = w1' at *
  generalize w1.heap.size = X at *
  refine (HMADE.out w1' HL1.out).mono ?_; rintro e w2 ⟨G, C, N, H, v, B, K, rfl, hG, hC, hGN, hCN, hg, _, hb⟩
  have HB2 := Lib.hid (btr HB1.out hb)
  have G2 := Lib.hid hg
  have HC0 : Hid (w.heap.size ≤ C) := Lib.hid (Nat.le_trans HB1.out.size hC)
  have HCX : Hid (X ≠ C) := Lib.hid (by have := HP1.out.lt; omega)
  have HL2 := Lib.hid (HL1.out.kept hb)
  have HP2 := Lib.hid (HP1.out.kept hb)
  have hbx := HX1.out.kept hb
  have q0 := hbx.cell 0
  have q1 := hbx.cell 1
  have q2 := hbx.cell 2
  simp at q0 q1 q2
  clear hG hC hg hb hGN hCN HL1 hbx
  go_wp2_with fail
  refine (HMADE.out w2 HL2.out).mono ?_; rintro e w3 ⟨H, D, N', H', v', B', K', rfl, hG, hC, hGN, hCN, hg, _, hb⟩
  have HB3 := Lib.hid (btr HB2.out hb)
  have G3 := Lib.hid (G2.out.kept hb)
  have H3 := Lib.hid hg
  have HP3 := Lib.hid (HP2.out.kept hb)
  have HNE : Hid (H ≠ C ∧ D ≠ C) := Lib.hid (by have := G2.out.ltC; omega)
  clear hG hC hg hb hGN hCN HMADE HL2 q0 q1 q2
  generalize putsZ R W (List.replicate (R * W) 0) pr pc pu (min n 200) = zs at *
  have hzl : zs.length ≤ 1024 := by rw [G3.out.len]; exact Nat.mul_le_mul b1 b2
  have P1 := copy_any w3 G C R W zs G3.out
  go_wp2_with fail
  refine P1.mono ?_; clear P1; rintro e w4 ⟨K, L, rfl, hG, hC, hg, hb⟩
  have HB4 := Lib.hid (btr HB3.out hb)
  have G4 := Lib.hid (G3.out.kept hb)
  have H4 := Lib.hid (H3.out.kept hb)
  have K4 := Lib.hid hg
  have HP4 := Lib.hid (HP3.out.kept hb)
  have HNK : Hid (K ≠ C ∧ L ≠ C ∧ G ≠ L ∧ C ≠ L ∧ H ≠ L ∧ D ≠ L ∧ w.heap.size ≤ L ∧ X ≠ L) := Lib.hid (by have := G3.out.ltC; have := G3.out.ltG; have := H3.out.ltG; have := H3.out.ltC; have := HB3.out.size; have := HP3.out.lt; omega)
  clear hG hC hg hb
  have P1 := cells_ints w4 H D R W _ H4.out
  go_wp2_with fail
  refine P1.mono ?_; clear P1; rintro e w5 ⟨g, cp, rfl, hgc, hg0, hin, hb⟩
  have HB5 := Lib.hid (btr HB4.out hb)
  have G5 := Lib.hid (G4.out.kept hb)
  have H5 := Lib.hid (H4.out.kept hb)
  have K5 := Lib.hid (K4.out.kept hb)
  have HP5 := Lib.hid (HP4.out.kept hb)
  have HI5 := Lib.hid hin
  have HgC : Hid (g ≠ C ∧ g ≠ L) := Lib.hid (by have := G4.out.ltC; have := K4.out.ltC; omega)
  clear hg0 hin hb
  have P1 := cells_any w5 G C R W _ G5.out
  go_wp2_with fail
  refine P1.mono ?_; clear P1; rintro e w6 ⟨x, rfl, hown, hne, hb⟩
  obtain ⟨t, cpt, rfl, ht0, hct, cur, hcur, hcc⟩ := own_row hown hne
  have HB6 := Lib.hid (btr HB5.out hb)
  have G6 := Lib.hid (G5.out.kept hb)
  have H6 := Lib.hid (H5.out.kept hb)
  have K6 := Lib.hid (K5.out.kept hb)
  have HP6 := Lib.hid (HP5.out.kept hb)
  have HI6 := Lib.hid (HI5.out.kept hb)
  have HT : Hid (w5.heap.size ≤ t ∧ w.heap.size ≤ t ∧ t ≠ X) := Lib.hid (by have := HB5.out.size; have := HP5.out.lt; omega)
  have HCUR6 : Hid (∃ cur, zs.length ≤ cur.size ∧ Blk w6 t 2 cur) := Lib.hid ⟨cur, by
    by_cases h0 : zs.length = 0
    · omega
    · have e : zs[zs.length - 1]? = some (cellD zs (zs.length - 1)) := by
        have : zs.length - 1 < zs.length := by omega
        simp [cellD, this]
      have := (Array.getElem?_eq_some_iff.1 (hcc _ _ e)).1
      omega, hcur⟩
  clear hown hne hb hcur hcc ht0
  generalize hm : zs.length = m at *
  have HM := Lib.hid hm
  clear hm
  go_wp2_with fail
  have HS5 : Hid (G < w5.heap.size ∧ C < w5.heap.size ∧ H < w5.heap.size ∧ D < w5.heap.size ∧ K < w5.heap.size ∧ L < w5.heap.size ∧ g < w5.heap.size ∨ m = 0) := Lib.hid (by
    by_cases h0 : m = 0
    · exact .inr h0
    · left
      obtain ⟨_, _, e, _, h⟩ := HI5.out
      obtain ⟨g', e2, hg, _⟩ := h (by rw [HM.out]; omega)
      simp at e
      have e3 := Option.some.inj (e.1.trans e2)
      simp at e3
      exact ⟨G5.out.ltG, G5.out.ltC, H5.out.ltG, H5.out.ltC, K5.out.ltG, K5.out.ltC, by omega⟩)
  go_loopw [12] (fun i wr => ∃ j : Nat, j ≤ m ∧ i = .int .i64 (j : Int) ∧ (∃ cur, m ≤ cur.size ∧ Blk wr t 2 cur) ∧ w6.grownBy wr (some t)) (fun i _ => m - (intOf i).toNat)
  case atStart => exact ⟨0, by omega, rfl, HCUR6.out, ⟨rfl, rfl, rfl, Nat.le_refl _, fun _ _ _ => rfl⟩⟩
  case round =>
    obtain ⟨j, hj, rfl, hcur, hgr⟩ := hrel
    have HCUR := Lib.hid hcur
    have HGR := Lib.hid hgr
    clear hcur hgr HCUR6
    have hpx := HP6.out.grown HGR.out (by simpa using HT.out.2.2.symm)
    by_cases hlt : j < m
    · obtain ⟨cur, hcs, hcur⟩ := HCUR.out
      have hcc := hcur.cell j
      rw [Array.getElem?_eq_getElem (by omega)] at hcc
      have hff := hcur.frozen j
      have q2 := hpx.cell 2
      simp at q2
      have HCU := Lib.hid hcur
      have HCS : Hid (m ≤ cur.size) := hcs
      clear hcur hpx
      generalize cur[j] = old at *
      go_wp2
      go_roundw
      case rel => exact ⟨j + 1, by omega, by go_num, ⟨_, by have := HCS.out; simpa using this, HCU.out.set_ j (.int .i64 u)⟩, by
        have h1 := HGR.out
        have h2 := grown_set wr t j (.int .i64 u)
        exact ⟨h2.os.trans h1.os, h2.tape.trans h1.tape, h2.output.trans h1.output, Nat.le_trans h1.size h2.size, fun k hk hne => (h2.block k (Nat.lt_of_lt_of_le hk h1.size) hne).trans (h1.block k hk hne)⟩⟩
      case measure => simp [intOf]; omega
    · obtain rfl : j = m := by omega
      have hgr := HGR.out
      have HT1 := HT.out
      have G7 := Lib.hid (G6.out.grown hgr (by have := G5.out.ltG; simp; omega) (by have := G5.out.ltC; simp; omega))
      have H7 := Lib.hid (H6.out.grown hgr (by have := H5.out.ltG; simp; omega) (by have := H5.out.ltC; simp; omega))
      have K7 := Lib.hid (K6.out.grown hgr (by have := K5.out.ltG; simp; omega) (by have := K5.out.ltC; simp; omega))
      have HI7 : Hid (IntsAt wr (.slice (some ⟨g, 0, none⟩) j cp) zs) := Lib.hid (by
        rcases HS5.out with h | h
        · exact HI6.out.grown hgr (.inr (by simp [Value.ownBlock]; omega))
        · obtain ⟨ao, cap', e, h1, _⟩ := HI6.out
          have := HM.out
          exact ⟨ao, cap', e, h1, fun h0 => by omega⟩)
      have HB7 := Lib.hid (bgr HB6.out hgr HT1.2.1)
      have HP7 := Lib.hid hpx
      clear hgr HT1 hpx HS5 HGR HCUR HI6 HB6 G6 H6 K6 HP6
      have P1 := cells_ints wr G C R W _ G7.out
      simp only [HM.out] at P1
      go_wp2_with fail
      refine P1.mono ?_; clear P1; rintro e w8 ⟨g8, cp8, rfl, hgc8, _, hin, hb⟩
      have HB8 := Lib.hid (btr HB7.out hb)
      have G8 := Lib.hid (G7.out.kept hb)
      have H8 := Lib.hid (H7.out.kept hb)
      have K8 := Lib.hid (K7.out.kept hb)
      have HP8 := Lib.hid (HP7.out.kept hb)
      have HI8 := Lib.hid (HI7.out.kept hb)
      have HJ8 := Lib.hid hin
      clear hin hb
      have P1 := same06_any _ _ _ _ w8 HJ8.out HI8.out (by rw [HM.out]; omega) (by rw [HM.out]; omega)
      go_wp2_with fail
      refine P1.mono ?_; clear P1; intro e w9 hp; obtain ⟨rfl, hb⟩ := samePost_true hp
      have HB9 := Lib.hid (btr HB8.out hb)
      have G9 := Lib.hid (G8.out.kept hb)
      have H9 := Lib.hid (H8.out.kept hb)
      have K9 := Lib.hid (K8.out.kept hb)
      have HP9 := Lib.hid (HP8.out.kept hb)
      have HI9 := Lib.hid (HI8.out.kept hb)
      clear hp hb
      have P1 := cells_ints w9 K L R W _ K9.out
      simp only [HM.out] at P1
      go_wp2_with fail
      refine P1.mono ?_; clear P1; rintro e wa ⟨ga, cpa, rfl, hgca, _, hin, hb⟩
      have HBa := Lib.hid (btr HB9.out hb)
      have Ga := Lib.hid (G9.out.kept hb)
      have Ha := Lib.hid (H9.out.kept hb)
      have Ka := Lib.hid (K9.out.kept hb)
      have HPa := Lib.hid (HP9.out.kept hb)
      have HIa := Lib.hid (HI9.out.kept hb)
      have HJa := Lib.hid hin
      clear hin hb
      have P1 := same06_any _ _ _ _ wa HJa.out HIa.out (by rw [HM.out]; omega) (by rw [HM.out]; omega)
      go_wp2_with fail
      refine P1.mono ?_; clear P1; intro e wb hp; obtain ⟨rfl, hb⟩ := samePost_true hp
      have HBb := Lib.hid (btr HBa.out hb)
      have Gb := Lib.hid (Ga.out.kept hb)
      have Hb := Lib.hid (Ha.out.kept hb)
      have Kb := Lib.hid (Ka.out.kept hb)
      have hpb := HPa.out.kept hb
      have HIb := Lib.hid (HIa.out.kept hb)
      have HPb := Lib.hid hpb
      have q0 := hpb.cell 0
      have q1 := hpb.cell 1
      have q2 := hpb.cell 2
      simp at q0 q1 q2
      clear hp hb hpb
      have P1 := put_any wb G C R W zs a b u Gb.out HU.out.1 HU.out.2
      go_wp2_with fail
      refine P1.mono ?_; clear P1; rintro e wc ⟨rfl, hg, hgr⟩
      have HBc := Lib.hid (bgr HBb.out hgr HC0.out)
      have Gc := Lib.hid hg
      have Hc := Lib.hid (Hb.out.grown hgr (by simpa using HNE.out.1) (by simpa using HNE.out.2))
      have Kc := Lib.hid (Kb.out.grown hgr (by simpa using HNK.out.1) (by simpa using HNK.out.2.1))
      have HPc := Lib.hid (HPb.out.grown hgr (by simpa using HCX.out))
      have HIc := Lib.hid (HIb.out.grown hgr (.inr (by simpa [Value.ownBlock] using HgC.out.1)))
      clear hg hgr q0 q1 q2
      have P1 := cells_ints wc K L R W _ Kc.out
      simp only [HM.out] at P1
      go_wp2_with fail
      refine P1.mono ?_; clear P1; rintro e wd ⟨gd, cpd, rfl, hgcd, _, hin, hb⟩
      have HBd := Lib.hid (btr HBc.out hb)
      have Gd := Lib.hid (Gc.out.kept hb)
      have Hd := Lib.hid (Hc.out.kept hb)
      have Kd := Lib.hid (Kc.out.kept hb)
      have HPd := Lib.hid (HPc.out.kept hb)
      have HId := Lib.hid (HIc.out.kept hb)
      have HJd := Lib.hid hin
      clear hin hb
      have P1 := same06_any _ _ _ _ wd HJd.out HId.out (by rw [HM.out]; omega) (by rw [HM.out]; omega)
      go_wp2_with fail
      refine P1.mono ?_; clear P1; intro e we hp; obtain ⟨rfl, hb⟩ := samePost_true hp
      have HBe := Lib.hid (btr HBd.out hb)
      have Ge := Lib.hid (Gd.out.kept hb)
      have He := Lib.hid (Hd.out.kept hb)
      have Ke := Lib.hid (Kd.out.kept hb)
      have HPe := Lib.hid (HPd.out.kept hb)
      have HIe := Lib.hid (HId.out.kept hb)
      clear hp hb
      have P1 := cells_ints we H D R W _ He.out
      simp only [HM.out] at P1
      go_wp2_with fail
      refine P1.mono ?_; clear P1; rintro e wf ⟨gf, cpf, rfl, hgcf, _, hin, hb⟩
      have HBf := Lib.hid (btr HBe.out hb)
      have Gf := Lib.hid (Ge.out.kept hb)
      have Hf := Lib.hid (He.out.kept hb)
      have Kf := Lib.hid (Ke.out.kept hb)
      have HPf := Lib.hid (HPe.out.kept hb)
      have HIf := Lib.hid (HIe.out.kept hb)
      have HJf := Lib.hid hin
      clear hin hb
      have P1 := same06_any _ _ _ _ wf HJf.out HIf.out (by rw [HM.out]; omega) (by rw [HM.out]; omega)
      go_wp2_with fail
      refine P1.mono ?_; clear P1; intro e wg hp; obtain ⟨rfl, hb⟩ := samePost_true hp
      have HBg := Lib.hid (btr HBf.out hb)
      have Gg := Lib.hid (Gf.out.kept hb)
      have Hg := Lib.hid (Hf.out.kept hb)
      have Kg := Lib.hid (Kf.out.kept hb)
      have HPg := Lib.hid (HPf.out.kept hb)
      clear hp hb
      have R1 := rows_keep wg K L R W _ Kg.out
      have R2 := rows_keep wg H D R W _ Hg.out
      have R3 := width_keep wg K L R W _ Kg.out
      have R4 := width_keep wg H D R W _ Hg.out
      have hKH : Hid True := trivial
      go_wp2_with (first
        | (go_at_call 37; refine R1.mono ?_; clear R1; rintro e w' ⟨rfl, rfl⟩)
        | (go_at_call 37; refine R2.mono ?_; clear R2; rintro e w' ⟨rfl, rfl⟩)
        | (go_at_call 38; refine R3.mono ?_; clear R3; rintro e w' ⟨rfl, rfl⟩)
        | (go_at_call 38; refine R4.mono ?_; clear R4; rintro e w' ⟨rfl, rfl⟩))
      refine (put_any wg K L R W zs 0 0 5 Kg.out (by decide) (by decide)).mono ?_; rintro e wh ⟨rfl, _, hgr⟩
      have HBh := Lib.hid (bgr HBg.out hgr HNK.out.2.2.2.2.2.2.1)
      have Gh := Lib.hid (Gg.out.grown hgr (by simpa using HNK.out.2.2.1) (by simpa using HNK.out.2.2.2.1))
      have Hh := Lib.hid (Hg.out.grown hgr (by simpa using HNK.out.2.2.2.2.1) (by simpa using HNK.out.2.2.2.2.2.1))
      have hph := HPg.out.grown hgr (by simpa using HNK.out.2.2.2.2.2.2.2)
      have q0 := hph.cell 0
      have q1 := hph.cell 1
      simp at q0 q1
      clear hgr hph
      have R1 := rows_keep wh G C R W _ Gh.out
      have R3 := width_keep wh G C R W _ Gh.out
      have A1 := at_any wh G C R W _ 0 0 Gh.out
      have A2 := at_any wh H D R W _ 0 0 Hh.out
      by_cases hR : R = 0
      · have e1 : ((R : Int) == 0) = true := by simp [hR]
        clear hR
        go_wp2_with (first
          | (go_at_call 37; refine R1.mono ?_; clear R1; rintro e w' ⟨rfl, rfl⟩)
          | (go_at_call 38; refine R3.mono ?_; clear R3; rintro e w' ⟨rfl, rfl⟩))
        go_ret
        exact ⟨rfl, HBh.out⟩
      have e1 : ((R : Int) == 0) = false := by simp; omega
      clear hR
      by_cases hW : W = 0
      · have e2 : ((W : Int) == 0) = true := by simp [hW]
        clear hW
        go_wp2_with (first
          | (go_at_call 37; refine R1.mono ?_; clear R1; rintro e w' ⟨rfl, rfl⟩)
          | (go_at_call 38; refine R3.mono ?_; clear R3; rintro e w' ⟨rfl, rfl⟩))
        go_ret
        exact ⟨rfl, HBh.out⟩
      have e2 : ((W : Int) == 0) = false := by simp; omega
      clear hW
      by_cases ha : a = 0
      · by_cases hbb : b = 0
        · subst ha
          subst hbb
          clear A1 A2
          go_wp2_with (first
            | (go_at_call 37; refine R1.mono ?_; clear R1; rintro e w' ⟨rfl, rfl⟩)
            | (go_at_call 38; refine R3.mono ?_; clear R3; rintro e w' ⟨rfl, rfl⟩))
          go_ret
          exact ⟨rfl, HBh.out⟩
        · have hA := atZ_put (R := R) (W := W) (zs := zs) (r := a) (c := b) (u := u) (fun h => hbb h.2)
          rw [hA] at A1
          have e3 : (b == 0) = false := by simpa using hbb
          subst ha
          clear hA hbb
          generalize atZ R W zs 0 0 = z at *
          go_wp2_with (first
            | (go_at_call 37; refine R1.mono ?_; clear R1; rintro e w' ⟨rfl, rfl⟩)
            | (go_at_call 38; refine R3.mono ?_; clear R3; rintro e w' ⟨rfl, rfl⟩)
            | (go_at_call 33; refine A1.mono ?_; clear A1; rintro e w' ⟨rfl, rfl⟩)
            | (go_at_call 33; refine A2.mono ?_; clear A2; rintro e w' ⟨rfl, rfl⟩))
          go_ret
          exact ⟨rfl, HBh.out⟩
      · have hA := atZ_put (R := R) (W := W) (zs := zs) (r := a) (c := b) (u := u) (fun h => ha h.1)
        rw [hA] at A1
        have e3 : (a == 0) = false := by simpa using ha
        clear hA ha
        generalize atZ R W zs 0 0 = z at *
        go_wp2_with (first
          | (go_at_call 37; refine R1.mono ?_; clear R1; rintro e w' ⟨rfl, rfl⟩)
          | (go_at_call 38; refine R3.mono ?_; clear R3; rintro e w' ⟨rfl, rfl⟩)
          | (go_at_call 33; refine A1.mono ?_; clear A1; rintro e w' ⟨rfl, rfl⟩)
          | (go_at_call 33; refine A2.mono ?_; clear A2; rintro e w' ⟨rfl, rfl⟩))
        go_ret
        exact ⟨rfl, HBh.out⟩

theorem GridApart_walk (v0 : Value) (w : World) (h0 : shApart.Val w v0) :
    Calls Try.prog 13 #[v0] w fun e w' => e = .returned (.bool true) ∧ Below w.heap.size w w' := by
  obtain ⟨r, c, l, a, b, u, rfl, hl, hu⟩ := valApart h0
  obtain ⟨n, pr, pc, pu, h1⟩ := puts_of_val hl
  exact GridApart_main r c a b u hu l n pr pc pu w h1
end Go.Proofs.Ytfjhecgicemoeaa
