/-
  The walk of GridBack. Conditions: the arguments are of their types.
-/
import Derived.Test.YtfjhecgicemoeaaGrdB
namespace Go.Proofs.Ytfjhecgicemoeaa
open Go.RowKit
set_option linter.unusedVariables false
set_option linter.unusedSimpArgs false

theorem IntsAt.grown {w w' : World} {v : Value} {zs : List Int} {row : Option Nat} (h : IntsAt w v zs) (hb : w.grownBy w' row) (hne : v.ownBlock = none ∨ v.ownBlock ≠ row) : IntsAt w' v zs := by
  obtain ⟨ao, cap, rfl, hc, h⟩ := h
  refine ⟨ao, cap, rfl, hc, fun h0 => ?_⟩
  obtain ⟨g, rfl, hg, hc⟩ := h h0
  refine ⟨g, rfl, Nat.lt_of_lt_of_le hg hb.size, fun i u hu => hb.cell (hc i u hu) ?_⟩
  rcases hne with h | h
  · simp [Value.ownBlock] at h
  · simpa [Value.ownBlock] using h
/-- what Cells tells: a row of its own, new, that reads as zs -/
theorem cells_ints (w : World) (G C R W : Nat) (zs : List Int) (h : GridIs w G C R W zs) :
    Calls Try.prog 40 #[.pointer (some ⟨G, 0, none⟩)] w fun e w' => ∃ g cap, e = .returned (.slice (some ⟨g, 0, none⟩) zs.length cap) ∧ zs.length ≤ cap ∧ w.heap.size ≤ g ∧ IntsAt w' (.slice (some ⟨g, 0, none⟩) zs.length cap) zs ∧ Below w.heap.size w w' := by
  refine (cells_any w G C R W zs h).mono ?_
  rintro e w' ⟨v, rfl, hown, hne, hb⟩
  have hi := IntsAt.of_own hown rfl
  obtain ⟨g, cap, rfl, hg, hc, _⟩ := own_row hown hne
  exact ⟨g, cap, rfl, hc, hg, hi, hb⟩

def shGrdTwo : Sh := .agg (.cons (.int .i64) (.cons (.int .i64) (.cons (.slice shPut) (.cons (.int .i64) (.cons (.slice shPut) .unit)))))
theorem valGrdTwo {w : World} {v : Value} (h : shGrdTwo.Val w v) : ∃ r c l m k, v = .agg #[.int .i64 r, .int .i64 c, l, .int .i64 m, k] ∧ (Lit.int .i64 r).wf = true ∧ (Lit.int .i64 c).wf = true ∧ (Lit.int .i64 m).wf = true ∧ (Sh.slice shPut).Val w l ∧ (Sh.slice shPut).Val w k := by
  obtain ⟨cs, rfl, h⟩ := h
  obtain ⟨r, d1, e1, wr, h⟩ := Sh.reads_int h
  obtain ⟨c, d2, e2, wc, h⟩ := Sh.reads_int h
  obtain ⟨l, d3, e3, hl, h⟩ := Sh.reads_slice h
  obtain ⟨m, d4, e4, wm, h⟩ := Sh.reads_int h
  obtain ⟨k, d5, e5, hk, h⟩ := Sh.reads_slice h
  have h9 := Sh.reads_unit h
  subst h9
  subst e5
  subst e4
  subst e3
  subst e2
  exact ⟨r, c, l, m, k, by rw [agg_of_list e1], wr, wc, wm, hl, hk⟩

theorem back_zip (zs hs : List Int) (hl : zs.length = hs.length) : List.zipWith (fun a b => a - b) (List.zipWith (fun a b => a + b) zs hs) hs = zs := by
  induction zs generalizing hs with
  | nil => simp
  | cons z zs ih =>
    cases hs with
    | nil => simp at hl
    | cons h hs =>
      simp only [List.zipWith_cons_cons, List.cons.injEq]
      exact ⟨by omega, ih hs (by simpa using hl)⟩
theorem none_zip (zs : List Int) : List.zipWith (fun a b => a - b) zs zs = List.replicate zs.length 0 := by
  induction zs with
  | nil => rfl
  | cons z zs ih => simp only [List.zipWith_cons_cons, List.length_cons, List.replicate_succ, ih, List.cons.injEq, and_true]; omega
theorem fit_zeros (n : Nat) : Fit (List.replicate n 0) := fun u hu => by simp at hu; omega

set_option maxRecDepth 100000 in
set_option maxHeartbeats 8000000 in
theorem GridBack_main (r c mo : Int) (l k : Value) (n n' : Nat) (pr pc pu pr' pc' pu' : Nat → Int) (w : World) (hl : PutsAt w l n pr pc pu) (hk : PutsAt w k n' pr' pc' pu') :
    Calls Try.prog 11 #[.agg #[.int .i64 r, .int .i64 c, l, .int .i64 mo, k]] w fun e w' => e = .returned (.bool true) ∧ Below w.heap.size w w' := by
  have HL := Lib.hid hl
  have HK := Lib.hid hk
  have HMADE := Lib.hid (fun w hl => made_any r c l n pr pc pu w hl)
  have HMADE' := Lib.hid (fun w hl => made_any r c k n' pr' pc' pu' w hl)
  obtain ⟨ao, cap, rfl, hj⟩ := hl
  obtain ⟨ao', cap', rfl, hj'⟩ := hk
  clear hj hj'
  have b1 := clampN_le r 8
  have b2 := clampN_le c 128
  generalize clampN r 8 = R at *
  generalize clampN c 128 = W at *
  go_enter Try.func11, Try.ntmps11
  go_wp2_with fail
  refine (shown06 _).mono ?_; rintro e w1 ⟨rfl, hb'⟩
  obtain ⟨hbx, hb⟩ := box_kept hb'
  have HB1 := Lib.hid hb
  have HX1 := Lib.hid hbx
  have HL1 := Lib.hid (HL.out.kept hb)
  have HK1 := Lib.hid (HK.out.kept hb)
  have q0 := hbx.cell 0
  have q1 := hbx.cell 1
  have q2 := hbx.cell 2
  simp at q0 q1 q2
  clear hb hb' hbx HL HK
  go_wp2_with fail
  refine (HMADE.out w1 HL1.out).mono ?_; rintro e w2 ⟨G, C, N, H, v, B, K, rfl, hG, hC, hGN, hCN, hg, _, hb⟩
  have HB2 := Lib.hid (btr HB1.out hb)
  have G2 := Lib.hid hg
  have HC0 : Hid (w.heap.size ≤ C) := Lib.hid (Nat.le_trans HB1.out.size hC)
  have HK2 := Lib.hid (HK1.out.kept hb)
  have hbx := HX1.out.kept hb
  have q0 := hbx.cell 0
  have q1 := hbx.cell 1
  have q4 := hbx.cell 4
  simp at q0 q1 q4
  clear hG hC hg hb hGN hCN HMADE HL1 hbx HK1
  generalize putsZ R W (List.replicate (R * W) 0) pr pc pu (min n 200) = zs at *
  go_wp2_with fail
  refine (HMADE'.out w2 HK2.out).mono ?_; rintro e w3 ⟨G', C', N', H', v', B', K', rfl, hG, hC, hGN, hCN, hg, _, hb⟩
  have HB3 := Lib.hid (btr HB2.out hb)
  have G3 := Lib.hid (G2.out.kept hb)
  have G3' := Lib.hid hg
  have HNE : Hid (G' ≠ C ∧ C' ≠ C) := Lib.hid (by have := G2.out.ltC; omega)
  clear hG hC hg hb hGN hCN HMADE' HK2 q0 q1 q4
  generalize putsZ R W (List.replicate (R * W) 0) pr' pc' pu' (min n' 200) = hs at *
  have hzl : zs.length ≤ 1024 := by rw [G3.out.len]; exact Nat.mul_le_mul b1 b2
  have hll : Hid (zs.length = hs.length) := Lib.hid (by rw [G3.out.len, G3'.out.len])
  have P1 := cells_ints w3 G C R W _ G3.out
  go_wp2_with fail
  refine P1.mono ?_; clear P1; rintro e w4 ⟨g, cp, rfl, hgc, hg0, hin, hb⟩
  have HB4 := Lib.hid (btr HB3.out hb)
  have G4 := Lib.hid (G3.out.kept hb)
  have G4' := Lib.hid (G3'.out.kept hb)
  have HI4 := Lib.hid hin
  have hgC : g ≠ C := by have := G3.out.ltC; omega
  clear hg0 hin hb
  by_cases hfit : Fit (List.zipWith (fun a b => a + b) zs hs)
  · have P1 := gplus_yes w4 G C G' C' R W zs hs G4.out G4'.out hfit
    go_wp2_with fail
    refine P1.mono ?_; clear P1; rintro e w5 ⟨rfl, hg, hgr⟩
    have HB5 := Lib.hid (bgr HB4.out hgr HC0.out)
    have G5 := Lib.hid hg
    have G5' := Lib.hid (G4'.out.grown hgr (by simpa using HNE.out.1) (by simpa using HNE.out.2))
    have HI5 := Lib.hid (HI4.out.grown hgr (.inr (by simpa [Value.ownBlock] using hgC)))
    clear hg hgr
    have hbk := back_zip zs hs hll.out
    have P1 := gminus_yes w5 G C G' C' R W _ hs G5.out G5'.out (by rw [hbk]; exact G4.out.fit)
    rw [hbk] at P1
    clear hbk hfit
    go_wp2_with fail
    refine P1.mono ?_; clear P1; rintro e w6 ⟨rfl, hg, hgr⟩
    have HB6 := Lib.hid (bgr HB5.out hgr HC0.out)
    have G6 := Lib.hid hg
    have HI6 := Lib.hid (HI5.out.grown hgr (.inr (by simpa [Value.ownBlock] using hgC)))
    clear hg hgr
    have P1 := cells_ints w6 G C R W _ G6.out
    go_wp2_with fail
    refine P1.mono ?_; clear P1; rintro e w7 ⟨g7, cp7, rfl, hgc7, hg7, hin, hb⟩
    have HB7 := Lib.hid (btr HB6.out hb)
    have G7 := Lib.hid (G6.out.kept hb)
    have HI7 := Lib.hid (HI6.out.kept hb)
    have HJ7 := Lib.hid hin
    clear hg7 hin hb
    have P1 := same06_any _ _ _ _ w7 HJ7.out HI7.out (by omega) (by omega)
    rw [show SamePost w7 zs zs = fun e w' => e = .returned (.bool true) ∧ Below w7.heap.size w7 w' by unfold SamePost; simp] at P1
    go_wp2_with fail
    refine P1.mono ?_; clear P1; rintro e w8 ⟨rfl, hb⟩
    have HB8 := Lib.hid (btr HB7.out hb)
    have G8 := Lib.hid (G7.out.kept hb)
    clear hb
    have hnz := none_zip zs
    have P1 := gminus_yes w8 G C G C R W zs zs G8.out G8.out (by rw [hnz]; exact fit_zeros _)
    rw [hnz] at P1
    clear hnz
    go_wp2_with fail
    refine P1.mono ?_; clear P1; rintro e w9 ⟨rfl, hg, hgr⟩
    have HB9 := Lib.hid (bgr HB8.out hgr HC0.out)
    have G9 := Lib.hid hg
    clear hg hgr
    have P1 := cells_any w9 G C R W _ G9.out
    go_wp2_with fail
    refine P1.mono ?_; clear P1; rintro e wa ⟨x, rfl, hown, hne, hb⟩
    obtain ⟨ga, cpa, rfl, _, hgca, cur, hcur, hcc⟩ := own_row hown hne
    have HBa := Lib.hid (btr HB9.out hb)
    have HCUR := Lib.hid hcur
    have HCC := Lib.hid hcc
    simp only [List.length_replicate] at hgca ⊢
    clear hown hne hb hcur hcc
    generalize hm : zs.length = m at *
    clear hm
    go_wp2_with fail
    go_loop [13] (fun i => ∃ j : Nat, j ≤ m ∧ i = .int .i64 (j : Int)) (fun i => m - (intOf i).toNat)
    case atStart => exact ⟨0, by omega, rfl⟩
    case round =>
      obtain ⟨j, hj, rfl⟩ := hrel
      by_cases hlt : j < m
      · have cz := (HCUR.out.cell j).trans (HCC.out j 0 (by simp [hlt]))
        go_wp2
        go_round
        case rel => exact ⟨j + 1, by omega, by go_num⟩
        case measure => simp [intOf]; omega
      · obtain rfl : j = m := by omega
        go_wp2
        go_ret
        exact ⟨rfl, HBa.out⟩
  · have P1 := gplus_no w4 G C G' C' R W zs hs G4.out G4'.out hfit
    clear hfit
    go_wp2_with fail
    refine P1.mono ?_; clear P1; rintro e w5 ⟨rfl, hb⟩
    have HB5 := Lib.hid (btr HB4.out hb)
    have G5 := Lib.hid (G4.out.kept hb)
    have HI5 := Lib.hid (HI4.out.kept hb)
    clear hb
    have P1 := cells_ints w5 G C R W _ G5.out
    go_wp2_with fail
    refine P1.mono ?_; clear P1; rintro e w6 ⟨g6, cp6, rfl, hgc6, hg6, hin, hb⟩
    have HB6 := Lib.hid (btr HB5.out hb)
    have HI6 := Lib.hid (HI5.out.kept hb)
    have HJ6 := Lib.hid hin
    clear hg6 hin hb
    have P1 := same06_any _ _ _ _ w6 HJ6.out HI6.out (by omega) (by omega)
    rw [show SamePost w6 zs zs = fun e w' => e = .returned (.bool true) ∧ Below w6.heap.size w6 w' by unfold SamePost; simp] at P1
    go_wp2_with fail
    refine P1.mono ?_; clear P1; rintro e w7 ⟨rfl, hb⟩
    have HB7 := Lib.hid (btr HB6.out hb)
    clear hb
    go_wp2
    go_ret
    exact ⟨rfl, HB7.out⟩

theorem GridBack_walk (v0 : Value) (w : World) (h0 : shGrdTwo.Val w v0) :
    Calls Try.prog 11 #[v0] w fun e w' => e = .returned (.bool true) ∧ Below w.heap.size w w' := by
  obtain ⟨r, c, l, m, k, rfl, _, _, _, hl, hk⟩ := valGrdTwo h0
  obtain ⟨n, pr, pc, pu, h1⟩ := puts_of_val hl
  obtain ⟨n', pr', pc', pu', h2⟩ := puts_of_val hk
  exact GridBack_main r c m l k n n' pr pc pu pr' pc' pu' w h1 h2
end Go.Proofs.Ytfjhecgicemoeaa
