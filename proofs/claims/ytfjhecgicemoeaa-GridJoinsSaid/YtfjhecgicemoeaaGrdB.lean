/-
  The walk of GridTwice. Conditions: the arguments are of their types.
-/
import Derived.Test.YtfjhecgicemoeaaGrdM
import Derived.Test.YtfjhecgicemoeaaGrdS
import Derived.Test.YtfjhecgicemoeaaLngW
import Derived.Test.YtfjhecgicemoeaaSh
namespace Go.Proofs.Ytfjhecgicemoeaa
open Go.RowKit
set_option linter.unusedVariables false
set_option linter.unusedSimpArgs false

def shPut : Sh := .agg (.cons (.int .i64) (.cons (.int .i64) (.cons (.int .i64) .unit)))
def shPuts : Sh := .slice shPut
theorem puts_of_val {w : World} {v : Value} (h : (Sh.slice shPut).Val w v) : ∃ n pr pc pu, PutsAt w v n pr pc pu := by
  obtain ⟨ao, len, cap, h1, hl, hm, hx⟩ := h
  have h1 : v = .slice ao len cap := by simpa using h1
  subst h1
  by_cases h0 : 0 < len
  · obtain ⟨b, off, rfl, hb, hc⟩ := hx h0
    have key : ∀ i, i < len → ∃ x y z : Int, In64 z ∧ w.cell? ⟨b, off + i * 3, none⟩ = some (.int .i64 x) ∧ w.cell? ⟨b, off + i * 3 + 1, none⟩ = some (.int .i64 y) ∧ w.cell? ⟨b, off + i * 3 + 2, none⟩ = some (.int .i64 z) := by
      intro i hi
      obtain ⟨cs, hcl, hcell, hr⟩ := hc i hi
      obtain ⟨x, d1, rfl, _, hr⟩ := Sh.reads_int hr
      obtain ⟨y, d2, rfl, _, hr⟩ := Sh.reads_int hr
      obtain ⟨z, d3, rfl, hz, hr⟩ := Sh.reads_int hr
      have e : shPut.size = 3 := rfl
      have a0 := hcell 0 (by decide)
      have a1 := hcell 1 (by decide)
      have a2 := hcell 2 (by decide)
      rw [e] at a0 a1 a2
      refine ⟨x, y, z, ?_, by simpa using a0, by simpa [Nat.add_assoc] using a1, by simpa [Nat.add_assoc] using a2⟩
      simp [Lit.wf, IntKind.min, IntKind.max, IntKind.signed, IntKind.bits] at hz
      exact ⟨by omega, by omega⟩
    refine ⟨len, fun i => if h : i < len then (key i h).choose else 0, fun i => if h : i < len then (key i h).choose_spec.choose else 0, fun i => if h : i < len then (key i h).choose_spec.choose_spec.choose else 0, some ⟨b, off, none⟩, cap, rfl, by omega, fun i hi => ?_, fun _ => ⟨b, off, rfl, hb, fun i hi => ?_⟩⟩
    · simp only [dif_pos hi]; exact (key i hi).choose_spec.choose_spec.choose_spec.1
    · simp only [dif_pos hi]; exact (key i hi).choose_spec.choose_spec.choose_spec.2
  · obtain rfl : len = 0 := by omega
    exact ⟨0, fun _ => 0, fun _ => 0, fun _ => 0, ao, cap, rfl, by omega, fun i hi => by omega, fun h => by omega⟩

def okB (zs : List Int) (j : Nat) : Bool := decide (∀ k, k < j → -4611686018427387904 ≤ cellD zs k ∧ cellD zs k < 4611686018427387904)
theorem okB_zero (zs : List Int) : okB zs 0 = true := decide_eq_true (fun k hk => by omega)
theorem okB_succ (zs : List Int) (j : Nat) : okB zs (j + 1) = (okB zs j && (decide (-4611686018427387904 ≤ cellD zs j) && decide (cellD zs j < 4611686018427387904))) := by
  rw [Bool.eq_iff_iff]
  simp only [okB, Bool.and_eq_true, decide_eq_true_eq]
  constructor
  · intro h; exact ⟨fun k hk => h k (by omega), h j (by omega)⟩
  · rintro ⟨h1, h2⟩ k hk
    by_cases e : k = j
    · subst e; exact h2
    · exact h1 k (by omega)
theorem okB_fit {zs : List Int} : okB zs zs.length = true ↔ Fit (List.zipWith (fun a b => a + b) zs zs) := by
  unfold okB
  rw [decide_eq_true_eq]
  constructor
  · intro h u hu
    obtain ⟨i, hi⟩ := List.getElem?_of_mem hu
    rw [List.getElem?_zipWith] at hi
    by_cases hl : i < zs.length
    · have e : zs[i]? = some (cellD zs i) := by simp [cellD, hl]
      rw [e] at hi
      have := h i hl
      simp at hi
      omega
    · rw [List.getElem?_eq_none (by omega)] at hi
      simp at hi
  · intro h k hk
    have e : zs[k]? = some (cellD zs k) := by simp [cellD, hk]
    have := h.get (i := k) (u := cellD zs k + cellD zs k) (by rw [List.getElem?_zipWith, e])
    omega
theorem zip_self {zs : List Int} {k : Nat} (hk : k < zs.length) : (List.zipWith (fun a b => a + b) zs zs)[k]? = some (2 * cellD zs k) := by
  have e : zs[k]? = some (cellD zs k) := by simp [cellD, hk]
  rw [List.getElem?_zipWith, e]
  simp
  omega

set_option maxRecDepth 100000 in
set_option maxHeartbeats 4000000 in
theorem GridTwice_main (r c : Int) (l : Value) (n : Nat) (pr pc pu : Nat → Int) (w : World) (hl : PutsAt w l n pr pc pu) : Calls Try.prog 12 #[.int .i64 r, .int .i64 c, l] w fun e w' => e = .returned (.bool true) ∧ Below w.heap.size w w' := by
  have HL := Lib.hid hl
  have HMADE := Lib.hid (fun w hl => made_any r c l n pr pc pu w hl)
  obtain ⟨ao, cap, rfl, hjunk⟩ := hl
  clear hjunk
  have b1 := clampN_le r 8
  have b2 := clampN_le c 128
  generalize clampN r 8 = R at *
  generalize clampN c 128 = W at *
  go_enter Try.func12, Try.ntmps12
  go_wp2_with fail
  refine (shown06 w).mono ?_; rintro e w1 ⟨rfl, hb⟩
  have HB1 := Lib.hid hb
  have HL1 := Lib.hid (HL.out.kept hb)
  clear hb HL
  go_wp2_with fail
  refine (HMADE.out w1 HL1.out).mono ?_; rintro e w2 ⟨G, C, N, H, v, B, K, rfl, hG, hC, hGN, hCN, hg, _, hb⟩
  have HB2 := Lib.hid (btr HB1.out hb)
  have G2 := Lib.hid hg
  have HC0 : Hid (w.heap.size ≤ C) := Lib.hid (Nat.le_trans HB1.out.size hC)
  clear hG hC hg hb hGN hCN HMADE HL1
  generalize putsZ R W (List.replicate (R * W) 0) pr pc pu (min n 200) = zs at *
  have hzl : zs.length ≤ 1024 := by rw [G2.out.len]; exact Nat.mul_le_mul b1 b2
  have P1 := cells_any w2 G C R W _ G2.out
  go_wp2_with fail
  refine P1.mono ?_; clear P1; rintro e w3 ⟨x, rfl, hown, hne, hb⟩
  obtain ⟨g, cp, rfl, hg0, hgc, cur, hcur, hcc⟩ := own_row hown hne
  have HB3 := Lib.hid (btr HB2.out hb)
  have G3 := Lib.hid (G2.out.kept hb)
  have HG0 : Hid (w2.heap.size ≤ g) := hg0
  have hgC : g ≠ C := by have := G2.out.ltC; omega
  have HCUR := Lib.hid hcur
  have HCC := Lib.hid hcc
  clear hown hne hb hcur hcc hg0
  generalize hlen : zs.length = m at *
  have HLEN := Lib.hid hlen
  clear hlen
  go_wp2_with fail
  go_loop [11, 12] (fun t i => ∃ j : Nat, j ≤ m ∧ i = .int .i64 (j : Int) ∧ t = .bool (okB zs j)) (fun _ i => m - (intOf i).toNat)
  case atStart => exact ⟨0, by omega, rfl, by rw [okB_zero]⟩
  case round =>
    obtain ⟨j, hj, rfl, rfl⟩ := hrel
    by_cases hlt : j < m
    · have hzj : zs[j]? = some (cellD zs j) := by
        have : j < zs.length := by rw [HLEN.out]; exact hlt
        simp [cellD, this]
      have cz := (HCUR.out.cell j).trans (HCC.out j _ hzj)
      have HS := Lib.hid (okB_succ zs j)
      clear hzj
      generalize cellD zs j = z at *
      cases ho : okB zs j with
      | true =>
        rw [ho] at HS
        by_cases h1 : -4611686018427387904 ≤ z
        · have e1 : decide (-4611686018427387904 ≤ z) = true := decide_eq_true h1
          by_cases h2 : z < 4611686018427387904
          · have e2 : decide (z < 4611686018427387904) = true := decide_eq_true h2
            have HE : Hid (okB zs (j + 1) = true) := Lib.hid (by rw [HS.out, e1, e2]; rfl)
            clear h1 h2 ho
            go_wp2
            go_round
            case rel => exact ⟨j + 1, by omega, by go_num, by rw [HE.out]⟩
            case measure => simp [intOf]; omega
          · have e2 : decide (z < 4611686018427387904) = false := decide_eq_false h2
            have HE : Hid (okB zs (j + 1) = false) := Lib.hid (by rw [HS.out, e1, e2]; rfl)
            clear h1 h2 ho
            go_wp2
            go_round
            case rel => exact ⟨j + 1, by omega, by go_num, by rw [HE.out]⟩
            case measure => simp [intOf]; omega
        · have e1 : decide (-4611686018427387904 ≤ z) = false := decide_eq_false h1
          have HE : Hid (okB zs (j + 1) = false) := Lib.hid (by rw [HS.out, e1]; rfl)
          clear h1 ho
          go_wp2
          go_round
          case rel => exact ⟨j + 1, by omega, by go_num, by rw [HE.out]⟩
          case measure => simp [intOf]; omega
      | false =>
        rw [ho] at HS
        have HE : Hid (okB zs (j + 1) = false) := Lib.hid (by rw [HS.out]; rfl)
        clear ho
        go_wp2
        go_round
        case rel => exact ⟨j + 1, by omega, by go_num, by rw [HE.out]⟩
        case measure => simp [intOf]; omega
    · obtain rfl : j = m := by omega
      have hfit := okB_fit (zs := zs)
      rw [HLEN.out] at hfit
      cases ho : okB zs j with
      | true =>
        have P1 := gplus_yes w3 G C G C R W zs zs G3.out G3.out (hfit.1 ho)
        clear ho hfit
        go_wp2_with fail
        refine P1.mono ?_; clear P1; rintro e w4 ⟨rfl, hg, hgr⟩
        have G4 := Lib.hid hg
        have HB4 := Lib.hid (bgr HB3.out hgr HC0.out)
        have HCUR4 := Lib.hid (HCUR.out.grown hgr (by simpa using hgC))
        clear hg hgr
        have P1 := cells_any w4 G C R W _ G4.out
        go_wp2_with fail
        refine P1.mono ?_; clear P1; rintro e w5 ⟨x, rfl, hown, hne, hb⟩
        obtain ⟨g2, cp2, rfl, hg0, hgc2, cur2, hcur, hcc⟩ := own_row hown hne
        have HB5 := Lib.hid (btr HB4.out hb)
        have HCUR5 := Lib.hid (HCUR4.out.kept hb)
        have HCURB := Lib.hid hcur
        have HCCB := Lib.hid hcc
        clear hown hne hb hcur hcc hg0
        have hzl2 : (List.zipWith (fun a b => a + b) zs zs).length = j := by rw [List.length_zipWith, HLEN.out, Nat.min_self]
        rw [hzl2] at hgc2
        simp only [hzl2]
        clear hzl2
        go_wp2_with fail
        go_loopw [15] (fun i wr => ∃ k : Nat, k ≤ j ∧ i = .int .i64 (k : Int) ∧ Blk wr g 2 cur ∧ Blk wr g2 2 cur2 ∧ Below w.heap.size w wr) (fun i _ => j - (intOf i).toNat)
        case atStart => exact ⟨0, by omega, rfl, HCUR5.out, HCURB.out, HB5.out⟩
        case round =>
          obtain ⟨k, hk, rfl, hc1, hc2, hbel⟩ := hrel
          clear HCUR5 HCURB HB5
          have K1 := Lib.hid hc1
          have K2 := Lib.hid hc2
          have HB := Lib.hid hbel
          clear hc1 hc2 hbel
          by_cases hltk : k < j
          · have hkz : k < zs.length := by rw [HLEN.out]; exact hltk
            have e1 : zs[k]? = some (cellD zs k) := by simp [cellD, hkz]
            have e2 : (List.zipWith (fun a b => a + b) zs zs)[k]? = some (2 * cellD zs k) := zip_self hkz
            have q1 := (K1.out.cell k).trans (HCC.out k _ e1)
            have q2 := (K2.out.cell k).trans (HCCB.out k _ e2)
            have hz := G3.out.fit.get e1
            have hz2 := G4.out.fit.get e2
            clear e1 e2 hkz
            generalize cellD zs k = z at *
            have i0 : (0 : Int) ≤ (k : Int) := by omega
            have i1 : (k : Int) < (j : Int) := by omega
            have e3 : IntKind.i64.wrap (2 * z) = 2 * z := wrapI_of _ hz2.1 hz2.2
            go_wp2_with fail
            go_quiet (fail)
            clear e3
            go_wp2
            go_roundw
            case rel => exact ⟨k + 1, by omega, by go_num, K1.out.drewN nq, K2.out.drewN nq, below_drewN HB.out nq⟩
            case measure => simp [intOf]; omega
          · obtain rfl : k = j := by omega
            go_wp2
            go_ret
            exact ⟨rfl, HB.out⟩
      | false =>
        have P1 := gplus_no w3 G C G C R W zs zs G3.out G3.out (fun h => by rw [hfit.2 h] at ho; cases ho)
        clear ho hfit
        go_wp2_with fail
        refine P1.mono ?_; clear P1; rintro e w4 ⟨rfl, hb⟩
        have G4 := Lib.hid (G3.out.kept hb)
        have HB4 := Lib.hid (btr HB3.out hb)
        have HCUR4 := Lib.hid (HCUR.out.kept hb)
        clear hb
        have P1 := cells_any w4 G C R W _ G4.out
        go_wp2_with fail
        refine P1.mono ?_; clear P1; rintro e w5 ⟨x, rfl, hown, hne, hb⟩
        obtain ⟨g2, cp2, rfl, hg0, hgc2, cur2, hcur, hcc⟩ := own_row hown hne
        have HB5 := Lib.hid (btr HB4.out hb)
        have HCUR5 := Lib.hid (HCUR4.out.kept hb)
        have HCURB := Lib.hid hcur
        have HCCB := Lib.hid hcc
        clear hown hne hb hcur hcc hg0
        have hzl2 : zs.length = j := by exact HLEN.out
        rw [hzl2] at hgc2
        simp only [hzl2]
        clear hzl2
        go_wp2_with fail
        go_loopw [15] (fun i wr => ∃ k : Nat, k ≤ j ∧ i = .int .i64 (k : Int) ∧ Blk wr g 2 cur ∧ Blk wr g2 2 cur2 ∧ Below w.heap.size w wr) (fun i _ => j - (intOf i).toNat)
        case atStart => exact ⟨0, by omega, rfl, HCUR5.out, HCURB.out, HB5.out⟩
        case round =>
          obtain ⟨k, hk, rfl, hc1, hc2, hbel⟩ := hrel
          clear HCUR5 HCURB HB5
          have K1 := Lib.hid hc1
          have K2 := Lib.hid hc2
          have HB := Lib.hid hbel
          clear hc1 hc2 hbel
          by_cases hltk : k < j
          · have hkz : k < zs.length := by rw [HLEN.out]; exact hltk
            have e1 : zs[k]? = some (cellD zs k) := by simp [cellD, hkz]
            have e2 : zs[k]? = some (cellD zs k) := e1
            have q1 := (K1.out.cell k).trans (HCC.out k _ e1)
            have q2 := (K2.out.cell k).trans (HCCB.out k _ e2)
            have hz := G3.out.fit.get e1
            have hz2 := G4.out.fit.get e2
            clear e1 e2 hkz
            generalize cellD zs k = z at *
            have i0 : (0 : Int) ≤ (k : Int) := by omega
            have i1 : (k : Int) < (j : Int) := by omega
            skip
            go_wp2_with fail
            go_quiet (fail)
            skip
            go_wp2
            go_roundw
            case rel => exact ⟨k + 1, by omega, by go_num, K1.out.drewN nq, K2.out.drewN nq, below_drewN HB.out nq⟩
            case measure => simp [intOf]; omega
          · obtain rfl : k = j := by omega
            go_wp2
            go_ret
            exact ⟨rfl, HB.out⟩

theorem GridTwice_walk (v0 v1 v2 : Value) (w : World) (h0 : (Sh.int .i64).Val w v0) (h1 : (Sh.int .i64).Val w v1) (h2 : (Sh.slice shPut).Val w v2) :
    Calls Try.prog 12 #[v0, v1, v2] w fun e w' => e = .returned (.bool true) ∧ Below w.heap.size w w' := by
  obtain ⟨r, rfl, _⟩ := Sh.val_int h0
  obtain ⟨c, rfl, _⟩ := Sh.val_int h1
  obtain ⟨n, pr, pc, pu, h⟩ := puts_of_val h2
  exact GridTwice_main r c v2 n pr pc pu w h
end Go.Proofs.Ytfjhecgicemoeaa
