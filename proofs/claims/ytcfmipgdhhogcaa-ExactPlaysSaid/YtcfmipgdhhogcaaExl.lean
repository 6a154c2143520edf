/-
  The walk of ExactLoads: it returns true. Conditions: the arguments are of their types.
-/
import Derived.Test.YtcfmipgdhhogcaaExu
import Derived.Test.YtcfmipgdhhogcaaCol
namespace Go.Proofs.Ytcfmipgdhhogcaa
open Go.RowKit
set_option linter.unusedVariables false
set_option linter.unusedSimpArgs false

theorem IntsAt.gr {w w' : World} {v : Value} {zs : List Int} {row : Option Nat} (h : IntsAt w v zs) (hb : w.grownBy w' row) (hne : ∀ g, v.ownBlock = some g → some g ≠ row) : IntsAt w' v zs := by
  obtain ⟨ao, cap, e, hc, h⟩ := h
  refine ⟨ao, cap, e, hc, fun h0 => ?_⟩
  obtain ⟨g, e2, hg, hc⟩ := h h0
  subst e2
  subst e
  exact ⟨g, rfl, Nat.lt_of_lt_of_le hg hb.size, fun i u hu => hb.cell (hc i u hu) (hne g rfl)⟩
theorem IntsAt.ltB {w : World} {v : Value} {zs : List Int} (h : IntsAt w v zs) (h0 : 0 < zs.length) : ∀ g, v.ownBlock = some g → g < w.heap.size := by
  obtain ⟨ao, cap, e, hc, h⟩ := h
  obtain ⟨g, e2, hg, hc⟩ := h h0
  subst e2
  subst e
  intro g' e
  simp [Value.ownBlock] at e
  omega

set_option maxRecDepth 100000 in
set_option maxHeartbeats 8000000 in
theorem ExactLoads_walk (v0 v1 v2 : Value) (w : World) (h0 : shCfg.Val w v0) (h1 : (Sh.int .i64).Val w v1) (h2 : shInts.Val w v2) :
    Calls Try.prog 5 #[v0, v1, v2] w fun e w' => e = .returned (.bool true) ∧ Below w.heap.size w w' := by
  obtain ⟨xb, xr, xd, xm, s, rfl, -, -, -, -, -⟩ := valCfg h0
  obtain ⟨l, rfl, -⟩ := Sh.val_int h1
  obtain ⟨cs, hcs⟩ := cols_of_val h2
  have hfit0 := ints_fit h2 hcs
  clear h0 h1 h2
  have hgd : Try.prog.eqGuardType Try.prog.depth 24 = false := by kernel_rfl
  have PS := Lib.hid shown12
  have PA1 := Lib.hid (any12 xb xr xd xm s)
  have HCS := Lib.hid hcs
  have HFT := Lib.hid hfit0
  obtain ⟨ao, cap, rfl, hlc, hcm, -⟩ := hcs
  obtain ⟨g1, hb1, hsz1⟩ := news1 w (.cells #[.int .i64 xb, .int .i64 xr, .int .i64 xd, .int .i64 xm, .int .u64 s] 24)
  have hx1 : Blk _ w.heap.size 24 #[.int .i64 xb, .int .i64 xr, .int .i64 xd, .int .i64 xm, .int .u64 s] := g1
  have HX1 := Lib.hid hx1
  have HB1 := Lib.hid hb1
  have HCS1 := Lib.hid (HCS.out.kept hb1)
  clear g1 hx1 hb1 hsz1 HCS hfit0
  have hnl : Hid (cs.length ≤ cap ∧ cap ≤ maxLen) := ⟨hlc, hcm⟩
  obtain ⟨n, hn⟩ : ∃ n, n = cs.length := ⟨_, rfl⟩
  rw [← hn]
  have HN := Lib.hid hn
  clear hn hlc hcm
  go_enter Try.func5, Try.ntmps5
  go_wp2_with fail
  with_reducible refine (PS.out _).mono ?_
  rintro e w2 ⟨rfl, hb⟩
  have HX2 := Lib.hid (HX1.out.kept hb)
  have HS2 := Lib.hid (HCS1.out.kept hb)
  have HB2 := Lib.hid (btr HB1.out hb)
  have hx := HX2.out
  clear hb HX1 HCS1 HB1
  go_wp2_with (refine wpList_load_row rfl 24 _ rfl w.heap.size rfl 24 _ (0, 0) _ hx Try.underlying24 rfl (by kernel_rfl) ?_)
  with_reducible refine (PA1.out _).mono ?_
  rintro e w3 ⟨b, r, d, m, rfl, hr, hb⟩
  have HR := Lib.hid hr
  have HS3 := Lib.hid (HS2.out.kept hb)
  have HB3 := Lib.hid (btr HB2.out hb)
  have hc : Blk (w3.alloc (.cells #[.int .i64 b, .int .i64 r, .int .i64 d, .int .i64 m, .int .u64 s] 24)) w3.heap.size 24 #[.int .i64 b, .int .i64 r, .int .i64 d, .int .i64 m, .int .u64 s] := Blk.new w3 _ _
  clear hb hr hx HX2 HS2 HB2
  go_wp2_with (refine wpList_load_row rfl 24 _ rfl w3.heap.size rfl 24 _ (0, 0) _ hc Try.underlying24 rfl (by kernel_rfl) ?_)
  with_reducible refine (top_any b r d m s l HR.out _).mono ?_
  rintro e w4 ⟨i, rfl, hex, hb⟩
  have HI := Lib.hid hex
  have HC4 := Lib.hid (hc.kept hb)
  have HS4 := Lib.hid ((HS3.out.kept ((Below.refl _ _).alloc (Nat.le_refl _) _)).kept hb)
  have HB4 := Lib.hid (btr (HB3.out.alloc HB3.out.size _) hb)
  have hc2 := HC4.out
  clear hex hb hc HS3 HB3
  go_wp2_with (refine wpList_load_row rfl 24 _ rfl w3.heap.size rfl 24 _ (0, 0) _ hc2 Try.underlying24 rfl (by kernel_rfl) ?_)
  with_reducible refine (new12 b r d m s i HI.out _).mono ?_
  rintro e w5 ⟨A, G, C, K, rfl, hA, hG, hC, hk, hK0, hK1, ha, hb⟩
  have HA5 := Lib.hid ha
  have HS5 := Lib.hid (HS4.out.kept hb)
  have HB5 := Lib.hid (btr HB4.out hb)
  have HWC : Hid (w.heap.size ≤ C) := Lib.hid (Nat.le_trans HB4.out.size hC)
  clear ha hb hk hA hG hC hc2 HC4 HS4 HB4
  have P := Lib.hid (excells w5 A G C b r d m s i K _ HA5.out)
  go_wp2_with fail
  with_reducible refine P.out.mono ?_
  rintro e w6 ⟨v, rfl, hown, hne, hb⟩
  have HV6 := Lib.hid (IntsAt.of_own hown rfl)
  obtain ⟨gv, cpv, rfl, -, -, -⟩ := own_row hown hne
  have HA6 := Lib.hid (HA5.out.kept hb)
  have HS6 := Lib.hid (HS5.out.kept hb)
  have HB6 := Lib.hid (btr HB5.out hb)
  simp only [List.length_replicate] at HV6 ⊢
  clear hown hne hb P HA5 HS5 HB5
  obtain ⟨q, hq⟩ : ∃ q, q = min n 200 := ⟨_, rfl⟩
  have hqn : q ≤ n := by omega
  have hq2 : q ≤ 200 := by omega
  have emin : (if (200 : Int) < (n : Int) then (200 : Int) else (n : Int)) = (q : Int) := by split <;> omega
  have hcap := hnl.out.1
  rw [← HN.out] at hcap
  have iq : (0 : Int) ≤ (q : Int) := by omega
  have iq2 : (q : Int) ≤ (cap : Int) := by omega
  clear hq hcap
  obtain ⟨i0, hi, hz0, hz1, hz2⟩ := info_parts Try.info64
  have hown0 := World.ownsRow_lit (base := w6.heap.size) (e := 2) (size := 1) w6 #[] 0 (by simp) (by unfold maxLen; omega) (by simp)
  have HO := Lib.hid hown0
  have hlq : (cs.take q).length = q := by rw [List.length_take]; have := HN.out; omega
  have HQN := Lib.hid hqn
  have HFL : Hid (Fit (cs.take q)) := Lib.hid (fun u hu => HFT.out u (List.mem_of_mem_take hu))
  obtain ⟨ls, hls⟩ : ∃ ls, ls = cs.take q := ⟨_, rfl⟩
  rw [← hls] at hlq HFL
  have HLS := Lib.hid hls
  have HLQ := Lib.hid hlq
  clear hown0 hlq hls
  go_wp2_with (at_builtin; refine wpList_append_lit rfl _ _ 31 rfl w6.heap.size 2 i0 (.int .i64 0) 8 Try.underlying31 hi hz0 hz1 hz2 rfl w6.heap.size 0 rfl HO.out ao q cap (ls.map (Value.int .i64)) rfl ?c1 ?c2 ?c3 ?c4 ?c5 (by simp) ?_)
  case c1 => exact HLQ.out
  case c2 =>
    intro h0
    obtain ⟨ao', cap', e, -, -, hx⟩ := HS6.out
    simp only [Value.slice.injEq] at e
    obtain ⟨rfl, -, rfl⟩ := e
    obtain ⟨bb, off, rfl, hbb, hcc⟩ := hx (by have := HN.out; have := HQN.out; omega)
    refine ⟨_, rfl, fun j u hu => ?_⟩
    rw [HLS.out, List.getElem?_take] at hu
    split at hu
    · rw [addr_add, ← hcc j u hu]
      exact ((Below.refl w6.heap.size w6).alloc (Nat.le_refl _) _).cell (p := ⟨bb, off + j, none⟩) hbb
    · simp at hu
  case c3 =>
    intro u hu
    rfl
  case c4 => unfold maxLen; omega
  case c5 => omega
  intro v' w7 hown hgrow hnil hat
  have hown2 : w7.ownsRow w6.heap.size 2 1 v' ls.length (ls.map (Value.int .i64)) := by rw [HLQ.out]; exact hown
  have HVL := Lib.hid (IntsAt.of_own hown2 rfl)
  obtain ⟨g, cpg, rfl, hg6, hqc, cur, hcur, hcurz⟩ := own_row hown2 hnil
  have HIR : Hid (IntRow w7 g 2 q) := Lib.hid ⟨cur, hcur, fun j hj => by
    have hj2 : j < ls.length := by rw [HLQ.out]; exact hj
    exact ⟨ls[j], hcurz j _ (List.getElem?_eq_getElem hj2)⟩⟩
  have hb67 : Below w6.heap.size w6 w7 := ((Below.refl _ _).alloc (Nat.le_refl _) _).grown hgrow (by simp) (fun k hk => by simp at hk; omega)
  have HA7 := Lib.hid (HA6.out.kept hb67)
  have HV7 := Lib.hid (HV6.out.kept hb67)
  have HB7 := Lib.hid (btr HB6.out hb67)
  have HGN : Hid (A < g ∧ G < g ∧ C < g ∧ g < w7.heap.size) := by
    have h1 := HA6.out.ltA
    have h2 := HA6.out.2.ltG
    have h3 := HA6.out.2.ltC
    exact ⟨by omega, by omega, by omega, hcur.lt⟩
  rw [HLQ.out] at HVL ⊢
  clear hown hown2 hgrow hnil hat hcur hcurz hqc hb67 HO HS6 HA6 HV6 HB6 hg6
  have HWG : Hid (w.heap.size ≤ g) := Lib.hid (by have := HWC.out; have := HGN.out; omega)
  by_cases hqK : q = K
  · subst hqK
    have P := Lib.hid (exload_yes w7 A G C b r d m s i q _ ls (.slice (some ⟨g, 0, none⟩) q cpg) HA7.out HVL.out HLQ.out HFL.out (by have := HGN.out; simp [Value.ownBlock]; omega))
    go_wp2_with fail
    with_reducible refine P.out.mono ?_
    rintro e w8 ⟨rfl, ha, hgr⟩
    have HA8 := Lib.hid ha
    have HVL8 := Lib.hid (HVL.out.gr hgr (fun k hk => by have := HGN.out; simp [Value.ownBlock] at hk ⊢; omega))
    have HIR8 := Lib.hid (HIR.out.grown hgr (by have := HGN.out; simp; omega))
    have HB8 := Lib.hid (bgr HB7.out hgr HWC.out)
    have HGN8 : Hid (A < g ∧ G < g ∧ C < g ∧ g < w8.heap.size) := ⟨HGN.out.1, HGN.out.2.1, HGN.out.2.2.1, Nat.lt_of_lt_of_le HGN.out.2.2.2 hgr.size⟩
    clear ha hgr P HA7 HVL HIR HB7 HV7 HGN
    have P := Lib.hid (excells w8 A G C b r d m s i q _ HA8.out)
    go_wp2_with fail
    with_reducible refine P.out.mono ?_
    rintro e w9 ⟨vn, rfl, hown, hne, hb⟩
    have HVN9 := Lib.hid (IntsAt.of_own hown rfl)
    have HVGK : Hid (∀ k, vn.ownBlock = some k → k ≠ g) := Lib.hid (fun k hk => by have h1 := (hown.lt k hk).1; have h2 := HGN8.out.2.2.2; omega)
    have HA9 := Lib.hid (HA8.out.kept hb)
    have HVL9 := Lib.hid (HVL8.out.kept hb)
    have HIR9 := Lib.hid (HIR8.out.kept hb)
    have HB9 := Lib.hid (btr HB8.out hb)
    have HGN9 : Hid (A < g ∧ G < g ∧ C < g ∧ g < w9.heap.size) := ⟨HGN8.out.1, HGN8.out.2.1, HGN8.out.2.2.1, Nat.lt_of_lt_of_le HGN8.out.2.2.2 hb.size⟩
    clear hown hne hb P HA8 HVL8 HIR8 HB8 HGN8
    have P := Lib.hid (same06_true vn (.slice (some ⟨g, 0, none⟩) q cpg) ls w9 HVN9.out HVL9.out (by have := HLQ.out; omega))
    go_wp2_with fail
    with_reducible refine P.out.mono ?_
    rintro e wa ⟨rfl, hb⟩
    have HVNa := Lib.hid (HVN9.out.kept hb)
    have HAa := Lib.hid (HA9.out.kept hb)
    have HIRa := Lib.hid (HIR9.out.kept hb)
    have HVG : Hid ((∀ k, vn.ownBlock = some k → some k ≠ some g) ∧ w.heap.size ≤ g) := Lib.hid ⟨fun k hk => by have := HVGK.out k hk; simp; omega, by have := HWG.out; omega⟩
    have HBa := Lib.hid (btr HB9.out hb)
    have HGNa : Hid (A < g ∧ G < g ∧ C < g ∧ g < wa.heap.size) := ⟨HGN9.out.1, HGN9.out.2.1, HGN9.out.2.2.1, Nat.lt_of_lt_of_le HGN9.out.2.2.2 hb.size⟩
    have HZL : Hid (ls.length = q) := HLQ
    clear hb P HVN9 HA9 HVL9 HIR9 HB9 HGN9 HLQ HFL
    have P := Lib.hid (excells wa A G C b r d m s i q _ HAa.out)
    go_wp2_with fail
    with_reducible refine P.out.mono ?_
    rintro e wb ⟨vt, rfl, hown, hne, hb⟩
    obtain ⟨gt, cpt, rfl, hgt, hcpt, cur, hcur, hcurz⟩ := own_row hown hne
    have HIT : Hid (IntRow wb gt 2 q) := Lib.hid ⟨cur, hcur, fun j hj => by
      have hj2 : j < ls.length := by rw [HZL.out]; exact hj
      exact ⟨ls[j], hcurz j _ (List.getElem?_eq_getElem hj2)⟩⟩
    have HVNb := Lib.hid (HVNa.out.kept hb)
    have HAb := Lib.hid (HAa.out.kept hb)
    have HIRb := Lib.hid (HIRa.out.kept hb)
    have HBb := Lib.hid (btr HBa.out hb)
    have HNE : Hid ((A ≠ gt ∧ G ≠ gt ∧ C ≠ gt ∧ g ≠ gt ∧ w.heap.size ≤ gt) ∧ (A ≠ g ∧ G ≠ g ∧ C ≠ g) ∧ (∀ k, vn.ownBlock = some k → k ≠ gt)) := by
      have h1 := HAa.out.ltA
      have h2 := HAa.out.2.ltG
      have h3 := HAa.out.2.ltC
      have h4 := HGNa.out
      have h5 := HBa.out.size
      have h6 := HVNa.out.ltB (by rw [HZL.out]; omega)
      exact ⟨⟨by omega, by omega, by omega, by omega, by omega⟩, ⟨by omega, by omega, by omega⟩, fun k hk => by have := h6 k hk; omega⟩
    rw [HZL.out]
    clear hown hne hb hgt hcpt hcur hcurz P HVNa HAa HIRa HBa HGNa
    go_wp2_with fail
    go_loopw [16] (fun i' wr => ∃ j : Nat, j ≤ q ∧ i' = .int .i64 (j : Int) ∧ IntRow wr gt 2 q ∧ ArrIs wr A G C b r d m s i q ls ∧ IntsAt wr vn ls ∧ IntRow wr g 2 q ∧ Below w.heap.size w wr) (fun i' _ => q - (intOf i').toNat)
    case atStart => exact ⟨0, by omega, rfl, HIT.out, HAb.out, HVNb.out, HIRb.out, HBb.out⟩
    case round =>
      obtain ⟨j, hj, rfl, hit, ha, hvn, hir, hbel⟩ := hrel
      clear HIT HAb HVNb HIRb HBb
      have HIT := Lib.hid hit
      have HA := Lib.hid ha
      have HVN := Lib.hid hvn
      have HIR := Lib.hid hir
      have HB := Lib.hid hbel
      clear ha hvn hir hbel
      by_cases hlt : j < q
      · obtain ⟨z, hz⟩ := hit.cell hlt
        have hfr := hit.frozen j
        have j0 : (0 : Int) ≤ (j : Int) := by omega
        have j1 : (j : Int) < (q : Int) := by omega
        clear hit
        go_wp2
        go_roundw
        case rel => exact ⟨j + 1, by omega, by go_num, HIT.out.set j _, HA.out.grown (grown_set _ gt j _) (by simpa using HNE.out.1.1) (by simpa using HNE.out.1.2.1) (by simpa using HNE.out.1.2.2.1), HVN.out.gr (grown_set _ gt j _) (fun k hk => by simpa using HNE.out.2.2 k hk), HIR.out.grown (grown_set _ gt j _) (by simpa using HNE.out.1.2.2.2.1), HB.out.setCell HNE.out.1.2.2.2.2 _⟩
        case measure => simp [intOf]; omega
      · obtain rfl : j = q := by omega
        clear hit
        go_wp2_with fail
        go_loopw [17] (fun i' ws => ∃ k : Nat, k ≤ j ∧ i' = .int .i64 (k : Int) ∧ ArrIs ws A G C b r d m s i j ls ∧ IntsAt ws vn ls ∧ IntRow ws g 2 j ∧ Below w.heap.size w ws) (fun i' _ => j - (intOf i').toNat)
        case atStart => exact ⟨0, by omega, rfl, HA.out, HVN.out, HIR.out, HB.out⟩
        case round =>
          obtain ⟨k, hk, rfl, ha, hvn, hir, hbel⟩ := hrel
          clear HA HVN HIR HB HIT
          have HA := Lib.hid ha
          have HVN := Lib.hid hvn
          have HIR := Lib.hid hir
          have HB := Lib.hid hbel
          clear ha hvn hbel
          by_cases hlk : k < j
          · obtain ⟨z, hz⟩ := hir.cell hlk
            have hfr := hir.frozen k
            have j0 : (0 : Int) ≤ (k : Int) := by omega
            have j1 : (k : Int) < (j : Int) := by omega
            clear hir
            go_wp2
            go_roundw
            case rel => exact ⟨k + 1, by omega, by go_num, HA.out.grown (grown_set _ g k _) (by simpa using HNE.out.2.1.1) (by simpa using HNE.out.2.1.2.1) (by simpa using HNE.out.2.1.2.2), HVN.out.gr (grown_set _ g k _) HVG.out.1, HIR.out.set k _, HB.out.setCell HVG.out.2 _⟩
            case measure => simp [intOf]; omega
          · obtain rfl : k = j := by omega
            clear hir
            have P := Lib.hid (excells _ A G C b r d m s i _ _ HA.out)
            go_wp2_with fail
            with_reducible refine P.out.mono ?_
            rintro e wy ⟨ve, rfl, hown, hne, hb⟩
            have HVE := Lib.hid (IntsAt.of_own hown rfl)
            have HVNy := Lib.hid (HVN.out.kept hb)
            have HBy := Lib.hid (btr HB.out hb)
            clear hown hne hb P
            have P := Lib.hid (same06_true ve vn ls wy HVE.out HVNy.out (by have := HZL.out; omega))
            go_wp2_with fail
            with_reducible refine P.out.mono ?_
            rintro e wz ⟨rfl, hb⟩
            have HBz := Lib.hid (btr HBy.out hb)
            clear hb P
            go_wp2
            go_ret
            exact ⟨rfl, HBz.out⟩
  · have P := Lib.hid (exload_no w7 A G C b r d m s i K _ ls (.slice (some ⟨g, 0, none⟩) q cpg) HA7.out HVL.out (by have := HLQ.out; omega) (by have := HLQ.out; omega))
    have e7 : ((q : Int) == (K : Int)) = false := by simp; omega
    have e7' : decide ((q : Int) = (K : Int)) = false := by simp; omega
    have e7'' : (q == K) = false := by simp; omega
    clear hqK
    go_wp2_with fail
    with_reducible refine P.out.mono ?_
    rintro e w8 ⟨rfl, hw8⟩
    subst hw8
    clear P
    have P := Lib.hid (excells w7 A G C b r d m s i K _ HA7.out)
    go_wp2_with fail
    with_reducible refine P.out.mono ?_
    rintro e w9 ⟨vn, rfl, hown, hne, hb⟩
    have HVN9 := Lib.hid (IntsAt.of_own hown rfl)
    have HVGK : Hid (∀ k, vn.ownBlock = some k → k ≠ g) := Lib.hid (fun k hk => by have h1 := (hown.lt k hk).1; have h2 := HGN.out.2.2.2; omega)
    have HV9 := Lib.hid (HV7.out.kept hb)
    have HA9 := Lib.hid (HA7.out.kept hb)
    have HIR9 := Lib.hid (HIR.out.kept hb)
    have HB9 := Lib.hid (btr HB7.out hb)
    have HGN9 : Hid (A < g ∧ G < g ∧ C < g ∧ g < w9.heap.size) := ⟨HGN.out.1, HGN.out.2.1, HGN.out.2.2.1, Nat.lt_of_lt_of_le HGN.out.2.2.2 hb.size⟩
    clear hown hne hb P HA7 HVL HIR HB7 HV7 HGN
    have P := Lib.hid (same06_true vn (.slice (some ⟨gv, 0, none⟩) K cpv) _ w9 HVN9.out HV9.out (by simp; omega))
    go_wp2_with fail
    with_reducible refine P.out.mono ?_
    rintro e wa ⟨rfl, hb⟩
    have HVNa := Lib.hid (HVN9.out.kept hb)
    have HAa := Lib.hid (HA9.out.kept hb)
    have HIRa := Lib.hid (HIR9.out.kept hb)
    have HVG : Hid ((∀ k, vn.ownBlock = some k → some k ≠ some g) ∧ w.heap.size ≤ g) := Lib.hid ⟨fun k hk => by have := HVGK.out k hk; simp; omega, by have := HWG.out; omega⟩
    have HBa := Lib.hid (btr HB9.out hb)
    have HGNa : Hid (A < g ∧ G < g ∧ C < g ∧ g < wa.heap.size) := ⟨HGN9.out.1, HGN9.out.2.1, HGN9.out.2.2.1, Nat.lt_of_lt_of_le HGN9.out.2.2.2 hb.size⟩
    have HZL : Hid ((List.replicate K (0 : Int)).length = K) := Lib.hid (by simp)
    clear hb P HVN9 HA9 HV9 HIR9 HB9 HGN9 HLQ HFL
    generalize List.replicate K (0 : Int) = ls at *
    have P := Lib.hid (excells wa A G C b r d m s i K _ HAa.out)
    go_wp2_with fail
    with_reducible refine P.out.mono ?_
    rintro e wb ⟨vt, rfl, hown, hne, hb⟩
    obtain ⟨gt, cpt, rfl, hgt, hcpt, cur, hcur, hcurz⟩ := own_row hown hne
    have HIT : Hid (IntRow wb gt 2 K) := Lib.hid ⟨cur, hcur, fun j hj => by
      have hj2 : j < ls.length := by rw [HZL.out]; exact hj
      exact ⟨ls[j], hcurz j _ (List.getElem?_eq_getElem hj2)⟩⟩
    have HVNb := Lib.hid (HVNa.out.kept hb)
    have HAb := Lib.hid (HAa.out.kept hb)
    have HIRb := Lib.hid (HIRa.out.kept hb)
    have HBb := Lib.hid (btr HBa.out hb)
    have HNE : Hid ((A ≠ gt ∧ G ≠ gt ∧ C ≠ gt ∧ g ≠ gt ∧ w.heap.size ≤ gt) ∧ (A ≠ g ∧ G ≠ g ∧ C ≠ g) ∧ (∀ k, vn.ownBlock = some k → k ≠ gt)) := by
      have h1 := HAa.out.ltA
      have h2 := HAa.out.2.ltG
      have h3 := HAa.out.2.ltC
      have h4 := HGNa.out
      have h5 := HBa.out.size
      have h6 := HVNa.out.ltB (by rw [HZL.out]; omega)
      exact ⟨⟨by omega, by omega, by omega, by omega, by omega⟩, ⟨by omega, by omega, by omega⟩, fun k hk => by have := h6 k hk; omega⟩
    rw [HZL.out]
    clear hown hne hb hgt hcpt hcur hcurz P HVNa HAa HIRa HBa HGNa
    go_wp2_with fail
    go_loopw [16] (fun i' wr => ∃ j : Nat, j ≤ K ∧ i' = .int .i64 (j : Int) ∧ IntRow wr gt 2 K ∧ ArrIs wr A G C b r d m s i K ls ∧ IntsAt wr vn ls ∧ IntRow wr g 2 q ∧ Below w.heap.size w wr) (fun i' _ => K - (intOf i').toNat)
    case atStart => exact ⟨0, by omega, rfl, HIT.out, HAb.out, HVNb.out, HIRb.out, HBb.out⟩
    case round =>
      obtain ⟨j, hj, rfl, hit, ha, hvn, hir, hbel⟩ := hrel
      clear HIT HAb HVNb HIRb HBb
      have HIT := Lib.hid hit
      have HA := Lib.hid ha
      have HVN := Lib.hid hvn
      have HIR := Lib.hid hir
      have HB := Lib.hid hbel
      clear ha hvn hir hbel
      by_cases hlt : j < K
      · obtain ⟨z, hz⟩ := hit.cell hlt
        have hfr := hit.frozen j
        have j0 : (0 : Int) ≤ (j : Int) := by omega
        have j1 : (j : Int) < (K : Int) := by omega
        clear hit
        go_wp2
        go_roundw
        case rel => exact ⟨j + 1, by omega, by go_num, HIT.out.set j _, HA.out.grown (grown_set _ gt j _) (by simpa using HNE.out.1.1) (by simpa using HNE.out.1.2.1) (by simpa using HNE.out.1.2.2.1), HVN.out.gr (grown_set _ gt j _) (fun k hk => by simpa using HNE.out.2.2 k hk), HIR.out.grown (grown_set _ gt j _) (by simpa using HNE.out.1.2.2.2.1), HB.out.setCell HNE.out.1.2.2.2.2 _⟩
        case measure => simp [intOf]; omega
      · obtain rfl : j = K := by omega
        clear hit
        go_wp2_with fail
        go_loopw [17] (fun i' ws => ∃ k : Nat, k ≤ q ∧ i' = .int .i64 (k : Int) ∧ ArrIs ws A G C b r d m s i j ls ∧ IntsAt ws vn ls ∧ IntRow ws g 2 q ∧ Below w.heap.size w ws) (fun i' _ => q - (intOf i').toNat)
        case atStart => exact ⟨0, by omega, rfl, HA.out, HVN.out, HIR.out, HB.out⟩
        case round =>
          obtain ⟨k, hk, rfl, ha, hvn, hir, hbel⟩ := hrel
          clear HA HVN HIR HB HIT
          have HA := Lib.hid ha
          have HVN := Lib.hid hvn
          have HIR := Lib.hid hir
          have HB := Lib.hid hbel
          clear ha hvn hbel
          by_cases hlk : k < q
          · obtain ⟨z, hz⟩ := hir.cell hlk
            have hfr := hir.frozen k
            have j0 : (0 : Int) ≤ (k : Int) := by omega
            have j1 : (k : Int) < (q : Int) := by omega
            clear hir
            go_wp2
            go_roundw
            case rel => exact ⟨k + 1, by omega, by go_num, HA.out.grown (grown_set _ g k _) (by simpa using HNE.out.2.1.1) (by simpa using HNE.out.2.1.2.1) (by simpa using HNE.out.2.1.2.2), HVN.out.gr (grown_set _ g k _) HVG.out.1, HIR.out.set k _, HB.out.setCell HVG.out.2 _⟩
            case measure => simp [intOf]; omega
          · obtain rfl : k = q := by omega
            clear hir
            have P := Lib.hid (excells _ A G C b r d m s i _ _ HA.out)
            go_wp2_with fail
            with_reducible refine P.out.mono ?_
            rintro e wy ⟨ve, rfl, hown, hne, hb⟩
            have HVE := Lib.hid (IntsAt.of_own hown rfl)
            have HVNy := Lib.hid (HVN.out.kept hb)
            have HBy := Lib.hid (btr HB.out hb)
            clear hown hne hb P
            have P := Lib.hid (same06_true ve vn ls wy HVE.out HVNy.out (by have := HZL.out; omega))
            go_wp2_with fail
            with_reducible refine P.out.mono ?_
            rintro e wz ⟨rfl, hb⟩
            have HBz := Lib.hid (btr HBy.out hb)
            clear hb P
            go_wp2
            go_ret
            exact ⟨rfl, HBz.out⟩
end Go.Proofs.Ytcfmipgdhhogcaa
