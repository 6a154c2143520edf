/-
  The walk of ExactUnlike: it returns true. Conditions: the arguments are of their types.
-/
import Derived.Test.YtcfmipgdhhogcaaExs
namespace Go.Proofs.Ytcfmipgdhhogcaa
open Go.RowKit
set_option linter.unusedVariables false
set_option linter.unusedSimpArgs false

def shTwo : Sh := .agg (.cons (.int .i64) (.cons (.int .i64) .unit))
theorem valTwo {w : World} {v : Value} (h : shTwo.Val w v) : ∃ a b : Int, v = .agg #[.int .i64 a, .int .i64 b] := by
  obtain ⟨cs, rfl, h1⟩ := h
  obtain ⟨a, q, e, wa, h2⟩ := Sh.reads_int h1
  obtain ⟨b, q, rfl, wb, h3⟩ := Sh.reads_int h2
  obtain rfl := Sh.reads_unit h3
  exact ⟨a, b, by rw [agg_of_list e]⟩
/-- a right config, made of anything -/
theorem any_right (b r d m p q : Int) (p0 : 1 ≤ p) (p1 : p ≤ 59) (q0 : 1 ≤ q) (q1 : q ≤ 128) : rightB (anyI b p) (anyI r 4) (anyI d q) (anyI m 3) = true := by
  have h1 := anyI_bd b p p0
  have h2 := anyI_bd r 4 (by decide)
  have h3 := anyI_bd d q q0
  have h4 := anyI_bd m 3 (by decide)
  exact right_mk (by omega)
def AnyPost (w : World) (s : Int) (e : Ending) (w' : World) : Prop :=
  ∃ b r d m, e = .returned (.agg #[.int .i64 b, .int .i64 r, .int .i64 d, .int .i64 m, .int .u64 s]) ∧ rightB b r d m = true ∧ Below w.heap.size w w'
theorem any12 (b r d m s : Int) (w : World) : Calls Try.prog 15 #[.agg #[.int .i64 b, .int .i64 r, .int .i64 d, .int .i64 m, .int .u64 s], .int .i64 8, .int .i64 128] w (AnyPost w s) := by
  refine (any_any b r d m s 8 128 (by decide) (by decide) (by decide) (by decide) w).mono ?_
  rintro e w' ⟨rfl, hb⟩
  exact ⟨_, _, _, _, rfl, any_right _ _ _ _ _ _ (by decide) (by decide) (by decide) (by decide), hb⟩
/-- exact.New of an exact level, its number of keys a natural number -/
def NewPost12 (w : World) (b r d m s l : Int) (e : Ending) (w' : World) : Prop :=
  ∃ A G C K, e = .returned (.tuple #[.pointer (some ⟨A, 0, none⟩), .int .i64 0]) ∧ w.heap.size ≤ A ∧ w.heap.size ≤ G ∧ w.heap.size ≤ C ∧ keysI b r d m l = ((K : Nat) : Int) ∧ 1 ≤ K ∧ K ≤ 128 ∧ ArrIs w' A G C b r d m s l K (List.replicate K 0) ∧ Below w.heap.size w w'
theorem new12 (b r d m s l : Int) (h : exactB b r d m l = true) (w : World) :
    Calls Try.prog 9 #[.agg #[.int .i64 b, .int .i64 r, .int .i64 d, .int .i64 m, .int .u64 s], .int .i64 l] w (NewPost12 w b r d m s l) := by
  have hk := of_decide_eq_true h
  have hkr := keys_right hk.1
  refine (exnew_yes b r d m s l h w).mono ?_
  rintro e w' ⟨A, G, C, rfl, hA, hG, hC, ha, hb⟩
  refine ⟨A, G, C, (keysI b r d m l).toNat, rfl, hA, hG, hC, by omega, by omega, by omega, ?_, hb⟩
  simpa using ha

theorem upd0 {K : Nat} {m x : Int} (hK : 1 ≤ K) (h0 : 0 ≤ x) (h1 : x ≤ 1000) : chkI K m (List.replicate K 0) 0 x = 0 ∧ updZ K m (List.replicate K 0) 0 x = (List.replicate K 0).set 0 x := by
  have hc : cellD (List.replicate K 0) 0 = 0 := by simp [cellD, List.getElem?_replicate]; split <;> rfl
  have h : chkI K m (List.replicate K 0) 0 x = 0 := by
    unfold chkI
    rw [if_neg (by omega), if_neg (by omega), hc, if_pos ⟨by omega, by omega⟩]
  exact ⟨h, by unfold updZ; rw [if_pos h, hc, Int.zero_add]⟩
theorem cells_two (K : Nat) (x : Int) : ∀ (i : Nat) (u : Int), ((List.replicate K 0).set 0 x)[i]? = some u → u = 0 ∨ u = x ∧ i = 0 := by
  intro i u h
  rw [List.getElem?_set] at h
  split at h
  · split at h
    · right; simp at h; omega
    · cases h
  · rw [List.getElem?_replicate] at h
    split at h
    · left; simpa using h.symm
    · cases h
theorem fit_two (K : Nat) (x y : Int) (hx : 0 ≤ x ∧ x ≤ 1000) (hy : 0 ≤ y ∧ y ≤ 1000) : Fit (List.zipWith (fun a b => a + b) ((List.replicate K 0).set 0 x) ((List.replicate K 0).set 0 y)) := by
  intro u hu
  obtain ⟨i, hi⟩ := List.getElem?_of_mem hu
  rw [List.getElem?_zipWith] at hi
  cases h1 : ((List.replicate K (0 : Int)).set 0 x)[i]? with
  | none => rw [h1] at hi; simp at hi
  | some a =>
    cases h2 : ((List.replicate K (0 : Int)).set 0 y)[i]? with
    | none => rw [h1, h2] at hi; simp at hi
    | some b =>
      rw [h1, h2] at hi
      have := cells_two K x i a h1
      have := cells_two K y i b h2
      simp at hi
      omega
theorem cell_two (K : Nat) (hK : 1 ≤ K) (x y : Int) : cellD (List.zipWith (fun a b => a + b) ((List.replicate K 0).set 0 x) ((List.replicate K 0).set 0 y)) 0 = x + y := by
  unfold cellD
  rw [List.getElem?_zipWith, List.getElem?_set, List.getElem?_set]
  simp
  rw [if_pos (by omega), if_pos (by omega)]
  rfl
theorem cfgEq_sym (b r d m s b' r' d' m' s' : Int) : cfgEq b r d m s b' r' d' m' s' = cfgEq b' r' d' m' s' b r d m s := by
  unfold cfgEq
  apply decide_eq_decide.2
  constructor <;> (rintro ⟨h1, h2, h3, h4, h5⟩; exact ⟨h1.symm, h2.symm, h3.symm, h4.symm, h5.symm⟩)

set_option maxRecDepth 100000 in
set_option maxHeartbeats 8000000 in
theorem ExactUnlike_walk (v0 v1 v2 : Value) (w : World) (h0 : shCfg.Val w v0) (h1 : shCfg.Val w v1) (h2 : shTwo.Val w v2) :
    Calls Try.prog 6 #[v0, v1, v2] w fun e w' => e = .returned (.bool true) ∧ Below w.heap.size w w' := by
  obtain ⟨xb, xr, xd, xm, s, rfl, -, -, -, -, -⟩ := valCfg h0
  obtain ⟨yb, yr, yd, ym, s', rfl, -, -, -, -, -⟩ := valCfg h1
  obtain ⟨l0, l1, rfl⟩ := valTwo h2
  clear h0 h1 h2
  have hgd : Try.prog.eqGuardType Try.prog.depth 24 = false := by kernel_rfl
  have PS := Lib.hid shown12
  have PA1 := Lib.hid (any12 xb xr xd xm s)
  have PA2 := Lib.hid (any12 yb yr yd ym s')
  obtain ⟨g1, g2, g3, hb1, hsz1⟩ := news3 w (.cells #[.int .i64 xb, .int .i64 xr, .int .i64 xd, .int .i64 xm, .int .u64 s] 24) (.cells #[.int .i64 yb, .int .i64 yr, .int .i64 yd, .int .i64 ym, .int .u64 s'] 24) (.cells #[.int .i64 l0, .int .i64 l1] 50)
  have hx1 : Blk _ w.heap.size 24 #[.int .i64 xb, .int .i64 xr, .int .i64 xd, .int .i64 xm, .int .u64 s] := g1
  have hy1 : Blk _ (w.heap.size + 1) 24 #[.int .i64 yb, .int .i64 yr, .int .i64 yd, .int .i64 ym, .int .u64 s'] := g2
  have hl1 : Blk _ (w.heap.size + 1 + 1) 50 #[.int .i64 l0, .int .i64 l1] := g3
  have HX1 := Lib.hid hx1
  have HY1 := Lib.hid hy1
  have HL1 := Lib.hid hl1
  have HB1 := Lib.hid hb1
  clear g1 g2 g3 hx1 hy1 hl1 hb1 hsz1
  go_enter Try.func6, Try.ntmps6
  go_wp2_with fail
  with_reducible refine (PS.out _).mono ?_
  rintro e w2 ⟨rfl, hb⟩
  have HX2 := Lib.hid (HX1.out.kept hb)
  have HY2 := Lib.hid (HY1.out.kept hb)
  have HL2 := Lib.hid (HL1.out.kept hb)
  have HB2 := Lib.hid (btr HB1.out hb)
  have hx := HX2.out
  clear hb HX1 HY1 HL1 HB1
  go_wp2_with (refine wpList_load_row rfl 24 _ rfl w.heap.size rfl 24 _ (0, 0) _ hx Try.underlying24 rfl (by kernel_rfl) ?_)
  with_reducible refine (PA1.out _).mono ?_
  rintro e w3 ⟨b, r, d, m, rfl, hr, hb⟩
  have HR := Lib.hid hr
  have HY3 := Lib.hid (HY2.out.kept hb)
  have HL3 := Lib.hid (HL2.out.kept hb)
  have HB3 := Lib.hid (btr HB2.out hb)
  have hy := HY3.out.alloc (.cells #[.int .i64 b, .int .i64 r, .int .i64 d, .int .i64 m, .int .u64 s] 24)
  clear hb hr hx HX2 HY2 HL2 HB2
  go_wp2_with (refine wpList_load_row rfl 24 _ rfl (w.heap.size + 1) rfl 24 _ (0, 0) _ hy Try.underlying24 rfl (by kernel_rfl) ?_)
  with_reducible refine (PA2.out _).mono ?_
  rintro e w4 ⟨b', r', d', m', rfl, hr', hb⟩
  have HR' := Lib.hid hr'
  have HC4 : Hid (Blk w4 w3.heap.size 24 #[.int .i64 b, .int .i64 r, .int .i64 d, .int .i64 m, .int .u64 s]) := Lib.hid ((Blk.new w3 _ _).kept hb)
  have HL4 := Lib.hid ((HL3.out.alloc _).kept hb)
  have HB4 := Lib.hid (btr (HB3.out.alloc HB3.out.size _) hb)
  have hc := HC4.out.alloc (.cells #[.int .i64 b', .int .i64 r', .int .i64 d', .int .i64 m', .int .u64 s'] 24)
  have q0 := (HL4.out.alloc (.cells #[.int .i64 b', .int .i64 r', .int .i64 d', .int .i64 m', .int .u64 s'] 24)).cell 0
  simp at q0
  clear hb hr' hy HY3 HL3 HB3
  go_wp2_with (refine wpList_load_row rfl 24 _ rfl w3.heap.size rfl 24 _ (0, 0) _ hc Try.underlying24 rfl (by kernel_rfl) ?_)
  with_reducible refine (top_any b r d m s l0 HR.out _).mono ?_
  rintro e w5 ⟨i, rfl, hex, hb⟩
  have HI := Lib.hid hex
  have HC5 := Lib.hid ((HC4.out.alloc _).kept hb)
  have HD5 : Hid (Blk w5 w4.heap.size 24 #[.int .i64 b', .int .i64 r', .int .i64 d', .int .i64 m', .int .u64 s']) := Lib.hid ((Blk.new w4 _ _).kept hb)
  have HL5 := Lib.hid ((HL4.out.alloc _).kept hb)
  have HB5 := Lib.hid (btr (HB4.out.alloc HB4.out.size _) hb)
  have hd := HD5.out
  have q1 := HL5.out.cell 1
  simp at q1
  clear hex hb hc q0 HC4 HL4 HB4
  go_wp2_with (refine wpList_load_row rfl 24 _ rfl w4.heap.size rfl 24 _ (0, 0) _ hd Try.underlying24 rfl (by kernel_rfl) ?_)
  with_reducible refine (top_any b' r' d' m' s' l1 HR'.out _).mono ?_
  rintro e w6 ⟨k, rfl, hex, hb⟩
  have HJ := Lib.hid hex
  have HC6 := Lib.hid (HC5.out.kept hb)
  have HD6 := Lib.hid (HD5.out.kept hb)
  have HB6 := Lib.hid (btr HB5.out hb)
  have hc := HC6.out
  clear hex hb hd q1 HC5 HD5 HL5 HB5
  go_wp2_with (refine wpList_load_row rfl 24 _ rfl w3.heap.size rfl 24 _ (0, 0) _ hc Try.underlying24 rfl (by kernel_rfl) ?_)
  with_reducible refine (new12 b r d m s i HI.out _).mono ?_
  rintro e w7 ⟨A, G, C, K, rfl, hA, hG, hC, hk, hK0, hK1, ha, hb⟩
  have HA7 := Lib.hid ha
  have HC7 := Lib.hid (HC6.out.kept hb)
  have HD7 := Lib.hid (HD6.out.kept hb)
  have HB7 := Lib.hid (btr HB6.out hb)
  have hlA := ha.ltA
  have hlG := ha.2.ltG
  have hlC := ha.2.ltC
  have hlP := HC6.out.lt
  have hlQ := HD6.out.lt
  have HK := Lib.hid hk
  have hd := HD7.out
  have hs6 := HB6.out.size
  have hs7 := hb.size
  have HN1 : Hid (A < w7.heap.size ∧ G < w7.heap.size ∧ C < w7.heap.size ∧ w3.heap.size < C ∧ w4.heap.size < C ∧ w.heap.size ≤ C ∧ w6.heap.size ≤ w7.heap.size) := ⟨hlA, hlG, hlC, by omega, by omega, by omega, hs7⟩
  have HLT : Hid (w3.heap.size < w6.heap.size ∧ w4.heap.size < w6.heap.size ∧ w.heap.size ≤ w6.heap.size) := ⟨hlP, hlQ, hs6⟩
  clear ha hb hc hk hA hG hC HC6 HD6 HB6 hlA hlG hlC hlP hlQ hs6 hs7
  go_wp2_with (refine wpList_load_row rfl 24 _ rfl w4.heap.size rfl 24 _ (0, 0) _ hd Try.underlying24 rfl (by kernel_rfl) ?_)
  with_reducible refine (new12 b' r' d' m' s' k HJ.out _).mono ?_
  rintro e w8 ⟨B, H, D, K', rfl, hB, hH, hD, hk, hK0', hK1', ha, hb⟩
  have HA8 := Lib.hid (HA7.out.kept hb)
  have HC8 := Lib.hid (HC7.out.kept hb)
  have HD8 := Lib.hid (HD7.out.kept hb)
  have HB8 := Lib.hid (btr HB7.out hb)
  have HZ8 := Lib.hid ha
  have HK' := Lib.hid hk
  have HN : Hid ((A ≠ D ∧ G ≠ D ∧ C ≠ D) ∧ (B ≠ C ∧ H ≠ C ∧ D ≠ C) ∧ (w3.heap.size ≠ C ∧ w3.heap.size ≠ D ∧ w4.heap.size ≠ C ∧ w4.heap.size ≠ D) ∧ w.heap.size ≤ C ∧ w.heap.size ≤ D) := by
    obtain ⟨h1, h2, h3, h4, h5, h6, h7⟩ := HN1.out
    obtain ⟨h8, h9, h10⟩ := HLT.out
    exact ⟨⟨by omega, by omega, by omega⟩, ⟨by omega, by omega, by omega⟩, ⟨by omega, by omega, by omega, by omega⟩, by omega, by omega⟩
  have PU : Hid (Calls Try.prog 17 #[.pointer (some ⟨A, 0, none⟩), .int .u64 0, .int .i64 5] w8 (UpdPost w8 A G C b r d m s i K (List.replicate K 0) 0 5)) := Lib.hid (exupdate w8 A G C b r d m s i K 0 _ 5 HA8.out ⟨by decide, by decide⟩ (by decide))
  have HU5 := Lib.hid (upd0 (K := K) (m := m) (x := 5) hK0 (by decide) (by decide))
  have HU3 := Lib.hid (upd0 (K := K') (m := m') (x := 3) hK0' (by decide) (by decide))
  clear ha hb hd hk hB hH hD HN1 HLT HC7 HD7 HB7 HA7
  go_wp2_with fail
  with_reducible refine PU.out.mono ?_
  rintro e w9 ⟨he, ha, hg⟩
  rw [HU5.out.1] at he
  subst he
  rw [HU5.out.2] at ha
  have HA9 := Lib.hid ha
  have HZ9 := Lib.hid (HZ8.out.grown hg (by simpa using HN.out.2.1.1) (by simpa using HN.out.2.1.2.1) (by simpa using HN.out.2.1.2.2))
  have HC9 := Lib.hid (HC8.out.grown hg (by simpa using HN.out.2.2.1.1))
  have HD9 := Lib.hid (HD8.out.grown hg (by simpa using HN.out.2.2.1.2.2.1))
  have HB9 := Lib.hid (bgr HB8.out hg HN.out.2.2.2.1)
  clear ha hg PU HA8 HZ8 HC8 HD8 HB8
  have PU : Hid (Calls Try.prog 17 #[.pointer (some ⟨B, 0, none⟩), .int .u64 0, .int .i64 3] w9 (UpdPost w9 B H D b' r' d' m' s' k K' (List.replicate K' 0) 0 3)) := Lib.hid (exupdate w9 B H D b' r' d' m' s' k K' 0 _ 3 HZ9.out ⟨by decide, by decide⟩ (by decide))
  go_wp2_with fail
  with_reducible refine PU.out.mono ?_
  rintro e wa ⟨he, ha, hg⟩
  rw [HU3.out.1] at he
  subst he
  rw [HU3.out.2] at ha
  have HZa := Lib.hid ha
  have HAa := Lib.hid (HA9.out.grown hg (by simpa using HN.out.1.1) (by simpa using HN.out.1.2.1) (by simpa using HN.out.1.2.2))
  have HCa := Lib.hid (HC9.out.grown hg (by simpa using HN.out.2.2.1.2.1))
  have HDa := Lib.hid (HD9.out.grown hg (by simpa using HN.out.2.2.1.2.2.2))
  have HBa := Lib.hid (bgr HB9.out hg HN.out.2.2.2.2)
  clear ha hg PU HA9 HZ9 HC9 HD9 HB9
  have P := Lib.hid (exmerge_nil wa A)
  go_wp2_with fail
  with_reducible refine P.out.mono ?_
  rintro e wb ⟨rfl, hb⟩
  have HAb := Lib.hid (HAa.out.kept hb)
  have HZb := Lib.hid (HZa.out.kept hb)
  have HCb := Lib.hid (HCa.out.kept hb)
  have HDb := Lib.hid (HDa.out.kept hb)
  have HBb := Lib.hid (btr HBa.out hb)
  clear hb P HAa HZa HCa HDa HBa
  have P := Lib.hid (exsub_nil wb A G C b r d m s i K _ HAb.out)
  go_wp2_with fail
  with_reducible refine P.out.mono ?_
  rintro e wc ⟨rfl, hb⟩
  have HAc := Lib.hid (HAb.out.kept hb)
  have HZc := Lib.hid (HZb.out.kept hb)
  have HCc := Lib.hid (HCb.out.kept hb)
  have HDc := Lib.hid (HDb.out.kept hb)
  have HBc := Lib.hid (btr HBb.out hb)
  clear hb P HAb HZb HCb HDb HBb
  have P := Lib.hid (excells wc A G C b r d m s i K _ HAc.out)
  go_wp2_with fail
  with_reducible refine P.out.mono ?_
  rintro e wd ⟨v, rfl, hown, hne, hb⟩
  have HV := Lib.hid (IntsAt.of_own hown rfl)
  have HAd := Lib.hid (HAc.out.kept hb)
  have HZd := Lib.hid (HZc.out.kept hb)
  have HCd := Lib.hid (HCc.out.kept hb)
  have HDd := Lib.hid (HDc.out.kept hb)
  have HBd := Lib.hid (btr HBc.out hb)
  clear hown hne hb P HAc HZc HCc HDc HBc
  have EQ := eqCfg b r d m s b' r' d' m' s'
  cases hq : cfgEq b r d m s b' r' d' m' s' with
  | false =>
    rw [hq] at EQ
    have hne : cfgEq b' r' d' m' s' b r d m s = false ∨ i ≠ k := .inl (by rw [← cfgEq_sym]; exact hq)
    have P := Lib.hid (exmerge_unlike wd A G C B H D b r d m s i b' r' d' m' s' k K K' _ _ HAd.out HZd.out hne)
    have HNE := Lib.hid hne
    clear hq hne
    go_wp2_with fail
    with_reducible refine P.out.mono ?_
    rintro e we ⟨rfl, hb⟩
    have HAe := Lib.hid (HAd.out.kept hb)
    have HZe := Lib.hid (HZd.out.kept hb)
    have HCe := Lib.hid (HCd.out.kept hb)
    have HDe := Lib.hid (HDd.out.kept hb)
    have HVe := Lib.hid (HV.out.kept hb)
    have HBe := Lib.hid (btr HBd.out hb)
    have hc := HCe.out
    have hd := HDe.out
    clear hb P HAd HZd HCd HDd HBd HV
    have P := Lib.hid (exsub_unlike we A G C B H D b r d m s i b' r' d' m' s' k K K' _ _ HAe.out HZe.out HNE.out)
    go_wp2_with (first | refine wpList_load_row rfl 24 _ rfl w3.heap.size rfl 24 _ (0, 0) _ hc Try.underlying24 rfl (by kernel_rfl) ?_ | refine wpList_load_row rfl 24 _ rfl w4.heap.size rfl 24 _ (0, 0) _ hd Try.underlying24 rfl (by kernel_rfl) ?_)
    with_reducible refine P.out.mono ?_
    rintro e wf ⟨rfl, hb⟩
    have HAf := Lib.hid (HAe.out.kept hb)
    have HVf := Lib.hid (HVe.out.kept hb)
    have HBf := Lib.hid (btr HBe.out hb)
    clear hb P hc hd HAe HVe HBe HCe HDe HZe
    have P := Lib.hid (excells wf A G C b r d m s i K _ HAf.out)
    go_wp2_with fail
    with_reducible refine P.out.mono ?_
    rintro e wg ⟨v2, rfl, hown, hne, hb⟩
    have HV2 := Lib.hid (IntsAt.of_own hown rfl)
    have HVg := Lib.hid (HVf.out.kept hb)
    have HBg := Lib.hid (btr HBf.out hb)
    clear hown hne hb P HAf HVf HBf
    have P := Lib.hid (same06_true v2 v _ wg HV2.out HVg.out (by simp; omega))
    go_wp2_with fail
    with_reducible refine P.out.mono ?_
    rintro e wh ⟨rfl, hb⟩
    have HBh := Lib.hid (btr HBg.out hb)
    clear hb P
    go_wp2
    go_ret
    exact ⟨rfl, HBh.out⟩
  | true =>
    by_cases hik : i = k
    · have he := of_decide_eq_true hq
      obtain ⟨rfl, rfl, rfl, rfl, rfl⟩ := he
      subst hik
      obtain rfl : K = K' := by have h1 := HK.out; have h2 := HK'.out; omega
      rw [hq] at EQ
      have P := Lib.hid (exmerge_yes wd A G C B H D b r d m s i K _ _ HAd.out HZd.out (fit_two K 5 3 (by decide) (by decide)))
      have HF8 := Lib.hid (cell_two K hK0 5 3)
      clear hq
      go_wp2_with fail
      with_reducible refine P.out.mono ?_
      rintro e we ⟨rfl, ha, hg⟩
      have HAe := Lib.hid ha
      have HCe := Lib.hid (HCd.out.grown hg (by simpa using HN.out.2.2.1.1))
      have HDe := Lib.hid (HDd.out.grown hg (by simpa using HN.out.2.2.1.2.2.1))
      have HBe := Lib.hid (bgr HBd.out hg HN.out.2.2.2.1)
      have hc := HCe.out
      have hd := HDe.out
      clear ha hg P HAd HZd HCd HDd HBd
      have P : Hid (Calls Try.prog 18 #[.pointer (some ⟨A, 0, none⟩), .int .u64 0] we fun e w' => e = .returned (.tuple #[.int .i64 8, .int .i64 0]) ∧ we = w') := Lib.hid (by
        have := expoint_yes we A G C b r d m s i K 0 _ HAe.out hK0
        rw [HF8.out] at this
        exact this)
      go_wp2_with (first | refine wpList_load_row rfl 24 _ rfl w3.heap.size rfl 24 _ (0, 0) _ hc Try.underlying24 rfl (by kernel_rfl) ?_ | refine wpList_load_row rfl 24 _ rfl w4.heap.size rfl 24 _ (0, 0) _ hd Try.underlying24 rfl (by kernel_rfl) ?_)
      with_reducible refine P.out.mono ?_
      rintro e wf ⟨rfl, hwf⟩
      subst hwf
      go_wp2
      go_ret
      exact ⟨rfl, HBe.out⟩
    · have he := of_decide_eq_true hq
      rw [hq] at EQ
      have hne : cfgEq b' r' d' m' s' b r d m s = false ∨ i ≠ k := .inr hik
      have P := Lib.hid (exmerge_unlike wd A G C B H D b r d m s i b' r' d' m' s' k K K' _ _ HAd.out HZd.out hne)
      have HNE := Lib.hid hne
      have eik : (i == k) = false := by simpa using hik
      have eik2 : decide (i = k) = false := by simpa using hik
      clear hq hne he hik
      go_wp2_with fail
      with_reducible refine P.out.mono ?_
      rintro e we ⟨rfl, hb⟩
      have HAe := Lib.hid (HAd.out.kept hb)
      have HZe := Lib.hid (HZd.out.kept hb)
      have HCe := Lib.hid (HCd.out.kept hb)
      have HDe := Lib.hid (HDd.out.kept hb)
      have HVe := Lib.hid (HV.out.kept hb)
      have HBe := Lib.hid (btr HBd.out hb)
      have hc := HCe.out
      have hd := HDe.out
      clear hb P HAd HZd HCd HDd HBd HV
      have P := Lib.hid (exsub_unlike we A G C B H D b r d m s i b' r' d' m' s' k K K' _ _ HAe.out HZe.out HNE.out)
      go_wp2_with (first | refine wpList_load_row rfl 24 _ rfl w3.heap.size rfl 24 _ (0, 0) _ hc Try.underlying24 rfl (by kernel_rfl) ?_ | refine wpList_load_row rfl 24 _ rfl w4.heap.size rfl 24 _ (0, 0) _ hd Try.underlying24 rfl (by kernel_rfl) ?_)
      with_reducible refine P.out.mono ?_
      rintro e wf ⟨rfl, hb⟩
      have HAf := Lib.hid (HAe.out.kept hb)
      have HVf := Lib.hid (HVe.out.kept hb)
      have HBf := Lib.hid (btr HBe.out hb)
      clear hb P hc hd HAe HVe HBe HCe HDe HZe
      have P := Lib.hid (excells wf A G C b r d m s i K _ HAf.out)
      go_wp2_with fail
      with_reducible refine P.out.mono ?_
      rintro e wg ⟨v2, rfl, hown, hne, hb⟩
      have HV2 := Lib.hid (IntsAt.of_own hown rfl)
      have HVg := Lib.hid (HVf.out.kept hb)
      have HBg := Lib.hid (btr HBf.out hb)
      clear hown hne hb P HAf HVf HBf
      have P := Lib.hid (same06_true v2 v _ wg HV2.out HVg.out (by simp; omega))
      go_wp2_with fail
      with_reducible refine P.out.mono ?_
      rintro e wh ⟨rfl, hb⟩
      have HBh := Lib.hid (btr HBg.out hb)
      clear hb P
      go_wp2
      go_ret
      exact ⟨rfl, HBh.out⟩
end Go.Proofs.Ytcfmipgdhhogcaa
