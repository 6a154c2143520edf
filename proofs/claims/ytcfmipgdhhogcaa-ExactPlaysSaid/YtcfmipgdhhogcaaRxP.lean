/-
  The walk of ExactPlays: it returns true. Conditions: the arguments are of their types.
-/
import Derived.Test.YtcfmipgdhhogcaaRxM
import Derived.Deep.DeepCutAuto
namespace Go.Proofs.Ytcfmipgdhhogcaa
open Go.RowKit
set_option linter.unusedVariables false
set_option linter.unusedSimpArgs false

set_option maxRecDepth 100000 in
set_option maxHeartbeats 32000000 in
theorem ExactPlays_walk (v0 v1 v2 : Value) (w : World) (h0 : shCfg.Val w v0) (h1 : (Sh.int .i64).Val w v1) (h2 : shOps.Val w v2) :
    Calls Try.prog 7 #[v0, v1, v2] w fun e w' => e = .returned (.bool true) ∧ Below w.heap.size w w' := by
  obtain ⟨xb, xr, xd, xm, s, rfl, -, -, -, -, -⟩ := valCfg h0
  obtain ⟨lv, rfl, -⟩ := Sh.val_int h1
  obtain ⟨n, os, ks, ds, hl⟩ := ops_of_val h2
  clear h0 h1 h2
  obtain ⟨ao, cap, rfl, hmx, hd64, hcells⟩ := hl
  have HCL := Lib.hid hcells
  have HD64 := Lib.hid hd64
  clear hcells hd64
  have PS := Lib.hid shown12
  have PA1 := Lib.hid (any12 xb xr xd xm s)
  obtain ⟨mm, hmm⟩ : ∃ mm, mm = min n 60 := ⟨_, rfl⟩
  have HM := Lib.hid hmm
  clear hmm
  obtain ⟨g1, hb1, hsz1⟩ := news1 w (.cells #[.int .i64 xb, .int .i64 xr, .int .i64 xd, .int .i64 xm, .int .u64 s] 24)
  have hx1 : Blk _ w.heap.size 24 #[.int .i64 xb, .int .i64 xr, .int .i64 xd, .int .i64 xm, .int .u64 s] := g1
  have HX1 := Lib.hid hx1
  have HB1 := Lib.hid hb1
  clear g1 hx1 hb1 hsz1
  go_enter Try.func7, Try.ntmps7
  go_wp2_with fail
  with_reducible refine (PS.out _).mono ?_
  rintro e w2 ⟨rfl, hb⟩
  have HX2 := Lib.hid (HX1.out.kept hb)
  have HB2 := Lib.hid (btr HB1.out hb)
  have hx := HX2.out
  clear hb HX1 HB1
  go_wp2_with (refine wpList_load_row rfl 24 _ rfl w.heap.size rfl 24 _ (0, 0) _ hx Try.underlying24 rfl (by kernel_rfl) ?_)
  with_reducible refine (PA1.out _).mono ?_
  rintro e w3 ⟨b, r, d, m, rfl, hr, hb⟩
  have HR := Lib.hid hr
  have HB3 := Lib.hid ((btr HB2.out hb).alloc (btr HB2.out hb).size (.cells #[.int .i64 b, .int .i64 r, .int .i64 d, .int .i64 m, .int .u64 s] 24))
  have hc : Blk (w3.alloc (.cells #[.int .i64 b, .int .i64 r, .int .i64 d, .int .i64 m, .int .u64 s] 24)) w3.heap.size 24 #[.int .i64 b, .int .i64 r, .int .i64 d, .int .i64 m, .int .u64 s] := Blk.new w3 _ _
  clear hb hr hx HX2 HB2
  go_wp2_with (refine wpList_load_row rfl 24 _ rfl w3.heap.size rfl 24 _ (0, 0) _ hc Try.underlying24 rfl (by kernel_rfl) ?_)
  with_reducible refine (top_any b r d m s lv HR.out _).mono ?_
  rintro e w4 ⟨i, rfl, hex, hb⟩
  have HI := Lib.hid hex
  have HC4 := Lib.hid (hc.kept hb)
  have HB4 := Lib.hid (btr HB3.out hb)
  generalize w3.heap.size = P at *
  clear hex hb hc HB3
  have hc := HC4.out
  go_wp2_with (refine wpList_load_row rfl 24 _ rfl P rfl 24 _ (0, 0) _ hc Try.underlying24 rfl (by kernel_rfl) ?_)
  with_reducible refine (new12 b r d m s i HI.out _).mono ?_
  rintro e w5 ⟨A, G, C, K, rfl, hA, hG, hC, hk, hK0, hK1, ha, hb⟩
  have HK := Lib.hid hk
  have HA5 := Lib.hid ha
  have HC5 := Lib.hid (HC4.out.kept hb)
  have HB5 := Lib.hid (btr HB4.out hb)
  have HS5 : Hid (w4.heap.size ≤ C ∧ C < w5.heap.size ∧ w.heap.size ≤ w4.heap.size) := Lib.hid ⟨hC, ha.2.ltC, HB4.out.size⟩
  clear ha hb hk hA hG hC hc HC4 HB4
  have hc := HC5.out
  go_wp2_with (refine wpList_load_row rfl 24 _ rfl P rfl 24 _ (0, 0) _ hc Try.underlying24 rfl (by kernel_rfl) ?_)
  with_reducible refine (new12 b r d m s i HI.out _).mono ?_
  rintro e w6 ⟨B, H, D, K', rfl, hB, hH, hD, hk, -, -, ha, hb⟩
  obtain rfl : K' = K := by have h1 := HK.out; omega
  have HZ6 := Lib.hid ha
  have HA6 := Lib.hid (HA5.out.kept hb)
  have HC6 := Lib.hid (HC5.out.kept hb)
  have HB6 := Lib.hid (btr HB5.out hb)
  have HS6 : Hid (w5.heap.size ≤ D ∧ D < w6.heap.size ∧ C < D ∧ w.heap.size ≤ D ∧ w.heap.size ≤ w6.heap.size ∧ C < w6.heap.size) := Lib.hid ⟨hD, ha.2.ltC, by have := HS5.out; omega, by have := HS5.out; omega, HB6.out.size, by have := HS5.out; have := hb.size; omega⟩
  have PK := fun w => rkeys_any b r d m s i w
  simp only [hk] at PK
  have PK := Lib.hid PK
  have PX := Lib.hid (rxnew b r d m s i K' hK1)
  clear ha hb hk hB hH hD hc HC5 HA5 HB5 HK
  generalize hza : List.replicate K' (0 : Int) = z0 at *
  have HZ0 : Hid (z0.length = K') := Lib.hid (by rw [← hza, List.length_replicate])
  clear hza
  go_wp2_with fail
  refine wp_region_held_drew (S := fun w' => Blk w' P 24 #[.int .i64 b, .int .i64 r, .int .i64 d, .int .i64 m, .int .u64 s] ∧ Below w6.heap.size w6 w') (by kernel_rfl) (by exact ⟨HC6.out.drewN 1, below_drewN (Below.refl _ _) 1⟩) (fun hHeld => ?_)
  refine wpAnyH_take (i := 0) (v := ?_) rfl (by kernel_rfl) (by kernel_rfl) (by kernel_rfl) (fun _ _ _ h => h) (Or.inl ⟨by rfl, ?_⟩) (by assumption) ?_
  rotate_left
  · intro w hSw
    refine (exec_load_row 24 _ rfl _ rfl 24 _ (0, 0) _ hSw.1 Try.underlying24 rfl (by kernel_rfl)).trans ?_
    go_simp
    try with_reducible rfl
  simp only [Act.put, List.setIfInBounds_toArray, List.set_cons_zero, List.set_cons_succ, List.getElem_toArray, List.getElem_cons_zero, List.getElem_cons_succ]
  refine wpAnyH_take (i := 1) (v := ?_) rfl (by kernel_rfl) (by kernel_rfl) (by kernel_rfl) (fun _ _ _ h => h) (Or.inl ⟨by rfl, ?_⟩) (by assumption) ?_
  rotate_left
  · intro w hSw
    try dsimp only at hSw
    go_simp
    try with_reducible rfl
  simp only [Act.put, List.setIfInBounds_toArray, List.set_cons_zero, List.set_cons_succ, List.getElem_toArray, List.getElem_cons_zero, List.getElem_cons_succ]
  refine wpAnyH_take (i := 2) (v := ?_) rfl (by kernel_rfl) (by kernel_rfl) (by kernel_rfl) (fun _ _ _ h => h) (Or.inl ⟨by rfl, ?_⟩) (by assumption) ?_
  rotate_left
  · intro w hSw
    refine (exec_load_row 24 _ rfl _ rfl 24 _ (0, 0) _ hSw.1 Try.underlying24 rfl (by kernel_rfl)).trans ?_
    go_simp
    try with_reducible rfl
  simp only [Act.put, List.setIfInBounds_toArray, List.set_cons_zero, List.set_cons_succ, List.getElem_toArray, List.getElem_cons_zero, List.getElem_cons_succ]
  refine wpAnyH_take (i := 3) (v := ?_) rfl (by kernel_rfl) (by kernel_rfl) (by kernel_rfl) (fun _ _ _ h => h) (Or.inl ⟨by rfl, ?_⟩) (by assumption) ?_
  rotate_left
  · intro w hSw
    try dsimp only at hSw
    go_simp
    try with_reducible rfl
  simp only [Act.put, List.setIfInBounds_toArray, List.set_cons_zero, List.set_cons_succ, List.getElem_toArray, List.getElem_cons_zero, List.getElem_cons_succ]
  refine wpAnyH_ready (rs := [4]) (by kernel_rfl) (by simp) ?_
  refine AllReadyH.cons rfl (fun Kc hKc => ?_) AllReadyH.nil
  go_simp
  go_wp2_with (first | (go_at_call 12; refine (PK.out _).mono ?_; rintro e w7 ⟨rfl, hb'⟩) | (go_at_call 23; refine (PX.out _).mono ?_; rintro e w8 ⟨R, L, rfl, hR, hL, hra, hb'⟩; have HRA := Lib.hid hra; have HRL : Hid (w6.heap.size ≤ R ∧ w6.heap.size ≤ L) := Lib.hid ⟨Nat.le_trans hHeld.2.size hR, Nat.le_trans hHeld.2.size hL⟩; clear hra))
  refine hKc.out _ _ ?_ (fun hHeld => ?_)
  · first | assumption | exact ⟨hHeld.1.kept hb', hHeld.2.trans (hb'.mono hHeld.2.size)⟩
  clear hKc Kc
  refine wpAnyH_ready (rs := [5]) (by kernel_rfl) (by simp) ?_
  refine AllReadyH.cons rfl (fun Kc hKc => ?_) AllReadyH.nil
  go_simp
  go_wp2_with (first | (go_at_call 12; refine (PK.out _).mono ?_; rintro e w7 ⟨rfl, hb'⟩) | (go_at_call 23; refine (PX.out _).mono ?_; rintro e w8 ⟨R, L, rfl, hR, hL, hra, hb'⟩; have HRA := Lib.hid hra; have HRL : Hid (w6.heap.size ≤ R ∧ w6.heap.size ≤ L) := Lib.hid ⟨Nat.le_trans hHeld.2.size hR, Nat.le_trans hHeld.2.size hL⟩; clear hra))
  refine hKc.out _ _ ?_ (fun hHeld => ?_)
  · first | assumption | exact ⟨hHeld.1.kept hb', hHeld.2.trans (hb'.mono hHeld.2.size)⟩
  clear hKc Kc
  refine wpAnyH_take (i := 6) (v := ?_) rfl (by kernel_rfl) (by kernel_rfl) (by kernel_rfl) (fun _ _ _ h => h) (Or.inl ⟨by rfl, ?_⟩) (by assumption) ?_
  rotate_left
  · intro w hSw
    try dsimp only at hSw
    go_simp
    try with_reducible rfl
  simp only [Act.put, List.setIfInBounds_toArray, List.set_cons_zero, List.set_cons_succ, List.getElem_toArray, List.getElem_cons_zero, List.getElem_cons_succ]
  refine wpAnyH_done (by kernel_rfl) ?_ _
  have HC8 := Lib.hid hHeld.1
  have HA8 := Lib.hid (HA6.out.kept hHeld.2)
  have HZ8 := Lib.hid (HZ6.out.kept hHeld.2)
  have HB8 := Lib.hid (btr HB6.out hHeld.2)
  have HS8 : Hid (w6.heap.size ≤ w8.heap.size ∧ R < w8.heap.size ∧ L < w8.heap.size) := Lib.hid ⟨hHeld.2.size, HRA.out.ltR, HRA.out.ltL⟩
  clear hHeld HC6 HA6 HZ6 HB6
  go_wp2_with fail
  refine wp_region_held_drew (S := fun w' => Blk w' P 24 #[.int .i64 b, .int .i64 r, .int .i64 d, .int .i64 m, .int .u64 s] ∧ Below w8.heap.size w8 w') (by kernel_rfl) (by exact ⟨HC8.out.drewN 1, below_drewN (Below.refl _ _) 1⟩) (fun hHeld => ?_)
  refine wpAnyH_take (i := 0) (v := ?_) rfl (by kernel_rfl) (by kernel_rfl) (by kernel_rfl) (fun _ _ _ h => h) (Or.inl ⟨by rfl, ?_⟩) (by assumption) ?_
  rotate_left
  · intro w hSw
    refine (exec_load_row 24 _ rfl _ rfl 24 _ (0, 0) _ hSw.1 Try.underlying24 rfl (by kernel_rfl)).trans ?_
    go_simp
    try with_reducible rfl
  simp only [Act.put, List.setIfInBounds_toArray, List.set_cons_zero, List.set_cons_succ, List.getElem_toArray, List.getElem_cons_zero, List.getElem_cons_succ]
  refine wpAnyH_take (i := 1) (v := ?_) rfl (by kernel_rfl) (by kernel_rfl) (by kernel_rfl) (fun _ _ _ h => h) (Or.inl ⟨by rfl, ?_⟩) (by assumption) ?_
  rotate_left
  · intro w hSw
    try dsimp only at hSw
    go_simp
    try with_reducible rfl
  simp only [Act.put, List.setIfInBounds_toArray, List.set_cons_zero, List.set_cons_succ, List.getElem_toArray, List.getElem_cons_zero, List.getElem_cons_succ]
  refine wpAnyH_take (i := 2) (v := ?_) rfl (by kernel_rfl) (by kernel_rfl) (by kernel_rfl) (fun _ _ _ h => h) (Or.inl ⟨by rfl, ?_⟩) (by assumption) ?_
  rotate_left
  · intro w hSw
    refine (exec_load_row 24 _ rfl _ rfl 24 _ (0, 0) _ hSw.1 Try.underlying24 rfl (by kernel_rfl)).trans ?_
    go_simp
    try with_reducible rfl
  simp only [Act.put, List.setIfInBounds_toArray, List.set_cons_zero, List.set_cons_succ, List.getElem_toArray, List.getElem_cons_zero, List.getElem_cons_succ]
  refine wpAnyH_take (i := 3) (v := ?_) rfl (by kernel_rfl) (by kernel_rfl) (by kernel_rfl) (fun _ _ _ h => h) (Or.inl ⟨by rfl, ?_⟩) (by assumption) ?_
  rotate_left
  · intro w hSw
    try dsimp only at hSw
    go_simp
    try with_reducible rfl
  simp only [Act.put, List.setIfInBounds_toArray, List.set_cons_zero, List.set_cons_succ, List.getElem_toArray, List.getElem_cons_zero, List.getElem_cons_succ]
  refine wpAnyH_ready (rs := [4]) (by kernel_rfl) (by simp) ?_
  refine AllReadyH.cons rfl (fun Kc hKc => ?_) AllReadyH.nil
  go_simp
  go_wp2_with (first | (go_at_call 12; refine (PK.out _).mono ?_; rintro e w9 ⟨rfl, hb'⟩) | (go_at_call 23; refine (PX.out _).mono ?_; rintro e wq ⟨Q, M, rfl, hR, hL, hra, hb'⟩; have HQA := Lib.hid hra; have HQL : Hid (w8.heap.size ≤ Q ∧ w8.heap.size ≤ M) := Lib.hid ⟨Nat.le_trans hHeld.2.size hR, Nat.le_trans hHeld.2.size hL⟩; clear hra))
  refine hKc.out _ _ ?_ (fun hHeld => ?_)
  · first | assumption | exact ⟨hHeld.1.kept hb', hHeld.2.trans (hb'.mono hHeld.2.size)⟩
  clear hKc Kc
  refine wpAnyH_ready (rs := [5]) (by kernel_rfl) (by simp) ?_
  refine AllReadyH.cons rfl (fun Kc hKc => ?_) AllReadyH.nil
  go_simp
  go_wp2_with (first | (go_at_call 12; refine (PK.out _).mono ?_; rintro e w9 ⟨rfl, hb'⟩) | (go_at_call 23; refine (PX.out _).mono ?_; rintro e wq ⟨Q, M, rfl, hR, hL, hra, hb'⟩; have HQA := Lib.hid hra; have HQL : Hid (w8.heap.size ≤ Q ∧ w8.heap.size ≤ M) := Lib.hid ⟨Nat.le_trans hHeld.2.size hR, Nat.le_trans hHeld.2.size hL⟩; clear hra))
  refine hKc.out _ _ ?_ (fun hHeld => ?_)
  · first | assumption | exact ⟨hHeld.1.kept hb', hHeld.2.trans (hb'.mono hHeld.2.size)⟩
  clear hKc Kc
  refine wpAnyH_take (i := 6) (v := ?_) rfl (by kernel_rfl) (by kernel_rfl) (by kernel_rfl) (fun _ _ _ h => h) (Or.inl ⟨by rfl, ?_⟩) (by assumption) ?_
  rotate_left
  · intro w hSw
    try dsimp only at hSw
    go_simp
    try with_reducible rfl
  simp only [Act.put, List.setIfInBounds_toArray, List.set_cons_zero, List.set_cons_succ, List.getElem_toArray, List.getElem_cons_zero, List.getElem_cons_succ]
  refine wpAnyH_done (by kernel_rfl) ?_ _
  have HST : Hid (St w wq P A G C B H D R L Q M b r d m s i K' z0 z0 z0 z0) := Lib.hid (by
    have h1 := HS5.out
    have h2 := HS6.out
    have h3 := HS8.out
    have h4 := HRL.out
    have h5 := HQL.out
    exact ⟨hHeld.1, HA8.out.kept hHeld.2, HZ8.out.kept hHeld.2, HRA.out.kept hHeld.2, HQA.out, HZ0.out, HZ0.out, ⟨⟨by omega, by omega, by omega⟩, ⟨by omega, by omega⟩, by omega, by omega⟩, ⟨⟨by omega, by omega⟩, ⟨by omega, by omega⟩, by omega, by omega⟩, btr HB8.out hHeld.2⟩)
  clear hHeld HA8 HZ8 HRA HQA HC8 HB8 HS5 HS6 HS8 HRL HQL PX PK
  go_wp2_with fail
  go_loopw [9, 11, 13, 14, 15] (fun pa pb pr pq pi wr => ∃ (j A G C B H D R L Q M : Nat) (zs hs : List Int), j ≤ mm ∧ pi = .int .i64 (j : Int) ∧ pa = .pointer (some ⟨A, 0, none⟩) ∧ pb = .pointer (some ⟨B, 0, none⟩) ∧ pr = .pointer (some ⟨R, 0, none⟩) ∧ pq = .pointer (some ⟨Q, 0, none⟩) ∧ St w wr P A G C B H D R L Q M b r d m s i K' zs hs zs hs) (fun _ _ _ _ pi _ => mm - (intOf pi).toNat)
  case atStart => exact ⟨0, A, G, C, B, H, D, R, L, Q, M, z0, z0, by omega, rfl, rfl, rfl, rfl, rfl, HST.out⟩
  case round =>
    clear HST HZ0
    obtain ⟨j, A, G, C, B, H, D, R, L, Q, M, zs, hs, hj, rfl, rfl, rfl, rfl, rfl, hst⟩ := hrel
    have HS := Lib.hid hst
    clear hst
    by_cases hlt : j < mm
    · have hjn : j < n := by have := HM.out; omega
      have hj2 : j < 60 := by have := HM.out; omega
      obtain ⟨bb, off, rfl, hbb, hcc⟩ := HCL.out (by omega)
      obtain ⟨c0, c1, c2⟩ := hcc j hjn
      have HDJ := Lib.hid (HD64.out j hjn)
      have p0 := (HS.out.below.cell (p := ⟨bb, off + j * 3, none⟩) hbb).trans c0
      have HP1 := Lib.hid ((HS.out.below.cell (p := ⟨bb, off + j * 3 + 1, none⟩) hbb).trans c1)
      have HP2 := Lib.hid ((HS.out.below.cell (p := ⟨bb, off + j * 3 + 2, none⟩) hbb).trans c2)
      have HBW := Lib.hid hbb
      have HW0 := Lib.hid c0
      have HW1 := Lib.hid c1
      have HW2 := Lib.hid c2
      have HBB : Hid (bb < wr.heap.size) := Lib.hid (Nat.lt_of_lt_of_le hbb HS.out.below.size)
      have i0 : (0 : Int) ≤ (j : Int) := by omega
      have i1 : (j : Int) < (n : Int) := by omega
      have i2 : (j : Int) < 60 := by omega
      generalize os j = kd at *
      generalize ks j = ke at *
      generalize ds j = dj at *
      clear hcc hbb c0 c1 c2
      go_upto_region 14 with fail
      iterate 8 (first | go_values | go_skip | go_guarded | go_step | go_upon)
      go_cut [9, 11, 13, 14, 16, 17] (fun s9 s11 s13 s14 s16 s17 wx => ∃ (er : Int) (A G C B H D R L Q M : Nat) (za zb : List Int), s9 = .pointer (some ⟨A, 0, none⟩) ∧ s11 = .pointer (some ⟨B, 0, none⟩) ∧ s13 = .pointer (some ⟨R, 0, none⟩) ∧ s14 = .pointer (some ⟨Q, 0, none⟩) ∧ s16 = .int .i64 er ∧ s17 = .int .i64 er ∧ St w wx P A G C B H D R L Q M b r d m s i K' za zb za zb)
      case first =>
        rename_i J KK hJ hKK
        by_cases hk1 : kd = 1
        · exact sw_one w wr P A G C B H D R L Q M b r d m s i K' zs hs n cap bb off j ke kd dj HS.out HBW.out HW0.out HW1.out HW2.out HDJ.out hjn hmx hK1 hk1 _ _ _ _ _ _ _ _ _ _ _ _ _ _ _ _ _ _ _ _ _ _ _ _ _ _ _ _ _ _ _ _ _ _ _ _ _ _ _ _ _ _ _ _ _ _ _ _ _ _ _ _ _ _ _ _ _ _ _ _ _ _ _ _ _ _ _ _ _ _ _ _ _ _ _ _ _ _ _ _ _ _ _ _ _ _ _ _ _ _ _ _ _ _ _ _ _ _ _ _ _ _ _ _ _ _ _ _ _ _ _ _ _ _ _ _ _ _ _ _ _ _ _ _ _ _ _ _ _ _ _ _ _ _ _ _ _ _ _ _ _ _ _ _ _ _ _ _ _ _ _ _ _ _ _ _ _ _ _ _ _ _ _ _ _ _ _ _ _ _ _ _ _ _ _ _ _ _ _ _ _ _ _ _ _ _ _ _ _ _ _ _ _ _ _ _ _ _ _ _ _ _ _ _ _ _ _ _ _ _ _ _ _ _ _ _ _ _ _ _ _ _ _ _ _ _ _ _ _ _ _ _ _ _ _ _ _ _ _ _ KK _ _ _ _ (by intro er A G C B H D R L Q M zs hs u18 u19 u20 u21 u22 u23 u24 u25 u26 u81 u82 u83 u84 u85 u86 u87 u88 u89 u90 u91 u92 u93 u94 u95 u96 u97 u98 u99 u100 u101 u102 u103 u104 u105 u106 u107 u108 u109 u110 u111 u112 u113 u114 u115 u116 u117 u118 u119 u120 u121 u122 u123 u124 u125 u126 u127 u128 u129 u130 u131 u132 u133 u134 u135 u136 u137 u138 u139 u140 u141 u142 u143 u144 u145 u146 u147 u148 u149 u150 u151 u152 u153 u154 u155 u156 u157 u158 u159 u160 u161 u162 u163 u164 u165 u166 u167 u168 u169 u170 u171 u172 u173 u174 u175 u176 u177 u178 u179 u180 u181 u182 u183 u184 u185 u186 u187 u188 u189 u190 u191 u192 u193 u194 u195 u196 u197 u198 u199 u200 u201 u202 u203 u204 u205 u206 u207 u208 u209 u210 u211 wt hst; refine hKK _ _ (Met.intro (hJ _ _ ?_)); (repeat apply Exists.intro); exact ⟨⟨er, A, G, C, B, H, D, R, L, Q, M, zs, hs, rfl, rfl, rfl, rfl, rfl, rfl, hst⟩, rfl⟩)
        by_cases hk2 : kd = 2
        · exact sw_two w wr P A G C B H D R L Q M b r d m s i K' zs hs n cap bb off j ke kd dj HS.out HBW.out HW0.out HW1.out HW2.out HDJ.out hjn hmx hK1 hk2 _ _ _ _ _ _ _ _ _ _ _ _ _ _ _ _ _ _ _ _ _ _ _ _ _ _ _ _ _ _ _ _ _ _ _ _ _ _ _ _ _ _ _ _ _ _ _ _ _ _ _ _ _ _ _ _ _ _ _ _ _ _ _ _ _ _ _ _ _ _ _ _ _ _ _ _ _ _ _ _ _ _ _ _ _ _ _ _ _ _ _ _ _ _ _ _ _ _ _ _ _ _ _ _ _ _ _ _ _ _ _ _ _ _ _ _ _ _ _ _ _ _ _ _ _ _ _ _ _ _ _ _ _ _ _ _ _ _ _ _ _ _ _ _ _ _ _ _ _ _ _ _ _ _ _ _ _ _ _ _ _ _ _ _ _ _ _ _ _ _ _ _ _ _ _ _ _ _ _ _ _ _ _ _ _ _ _ _ _ _ _ _ _ _ _ _ _ _ _ _ _ _ _ _ _ _ _ _ _ _ _ _ _ _ _ _ _ _ _ _ _ _ _ _ _ _ _ _ _ _ _ _ _ _ _ _ _ _ _ _ KK _ _ _ _ (by intro er A G C B H D R L Q M zs hs u18 u19 u20 u21 u22 u23 u24 u25 u26 u81 u82 u83 u84 u85 u86 u87 u88 u89 u90 u91 u92 u93 u94 u95 u96 u97 u98 u99 u100 u101 u102 u103 u104 u105 u106 u107 u108 u109 u110 u111 u112 u113 u114 u115 u116 u117 u118 u119 u120 u121 u122 u123 u124 u125 u126 u127 u128 u129 u130 u131 u132 u133 u134 u135 u136 u137 u138 u139 u140 u141 u142 u143 u144 u145 u146 u147 u148 u149 u150 u151 u152 u153 u154 u155 u156 u157 u158 u159 u160 u161 u162 u163 u164 u165 u166 u167 u168 u169 u170 u171 u172 u173 u174 u175 u176 u177 u178 u179 u180 u181 u182 u183 u184 u185 u186 u187 u188 u189 u190 u191 u192 u193 u194 u195 u196 u197 u198 u199 u200 u201 u202 u203 u204 u205 u206 u207 u208 u209 u210 u211 wt hst; refine hKK _ _ (Met.intro (hJ _ _ ?_)); (repeat apply Exists.intro); exact ⟨⟨er, A, G, C, B, H, D, R, L, Q, M, zs, hs, rfl, rfl, rfl, rfl, rfl, rfl, hst⟩, rfl⟩)
        by_cases hk3 : kd = 3
        · exact sw_three w wr P A G C B H D R L Q M b r d m s i K' zs hs n cap bb off j ke kd dj HS.out HBW.out HW0.out HW1.out HW2.out HDJ.out hjn hmx hK1 hk3 _ _ _ _ _ _ _ _ _ _ _ _ _ _ _ _ _ _ _ _ _ _ _ _ _ _ _ _ _ _ _ _ _ _ _ _ _ _ _ _ _ _ _ _ _ _ _ _ _ _ _ _ _ _ _ _ _ _ _ _ _ _ _ _ _ _ _ _ _ _ _ _ _ _ _ _ _ _ _ _ _ _ _ _ _ _ _ _ _ _ _ _ _ _ _ _ _ _ _ _ _ _ _ _ _ _ _ _ _ _ _ _ _ _ _ _ _ _ _ _ _ _ _ _ _ _ _ _ _ _ _ _ _ _ _ _ _ _ _ _ _ _ _ _ _ _ _ _ _ _ _ _ _ _ _ _ _ _ _ _ _ _ _ _ _ _ _ _ _ _ _ _ _ _ _ _ _ _ _ _ _ _ _ _ _ _ _ _ _ _ _ _ _ _ _ _ _ _ _ _ _ _ _ _ _ _ _ _ _ _ _ _ _ _ _ _ _ _ _ _ _ _ _ _ _ _ _ _ _ _ _ _ _ _ _ _ _ _ _ _ KK _ _ _ _ (by intro er A G C B H D R L Q M zs hs u18 u19 u20 u21 u22 u23 u24 u25 u26 u81 u82 u83 u84 u85 u86 u87 u88 u89 u90 u91 u92 u93 u94 u95 u96 u97 u98 u99 u100 u101 u102 u103 u104 u105 u106 u107 u108 u109 u110 u111 u112 u113 u114 u115 u116 u117 u118 u119 u120 u121 u122 u123 u124 u125 u126 u127 u128 u129 u130 u131 u132 u133 u134 u135 u136 u137 u138 u139 u140 u141 u142 u143 u144 u145 u146 u147 u148 u149 u150 u151 u152 u153 u154 u155 u156 u157 u158 u159 u160 u161 u162 u163 u164 u165 u166 u167 u168 u169 u170 u171 u172 u173 u174 u175 u176 u177 u178 u179 u180 u181 u182 u183 u184 u185 u186 u187 u188 u189 u190 u191 u192 u193 u194 u195 u196 u197 u198 u199 u200 u201 u202 u203 u204 u205 u206 u207 u208 u209 u210 u211 wt hst; refine hKK _ _ (Met.intro (hJ _ _ ?_)); (repeat apply Exists.intro); exact ⟨⟨er, A, G, C, B, H, D, R, L, Q, M, zs, hs, rfl, rfl, rfl, rfl, rfl, rfl, hst⟩, rfl⟩)
        by_cases hk4 : kd = 4 ∨ kd = 5 ∨ kd = 6
        · exact sw_mid w wr P A G C B H D R L Q M b r d m s i K' zs hs n cap bb off j ke kd dj HS.out HBW.out HW0.out HW1.out HW2.out HDJ.out hjn hmx hK1 hk4 _ _ _ _ _ _ _ _ _ _ _ _ _ _ _ _ _ _ _ _ _ _ _ _ _ _ _ _ _ _ _ _ _ _ _ _ _ _ _ _ _ _ _ _ _ _ _ _ _ _ _ _ _ _ _ _ _ _ _ _ _ _ _ _ _ _ _ _ _ _ _ _ _ _ _ _ _ _ _ _ _ _ _ _ _ _ _ _ _ _ _ _ _ _ _ _ _ _ _ _ _ _ _ _ _ _ _ _ _ _ _ _ _ _ _ _ _ _ _ _ _ _ _ _ _ _ _ _ _ _ _ _ _ _ _ _ _ _ _ _ _ _ _ _ _ _ _ _ _ _ _ _ _ _ _ _ _ _ _ _ _ _ _ _ _ _ _ _ _ _ _ _ _ _ _ _ _ _ _ _ _ _ _ _ _ _ _ _ _ _ _ _ _ _ _ _ _ _ _ _ _ _ _ _ _ _ _ _ _ _ _ _ _ _ _ _ _ _ _ _ _ _ _ _ _ _ _ _ _ _ _ _ _ _ _ _ _ _ _ _ KK _ _ _ _ (by intro er A G C B H D R L Q M zs hs u18 u19 u20 u21 u22 u23 u24 u25 u26 u81 u82 u83 u84 u85 u86 u87 u88 u89 u90 u91 u92 u93 u94 u95 u96 u97 u98 u99 u100 u101 u102 u103 u104 u105 u106 u107 u108 u109 u110 u111 u112 u113 u114 u115 u116 u117 u118 u119 u120 u121 u122 u123 u124 u125 u126 u127 u128 u129 u130 u131 u132 u133 u134 u135 u136 u137 u138 u139 u140 u141 u142 u143 u144 u145 u146 u147 u148 u149 u150 u151 u152 u153 u154 u155 u156 u157 u158 u159 u160 u161 u162 u163 u164 u165 u166 u167 u168 u169 u170 u171 u172 u173 u174 u175 u176 u177 u178 u179 u180 u181 u182 u183 u184 u185 u186 u187 u188 u189 u190 u191 u192 u193 u194 u195 u196 u197 u198 u199 u200 u201 u202 u203 u204 u205 u206 u207 u208 u209 u210 u211 wt hst; refine hKK _ _ (Met.intro (hJ _ _ ?_)); (repeat apply Exists.intro); exact ⟨⟨er, A, G, C, B, H, D, R, L, Q, M, zs, hs, rfl, rfl, rfl, rfl, rfl, rfl, hst⟩, rfl⟩)
        · exact sw_other w wr P A G C B H D R L Q M b r d m s i K' zs hs n cap bb off j ke kd dj HS.out HBW.out HW0.out HW1.out HW2.out HDJ.out hjn hmx hK1 ⟨hk1, hk2, hk3, fun h => hk4 (.inl h), fun h => hk4 (.inr (.inl h)), fun h => hk4 (.inr (.inr h))⟩ _ _ _ _ _ _ _ _ _ _ _ _ _ _ _ _ _ _ _ _ _ _ _ _ _ _ _ _ _ _ _ _ _ _ _ _ _ _ _ _ _ _ _ _ _ _ _ _ _ _ _ _ _ _ _ _ _ _ _ _ _ _ _ _ _ _ _ _ _ _ _ _ _ _ _ _ _ _ _ _ _ _ _ _ _ _ _ _ _ _ _ _ _ _ _ _ _ _ _ _ _ _ _ _ _ _ _ _ _ _ _ _ _ _ _ _ _ _ _ _ _ _ _ _ _ _ _ _ _ _ _ _ _ _ _ _ _ _ _ _ _ _ _ _ _ _ _ _ _ _ _ _ _ _ _ _ _ _ _ _ _ _ _ _ _ _ _ _ _ _ _ _ _ _ _ _ _ _ _ _ _ _ _ _ _ _ _ _ _ _ _ _ _ _ _ _ _ _ _ _ _ _ _ _ _ _ _ _ _ _ _ _ _ _ _ _ _ _ _ _ _ _ _ _ _ _ _ _ _ _ _ _ _ _ _ _ _ _ _ _ KK _ _ _ _ (by intro er A G C B H D R L Q M zs hs u18 u19 u20 u21 u22 u23 u24 u25 u26 u81 u82 u83 u84 u85 u86 u87 u88 u89 u90 u91 u92 u93 u94 u95 u96 u97 u98 u99 u100 u101 u102 u103 u104 u105 u106 u107 u108 u109 u110 u111 u112 u113 u114 u115 u116 u117 u118 u119 u120 u121 u122 u123 u124 u125 u126 u127 u128 u129 u130 u131 u132 u133 u134 u135 u136 u137 u138 u139 u140 u141 u142 u143 u144 u145 u146 u147 u148 u149 u150 u151 u152 u153 u154 u155 u156 u157 u158 u159 u160 u161 u162 u163 u164 u165 u166 u167 u168 u169 u170 u171 u172 u173 u174 u175 u176 u177 u178 u179 u180 u181 u182 u183 u184 u185 u186 u187 u188 u189 u190 u191 u192 u193 u194 u195 u196 u197 u198 u199 u200 u201 u202 u203 u204 u205 u206 u207 u208 u209 u210 u211 wt hst; refine hKK _ _ (Met.intro (hJ _ _ ?_)); (repeat apply Exists.intro); exact ⟨⟨er, A, G, C, B, H, D, R, L, Q, M, zs, hs, rfl, rfl, rfl, rfl, rfl, rfl, hst⟩, rfl⟩)
      case rest =>
        obtain ⟨er, A, G, C, B, H, D, R, L, Q, M, zs, hs, rfl, rfl, rfl, rfl, rfl, rfl, hst⟩ := hcut
        have HSt := Lib.hid hst
        clear hst HS p0 HW0 HP1 HP2 HDJ HBB HW1 HW2 HBW
        generalize wc = wt at *
        obtain ⟨cr, hc6, hir⟩ := HSt.out.rcell
        obtain ⟨cq, hd6, hiq⟩ := HSt.out.qcell
        have HIR := Lib.hid hir
        have HIQ := Lib.hid hiq
        have HC6 := Lib.hid hc6
        have HD6 := Lib.hid hd6
        have HRB : Hid (R < wt.heap.size ∧ Q < wt.heap.size) := Lib.hid ⟨HSt.out.fr.ltR, HSt.out.fq.ltR⟩
        have HLEN : Hid ((zs).length ≤ 100000 ∧ (hs).length ≤ 100000) := Lib.hid (by have h1 := HSt.out.lr; have h2 := HSt.out.lq; exact ⟨by omega, by omega⟩)
        have PCA := Lib.hid (fun w' (hb : Below wt.heap.size wt w') => excells w' A G C b r d m s i K' _ (HSt.out.fa.kept hb))
        have PCB := Lib.hid (fun w' (hb : Below wt.heap.size wt w') => excells w' B H D b r d m s i K' _ (HSt.out.fb.kept hb))
        clear hir hiq hc6 hd6
        go_wp2_with fail
        refine wp_region_held_drew (S := fun w' => Below wt.heap.size wt w') (by kernel_rfl) (by exact below_drewN (Below.refl _ _) 1) (fun hHeld => ?_)
        refine wpAnyH_take (i := 0) (v := ?_) rfl (by kernel_rfl) (by kernel_rfl) (by kernel_rfl) (fun _ _ _ h => h) (Or.inl ⟨by rfl, ?_⟩) (by assumption) ?_
        rotate_left
        · intro w hSw
          try dsimp only at hSw
          go_simp
          try with_reducible rfl
        simp only [Act.put, List.setIfInBounds_toArray, List.set_cons_zero, List.set_cons_succ, List.getElem_toArray, List.getElem_cons_zero, List.getElem_cons_succ]
        refine wpAnyH_take (i := 1) (v := ?_) rfl (by kernel_rfl) (by kernel_rfl) (by kernel_rfl) (fun _ _ _ h => h) (Or.inl ⟨by rfl, ?_⟩) (by assumption) ?_
        rotate_left
        · intro w hSw
          try dsimp only at hSw
          go_simp
          try with_reducible rfl
        simp only [Act.put, List.setIfInBounds_toArray, List.set_cons_zero, List.set_cons_succ, List.getElem_toArray, List.getElem_cons_zero, List.getElem_cons_succ]
        refine wpAnyH_take (i := 2) (v := ?_) rfl (by kernel_rfl) (by kernel_rfl) (by kernel_rfl) (fun _ _ _ h => h) (Or.inl ⟨by rfl, ?_⟩) (by assumption) ?_
        rotate_left
        · intro w hSw
          try dsimp only at hSw
          go_simp
          try with_reducible rfl
        simp only [Act.put, List.setIfInBounds_toArray, List.set_cons_zero, List.set_cons_succ, List.getElem_toArray, List.getElem_cons_zero, List.getElem_cons_succ]
        refine wpAnyH_take (i := 3) (v := ?_) rfl (by kernel_rfl) (by kernel_rfl) (by kernel_rfl) (fun _ _ _ h => h) (Or.inl ⟨by rfl, ?_⟩) (by assumption) ?_
        rotate_left
        · intro w hSw
          try dsimp only at hSw
          go_simp
          try with_reducible rfl
        simp only [Act.put, List.setIfInBounds_toArray, List.set_cons_zero, List.set_cons_succ, List.getElem_toArray, List.getElem_cons_zero, List.getElem_cons_succ]
        refine wpAnyH_take (i := 4) (v := ?_) rfl (by kernel_rfl) (by kernel_rfl) (by kernel_rfl) (fun _ _ _ h => h) (Or.inl ⟨by rfl, ?_⟩) (by assumption) ?_
        rotate_left
        · intro w hSw
          try dsimp only at hSw
          go_simp
          try with_reducible rfl
        simp only [Act.put, List.setIfInBounds_toArray, List.set_cons_zero, List.set_cons_succ, List.getElem_toArray, List.getElem_cons_zero, List.getElem_cons_succ]
        refine wpAnyH_take (i := 6) (v := ?_) rfl (by kernel_rfl) (by kernel_rfl) (by kernel_rfl) (fun _ _ _ h => h) (Or.inl ⟨by rfl, ?_⟩) (by assumption) ?_
        rotate_left
        · intro w hSw
          try dsimp only at hSw
          go_simp
          try with_reducible rfl
        simp only [Act.put, List.setIfInBounds_toArray, List.set_cons_zero, List.set_cons_succ, List.getElem_toArray, List.getElem_cons_zero, List.getElem_cons_succ]
        refine wpAnyH_take (i := 7) (v := ?_) rfl (by kernel_rfl) (by kernel_rfl) (by kernel_rfl) (fun _ _ _ h => h) (Or.inl ⟨by rfl, ?_⟩) (by assumption) ?_
        rotate_left
        · intro w hSw
          try dsimp only at hSw
          go_simp
          try with_reducible rfl
        simp only [Act.put, List.setIfInBounds_toArray, List.set_cons_zero, List.set_cons_succ, List.getElem_toArray, List.getElem_cons_zero, List.getElem_cons_succ]
        refine wpAnyH_take (i := 8) (v := ?_) rfl (by kernel_rfl) (by kernel_rfl) (by kernel_rfl) (fun _ _ _ h => h) (Or.inl ⟨by rfl, ?_⟩) (by assumption) ?_
        rotate_left
        · intro w hSw
          try dsimp only at hSw
          go_simp
          try with_reducible rfl
        simp only [Act.put, List.setIfInBounds_toArray, List.set_cons_zero, List.set_cons_succ, List.getElem_toArray, List.getElem_cons_zero, List.getElem_cons_succ]
        refine wpAnyH_take (i := 9) (v := ?_) rfl (by kernel_rfl) (by kernel_rfl) (by kernel_rfl) (fun _ _ _ h => h) (Or.inl ⟨by rfl, ?_⟩) (by assumption) ?_
        rotate_left
        · intro w hSw
          have q6 := (hSw.cell (p := ⟨R, 6, none⟩) HRB.out.1).trans HC6.out
          have p6 := (hSw.cell (p := ⟨Q, 6, none⟩) HRB.out.2).trans HD6.out
          go_simp
          try with_reducible rfl
        simp only [Act.put, List.setIfInBounds_toArray, List.set_cons_zero, List.set_cons_succ, List.getElem_toArray, List.getElem_cons_zero, List.getElem_cons_succ]
        refine wpAnyH_ready (rs := [5]) (by kernel_rfl) (by simp) ?_
        refine AllReadyH.cons rfl (fun Kc hKc => ?_) AllReadyH.nil
        go_simp
        go_wp2_with (first | (go_at_call 11; first | (refine (PCA.out _ hHeld).mono ?_; rintro e wa ⟨va, rfl, hown, hne, hb'⟩; have HVA := Lib.hid (IntsAt.of_own hown rfl); clear hown hne PCA) | (refine (PCB.out _ hHeld).mono ?_; rintro e wc ⟨vc, rfl, hown, hne, hb'⟩; have HVC := Lib.hid (IntsAt.of_own hown rfl); clear hown hne)) | (go_at_call 19; first | (refine (same06_true va _ _ _ HVA.out (HIR.out.kept hHeld) HLEN.out.1).mono ?_; rintro e wb ⟨rfl, hb'⟩; clear HVA) | (refine (same06_true vc _ _ _ HVC.out (HIQ.out.kept hHeld) HLEN.out.2).mono ?_; rintro e wd ⟨rfl, hb'⟩)))
        refine hKc.out _ _ ?_ (fun hHeld => ?_)
        · first | exact hHeld.trans (hb'.mono hHeld.size)
        clear hKc Kc
        refine wpAnyH_ready (rs := [10]) (by kernel_rfl) (by simp) ?_
        refine AllReadyH.cons rfl (fun Kc hKc => ?_) AllReadyH.nil
        go_simp
        go_wp2_with (first | (go_at_call 11; first | (refine (PCA.out _ hHeld).mono ?_; rintro e wa ⟨va, rfl, hown, hne, hb'⟩; have HVA := Lib.hid (IntsAt.of_own hown rfl); clear hown hne PCA) | (refine (PCB.out _ hHeld).mono ?_; rintro e wc ⟨vc, rfl, hown, hne, hb'⟩; have HVC := Lib.hid (IntsAt.of_own hown rfl); clear hown hne)) | (go_at_call 19; first | (refine (same06_true va _ _ _ HVA.out (HIR.out.kept hHeld) HLEN.out.1).mono ?_; rintro e wb ⟨rfl, hb'⟩; clear HVA) | (refine (same06_true vc _ _ _ HVC.out (HIQ.out.kept hHeld) HLEN.out.2).mono ?_; rintro e wd ⟨rfl, hb'⟩)))
        refine hKc.out _ _ ?_ (fun hHeld => ?_)
        · first | exact hHeld.trans (hb'.mono hHeld.size)
        clear hKc Kc
        refine wpAnyH_take (i := 11) (v := ?_) rfl (by kernel_rfl) (by kernel_rfl) (by kernel_rfl) (fun _ _ _ h => h) (Or.inl ⟨by rfl, ?_⟩) (by assumption) ?_
        rotate_left
        · intro w hSw
          try dsimp only at hSw
          go_simp
          try with_reducible rfl
        simp only [Act.put, List.setIfInBounds_toArray, List.set_cons_zero, List.set_cons_succ, List.getElem_toArray, List.getElem_cons_zero, List.getElem_cons_succ]
        refine wpAnyH_take (i := 12) (v := ?_) rfl (by kernel_rfl) (by kernel_rfl) (by kernel_rfl) (fun _ _ _ h => h) (Or.inl ⟨by rfl, ?_⟩) (by assumption) ?_
        rotate_left
        · intro w hSw
          try dsimp only at hSw
          go_simp
          try with_reducible rfl
        simp only [Act.put, List.setIfInBounds_toArray, List.set_cons_zero, List.set_cons_succ, List.getElem_toArray, List.getElem_cons_zero, List.getElem_cons_succ]
        refine wpAnyH_take (i := 13) (v := ?_) rfl (by kernel_rfl) (by kernel_rfl) (by kernel_rfl) (fun _ _ _ h => h) (Or.inl ⟨by rfl, ?_⟩) (by assumption) ?_
        rotate_left
        · intro w hSw
          try dsimp only at hSw
          go_simp
          try with_reducible rfl
        simp only [Act.put, List.setIfInBounds_toArray, List.set_cons_zero, List.set_cons_succ, List.getElem_toArray, List.getElem_cons_zero, List.getElem_cons_succ]
        refine wpAnyH_take (i := 14) (v := ?_) rfl (by kernel_rfl) (by kernel_rfl) (by kernel_rfl) (fun _ _ _ h => h) (Or.inl ⟨by rfl, ?_⟩) (by assumption) ?_
        rotate_left
        · intro w hSw
          try dsimp only at hSw
          go_simp
          try with_reducible rfl
        simp only [Act.put, List.setIfInBounds_toArray, List.set_cons_zero, List.set_cons_succ, List.getElem_toArray, List.getElem_cons_zero, List.getElem_cons_succ]
        refine wpAnyH_take (i := 16) (v := ?_) rfl (by kernel_rfl) (by kernel_rfl) (by kernel_rfl) (fun _ _ _ h => h) (Or.inl ⟨by rfl, ?_⟩) (by assumption) ?_
        rotate_left
        · intro w hSw
          try dsimp only at hSw
          go_simp
          try with_reducible rfl
        simp only [Act.put, List.setIfInBounds_toArray, List.set_cons_zero, List.set_cons_succ, List.getElem_toArray, List.getElem_cons_zero, List.getElem_cons_succ]
        refine wpAnyH_take (i := 17) (v := ?_) rfl (by kernel_rfl) (by kernel_rfl) (by kernel_rfl) (fun _ _ _ h => h) (Or.inl ⟨by rfl, ?_⟩) (by assumption) ?_
        rotate_left
        · intro w hSw
          try dsimp only at hSw
          go_simp
          try with_reducible rfl
        simp only [Act.put, List.setIfInBounds_toArray, List.set_cons_zero, List.set_cons_succ, List.getElem_toArray, List.getElem_cons_zero, List.getElem_cons_succ]
        refine wpAnyH_take (i := 18) (v := ?_) rfl (by kernel_rfl) (by kernel_rfl) (by kernel_rfl) (fun _ _ _ h => h) (Or.inl ⟨by rfl, ?_⟩) (by assumption) ?_
        rotate_left
        · intro w hSw
          try dsimp only at hSw
          go_simp
          try with_reducible rfl
        simp only [Act.put, List.setIfInBounds_toArray, List.set_cons_zero, List.set_cons_succ, List.getElem_toArray, List.getElem_cons_zero, List.getElem_cons_succ]
        refine wpAnyH_take (i := 19) (v := ?_) rfl (by kernel_rfl) (by kernel_rfl) (by kernel_rfl) (fun _ _ _ h => h) (Or.inl ⟨by rfl, ?_⟩) (by assumption) ?_
        rotate_left
        · intro w hSw
          have q6 := (hSw.cell (p := ⟨R, 6, none⟩) HRB.out.1).trans HC6.out
          have p6 := (hSw.cell (p := ⟨Q, 6, none⟩) HRB.out.2).trans HD6.out
          go_simp
          try with_reducible rfl
        simp only [Act.put, List.setIfInBounds_toArray, List.set_cons_zero, List.set_cons_succ, List.getElem_toArray, List.getElem_cons_zero, List.getElem_cons_succ]
        refine wpAnyH_ready (rs := [15]) (by kernel_rfl) (by simp) ?_
        refine AllReadyH.cons rfl (fun Kc hKc => ?_) AllReadyH.nil
        go_simp
        go_wp2_with (first | (go_at_call 11; first | (refine (PCA.out _ hHeld).mono ?_; rintro e wa ⟨va, rfl, hown, hne, hb'⟩; have HVA := Lib.hid (IntsAt.of_own hown rfl); clear hown hne PCA) | (refine (PCB.out _ hHeld).mono ?_; rintro e wc ⟨vc, rfl, hown, hne, hb'⟩; have HVC := Lib.hid (IntsAt.of_own hown rfl); clear hown hne)) | (go_at_call 19; first | (refine (same06_true va _ _ _ HVA.out (HIR.out.kept hHeld) HLEN.out.1).mono ?_; rintro e wb ⟨rfl, hb'⟩; clear HVA) | (refine (same06_true vc _ _ _ HVC.out (HIQ.out.kept hHeld) HLEN.out.2).mono ?_; rintro e wd ⟨rfl, hb'⟩)))
        refine hKc.out _ _ ?_ (fun hHeld => ?_)
        · first | exact hHeld.trans (hb'.mono hHeld.size)
        clear hKc Kc
        refine wpAnyH_ready (rs := [20]) (by kernel_rfl) (by simp) ?_
        refine AllReadyH.cons rfl (fun Kc hKc => ?_) AllReadyH.nil
        go_simp
        go_wp2_with (first | (go_at_call 11; first | (refine (PCA.out _ hHeld).mono ?_; rintro e wa ⟨va, rfl, hown, hne, hb'⟩; have HVA := Lib.hid (IntsAt.of_own hown rfl); clear hown hne PCA) | (refine (PCB.out _ hHeld).mono ?_; rintro e wc ⟨vc, rfl, hown, hne, hb'⟩; have HVC := Lib.hid (IntsAt.of_own hown rfl); clear hown hne)) | (go_at_call 19; first | (refine (same06_true va _ _ _ HVA.out (HIR.out.kept hHeld) HLEN.out.1).mono ?_; rintro e wb ⟨rfl, hb'⟩; clear HVA) | (refine (same06_true vc _ _ _ HVC.out (HIQ.out.kept hHeld) HLEN.out.2).mono ?_; rintro e wd ⟨rfl, hb'⟩)))
        refine hKc.out _ _ ?_ (fun hHeld => ?_)
        · first | exact hHeld.trans (hb'.mono hHeld.size)
        clear hKc Kc
        refine wpAnyH_take (i := 21) (v := ?_) rfl (by kernel_rfl) (by kernel_rfl) (by kernel_rfl) (fun _ _ _ h => h) (Or.inl ⟨by rfl, ?_⟩) (by assumption) ?_
        rotate_left
        · intro w hSw
          try dsimp only at hSw
          go_simp
          try with_reducible rfl
        simp only [Act.put, List.setIfInBounds_toArray, List.set_cons_zero, List.set_cons_succ, List.getElem_toArray, List.getElem_cons_zero, List.getElem_cons_succ]
        refine wpAnyH_take (i := 22) (v := ?_) rfl (by kernel_rfl) (by kernel_rfl) (by kernel_rfl) (fun _ _ _ h => h) (Or.inl ⟨by rfl, ?_⟩) (by assumption) ?_
        rotate_left
        · intro w hSw
          try dsimp only at hSw
          go_simp
          try with_reducible rfl
        simp only [Act.put, List.setIfInBounds_toArray, List.set_cons_zero, List.set_cons_succ, List.getElem_toArray, List.getElem_cons_zero, List.getElem_cons_succ]
        refine wpAnyH_done (by kernel_rfl) ?_ _
        have HSF := Lib.hid (HSt.out.kept hHeld)
        clear hHeld
        go_wp2
        go_roundw
        case rel => exact ⟨j + 1, A, G, C, B, H, D, R, L, Q, M, zs, hs, by omega, by go_num, rfl, rfl, rfl, rfl, HSF.out⟩
        case measure => simp [intOf]; omega
    · obtain rfl : j = mm := by omega
      have hd : (decide (j < n) = false ∧ decide ((j : Int) < (n : Int)) = false) ∨ ((decide (j < n) = true ∧ decide ((j : Int) < (n : Int)) = true) ∧ decide ((j : Int) < 60) = false ∧ decide (j < 60) = false) := by
        have := HM.out
        by_cases h1 : j < n
        · exact .inr ⟨⟨decide_eq_true h1, decide_eq_true (by omega)⟩, decide_eq_false (by omega), decide_eq_false (by omega)⟩
        · exact .inl ⟨decide_eq_false h1, decide_eq_false (by omega)⟩
      have hgd : Try.prog.eqGuardType Try.prog.depth 24 = false := by kernel_rfl
      have EQ := eqCfg b r d m s b r d m s
      have hq : cfgEq b r d m s b r d m s = true := by simp [cfgEq]
      rw [hq] at EQ
      clear hq
      rcases hd with ⟨d3, d5⟩ | ⟨⟨d3, d5⟩, d4, d6⟩
      all_goals
        go_wp2_with fail
        refine wp_region_held_drew (S := fun w' => ArrIs w' A G C b r d m s i K' zs ∧ Blk w' P 24 #[.int .i64 b, .int .i64 r, .int .i64 d, .int .i64 m, .int .u64 s] ∧ Below w.heap.size w w') (by kernel_rfl) (by first | exact ⟨HS.out.fa.drewN 1, HS.out.cfg.drewN 1, below_drewN HS.out.below 1⟩ | exact ⟨HS.out.fa.drewN 2, HS.out.cfg.drewN 2, below_drewN HS.out.below 2⟩) (fun hHeld => ?_)
        refine wpAnyH_take (i := 0) (v := ?_) rfl (by kernel_rfl) (by kernel_rfl) (by kernel_rfl) (fun _ _ _ h => h) (Or.inl ⟨by rfl, ?_⟩) (by assumption) ?_
        rotate_left
        · intro w hSw
          try dsimp only at hSw
          go_simp
          try with_reducible rfl
        simp only [Act.put, List.setIfInBounds_toArray, List.set_cons_zero, List.set_cons_succ, List.getElem_toArray, List.getElem_cons_zero, List.getElem_cons_succ]
        refine wpAnyH_take (i := 1) (v := ?_) rfl (by kernel_rfl) (by kernel_rfl) (by kernel_rfl) (fun _ _ _ h => h) (Or.inl ⟨by rfl, ?_⟩) (by assumption) ?_
        rotate_left
        · intro w hSw
          try dsimp only at hSw
          go_simp
          try with_reducible rfl
        simp only [Act.put, List.setIfInBounds_toArray, List.set_cons_zero, List.set_cons_succ, List.getElem_toArray, List.getElem_cons_zero, List.getElem_cons_succ]
        refine wpAnyH_take (i := 2) (v := ?_) rfl (by kernel_rfl) (by kernel_rfl) (by kernel_rfl) (fun _ _ _ h => h) (Or.inl ⟨by rfl, ?_⟩) (by assumption) ?_
        rotate_left
        · intro w hSw
          try dsimp only at hSw
          go_simp
          try with_reducible rfl
        simp only [Act.put, List.setIfInBounds_toArray, List.set_cons_zero, List.set_cons_succ, List.getElem_toArray, List.getElem_cons_zero, List.getElem_cons_succ]
        refine wpAnyH_take (i := 4) (v := ?_) rfl (by kernel_rfl) (by kernel_rfl) (by kernel_rfl) (fun _ _ _ h => h) (Or.inl ⟨by rfl, ?_⟩) (by assumption) ?_
        rotate_left
        · intro w hSw
          refine (exec_load_row 24 _ rfl _ rfl 24 _ (0, 0) _ hSw.2.1 Try.underlying24 rfl (by kernel_rfl)).trans ?_
          go_simp
          try with_reducible rfl
        simp only [Act.put, List.setIfInBounds_toArray, List.set_cons_zero, List.set_cons_succ, List.getElem_toArray, List.getElem_cons_zero, List.getElem_cons_succ]
        refine wpAnyH_ready (rs := [3]) (by kernel_rfl) (by simp) ?_
        refine AllReadyH.cons rfl (fun Kc hKc => ?_) AllReadyH.nil
        go_simp
        go_wp2_with (first | (go_at_call 14; refine (exlevel _ A G C b r d m s i K' _ hHeld.1).mono ?_; rintro e we ⟨rfl, hwe⟩; have hbq := beq_w hwe) | (go_at_call 13; refine (exconfig _ A G C b r d m s i K' _ hHeld.1).mono ?_; rintro e wf ⟨rfl, hbq⟩))
        refine hKc.out _ _ ?_ (fun hHeld => ?_)
        · first | exact ⟨hHeld.1.kept hbq, hHeld.2.1.kept hbq, btr hHeld.2.2 hbq⟩
        clear hKc Kc
        refine wpAnyH_take (i := 5) (v := ?_) rfl (by kernel_rfl) (by kernel_rfl) (by kernel_rfl) (fun _ _ _ h => h) (Or.inl ⟨by rfl, ?_⟩) (by assumption) ?_
        rotate_left
        · intro w hSw
          try dsimp only at hSw
          go_simp
          try with_reducible rfl
        simp only [Act.put, List.setIfInBounds_toArray, List.set_cons_zero, List.set_cons_succ, List.getElem_toArray, List.getElem_cons_zero, List.getElem_cons_succ]
        refine wpAnyH_take (i := 6) (v := ?_) rfl (by kernel_rfl) (by kernel_rfl) (by kernel_rfl) (fun _ _ _ h => h) (Or.inl ⟨by rfl, ?_⟩) (by assumption) ?_
        rotate_left
        · intro w hSw
          try dsimp only at hSw
          go_simp
          try with_reducible rfl
        simp only [Act.put, List.setIfInBounds_toArray, List.set_cons_zero, List.set_cons_succ, List.getElem_toArray, List.getElem_cons_zero, List.getElem_cons_succ]
        refine wpAnyH_take (i := 7) (v := ?_) rfl (by kernel_rfl) (by kernel_rfl) (by kernel_rfl) (fun _ _ _ h => h) (Or.inl ⟨by rfl, ?_⟩) (by assumption) ?_
        rotate_left
        · intro w hSw
          try dsimp only at hSw
          go_simp
          try with_reducible rfl
        simp only [Act.put, List.setIfInBounds_toArray, List.set_cons_zero, List.set_cons_succ, List.getElem_toArray, List.getElem_cons_zero, List.getElem_cons_succ]
        refine wpAnyH_take (i := 8) (v := ?_) rfl (by kernel_rfl) (by kernel_rfl) (by kernel_rfl) (fun _ _ _ h => h) (Or.inl ⟨by rfl, ?_⟩) (by assumption) ?_
        rotate_left
        · intro w hSw
          try dsimp only at hSw
          go_simp
          try with_reducible rfl
        simp only [Act.put, List.setIfInBounds_toArray, List.set_cons_zero, List.set_cons_succ, List.getElem_toArray, List.getElem_cons_zero, List.getElem_cons_succ]
        refine wpAnyH_take (i := 10) (v := ?_) rfl (by kernel_rfl) (by kernel_rfl) (by kernel_rfl) (fun _ _ _ h => h) (Or.inl ⟨by rfl, ?_⟩) (by assumption) ?_
        rotate_left
        · intro w hSw
          try dsimp only at hSw
          go_simp
          try with_reducible rfl
        simp only [Act.put, List.setIfInBounds_toArray, List.set_cons_zero, List.set_cons_succ, List.getElem_toArray, List.getElem_cons_zero, List.getElem_cons_succ]
        refine wpAnyH_ready (rs := [9]) (by kernel_rfl) (by simp) ?_
        refine AllReadyH.cons rfl (fun Kc hKc => ?_) AllReadyH.nil
        go_simp
        go_wp2_with (first | (go_at_call 14; refine (exlevel _ A G C b r d m s i K' _ hHeld.1).mono ?_; rintro e we ⟨rfl, hwe⟩; have hbq := beq_w hwe) | (go_at_call 13; refine (exconfig _ A G C b r d m s i K' _ hHeld.1).mono ?_; rintro e wf ⟨rfl, hbq⟩))
        refine hKc.out _ _ ?_ (fun hHeld => ?_)
        · first | exact ⟨hHeld.1.kept hbq, hHeld.2.1.kept hbq, btr hHeld.2.2 hbq⟩
        clear hKc Kc
        refine wpAnyH_take (i := 11) (v := ?_) rfl (by kernel_rfl) (by kernel_rfl) (by kernel_rfl) (fun _ _ _ h => h) (Or.inl ⟨by rfl, ?_⟩) (by assumption) ?_
        rotate_left
        · intro w hSw
          try dsimp only at hSw
          go_simp
          try with_reducible rfl
        simp only [Act.put, List.setIfInBounds_toArray, List.set_cons_zero, List.set_cons_succ, List.getElem_toArray, List.getElem_cons_zero, List.getElem_cons_succ]
        refine wpAnyH_take (i := 12) (v := ?_) rfl (by kernel_rfl) (by kernel_rfl) (by kernel_rfl) (fun _ _ _ h => h) (Or.inl ⟨by rfl, ?_⟩) (by assumption) ?_
        rotate_left
        · intro w hSw
          try dsimp only at hSw
          go_simp
          try with_reducible rfl
        simp only [Act.put, List.setIfInBounds_toArray, List.set_cons_zero, List.set_cons_succ, List.getElem_toArray, List.getElem_cons_zero, List.getElem_cons_succ]
        refine wpAnyH_take (i := 13) (v := ?_) rfl (by kernel_rfl) (by kernel_rfl) (by kernel_rfl) (fun _ _ _ h => h) (Or.inl ⟨by rfl, ?_⟩) (by assumption) ?_
        rotate_left
        · intro w hSw
          try dsimp only at hSw
          go_simp
          try with_reducible rfl
        simp only [Act.put, List.setIfInBounds_toArray, List.set_cons_zero, List.set_cons_succ, List.getElem_toArray, List.getElem_cons_zero, List.getElem_cons_succ]
        refine wpAnyH_done (by kernel_rfl) ?_ _
        go_wp2
        go_ret
        exact ⟨rfl, hHeld.2.2⟩
end Go.Proofs.Ytcfmipgdhhogcaa
