/-
  The walk of ExactSums: it returns true. Conditions: the arguments are of their types.
-/
import Derived.Test.YtcfmipgdhhogcaaExt
namespace Go.Proofs.Ytcfmipgdhhogcaa
open Go.RowKit
set_option linter.unusedVariables false
set_option linter.unusedSimpArgs false

theorem rowIs_grown {w w' : World} {b : Nat} {t : TypeId} {n : Nat} {f : Nat → Value} {row : Option Nat} (h : w.rowIs b t n f) (hb : w.grownBy w' row) (h0 : some b ≠ row) : w'.rowIs b t n f := h.of_block (hb.block b h.lt h0)
theorem rowIs_kept {w w' : World} {b : Nat} {t : TypeId} {n : Nat} {f : Nat → Value} (h : w.rowIs b t n f) (hb : Below w.heap.size w w') : w'.rowIs b t n f := h.of_block (hb.block b h.lt)

theorem set_row (c k : Nat) (x y : Int) : (if c = k then Value.int .i64 x else Value.int .i64 y) = Value.int .i64 (if k = c then x else y) := by
  by_cases e : c = k
  · subst e; simp
  · rw [if_neg e, if_neg (fun h => e h.symm)]

set_option maxRecDepth 100000 in
set_option maxHeartbeats 8000000 in
theorem ExactSums_walk (v0 : Value) (w : World) (h0 : shPlay12.Val w v0) :
    Calls Try.prog 4 #[v0] w fun e w' => e = .returned (.bool true) ∧ Below w.heap.size w w' := by
  obtain ⟨xb, xr, xd, xm, s, lv, l, n, ks, ds, rfl, hl⟩ := valPlay12 h0
  clear h0
  have HL := Lib.hid hl
  obtain ⟨ao, cap, rfl, hmx, hd64, hcells⟩ := hl
  have HCL := Lib.hid hcells
  have HD64 := Lib.hid hd64
  clear hcells hd64
  have PS := Lib.hid shown12
  have PA1 := Lib.hid (any12 xb xr xd xm s)
  obtain ⟨g1, hb1, hsz1⟩ := news1 w (.cells #[.int .i64 xb, .int .i64 xr, .int .i64 xd, .int .i64 xm, .int .u64 s, .int .i64 lv, .slice ao n cap] 38)
  have hx1 : Blk _ w.heap.size 38 #[.int .i64 xb, .int .i64 xr, .int .i64 xd, .int .i64 xm, .int .u64 s, .int .i64 lv, .slice ao n cap] := g1
  have HX1 := Lib.hid hx1
  have HB1 := Lib.hid hb1
  clear g1 hx1 hb1 hsz1 HL
  obtain ⟨q, hq⟩ : ∃ q, q = min n 60 := ⟨_, rfl⟩
  have hqn : q ≤ n := by omega
  have hq2 : q ≤ 60 := by omega
  have emin : (if (60 : Int) < (n : Int) then (60 : Int) else (n : Int)) = (q : Int) := by split <;> omega
  clear hq
  go_enter Try.func4, Try.ntmps4
  go_wp2_with fail
  with_reducible refine (PS.out _).mono ?_
  rintro e w2 ⟨rfl, hb⟩
  have HX2 := Lib.hid (HX1.out.kept hb)
  have HB2 := Lib.hid (btr HB1.out hb)
  have hx := HX2.out
  have q0 := hx.cell 0
  have q1 := hx.cell 1
  have q2 := hx.cell 2
  have q3 := hx.cell 3
  have q4 := hx.cell 4
  have q5 := hx.cell 5
  have q6 := hx.cell 6
  simp at q0 q1 q2 q3 q4 q5 q6
  clear hb HX1 HB1 hx
  go_wp2_with fail
  with_reducible refine (PA1.out _).mono ?_
  rintro e w3 ⟨b, r, d, m, rfl, hr, hb⟩
  have HR := Lib.hid hr
  have HX3 := Lib.hid ((HX2.out.kept hb).alloc (.cells #[.int .i64 b, .int .i64 r, .int .i64 d, .int .i64 m, .int .u64 s] 24))
  have hc : Blk (w3.alloc (.cells #[.int .i64 b, .int .i64 r, .int .i64 d, .int .i64 m, .int .u64 s] 24)) w3.heap.size 24 #[.int .i64 b, .int .i64 r, .int .i64 d, .int .i64 m, .int .u64 s] := Blk.new w3 _ _
  have HB3 := Lib.hid ((btr HB2.out hb).alloc (btr HB2.out hb).size (.cells #[.int .i64 b, .int .i64 r, .int .i64 d, .int .i64 m, .int .u64 s] 24))
  clear hb hr HX2 HB2 q0 q1 q2 q3 q4 q5 q6
  have q5 := HX3.out.cell 5
  simp at q5
  go_wp2_with (refine wpList_load_row rfl 24 _ rfl w3.heap.size rfl 24 _ (0, 0) _ hc Try.underlying24 rfl (by kernel_rfl) ?_)
  with_reducible refine (top_any b r d m s lv HR.out _).mono ?_
  rintro e w4 ⟨i, rfl, hex, hb⟩
  have HI := Lib.hid hex
  have HC4 := Lib.hid (hc.kept hb)
  have HX4 := Lib.hid (HX3.out.kept hb)
  have HB4 := Lib.hid (btr HB3.out hb)
  have hc2 := HC4.out
  have hPs : Hid (w3.heap.size < w4.heap.size ∧ w.heap.size < w4.heap.size) := ⟨HC4.out.lt, HX4.out.lt⟩
  clear hex hb hc HX3 HB3 q5
  go_wp2_with (refine wpList_load_row rfl 24 _ rfl w3.heap.size rfl 24 _ (0, 0) _ hc2 Try.underlying24 rfl (by kernel_rfl) ?_)
  with_reducible refine (new12 b r d m s i HI.out _).mono ?_
  rintro e w5 ⟨A, G, C, K, rfl, hA, hG, hC, hk, hK0, hK1, ha, hb⟩
  have HK := Lib.hid hk
  have HA5 := Lib.hid ha
  have HC5 := Lib.hid (HC4.out.kept hb)
  have HX5 := Lib.hid (HX4.out.kept hb)
  have HB5 := Lib.hid (btr HB4.out hb)
  have hc := HC5.out
  have HN1 : Hid (A < w5.heap.size ∧ G < w5.heap.size ∧ C < w5.heap.size ∧ w4.heap.size ≤ C ∧ w4.heap.size ≤ A ∧ w4.heap.size ≤ G) := ⟨ha.ltA, ha.2.ltG, ha.2.ltC, hC, hA, hG⟩
  clear ha hb hk hA hG hC hc2 HC4 HX4
  go_wp2_with (refine wpList_load_row rfl 24 _ rfl w3.heap.size rfl 24 _ (0, 0) _ hc Try.underlying24 rfl (by kernel_rfl) ?_)
  with_reducible refine (new12 b r d m s i HI.out _).mono ?_
  rintro e w6 ⟨B, H, D, K', rfl, hB, hH, hD, hk, -, -, ha, hb⟩
  obtain rfl : K' = K := by have h1 := HK.out; omega
  have HZ6 := Lib.hid ha
  have HA6 := Lib.hid (HA5.out.kept hb)
  have HC6 := Lib.hid (HC5.out.kept hb)
  have HX6 := Lib.hid (HX5.out.kept hb)
  have HB6 := Lib.hid (btr HB5.out hb)
  have hc2 := HC6.out
  have HN2 : Hid (B < w6.heap.size ∧ H < w6.heap.size ∧ D < w6.heap.size ∧ w5.heap.size ≤ D ∧ w5.heap.size ≤ B ∧ w5.heap.size ≤ H ∧ w5.heap.size ≤ w6.heap.size) := ⟨ha.ltA, ha.2.ltG, ha.2.ltC, hD, hB, hH, hb.size⟩
  have PK := fun w => rkeys_any b r d m s i w
  simp only [hk] at PK
  have PK := Lib.hid PK
  clear ha hb hk hB hH hD hc HC5 HX5 HA5 HB5 HK
  go_wp2_with (refine wpList_load_row rfl 24 _ rfl w3.heap.size rfl 24 _ (0, 0) _ hc2 Try.underlying24 rfl (by kernel_rfl) ?_)
  with_reducible refine (PK.out _).mono ?_
  rintro e w7 ⟨rfl, hb⟩
  have HZ7 := Lib.hid (HZ6.out.kept hb)
  have HA7 := Lib.hid (HA6.out.kept hb)
  have HC7 := Lib.hid (HC6.out.kept hb)
  have HX7 := Lib.hid (HX6.out.kept hb)
  have HB7 := Lib.hid (btr HB6.out hb)
  have hs7 := hb.size
  clear hb hc2 HC6 HX6 HA6 HZ6 HB6
  have emk : (if (128 : Int) < (K' : Int) then (128 : Int) else (K' : Int)) = (K' : Int) := by split <;> omega
  have hmk := fun W => run_make_row' (P := Try.prog) 31 2 (.int .i64 0) 8 Try.underlying31 Try.info64 rfl .u64 .u64 K' (by omega) (by omega) W
  have hrow := World.rowIs_made w7 (.int .i64 0) K' 2
  have q6 := (HX7.out.alloc (.cells (madeCells #[.int .i64 0] K') 2)).cell 6
  simp at q6
  have HROW := Lib.hid hrow
  have hal : Below w7.heap.size w7 (w7.alloc (.cells (madeCells #[.int .i64 0] K') 2)) := (Below.refl _ _).alloc (Nat.le_refl _) _
  have HZ8 := Lib.hid (HZ7.out.kept hal)
  have HA8 := Lib.hid (HA7.out.kept hal)
  have HC8 := Lib.hid (HC7.out.kept hal)
  have HX8 := Lib.hid (HX7.out.kept hal)
  have HB8 := Lib.hid (btr HB7.out hal)
  have HNE : Hid ((A ≠ D ∧ G ≠ D ∧ C ≠ D) ∧ (B ≠ C ∧ H ≠ C ∧ D ≠ C) ∧ (w3.heap.size ≠ C ∧ w3.heap.size ≠ D ∧ w3.heap.size ≠ w7.heap.size ∧ w.heap.size ≠ C ∧ w.heap.size ≠ D ∧ w.heap.size ≠ w7.heap.size) ∧ (w7.heap.size ≠ C ∧ w7.heap.size ≠ D ∧ w7.heap.size ≠ A ∧ w7.heap.size ≠ G ∧ w7.heap.size ≠ B ∧ w7.heap.size ≠ H) ∧ w.heap.size ≤ C ∧ w.heap.size ≤ D ∧ w.heap.size ≤ w7.heap.size) := by
    obtain ⟨h1, h2, h3, h4, h5, h6⟩ := HN1.out
    obtain ⟨k1, k2, k3, k4, k5, k6, k7⟩ := HN2.out
    obtain ⟨p1, p2⟩ := hPs.out
    exact ⟨⟨by omega, by omega, by omega⟩, ⟨by omega, by omega, by omega⟩, ⟨by omega, by omega, by omega, by omega, by omega, by omega⟩, ⟨by omega, by omega, by omega, by omega, by omega, by omega⟩, by omega, by omega, by omega⟩
  clear hrow hal HN1 HN2 hPs HZ7 HA7 HC7 HX7 HB7 hs7 HB4
  obtain ⟨kf, hkf⟩ : ∃ kf : Nat → Nat, kf = fun i => ks i % K' := ⟨_, rfl⟩
  obtain ⟨df, hdf⟩ : ∃ df : Nat → Int, df = fun i => plainZ (decide (m = 2)) (ds i) := ⟨_, rfl⟩
  have HKF := Lib.hid hkf
  have HDF := Lib.hid hdf
  have HKK : Hid (∀ i, kf i < K') := Lib.hid (fun i => by rw [hkf]; exact Nat.mod_lt _ hK0)
  have HDB : Hid (∀ i, -1099511627775 ≤ df i ∧ df i ≤ 1099511627775) := Lib.hid (fun i => by rw [hdf]; exact plainZ_bd _ _)
  clear hkf hdf
  go_wp2_with fail
  clear hmk PK
  generalize hWT : w7.heap.size = T at *
  generalize hPT : w3.heap.size = P at *
  clear hWT hPT
  go_loopw [13] (fun i' wr => ∃ j : Nat, j ≤ q ∧ i' = .int .i64 (j : Int) ∧ ArrIs wr A G C b r d m s i K' (foldZ kf df (List.replicate K' 0) j) ∧ ArrIs wr B H D b r d m s i K' (foldZ (fun i => kf (q - 1 - i)) (fun i => df (q - 1 - i)) (List.replicate K' 0) j) ∧
    wr.rowIs T 2 K' (fun c => .int .i64 (cellD (foldZ kf df (List.replicate K' 0) j) c)) ∧ Blk wr w.heap.size 38 #[.int .i64 xb, .int .i64 xr, .int .i64 xd, .int .i64 xm, .int .u64 s, .int .i64 lv, .slice ao n cap] ∧ Blk wr P 24 #[.int .i64 b, .int .i64 r, .int .i64 d, .int .i64 m, .int .u64 s] ∧ Below w.heap.size w wr) (fun i' _ => q - (intOf i').toNat)
  case atStart => exact ⟨0, by omega, rfl, HA8.out, HZ8.out, HROW.out.congr (fun c hc => by simp [foldZ, cellD, hc]), HX8.out, HC8.out, HB8.out⟩
  case round =>
    obtain ⟨j, hj, rfl, ha, hz, hrow, hx, hc, hbel⟩ := hrel
    clear HA8 HZ8 HROW HX8 HC8 HB8 q6
    have HA := Lib.hid ha
    have HZ := Lib.hid hz
    have HROW := Lib.hid hrow
    have HX := Lib.hid hx
    have HC := Lib.hid hc
    have HB := Lib.hid hbel
    clear ha hz hrow hc hbel
    by_cases hlt : j < q
    · obtain ⟨bb, off, rfl, hbb, hcc⟩ := HCL.out (by omega)
      obtain ⟨u0, u1⟩ := hcc j (by omega)
      obtain ⟨y0, y1⟩ := hcc (q - 1 - j) (by omega)
      have hvn : q - 1 - j < n := by omega
      have HDX := Lib.hid (HD64.out j (by omega))
      have HDY := Lib.hid (HD64.out (q - 1 - j) hvn)
      have hkj : Hid (kf j = ks j % K' ∧ kf (q - 1 - j) = ks (q - 1 - j) % K') := Lib.hid (by rw [HKF.out]; exact ⟨rfl, rfl⟩)
      have hdj : Hid (df j = plainZ (decide (m = 2)) (ds j) ∧ df (q - 1 - j) = plainZ (decide (m = 2)) (ds (q - 1 - j))) := Lib.hid (by rw [HDF.out]; exact ⟨rfl, rfl⟩)
      have u0 := (HB.out.cell (p := ⟨bb, off + j * 2, none⟩) hbb).trans u0
      have u1 := (HB.out.cell (p := ⟨bb, off + j * 2 + 1, none⟩) hbb).trans u1
      have y0 := (HB.out.cell (p := ⟨bb, off + (q - 1 - j) * 2, none⟩) hbb).trans y0
      have y1 := (HB.out.cell (p := ⟨bb, off + (q - 1 - j) * 2 + 1, none⟩) hbb).trans y1
      have hbw : bb < wr.heap.size := Nat.lt_of_lt_of_le hbb HB.out.size
      clear hcc hbb
      have e1 : wrap64 ((q : Int) - 1) = (q : Int) - 1 := by unfold wrap64; omega
      have e2 : wrap64 ((q : Int) - 1 - (j : Int)) = ((q - 1 - j : Nat) : Int) := by unfold wrap64; omega
      have i0 : (0 : Int) ≤ (j : Int) := by omega
      have i1 : (j : Int) < (n : Int) := by omega
      have i2 : (0 : Int) ≤ ((q - 1 - j : Nat) : Int) := by omega
      have i3 : ((q - 1 - j : Nat) : Int) < (n : Int) := by omega
      have q6 := hx.cell 6
      simp at q6
      obtain ⟨kk, hkk⟩ : ∃ kk, kk = ks j % K' := ⟨_, rfl⟩
      obtain ⟨kw, hkw⟩ : ∃ kw, kw = ks (q - 1 - j) % K' := ⟨_, rfl⟩
      have hkkK : kk < K' := by rw [hkk]; exact Nat.mod_lt _ hK0
      have hkwK : kw < K' := by rw [hkw]; exact Nat.mod_lt _ hK0
      have t1 : ((ks j : Nat) : Int).tmod (K' : Int) = (kk : Int) := by rw [Int.tmod_eq_emod_of_nonneg (by omega), hkk]; exact (Int.natCast_emod _ _).symm
      have t2 : ((ks (q - 1 - j) : Nat) : Int).tmod (K' : Int) = (kw : Int) := by rw [Int.tmod_eq_emod_of_nonneg (by omega), hkw]; exact (Int.natCast_emod _ _).symm
      have t3 : IntKind.u64.wrap (kk : Int) = (kk : Int) := by rw [wrapU_mod]; omega
      have t4 : IntKind.u64.wrap (kw : Int) = (kw : Int) := by rw [wrapU_mod]; omega
      have z1 : ((K' : Int) == 0) = false := by simp; omega
      have z2 : ¬ (K' : Int) = 0 := by omega
      have z3 : ¬ K' = 0 := by omega
      rw [← hkk, ← hkw] at hkj
      clear hkk hkw
      have hs1 := smallZ_bd (ds j)
      have hs2 := smallZ_bd (ds (q - 1 - j))
      have m1 : (ds j).tmod 1099511627776 = smallZ (ds j) := rfl
      have m2 : (ds (q - 1 - j)).tmod 1099511627776 = smallZ (ds (q - 1 - j)) := rfl
      obtain ⟨dd, hdd⟩ : ∃ dd, dd = df j := ⟨_, rfl⟩
      obtain ⟨ee, hee⟩ : ∃ ee, ee = df (q - 1 - j) := ⟨_, rfl⟩
      have hmode : (m = 2 ∧ (if smallZ (ds j) < -smallZ (ds j) then -smallZ (ds j) else smallZ (ds j)) = dd ∧ (if smallZ (ds (q - 1 - j)) < -smallZ (ds (q - 1 - j)) then -smallZ (ds (q - 1 - j)) else smallZ (ds (q - 1 - j))) = ee ∧ 0 ≤ dd ∧ 0 ≤ ee) ∨ (m ≠ 2 ∧ smallZ (ds j) = dd ∧ smallZ (ds (q - 1 - j)) = ee) := by
        rw [hdd, hee, hdj.out.1, hdj.out.2]
        by_cases h2 : m = 2
        · left
          refine ⟨h2, ?_, ?_, ?_, ?_⟩
          · simp only [plainZ, h2, decide_true, if_true]; split <;> split <;> omega
          · simp only [plainZ, h2, decide_true, if_true]; split <;> split <;> omega
          · rw [h2]; exact plainZ_nn _
          · rw [h2]; exact plainZ_nn _
        · right
          simp [plainZ, h2]
      generalize smallZ (ds j) = sj at *
      generalize smallZ (ds (q - 1 - j)) = sv at *
      generalize ks j = kj at *
      generalize ks (q - 1 - j) = kv at *
      generalize ds j = dj at *
      generalize ds (q - 1 - j) = dv at *
      have n1 : wrap64 (-sj) = -sj := by unfold wrap64; omega
      have n2 : IntKind.i64.wrap (-sj) = -sj := wrapI_of _ (by omega) (by omega)
      have n3 : wrap64 (-sv) = -sv := by unfold wrap64; omega
      have n4 : IntKind.i64.wrap (-sv) = -sv := wrapI_of _ (by omega) (by omega)
      have hdbd := HDB.out j
      have hebd := HDB.out (q - 1 - j)
      rw [← hdd] at hdbd
      rw [← hee] at hebd
      have HDD := Lib.hid hdd
      have HEE := Lib.hid hee
      clear hdd hee hdj
      obtain ⟨za, hza⟩ : ∃ za, za = foldZ kf df (List.replicate K' 0) j := ⟨_, rfl⟩
      obtain ⟨zb, hzb⟩ : ∃ zb, zb = foldZ (fun i => kf (q - 1 - i)) (fun i => df (q - 1 - i)) (List.replicate K' 0) j := ⟨_, rfl⟩
      have hbda := foldZ_bd kf df K' HKK.out HDB.out j kk
      have hbdb := foldZ_bd (fun i => kf (q - 1 - i)) (fun i => df (q - 1 - i)) K' (fun i => HKK.out _) (fun i => HDB.out _) j kw
      rw [← hza] at HA HROW hbda
      rw [← hzb] at HZ hbdb
      have HNA : Hid (foldZ kf df (List.replicate K' 0) (j + 1) = za.set kk (cellD za kk + dd)) := Lib.hid (by rw [foldZ, ← hza, hkj.out.1, HDD.out])
      have HNB : Hid (foldZ (fun i => kf (q - 1 - i)) (fun i => df (q - 1 - i)) (List.replicate K' 0) (j + 1) = zb.set kw (cellD zb kw + ee)) := Lib.hid (by rw [foldZ, ← hzb, hkj.out.2, HEE.out])
      have HLA : Hid (za.length = K') := Lib.hid (by rw [hza, foldZ_len, List.length_replicate])
      clear hza hzb
      have h64a : In64 (cellD za kk + dd) := ⟨by omega, by omega⟩
      have h64b : In64 (cellD zb kw + ee) := ⟨by omega, by omega⟩
      have x1 : wrap64 (cellD za kk + dd) = cellD za kk + dd := by unfold wrap64; omega
      have HCa : Hid (chkI K' m za kk dd = 0) := Lib.hid (chk_ok hkkK (fun h => by rcases hmode with h' | h'; exact h'.2.2.2.1; exact absurd h h'.1) h64a)
      have HCb : Hid (chkI K' m zb kw ee = 0) := Lib.hid (chk_ok hkwK (fun h => by rcases hmode with h' | h'; exact h'.2.2.2.2; exact absurd h h'.1) h64b)
      have HUa : Hid (updZ K' m za kk dd = za.set kk (cellD za kk + dd)) := Lib.hid (by unfold updZ; rw [HCa.out, if_pos rfl])
      have HUb : Hid (updZ K' m zb kw ee = zb.set kw (cellD zb kw + ee)) := Lib.hid (by unfold updZ; rw [HCb.out, if_pos rfl])
      have HD1 : Hid (In64 dd ∧ In64 ee) := ⟨⟨by omega, by omega⟩, ⟨by omega, by omega⟩⟩
      clear h64a h64b hbda hbdb hdbd hebd hs1 hs2
      obtain ⟨hq6w, hbw2⟩ : True ∧ True := ⟨trivial, trivial⟩
      have UA : Below wr.heap.size wr (wr.alloc (.cells #[.int .u64 (kj : Int), .int .i64 dj] 42)) := (Below.refl _ _).alloc (Nat.le_refl _) _
      have UB := btr UA ((Below.refl _ _).alloc (Nat.le_refl _) (.cells #[.int .u64 (kv : Int), .int .i64 dv] 42))
      have hU := (Blk.new wr 42 #[.int .u64 (kj : Int), .int .i64 dj]).alloc (.cells #[.int .u64 (kv : Int), .int .i64 dv] 42)
      have hV : Blk ((wr.alloc (.cells #[.int .u64 (kj : Int), .int .i64 dj] 42)).alloc (.cells #[.int .u64 (kv : Int), .int .i64 dv] 42)) (wr.heap.size + 1) 42 #[.int .u64 (kv : Int), .int .i64 dv] := by
        have := Blk.new (wr.alloc (.cells #[.int .u64 (kj : Int), .int .i64 dj] 42)) 42 #[.int .u64 (kv : Int), .int .i64 dv]
        simpa using this
      have y0 := (UA.cell (p := ⟨bb, off + (q - 1 - j) * 2, none⟩) hbw).trans y0
      have y1 := (UA.cell (p := ⟨bb, off + (q - 1 - j) * 2 + 1, none⟩) hbw).trans y1
      have q6' := (hx.alloc (.cells #[.int .u64 (kj : Int), .int .i64 dj] 42)).cell 6
      simp at q6'
      have p3 := (HC.out.kept UB).cell 3
      simp at p3
      have HU := Lib.hid hU
      have HV := Lib.hid hV
      have HA1 := Lib.hid (HA.out.kept UB)
      have HZ1 := Lib.hid (HZ.out.kept UB)
      have HROW1 := Lib.hid (rowIs_kept HROW.out UB)
      have HX1 := Lib.hid (HX.out.kept UB)
      have HC1 := Lib.hid (HC.out.kept UB)
      have HB1 := Lib.hid (btr HB.out UB)
      have hUT : Hid (wr.heap.size ≠ C ∧ wr.heap.size ≠ D ∧ wr.heap.size + 1 ≠ C) := by
        have h1 := HA.out.2.ltC
        have h2 := HZ.out.2.ltC
        exact ⟨by omega, by omega, by omega⟩
      have hUW : Hid (wr.heap.size ≠ T) := Lib.hid (by have h1 := HROW.out.lt; show _ ≠ _; omega)
      clear UA UB hU hV HA HZ HROW HX HC HB hx
      rcases hmode with ⟨hm2, p1, p2, -, -⟩ | ⟨hm2, p1, p2⟩
      all_goals
        first | (have d2 : decide (m = 2) = true := by simp [hm2]) | (have d2 : decide (m = 2) = false := by simp [hm2])
        first | (have d1 : (m == 2) = true := by simp [hm2]) | (have d1 : (m == 2) = false := by simp [hm2])
        clear hm2
        go_wp2_with fail
        generalize ((wr.alloc (.cells #[.int .u64 (kj : Int), .int .i64 dj] 42)).alloc (.cells #[.int .u64 (kv : Int), .int .i64 dv] 42)) = wx at *
        clear y0 y1 u0 u1 q6 q6' p3
        have PU := Lib.hid (exupdate wx A G C b r d m s i K' kk za dd HA1.out HD1.out.1 (by omega))
        with_reducible refine PU.out.mono ?_
        rintro e wy ⟨he, ha, hg⟩
        rw [HCa.out] at he
        subst he
        rw [HUa.out] at ha
        have HA2 := Lib.hid ha
        have HZ2 := Lib.hid (HZ1.out.grown hg (by simpa using HNE.out.2.1.1) (by simpa using HNE.out.2.1.2.1) (by simpa using HNE.out.2.1.2.2))
        have HROW2 := Lib.hid (rowIs_grown HROW1.out hg (by simpa using HNE.out.2.2.2.1.1))
        have HX2 := Lib.hid (HX1.out.grown hg (by simpa using HNE.out.2.2.1.2.2.2.1))
        have HC2 := Lib.hid (HC1.out.grown hg (by simpa using HNE.out.2.2.1.1))
        have HU2 := Lib.hid (HU.out.grown hg (by simpa using hUT.out.1))
        have HV2 := Lib.hid (HV.out.grown hg (by simpa using hUT.out.2.2))
        have HB2 := Lib.hid (bgr HB1.out hg HNE.out.2.2.2.2.1)
        clear ha hg PU HA1 HZ1 HROW1 HX1 HC1 HU HV HB1
        have v0 := HV2.out.cell 0
        simp at v0
        have PU := Lib.hid (exupdate wy B H D b r d m s i K' kw zb ee HZ2.out HD1.out.2 (by omega))
        go_wp2_with fail
        with_reducible refine PU.out.mono ?_
        rintro e wz ⟨he, ha, hg⟩
        rw [HCb.out] at he
        subst he
        rw [HUb.out] at ha
        have HZ3 : Hid (ArrIs { heap := wz.heap, tape := wz.tape, drawn := wz.drawn + 1, os := wz.os, output := wz.output } B H D b r d m s i K' (zb.set kw (cellD zb kw + ee))) := Lib.hid (ha.drewN 1)
        have HA3 : Hid (ArrIs { heap := wz.heap, tape := wz.tape, drawn := wz.drawn + 1, os := wz.os, output := wz.output } A G C b r d m s i K' (za.set kk (cellD za kk + dd))) := Lib.hid ((HA2.out.grown hg (by simpa using HNE.out.1.1) (by simpa using HNE.out.1.2.1) (by simpa using HNE.out.1.2.2)).drewN 1)
        have HROW3 : Hid (World.rowIs { heap := wz.heap, tape := wz.tape, drawn := wz.drawn + 1, os := wz.os, output := wz.output } T 2 K' (fun c => .int .i64 (cellD za c))) := Lib.hid (rowIs_kept (rowIs_grown HROW2.out hg (by simpa using HNE.out.2.2.2.1.2.1)) (below_drewN (Below.refl _ _) 1))
        have HX3 : Hid (Blk { heap := wz.heap, tape := wz.tape, drawn := wz.drawn + 1, os := wz.os, output := wz.output } w.heap.size 38 #[.int .i64 xb, .int .i64 xr, .int .i64 xd, .int .i64 xm, .int .u64 s, .int .i64 lv, .slice (some ⟨bb, off, none⟩) n cap]) := Lib.hid ((HX2.out.grown hg (by simpa using HNE.out.2.2.1.2.2.2.2.1)).drewN 1)
        have HC3 : Hid (Blk { heap := wz.heap, tape := wz.tape, drawn := wz.drawn + 1, os := wz.os, output := wz.output } P 24 #[.int .i64 b, .int .i64 r, .int .i64 d, .int .i64 m, .int .u64 s]) := Lib.hid ((HC2.out.grown hg (by simpa using HNE.out.2.2.1.2.1)).drewN 1)
        have HU3 : Hid (Blk { heap := wz.heap, tape := wz.tape, drawn := wz.drawn + 1, os := wz.os, output := wz.output } wr.heap.size 42 #[.int .u64 (kj : Int), .int .i64 dj]) := Lib.hid ((HU2.out.grown hg (by simpa using hUT.out.2.1)).drewN 1)
        have HB3 : Hid (Below w.heap.size w { heap := wz.heap, tape := wz.tape, drawn := wz.drawn + 1, os := wz.os, output := wz.output }) := Lib.hid (below_drewN (bgr HB2.out hg HNE.out.2.2.2.2.2.1) 1)
        clear ha hg PU HA2 HZ2 HROW2 HX2 HC2 HU2 HV2 HB2 v0
        go_wp2_with fail
        refine wp_region_still_tail 15 (by kernel_rfl) (by kernel_rfl) ?_
        simp only [List.take_succ_cons, List.take_zero, List.drop_succ_cons, List.drop_zero]
        generalize ({ heap := wz.heap, tape := wz.tape, drawn := wz.drawn + 1, os := wz.os, output := wz.output } : World) = wd at *
        have r0 := HROW3.out.cell hkkK
        have r1 := HROW3.out.frozen kk
        have r2 := HU3.out.cell 0
        simp at r2
        have k0 : (0 : Int) ≤ (kk : Int) := by omega
        have k1 : (kk : Int) < (K' : Int) := by omega
        have k2 : (kk : Int).toNat = kk := by omega
        repeat still_step
        refine wpStill_nil ?_
        go_wp2
        go_roundw
        case rel => exact ⟨j + 1, by omega, by go_num, by rw [HNA.out]; exact HA3.out.grown (grown_set _ T kk _) (by simpa using HNE.out.2.2.2.1.2.2.1.symm) (by simpa using HNE.out.2.2.2.1.2.2.2.1.symm) (by simpa using HNE.out.2.2.2.1.1.symm), by rw [HNB.out]; exact HZ3.out.grown (grown_set _ T kk _) (by simpa using HNE.out.2.2.2.1.2.2.2.2.1.symm) (by simpa using HNE.out.2.2.2.1.2.2.2.2.2.symm) (by simpa using HNE.out.2.2.2.1.2.1.symm), (HROW3.out.set kk _).congr (fun c hc => by rw [HNA.out, cellD_set (by rw [HLA.out]; exact hkkK)]; exact set_row _ _ _ _), HX3.out.grown (grown_set _ T kk _) (by simpa using HNE.out.2.2.1.2.2.2.2.2), HC3.out.grown (grown_set _ T kk _) (by simpa using HNE.out.2.2.1.2.2.1), HB3.out.setCell HNE.out.2.2.2.2.2.2 _⟩
        case measure => simp [intOf]; omega
    · obtain rfl : j = q := by omega
      have HE : Hid (foldZ (fun i => kf (j - 1 - i)) (fun i => df (j - 1 - i)) (List.replicate K' 0) j = foldZ kf df (List.replicate K' 0) j) := Lib.hid (foldZ_rev kf df K' j HKK.out)
      have hz2 := HZ.out
      rw [HE.out] at hz2
      have HLA : Hid ((foldZ kf df (List.replicate K' 0) j).length = K') := Lib.hid (by rw [foldZ_len, List.length_replicate])
      obtain ⟨za, hza⟩ : ∃ za, za = foldZ kf df (List.replicate K' 0) j := ⟨_, rfl⟩
      rw [← hza] at HA hz2 HROW HLA
      have HZ2 := Lib.hid hz2
      clear hza hz2 HE HZ HKF HDF HKK HDB HCL HD64 hx
      go_wp2_with fail
      go_loopw [20] (fun i' ws => ∃ k : Nat, k ≤ K' ∧ i' = .int .i64 (k : Int) ∧ ArrIs ws A G C b r d m s i K' za ∧ ArrIs ws B H D b r d m s i K' za ∧ ws.rowIs T 2 K' (fun c => .int .i64 (cellD za c)) ∧ Below w.heap.size w ws) (fun i' _ => K' - (intOf i').toNat)
      case atStart => exact ⟨0, by omega, rfl, HA.out, HZ2.out, HROW.out, HB.out⟩
      case round =>
        obtain ⟨k, hk, rfl, ha, hz, hrow, hbel⟩ := hrel
        clear HA HZ2 HROW HB
        have HA := Lib.hid ha
        have HZ2 := Lib.hid hz
        have HROW := Lib.hid hrow
        have HB := Lib.hid hbel
        clear ha hz hbel
        by_cases hlk : k < K'
        · have P := Lib.hid (expoint_yes _ A G C b r d m s i K' k za HA.out hlk)
          have r0 := hrow.cell hlk
          have e1 : IntKind.u64.wrap (k : Int) = (k : Int) := by rw [wrapU_mod]; omega
          have k0 : (0 : Int) ≤ (k : Int) := by omega
          have k1 : (k : Int) < (K' : Int) := by omega
          clear hrow
          generalize cellD za k = zk at *
          go_wp2_with fail
          with_reducible refine P.out.mono ?_
          rintro e wy ⟨rfl, hwy⟩
          subst hwy
          go_wp2
          go_roundw
          case rel => exact ⟨k + 1, by omega, by go_num, HA.out, HZ2.out, HROW.out, HB.out⟩
          case measure => simp [intOf]; omega
        · obtain rfl : k = K' := by omega
          have HW : Hid (IntsAt _ (.slice (some ⟨T, 0, none⟩) k k) za) := Lib.hid (by
            have := IntsAt.of_row hrow
            rw [range_cells HLA.out] at this
            exact this)
          clear hrow
          have P := Lib.hid (excells _ A G C b r d m s i _ za HA.out)
          go_wp2_with fail
          with_reducible refine P.out.mono ?_
          rintro e wa ⟨va, rfl, hown, hne, hb⟩
          have HV := Lib.hid (IntsAt.of_own hown rfl)
          have HWa := Lib.hid (HW.out.kept hb)
          have HZa := Lib.hid (HZ2.out.kept hb)
          have HBa := Lib.hid (btr HB.out hb)
          clear hown hne hb P
          have P := Lib.hid (same06_true va (.slice (some ⟨T, 0, none⟩) k k) za wa HV.out HWa.out (by have := HLA.out; omega))
          go_wp2_with fail
          with_reducible refine P.out.mono ?_
          rintro e wb ⟨rfl, hb⟩
          have HWb := Lib.hid (HWa.out.kept hb)
          have HZb := Lib.hid (HZa.out.kept hb)
          have HBb := Lib.hid (btr HBa.out hb)
          clear hb P
          have P := Lib.hid (excells _ B H D b r d m s i _ za HZb.out)
          go_wp2_with fail
          with_reducible refine P.out.mono ?_
          rintro e wc ⟨vc, rfl, hown, hne, hb⟩
          have HV2 := Lib.hid (IntsAt.of_own hown rfl)
          have HWc := Lib.hid (HWb.out.kept hb)
          have HBc := Lib.hid (btr HBb.out hb)
          clear hown hne hb P
          have P := Lib.hid (same06_true vc (.slice (some ⟨T, 0, none⟩) k k) za wc HV2.out HWc.out (by have := HLA.out; omega))
          go_wp2_with fail
          with_reducible refine P.out.mono ?_
          rintro e wd ⟨rfl, hb⟩
          have HBd := Lib.hid (btr HBc.out hb)
          clear hb P
          go_wp2
          go_ret
          exact ⟨rfl, HBd.out⟩
end Go.Proofs.Ytcfmipgdhhogcaa
