/-
  The walks of gaugerref08.Same, and of LinearLeast. Conditions: the arguments are of their types.
-/
import Derived.Test.YtcinlcbmjboaaaaLinO
namespace Go.Proofs.Ytcinlcbmjboaaaa
open Go.RowKit
set_option linter.unusedVariables false
set_option linter.unusedSimpArgs false

theorem same08_any (va vb : Value) (xs ys : List Int) (w : World) (ha : IntsAt w va xs) (hb : IntsAt w vb ys) (hx : xs.length ≤ 9223372036854775807) (hy : ys.length ≤ 9223372036854775807) :
    Calls Try.prog 20 #[va, vb] w (SamePost w xs ys) := by
  have HA := Lib.hid ha
  have HB := Lib.hid hb
  obtain ⟨ao, ca, rfl, hca, ha⟩ := ha
  obtain ⟨bo, cb, rfl, hcb, hb⟩ := hb
  clear ha hb
  by_cases hl : xs.length = ys.length
  · have e0 : ((xs.length : Int) != (ys.length : Int)) = false := by simp [hl]
    have HL := Lib.hid hl
    clear hl
    go_enter Try.func20, Try.ntmps20
    go_wp2
    go_loopw [5] (fun i wr => ∃ j : Nat, j ≤ xs.length ∧ i = .int .i64 (j : Int) ∧ xs.take j = ys.take j ∧ IntsAt wr (.slice ao xs.length ca) xs ∧ IntsAt wr (.slice bo ys.length cb) ys ∧ Below w.heap.size w wr) (fun i _ => xs.length - (intOf i).toNat)
    case atStart => exact ⟨0, by omega, rfl, by simp, HA.out, HB.out, Below.refl _ _⟩
    case round =>
      obtain ⟨j, hj, rfl, ht, ia, ib, hbel⟩ := hrel
      have HT := Lib.hid ht
      have IA := Lib.hid ia
      have IB := Lib.hid ib
      have HBL := Lib.hid hbel
      clear ht hbel
      by_cases hlt : j < xs.length
      · obtain ⟨ao', ca', ea, _, ha⟩ := ia
        obtain ⟨bo', cb', eb, _, hb⟩ := ib
        simp only [Value.slice.injEq] at ea eb
        obtain ⟨rfl, _, rfl⟩ := ea
        obtain ⟨rfl, _, rfl⟩ := eb
        have hly : j < ys.length := by have := HL.out; omega
        obtain ⟨ga, rfl, _, ha⟩ := ha (by omega)
        obtain ⟨gb, rfl, _, hb⟩ := hb (by omega)
        have hxj : xs[j]? = some xs[j] := List.getElem?_eq_getElem hlt
        have hyj : ys[j]? = some ys[j] := List.getElem?_eq_getElem hly
        have ca := ha j _ hxj
        have cb := hb j _ hyj
        have HX := Lib.hid hxj
        have HY := Lib.hid hyj
        clear ha hb hxj hyj
        have ji : (j : Int) < (xs.length : Int) := by omega
        have ji2 : (j : Int) < (ys.length : Int) := by omega
        have j0 : (0 : Int) ≤ (j : Int) := by omega
        generalize xs[j] = X at *
        generalize ys[j] = Y at *
        by_cases e : X = Y
        · subst e
          have HS := Lib.hid (take_eq_succ HT.out HX.out HY.out)
          go_wp2_with fail
          go_quiet (fail)
          go_wp2
          go_roundw
          case rel => exact ⟨j + 1, by omega, by go_num, HS.out, IA.out.drewN _, IB.out.drewN _, below_drewN HBL.out _⟩
          case measure => simp [intOf]; omega
        · have e1 : (X != Y) = true := by simp [e]
          have HE : Hid (false = decide (xs = ys)) := Lib.hid (by
            symm; apply decide_eq_false; intro h
            have h1 := HX.out
            rw [h, HY.out] at h1
            exact e (Option.some.inj h1).symm)
          clear e
          go_wp2_with fail
          go_quiet (fail)
          go_wp2
          go_ret
          exact ⟨ret_boolq HE.out, below_drewN HBL.out _⟩
      · have HE : Hid (true = decide (xs = ys)) := Lib.hid (by
          symm; apply decide_eq_true
          have h1 := HT.out
          have h2 := HL.out
          rw [List.take_of_length_le (by omega), List.take_of_length_le (by omega)] at h1
          exact h1)
        have hge : xs.length ≤ j := by omega
        go_wp2
        go_ret
        exact ⟨ret_boolq HE.out, HBL.out⟩
  · have e0 : ((xs.length : Int) != (ys.length : Int)) = true := by simp; omega
    have HE : Hid (false = decide (xs = ys)) := Lib.hid (by symm; apply decide_eq_false; intro h; exact hl (by rw [h]))
    clear hl
    go_enter Try.func20, Try.ntmps20
    go_wp2
    go_ret
    exact ⟨ret_boolq HE.out, Below.refl _ _⟩


def shColsQ : Sh := .slice (.int .i64)
/-- what columns have alone, and what others have of a row's cell -/
def ownF (R W : Nat) (cs : Nat → List Int) (dz : Nat → Int) (mi : List Int) (i : Nat) : Int := if cutZ (cs i) R W = mi then dz i else 0
def othF (R W : Nat) (cs : Nat → List Int) (dz : Nat → Int) (mi : List Int) (r i : Nat) : Int := if cutZ (cs i) R W = mi then 0 else if colN (cutZ (cs i) R W) r = colN mi r then dz i else 0
theorem sumTo_add (n : Nat) (f g h : Nat → Int) (e : ∀ i, i < n → f i = g i + h i) : sumTo n f = sumTo n g + sumTo n h := by
  induction n with
  | zero => rfl
  | succ n ih => rw [sumTo, sumTo, sumTo, ih (fun i hi => e i (by omega)), e n (by omega)]; omega
theorem own_oth (R W : Nat) (cs : Nat → List Int) (dz : Nat → Int) (mi : List Int) (r m : Nat) : sumTo m (stepIf R W cs dz r (colN mi r)) = sumTo m (ownF R W cs dz mi) + sumTo m (othF R W cs dz mi r) := by
  refine sumTo_add _ _ _ _ (fun i _ => ?_)
  unfold stepIf ownF othF
  by_cases h1 : cutZ (cs i) R W = mi
  · rw [if_pos h1, if_pos h1, if_pos (by rw [h1])]; omega
  · rw [if_neg h1, if_neg h1]; omega
theorem sumTo_nn (n : Nat) (f : Nat → Int) (h : ∀ i, 0 ≤ f i) : 0 ≤ sumTo n f := by
  induction n with
  | zero => exact Int.le_refl _
  | succ n ih => rw [sumTo]; have := h n; omega
theorem least_is {l : List Int} {R : Nat} {o u L : Int} {f : Nat → Int} (hu : IsKth l 0 u) (hl : ∀ k, k < R → l[k]? = some (o + f k)) (hlen : l.length = R) (h1 : ∀ k, k < R → L ≤ f k) (h2 : ∃ k, k < R ∧ L = f k) : u = o + L := by
  obtain ⟨hm, hle⟩ := kth_zero hu
  obtain ⟨k, hk, rfl⟩ := h2
  obtain ⟨i, hi⟩ := List.getElem?_of_mem hm
  have hiR : i < R := by rw [← hlen]; exact (List.getElem?_eq_some_iff.1 hi).1
  have e1 := hl i hiR
  rw [hi] at e1
  have e1 := Option.some.inj e1
  have e2 := hle _ (List.mem_of_getElem? (hl k hk))
  have e3 := h1 i hiR
  omega
theorem cut_eq_col {R W r : Nat} {cs : List Int} {mi : List Int} (hW : 0 < W) (hr : r < R) {y : Int} (hm : mi[r]? = some y) (hy : y = (colN mi r : Int)) : (cutV W cs r = y) ↔ (colN (cutZ cs R W) r = colN mi r) := by
  rw [cut_col hr, hy]
  have := cutV_bd hW cs r
  omega

set_option maxRecDepth 100000 in
set_option maxHeartbeats 8000000 in
theorem LinearLeast_main (r c : Int) (l : Value) (n : Nat) (cs : Nat → List Int) (ds : Nat → Int) (v1 : Value) (c1s : List Int) (w : World) (hl : StepsAt w l n cs ds) (hv1 : ColsAt w v1 c1s) :
    Calls Try.prog 4 #[.agg #[.int .i64 r, .int .i64 c, l], v1] w fun e w' => e = .returned (.bool true) ∧ Below w.heap.size w w' := by
  have P0 := Lib.hid (fun w => sized08 r c l w)
  have P1 := Lib.hid (fun w hl => done08 r c l n cs ds false true w hl)
  obtain ⟨r1, r2, -⟩ := sizeR_bd r
  obtain ⟨c1, c2, -⟩ := sizeW_bd c
  generalize sizeR r = R at *
  generalize sizeW c = W at *
  have HL := Lib.hid hl
  have HV := Lib.hid hv1
  have PCUT := Lib.hid (fun w1 (h : ColsAt w1 v1 c1s) => cut_any v1 c1s R W (by omega) (by omega) (by omega) w1 h)
  have HCM := Lib.hid (fun cs => cut_meet (cs := cs) (R := R) (W := W) (by omega) (by omega))
  obtain ⟨ao, cap, rfl, hmx, hd64, hcells⟩ := hl
  have HCL := Lib.hid hcells
  clear hcells hd64
  obtain ⟨vo, vcap, rfl, hj1, hj2, hj3⟩ := hv1
  clear hj1 hj2 hj3
  generalize c1s.length = n1 at *
  obtain ⟨m, hm⟩ : ∃ m, m = min n 60 := ⟨_, rfl⟩
  rw [← hm] at P1
  have hm60 : m ≤ 60 := by omega
  have hmn : m ≤ n := by omega
  have hm0 : m = 0 ↔ n = 0 := by omega
  clear hm
  go_enter Try.func4, Try.ntmps4
  go_wp2_with fail
  obtain ⟨g1, hb1, hsz1⟩ := news1 w (.cells #[.int .i64 r, .int .i64 c, .slice ao n cap] 24)
  have hx1 : Blk _ w.heap.size 24 #[.int .i64 r, .int .i64 c, .slice ao n cap] := g1
  have HL1 := Lib.hid (HL.out.kept hb1)
  have HV1 := Lib.hid (HV.out.kept hb1)
  have HB1 := Lib.hid hb1
  have HX1 := Lib.hid hx1
  clear g1 hb1 hx1
  generalize (w.alloc (.cells #[.int .i64 r, .int .i64 c, .slice ao n cap] 24)) = wz at *
  refine (shown08 wz).mono ?_; rintro e w1 ⟨rfl, hb⟩
  have hx1 := HX1.out.kept hb
  have HX2 := Lib.hid hx1
  have HB2 := Lib.hid (btr HB1.out hb)
  have HL2 := Lib.hid (HL1.out.kept hb)
  have HV2 := Lib.hid (HV1.out.kept hb)
  clear hb
  go_wp2_with (refine wpList_load_row rfl 24 _ rfl w.heap.size rfl 24 _ (0, 0) _ hx1 Try.underlying24 rfl (by kernel_rfl) ?_)
  refine (P0.out w1).mono ?_; rintro e w2 ⟨rfl, hb⟩
  have hx1 := HX2.out.kept hb
  have HX3 := Lib.hid hx1
  have HB3 := Lib.hid (btr HB2.out hb)
  have HL3 := Lib.hid (HL2.out.kept hb)
  have HV3 := Lib.hid (HV2.out.kept hb)
  clear hb
  go_wp2_with (refine wpList_load_row rfl 24 _ rfl w.heap.size rfl 24 _ (0, 0) _ hx1 Try.underlying24 rfl (by kernel_rfl) ?_)
  refine (P1.out w2 HL3.out).mono ?_; rintro e w3 ⟨G, C, va, vs, zs, rfl, -, -, hg, hsum, hall, hb⟩
  have HSUM : Hid (SumsAre R W cs (fun i => plainZ true (ds i)) zs m) := Lib.hid (by simpa [stepK] using hsum)
  clear hsum
  have hml : ((List.range m).map fun i => cutZ (cs i) R W).length = m := by simp
  have HX4 := Lib.hid (HX3.out.kept hb)
  have HB4 := Lib.hid (btr HB3.out hb)
  have HV4 := Lib.hid (HV3.out.kept hb)
  have HG4 := Lib.hid hg
  have HAL4 := Lib.hid hall
  clear hb hg
  obtain ⟨aa, ca, rfl, -⟩ := hall.cell
  simp only [hml] at *
  clear hml hall
  go_wp2_with fail
  refine (PCUT.out w3 HV4.out).mono ?_; rintro e w4 ⟨v2, rfl, hr2, -, hb⟩
  have HR2 := Lib.hid hr2
  have hx := HX4.out.kept hb
  have HB5 := Lib.hid (btr HB4.out hb)
  have HG5 := Lib.hid (HG4.out.kept hb)
  have HAL5 := Lib.hid (HAL4.out.kept hb)
  have q2 := hx.cell 2
  simp at q2
  have HX5 := Lib.hid hx
  clear hb hx hr2
  have hcase : (m = 0 ∧ n = 0) ∨ (0 < m ∧ n % 2 = 0) ∨ (0 < m ∧ n % 2 = 1) := by omega
  obtain ⟨va, vmi, HRI, HMI, hgo⟩ : ∃ va mi, Hid (RowI w4 va mi) ∧ Hid (meetB R W mi = true) ∧ ((va = v2 ∧ (m = 0 ∨ n % 2 = 1)) ∨ (0 < m ∧ n % 2 = 0 ∧ ∃ ga, aa = some ⟨ga, 0, none⟩ ∧ w4.cell? ⟨ga, 0, none⟩ = some va)) := by
    rcases hcase with ⟨h1, h2⟩ | ⟨h1, h2⟩ | ⟨h1, h2⟩
    · exact ⟨v2, _, HR2, HCM.out c1s, .inl ⟨rfl, .inl h1⟩⟩
    · obtain ⟨aa', ca', e, hrows⟩ := HAL5.out.cell
      obtain ⟨g, vi, e2, hc, hr⟩ := hrows 0 (cutZ (cs 0) R W) (by simp [h1])
      simp only [Value.slice.injEq] at e
      exact ⟨vi, _, hr, HCM.out (cs 0), .inr ⟨h1, h2, g, by rw [e.1]; exact e2, hc⟩⟩
    · exact ⟨v2, _, HR2, HCM.out c1s, .inl ⟨rfl, .inr h2⟩⟩
  obtain ⟨q, hq⟩ : ∃ q, q = n % 2 := ⟨_, rfl⟩
  have hq2 : q < 2 := by omega
  have et : Int.tmod (n : Int) 2 = (q : Int) := by rw [Int.tmod_eq_emod_of_nonneg (by omega)]; omega
  rw [← hq] at hgo
  have HVM : Hid (0 < R ∧ vmi.length = R ∧ ∀ r, r < R → vmi[r]? = some (colN vmi r : Int) ∧ colN vmi r < W) := ⟨(meetB_of HMI.out).1, (meetB_of HMI.out).2.1, (meetB_of HMI.out).2.2⟩
  have HROWS : Hid (∀ i, i < m → ∃ g vi, aa = some ⟨g, 0, none⟩ ∧ w4.cell? ⟨g, i, none⟩ = some vi ∧ RowI w4 vi (cutZ (cs i) R W)) := Lib.hid (by
    obtain ⟨aa', ca', e, hrows⟩ := HAL5.out.cell
    simp only [Value.slice.injEq] at e
    intro i hi
    obtain ⟨g, vi, e2, h1, h2⟩ := hrows i (cutZ (cs i) R W) (by simp [hi])
    exact ⟨g, vi, by rw [e.1]; exact e2, h1, h2⟩)
  have HCL4 : Hid (0 < n → ∃ b off, ao = some ⟨b, off, none⟩ ∧ b < w.heap.size ∧ ∀ i, i < n → w4.cell? ⟨b, off + i * 2 + 1, none⟩ = some (.int .i64 (ds i))) := Lib.hid (fun h0 => by
    obtain ⟨b, off, e, hbl, hc⟩ := HCL.out h0
    exact ⟨b, off, e, hbl, fun i hi => (HB5.out.cell (p := ⟨b, off + i * 2 + 1, none⟩) hbl).trans (hc i hi).2⟩)
  have hvd : ∃ gg cc, va = .slice (some ⟨gg, 0, none⟩) R cc := by obtain ⟨g, cp, cur, e, _⟩ := HRI.out; exact ⟨g, cp, by rw [e, HVM.out.2.1]⟩
  have PM := Lib.hid (fun wa (hb : Below w4.heap.size w4 wa) => least_yes wa G C R W zs vmi va (HG5.out.kept hb) (HRI.out.ints.kept hb) HMI.out)
  unfold TellPost at PM
  obtain ⟨fo, hfo⟩ : ∃ fo, fo = ownF R W cs (fun i => plainZ true (ds i)) vmi := ⟨_, rfl⟩
  obtain ⟨fr, hfr⟩ : ∃ fr, fr = othF R W cs (fun i => plainZ true (ds i)) vmi := ⟨_, rfl⟩
  have HLL : Hid ((readZ W zs vmi).length = R ∧ ∀ k, k < R → (readZ W zs vmi)[k]? = some (sumTo m fo + sumTo m (fr k))) := by
    refine ⟨by simp [readZ, HVM.out.2.1], fun k hk => ?_⟩
    rw [hfo, hfr, ← own_oth, ← HSUM.out k (colN vmi k) hk (HVM.out.2.2 k hk).2]
    simp [readZ, HVM.out.2.1, hk]
  have HFO : Hid (∀ i, fo i = (if cutZ (cs i) R W = vmi then plainZ true (ds i) else 0) ∧ 0 ≤ fo i ∧ fo i ≤ 1099511627775) := Lib.hid (fun i => by
    have h1 := plainZ_bd true (ds i); have h2 := plainZ_nn (ds i)
    rw [hfo]; refine ⟨rfl, ?_⟩
    show 0 ≤ (if cutZ (cs i) R W = vmi then plainZ true (ds i) else 0) ∧ (if cutZ (cs i) R W = vmi then plainZ true (ds i) else 0) ≤ 1099511627775
    by_cases h : cutZ (cs i) R W = vmi
    · rw [if_pos h]; omega
    · rw [if_neg h]; omega)
  have HFR : Hid (∀ r i, fr r i = (if cutZ (cs i) R W = vmi then 0 else if colN (cutZ (cs i) R W) r = colN vmi r then plainZ true (ds i) else 0) ∧ 0 ≤ fr r i ∧ fr r i ≤ 1099511627775) := Lib.hid (fun r i => by
    have h1 := plainZ_bd true (ds i); have h2 := plainZ_nn (ds i)
    rw [hfr]; refine ⟨rfl, ?_⟩
    show 0 ≤ (if cutZ (cs i) R W = vmi then 0 else if colN (cutZ (cs i) R W) r = colN vmi r then plainZ true (ds i) else 0) ∧ (if cutZ (cs i) R W = vmi then 0 else if colN (cutZ (cs i) R W) r = colN vmi r then plainZ true (ds i) else 0) ≤ 1099511627775
    by_cases h : cutZ (cs i) R W = vmi
    · rw [if_pos h]; omega
    · rw [if_neg h]
      by_cases h' : colN (cutZ (cs i) R W) r = colN vmi r
      · rw [if_pos h']; omega
      · rw [if_neg h']; omega)
  generalize readZ W zs vmi = LZ at *
  clear hfo hfr
  have HBO : Hid (∀ j, j ≤ 60 → 0 ≤ sumTo j fo ∧ sumTo j fo ≤ 65970697666500 ∧ ∀ r, 0 ≤ sumTo j (fr r) ∧ sumTo j (fr r) ≤ 65970697666500) := Lib.hid (fun j hj => by
    have h1 := sumTo_bd (n := j) (f := fo) (B := 1099511627775) (fun i _ => by have := (HFO.out i).2; omega)
    refine ⟨sumTo_nn _ _ (fun i => (HFO.out i).2.1), by omega, fun r => ?_⟩
    have h2 := sumTo_bd (n := j) (f := fr r) (B := 1099511627775) (fun i _ => by have := (HFR.out r i).2; omega)
    exact ⟨sumTo_nn _ _ (fun i => (HFR.out r i).2.1), by omega⟩)
  have hXA : w.heap.size < w4.heap.size := HX5.out.lt
  obtain ⟨i0', hi, hz0, hz1, hz2⟩ := info_parts Try.info64
  have H3 : (decide ((0 : Int) < (m : Int)) = false ∧ decide (0 < m) = false ∧ v2 = va) ∨ (decide ((0 : Int) < (m : Int)) = true ∧ decide (0 < m) = true ∧ q = 1 ∧ v2 = va) ∨ (decide ((0 : Int) < (m : Int)) = true ∧ decide (0 < m) = true ∧ q = 0 ∧ (0 : Int) < (m : Int) ∧ ∃ ga, aa = some ⟨ga, 0, none⟩ ∧ w4.cell? ⟨ga, 0, none⟩ = some va) := by
    rcases hgo with ⟨h, hgo⟩ | ⟨h0m, h1, ga, h2, hca⟩
    · by_cases h0 : m = 0
      · exact .inl ⟨decide_eq_false (by omega), decide_eq_false (by omega), h.symm⟩
      · exact .inr (.inl ⟨decide_eq_true (by omega), decide_eq_true (by omega), by omega, h.symm⟩)
    · exact .inr (.inr ⟨decide_eq_true (by omega), decide_eq_true h0m, h1, by omega, ga, h2, hca⟩)
  clear hgo hq hm0 HR2 HAL5 HAL4 hcase HX1 HX2 HX3 HX4 HB1 HB2 HB3 HB4 HL HL1 HL2 HL3 HV HV1 HV2 HV3 HV4 P0 P1 PCUT HCM HCL HSUM
  obtain ⟨gg, cc, hvd⟩ := hvd
  rcases H3 with ⟨hd, hd', e⟩ | ⟨hd, hd', rfl, e⟩ | ⟨hd, hd', rfl, hm0, ga, rfl, hca⟩
  all_goals
    try subst e
    subst hvd
    go_wp2_with fail
    generalize hM : w4.heap.size = M at *
    have HMz := Lib.hid hM
    clear hM
    have hg4 : gg < M := by obtain ⟨g, cp, cur, e, _, hb, _⟩ := HRI.out; have := hb.lt; have h2 := HMz.out; simp at e; omega
    go_loopw [11, 12] (fun x i wr => ∃ rr : Nat, rr ≤ R ∧ i = .int .i64 (rr : Int) ∧ wr.ownsRow M 2 1 x rr (List.replicate rr (Value.int .i64 0)) ∧ Below M w4 wr ∧ M ≤ wr.heap.size) (fun _ i _ => R - (intOf i).toNat)
    case atStart => exact ⟨0, by omega, rfl, World.ownsRow_nil _ _ _ _, by rw [← HMz.out]; exact Below.refl _ _, by rw [← HMz.out]; exact Nat.le_refl _⟩
    case round =>
      obtain ⟨rr, hrr, rfl, hown, hbel, hszr⟩ := hrel
      have HO := Lib.hid hown
      have HBL := Lib.hid hbel
      clear hown hbel
      by_cases hlr : rr < R
      · have hmx1 : rr + 1 ≤ maxLen := by unfold maxLen; omega
        go_wp2_with (at_builtin; refine wpList_append_own_at _ rfl _ _ 39 rfl M 2 i0' (.int .i64 0) 1 8 Try.underlying39 hi hz0 hz1 hz2 rfl (by decide) _ rr _ rfl (HO.out.alloc _) ⟨wr.heap.size, 0, none⟩ 1 1 [.int .i64 0] rfl rfl (cell_one_new _ _ _) ?c2 hmx1 ?c4 ?c5 ?_)
        case c2 => simp [Value.oneCell']
        case c4 => omega
        case c5 => simp; omega
        intro v' w5 hown' hgrow hnil' hq9
        have HO5 : Hid (w5.ownsRow M 2 1 v' (rr + 1) (List.replicate (rr + 1) (Value.int .i64 0))) := Lib.hid (by rw [List.replicate_succ']; exact hown')
        have hMk := fun k hk => (HO.out.lt k hk).1
        have HB6 : Hid (Below M w4 w5) := Lib.hid ((HBL.out.alloc hszr _).grown hgrow (by first | omega | (simp; done) | (simp; omega)) (fun k e => hMk k e))
        have hsz3 : M ≤ w5.heap.size := by have := hgrow.size; simp at this; omega
        clear hown' hgrow hnil' hq9 hMk
        go_wp2
        go_roundw
        case rel => exact ⟨rr + 1, by omega, by go_num, HO5.out, HB6.out, hsz3⟩
        case measure => simp [intOf]; omega
      · obtain rfl : rr = R := by omega
        obtain ⟨go, co, cur0, rfl, hgoM, hblk, hcur0⟩ : ∃ go co cur0, u11 = .slice (some ⟨go, 0, none⟩) rr co ∧ M ≤ go ∧ Blk wr go 2 cur0 ∧ ∀ k, k < rr → cur0[k]? = some (Value.int .i64 0) := by
          rcases HO.out.2 with ⟨_, h0⟩ | ⟨g, cap', cur, h1, h2, h3, h4, h5, h6, h7⟩
          · omega
          · refine ⟨g, cap', cur, h1, h2, h3, fun k hk => ?_⟩
            have h8 : (cur.toList.take (rr * 1))[k]? = (List.replicate rr (Value.int .i64 0))[k]? := by rw [h7]
            rw [List.getElem?_take, if_pos (by omega)] at h8
            simpa [hk] using h8
        have HBK := Lib.hid hblk
        have HCU := Lib.hid hcur0
        clear HO hblk hcur0
        go_wp2_with fail
        go_loopw [10, 13] (fun o i ws => ∃ (j : Nat) (cur : Array Value), j ≤ m ∧ i = .int .i64 (j : Int) ∧ o = .int .i64 (sumTo j fo) ∧ Blk ws go 2 cur ∧ (∀ k, k < rr → cur[k]? = some (Value.int .i64 (sumTo j (fr k)))) ∧ Below M w4 ws ∧ M ≤ ws.heap.size) (fun _ i _ => m - (intOf i).toNat)
        case atStart => exact ⟨0, cur0, by omega, rfl, rfl, HBK.out, HCU.out, HBL.out, hszr⟩
        case round =>
          obtain ⟨j, cur, hjm, rfl, rfl, hbk, hcu, hbl, hsz⟩ := hrel
          clear HBK HCU HBL
          have HBK := Lib.hid hbk
          have HCU := Lib.hid hcu
          have HBL := Lib.hid hbl
          clear hbk hcu hbl
          have hbo := (HBO.out j (by omega)).1
          have hbo2 := (HBO.out j (by omega)).2.1
          by_cases hlt : j < m
          · obtain ⟨b, off, rfl, hbw, hcd⟩ := HCL4.out (by omega)
            obtain ⟨g9, vj, hg9, hcj, hrj⟩ := HROWS.out j hlt
            have cd := (HBL.out.cell (p := ⟨b, off + j * 2 + 1, none⟩) (by show b < M; omega)).trans (hcd j (by omega))
            have hxb := HX5.out.below HBL.out (by omega)
            have q2 := hxb.cell 2
            simp at q2
            have HRJ := Lib.hid hrj
            have HG9 := Lib.hid hg9
            have HCJ := Lib.hid hcj
            clear hcd hxb hrj hg9 hcj
            have i0 : (0 : Int) ≤ (j : Int) := by omega
            have i1 : (j : Int) < (n : Int) := by omega
            have i2 : (j : Int) < (m : Int) := by omega
            obtain ⟨s, hs⟩ : ∃ s, smallZ (ds j) = s := ⟨_, rfl⟩
            have hsb := smallZ_bd (ds j)
            have PS : ∀ w, Calls Try.prog 17 #[.int .i64 (ds j)] w fun e w' => e = .returned (.int .i64 s) ∧ w = w' := fun w => by rw [← hs]; exact small08 (ds j) w
            have hdj : (if s < -s then -s else s) = plainZ true (ds j) := by rw [← hs]; simp only [plainZ, if_true]; split <;> split <;> omega
            rw [hs] at hsb
            have hneg : wrap64 (-s) = -s := by unfold wrap64; omega
            have hneg2 : IntKind.i64.wrap (-s) = -s := wrapI_of _ (by omega) (by omega)
            have hfoj := (HFO.out j).1
            have hfrj := fun k => (HFR.out k j).1
            have HNO : Hid (sumTo (j + 1) fo = sumTo j fo + fo j) := rfl
            have HNR : Hid (∀ k, sumTo (j + 1) (fr k) = sumTo j (fr k) + fr k j) := fun k => rfl
            have hdb := plainZ_bd true (ds j)
            generalize hpl : plainZ true (ds j) = dd at *
            have HPL := Lib.hid hpl
            have HFOJ := Lib.hid hfoj
            have HFRJ := Lib.hid hfrj
            clear hs hpl hfoj hfrj
            generalize ds j = dj at *
            go_wp2_with fail
            refine wp_region_held_drew (S := fun w' => w'.cell? ⟨w.heap.size, 2, none⟩ = some (.slice (some ⟨b, off, none⟩) n cap) ∧ w'.cell? ⟨b, off + j * 2 + 1, none⟩ = some (.int .i64 dj)) (by kernel_rfl) (by exact ⟨q2, cd⟩) (fun hHeld => ?_)
            refine wpAnyH_take (i := 0) (v := ?_) rfl (by kernel_rfl) (by kernel_rfl) (by kernel_rfl) (fun _ _ _ h => h) (Or.inl ⟨by rfl, ?_⟩) (by assumption) ?_
            rotate_left
            · intro w hSw
              try dsimp only at hSw
              go_simp
              try with_reducible rfl
            simp only [Act.put, List.setIfInBounds_toArray, List.set_cons_zero, List.set_cons_succ, List.getElem_toArray, List.getElem_cons_zero, List.getElem_cons_succ]
            refine wpAnyH_take (i := 1) (v := ?_) rfl (by kernel_rfl) (by kernel_rfl) (by kernel_rfl) (fun _ _ _ h => h) (Or.inl ⟨by rfl, ?_⟩) (by assumption) ?_
            rotate_left
            · intro w hSw
              obtain ⟨s1, s2⟩ := hSw
              go_simp
              try with_reducible rfl
            simp only [Act.put, List.setIfInBounds_toArray, List.set_cons_zero, List.set_cons_succ, List.getElem_toArray, List.getElem_cons_zero, List.getElem_cons_succ]
            refine wpAnyH_take (i := 2) (v := ?_) rfl (by kernel_rfl) (by kernel_rfl) (by kernel_rfl) (fun _ _ _ h => h) (Or.inl ⟨by rfl, ?_⟩) (by assumption) ?_
            rotate_left
            · intro w hSw
              try dsimp only at hSw
              go_simp
              try with_reducible rfl
            simp only [Act.put, List.setIfInBounds_toArray, List.set_cons_zero, List.set_cons_succ, List.getElem_toArray, List.getElem_cons_zero, List.getElem_cons_succ]
            refine wpAnyH_take (i := 3) (v := ?_) rfl (by kernel_rfl) (by kernel_rfl) (by kernel_rfl) (fun _ _ _ h => h) (Or.inl ⟨by rfl, ?_⟩) (by assumption) ?_
            rotate_left
            · intro w hSw
              try dsimp only at hSw
              go_simp
              try with_reducible rfl
            simp only [Act.put, List.setIfInBounds_toArray, List.set_cons_zero, List.set_cons_succ, List.getElem_toArray, List.getElem_cons_zero, List.getElem_cons_succ]
            refine wpAnyH_take (i := 4) (v := ?_) rfl (by kernel_rfl) (by kernel_rfl) (by kernel_rfl) (fun _ _ _ h => h) (Or.inl ⟨by rfl, ?_⟩) (by assumption) ?_
            rotate_left
            · intro w hSw
              try dsimp only at hSw
              go_simp
              try with_reducible rfl
            simp only [Act.put, List.setIfInBounds_toArray, List.set_cons_zero, List.set_cons_succ, List.getElem_toArray, List.getElem_cons_zero, List.getElem_cons_succ]
            refine wpAnyH_take (i := 5) (v := ?_) rfl (by kernel_rfl) (by kernel_rfl) (by kernel_rfl) (fun _ _ _ h => h) (Or.inl ⟨by rfl, ?_⟩) (by assumption) ?_
            rotate_left
            · intro w hSw
              obtain ⟨s1, s2⟩ := hSw
              go_simp
              try with_reducible rfl
            simp only [Act.put, List.setIfInBounds_toArray, List.set_cons_zero, List.set_cons_succ, List.getElem_toArray, List.getElem_cons_zero, List.getElem_cons_succ]
            refine wpAnyH_take (i := 7) (v := ?_) rfl (by kernel_rfl) (by kernel_rfl) (by kernel_rfl) (fun _ _ _ h => h) (Or.inl ⟨by rfl, ?_⟩) (by assumption) ?_
            rotate_left
            · intro w hSw
              try dsimp only at hSw
              go_simp
              try with_reducible rfl
            simp only [Act.put, List.setIfInBounds_toArray, List.set_cons_zero, List.set_cons_succ, List.getElem_toArray, List.getElem_cons_zero, List.getElem_cons_succ]
            refine wpAnyH_take (i := 8) (v := ?_) rfl (by kernel_rfl) (by kernel_rfl) (by kernel_rfl) (fun _ _ _ h => h) (Or.inl ⟨by rfl, ?_⟩) (by assumption) ?_
            rotate_left
            · intro w hSw
              obtain ⟨s1, s2⟩ := hSw
              go_simp
              try with_reducible rfl
            simp only [Act.put, List.setIfInBounds_toArray, List.set_cons_zero, List.set_cons_succ, List.getElem_toArray, List.getElem_cons_zero, List.getElem_cons_succ]
            refine wpAnyH_take (i := 9) (v := ?_) rfl (by kernel_rfl) (by kernel_rfl) (by kernel_rfl) (fun _ _ _ h => h) (Or.inl ⟨by rfl, ?_⟩) (by assumption) ?_
            rotate_left
            · intro w hSw
              try dsimp only at hSw
              go_simp
              try with_reducible rfl
            simp only [Act.put, List.setIfInBounds_toArray, List.set_cons_zero, List.set_cons_succ, List.getElem_toArray, List.getElem_cons_zero, List.getElem_cons_succ]
            refine wpAnyH_take (i := 10) (v := ?_) rfl (by kernel_rfl) (by kernel_rfl) (by kernel_rfl) (fun _ _ _ h => h) (Or.inl ⟨by rfl, ?_⟩) (by assumption) ?_
            rotate_left
            · intro w hSw
              try dsimp only at hSw
              go_simp
              try with_reducible rfl
            simp only [Act.put, List.setIfInBounds_toArray, List.set_cons_zero, List.set_cons_succ, List.getElem_toArray, List.getElem_cons_zero, List.getElem_cons_succ]
            refine wpAnyH_take (i := 11) (v := ?_) rfl (by kernel_rfl) (by kernel_rfl) (by kernel_rfl) (fun _ _ _ h => h) (Or.inl ⟨by rfl, ?_⟩) (by assumption) ?_
            rotate_left
            · intro w hSw
              try dsimp only at hSw
              go_simp
              try with_reducible rfl
            simp only [Act.put, List.setIfInBounds_toArray, List.set_cons_zero, List.set_cons_succ, List.getElem_toArray, List.getElem_cons_zero, List.getElem_cons_succ]
            refine wpAnyH_take (i := 12) (v := ?_) rfl (by kernel_rfl) (by kernel_rfl) (by kernel_rfl) (fun _ _ _ h => h) (Or.inl ⟨by rfl, ?_⟩) (by assumption) ?_
            rotate_left
            · intro w hSw
              obtain ⟨s1, s2⟩ := hSw
              go_simp
              try with_reducible rfl
            simp only [Act.put, List.setIfInBounds_toArray, List.set_cons_zero, List.set_cons_succ, List.getElem_toArray, List.getElem_cons_zero, List.getElem_cons_succ]
            refine wpAnyH_ready (rs := [6]) (by kernel_rfl) (by simp) ?_
            refine AllReadyH.cons rfl (fun Kc hKc => ?_) AllReadyH.nil
            go_simp
            go_wp2_with (go_at_call 17; refine (PS _).mono ?_; rintro e w' ⟨rfl, hw'⟩; subst hw')
            refine hKc.out _ _ ?_ (fun hHeld => ?_)
            · assumption
            clear hKc Kc
            refine wpAnyH_ready (rs := [13]) (by kernel_rfl) (by simp) ?_
            refine AllReadyH.cons rfl (fun Kc hKc => ?_) AllReadyH.nil
            go_simp
            go_wp2_with (go_at_call 17; refine (PS _).mono ?_; rintro e w' ⟨rfl, hw'⟩; subst hw')
            refine hKc.out _ _ ?_ (fun hHeld => ?_)
            · assumption
            clear hKc Kc
            refine wpAnyH_take (i := 14) (v := ?_) rfl (by kernel_rfl) (by kernel_rfl) (by kernel_rfl) (fun _ _ _ h => h) (Or.inl ⟨by rfl, ?_⟩) (by assumption) ?_
            rotate_left
            · intro w hSw
              try dsimp only at hSw
              go_simp
              try with_reducible rfl
            simp only [Act.put, List.setIfInBounds_toArray, List.set_cons_zero, List.set_cons_succ, List.getElem_toArray, List.getElem_cons_zero, List.getElem_cons_succ]
            refine wpAnyH_take (i := 15) (v := ?_) rfl (by kernel_rfl) (by kernel_rfl) (by kernel_rfl) (fun _ _ _ h => h) (Or.inl ⟨by rfl, ?_⟩) (by assumption) ?_
            rotate_left
            · intro w hSw
              try dsimp only at hSw
              go_simp
              try with_reducible rfl
            simp only [Act.put, List.setIfInBounds_toArray, List.set_cons_zero, List.set_cons_succ, List.getElem_toArray, List.getElem_cons_zero, List.getElem_cons_succ]
            refine wpAnyH_take (i := 16) (v := ?_) rfl (by kernel_rfl) (by kernel_rfl) (by kernel_rfl) (fun _ _ _ h => h) (Or.inl ⟨by rfl, ?_⟩) (by assumption) ?_
            rotate_left
            · intro w hSw
              try dsimp only at hSw
              go_simp
              try with_reducible rfl
            simp only [Act.put, List.setIfInBounds_toArray, List.set_cons_zero, List.set_cons_succ, List.getElem_toArray, List.getElem_cons_zero, List.getElem_cons_succ]
            refine wpAnyH_done (by kernel_rfl) ?_ _
            clear hHeld
            have e9 := HG9.out
            first | (subst e9) | (simp only [Option.some.injEq, Addr.mk.injEq, and_true] at e9; subst e9)
            have hbw4 : Below w4.heap.size w4 (wr.drewN 1) := by rw [HMz.out]; exact below_drewN HBL.out 1
            have hg9M := cell_block HCJ.out
            have cj9 := (hbw4.cell (p := ⟨_, j, none⟩) hg9M).trans HCJ.out
            have cj9d : wr.drew.cell? ⟨_, j, none⟩ = some vj := cj9
            have hRJ := HRJ.out.kept hbw4
            have hRV := HRI.out.kept hbw4
            have PSM := same08_any vj _ (cutZ (cs j) rr W) vmi (wr.drewN 1) hRJ.ints hRV.ints (by rw [cutZ_len]; omega) (by rw [HVM.out.2.1]; omega)
            obtain ⟨gj, cpj, curj, hvj, hcpj, hbj, hxj⟩ := HRJ.out
            rw [cutZ_len] at hvj hcpj
            obtain ⟨gg2, cc2, curv, hvv, -, hbv, hxv⟩ := HRI.out
            simp only [Value.slice.injEq, Option.some.injEq, Addr.mk.injEq, and_true] at hvv
            obtain ⟨rfl, -, rfl⟩ := hvv
            subst hvj
            have HBJ := Lib.hid hbj
            have HXJ := Lib.hid hxj
            have HBV := Lib.hid hbv
            have HXV := Lib.hid hxv
            have hgjM : gj < M := by have := hbj.lt; have h2 := HMz.out; omega
            clear hRJ hRV hbj hxj hbv hxv
            by_cases heq : cutZ (cs j) rr W = vmi
            · rw [show SamePost (wr.drewN 1) (cutZ (cs j) rr W) vmi = fun e w' => e = .returned (.bool true) ∧ Below (wr.drewN 1).heap.size (wr.drewN 1) w' from by unfold SamePost; simp [heq]] at PSM
              have HE : Hid (sumTo (j + 1) fo = sumTo j fo + dd) := Lib.hid (by rw [HNO.out, HFOJ.out, if_pos heq])
              have HE2 : Hid (∀ k, sumTo (j + 1) (fr k) = sumTo j (fr k)) := Lib.hid (fun k => by rw [HNR.out k, HFRJ.out k, if_pos heq]; omega)
              clear heq
              have ew : wrap64 (sumTo j fo + dd) = sumTo j fo + dd := by unfold wrap64; omega
              go_wp2_with fail
              refine PSM.mono ?_; clear PSM; rintro e w6 ⟨rfl, hb6⟩
              have HBK6 := Lib.hid ((HBK.out.drewN 1).kept hb6)
              have HBL6 : Hid (Below M w4 w6) := Lib.hid ((below_drewN HBL.out 1).trans (hb6.mono hsz))
              have hs6 : M ≤ w6.heap.size := Nat.le_trans hsz hb6.size
              clear hb6
              go_wp2
              go_roundw
              case rel => exact ⟨j + 1, _, by omega, by go_num, by rw [HE.out], HBK6.out, fun k hk => by rw [HE2.out k]; exact HCU.out k hk, HBL6.out, hs6⟩
              case measure => simp [intOf]; omega
            · rw [show SamePost (wr.drewN 1) (cutZ (cs j) rr W) vmi = fun e w' => e = .returned (.bool false) ∧ Below (wr.drewN 1).heap.size (wr.drewN 1) w' from by unfold SamePost; simp [heq]] at PSM
              have HE : Hid (sumTo (j + 1) fo = sumTo j fo) := Lib.hid (by rw [HNO.out, HFOJ.out, if_neg heq]; omega)
              have HFK : Hid (∀ k, sumTo (j + 1) (fr k) = sumTo j (fr k) + if colN (cutZ (cs j) rr W) k = colN vmi k then dd else 0) := Lib.hid (fun k => by rw [HNR.out k, HFRJ.out k, if_neg heq])
              clear heq
              go_wp2_with fail
              refine PSM.mono ?_; clear PSM; rintro e w6 ⟨rfl, hb6⟩
              have HBK6 := Lib.hid ((HBK.out.drewN 1).kept hb6)
              have HBL6 : Hid (Below M w4 w6) := Lib.hid ((below_drewN HBL.out 1).trans (hb6.mono hsz))
              have hs6 : M ≤ w6.heap.size := Nat.le_trans hsz hb6.size
              clear hb6
              go_wp2_with fail
              go_loopw [15] (fun i wt => ∃ (k : Nat) (cu : Array Value), k ≤ rr ∧ i = .int .i64 (k : Int) ∧ Blk wt go 2 cu ∧ (∀ k', k' < rr → cu[k']? = some (Value.int .i64 (if k' < k then sumTo (j + 1) (fr k') else sumTo j (fr k')))) ∧ Below M w4 wt ∧ M ≤ wt.heap.size) (fun i _ => rr - (intOf i).toNat)
              case atStart => exact ⟨0, cur, by omega, rfl, HBK6.out, fun k' hk' => by rw [if_neg (by omega)]; exact HCU.out k' hk', HBL6.out, hs6⟩
              case round =>
                obtain ⟨k, cu, hk, rfl, hbk, hcu, hbl, hsz6⟩ := hrel
                have HBK7 := Lib.hid hbk
                have HCU7 := Lib.hid hcu
                have HBL7 := Lib.hid hbl
                clear HBK6 HBL6 hbk hcu hbl
                by_cases hltk : k < rr
                · have hck := HCU7.out k hltk
                  rw [if_neg (by omega)] at hck
                  have co := (HBK7.out.cell k).trans hck
                  have cf := HBK7.out.frozen k
                  have hcl : (cutZ (cs j) rr W)[k]? = some (cutV W (cs j) k) := by simp [cutZ, hltk]
                  have c1j := (HBL7.out.cell (p := ⟨gj, k, none⟩) hgjM).trans ((HBJ.out.cell k).trans (HXJ.out k _ hcl))
                  have hvk := (HVM.out.2.2 k hltk).1
                  have c1v := (HBL7.out.cell (p := ⟨gg, k, none⟩) hg4).trans ((HBV.out.cell k).trans (HXV.out k _ hvk))
                  have c1a := (HBL7.out.cell (p := ⟨_, j, none⟩) (by rw [← HMz.out]; exact hg9M)).trans HCJ.out
                  have hiff := cut_eq_col (cs := cs j) (W := W) (by omega) hltk hvk rfl
                  have hsk := ((HBO.out j (by omega)).2.2 k)
                  have HCUN : Hid (∀ (x : Int), x = sumTo (j + 1) (fr k) → ∀ k', k' < rr → (cu.setIfInBounds k (Value.int .i64 x))[k']? = some (Value.int .i64 (if k' < k + 1 then sumTo (j + 1) (fr k') else sumTo j (fr k')))) := Lib.hid (fun x hx k' hk' => by
                    have h7 := HCU7.out k' hk'
                    have hsz' : k' < cu.size := (Array.getElem?_eq_some_iff.1 h7).1
                    rw [Array.getElem?_setIfInBounds]
                    by_cases e : k = k'
                    · subst e; simp [hsz', hx]
                    · rw [if_neg e, h7]
                      by_cases e2 : k' < k
                      · rw [if_pos e2, if_pos (by omega)]
                      · rw [if_neg e2, if_neg (by omega)])
                  have HCUS : Hid (sumTo (j + 1) (fr k) = sumTo j (fr k) → ∀ k', k' < rr → cu[k']? = some (Value.int .i64 (if k' < k + 1 then sumTo (j + 1) (fr k') else sumTo j (fr k')))) := Lib.hid (fun hx k' hk' => by
                    have h7 := HCU7.out k' hk'
                    rw [h7]
                    by_cases e : k' = k
                    · subst e; rw [if_neg (by omega), if_pos (by omega), hx]
                    · by_cases e2 : k' < k
                      · rw [if_pos e2, if_pos (by omega)]
                      · rw [if_neg e2, if_neg (by omega)])
                  have HFKK := Lib.hid (HFK.out k)
                  clear hck hcl hvk
                  generalize hcv : cutV W (cs j) k = cv at *
                  generalize (colN vmi k : Int) = y at *
                  clear hcv
                  have k0 : (0 : Int) ≤ (k : Int) := by omega
                  have k1 : (k : Int) < (rr : Int) := by omega
                  by_cases hq : cv = y
                  · have HSX : Hid (sumTo j (fr k) + dd = sumTo (j + 1) (fr k)) := Lib.hid (by rw [HFKK.out, if_pos (hiff.1 hq)])
                    have d1 : (cv == y) = true := by simp [hq]
                    have d2 : decide (cv = y) = true := decide_eq_true hq
                    have HQ := Lib.hid hq
                    clear hiff hq
                    generalize sumTo j (fr k) = sk at *
                    have ew : wrap64 (sk + dd) = sk + dd := by unfold wrap64; omega
                    go_wp2_with fail
                    go_quiet (fail)
                    go_wp2
                    go_roundw
                    case rel => exact ⟨k + 1, _, by omega, by go_num, (HBK7.out.drewN nq).set_ k _, fun k' hk' => HCUN.out _ HSX.out k' hk', (below_drewN HBL7.out nq).setCell hgoM _, by simpa [World.setCell] using hsz6⟩
                    case measure => simp [intOf]; omega
                  · have HSX : Hid (sumTo (j + 1) (fr k) = sumTo j (fr k)) := Lib.hid (by rw [HFKK.out, if_neg (fun h => hq (hiff.2 h))]; omega)
                    have d1 : (cv == y) = false := by simp [hq]
                    have d2 : decide (cv = y) = false := decide_eq_false hq
                    have HQ := Lib.hid hq
                    clear hiff hq
                    go_wp2_with fail
                    go_quiet (fail)
                    go_wp2
                    go_roundw
                    case rel => exact ⟨k + 1, cu, by omega, by go_num, HBK7.out.drewN nq, HCUS.out HSX.out, below_drewN HBL7.out nq, hsz6⟩
                    case measure => simp [intOf]; omega
                · obtain rfl : k = rr := by omega
                  go_wp2
                  go_roundw
                  case rel => exact ⟨j + 1, cu, by omega, by go_num, by rw [HE.out], HBK7.out, fun k' hk' => by have := HCU7.out k' hk'; rw [if_pos hk'] at this; exact this, HBL7.out, hsz6⟩
                  case measure => simp [intOf]; omega
          · obtain rfl : j = m := by omega
            have c0 := (HBK.out.cell 0).trans (HCU.out 0 (by omega))
            have HF0 : Hid (∀ k, 0 ≤ sumTo j (fr k) ∧ sumTo j (fr k) ≤ 65970697666500) := Lib.hid (fun k => (HBO.out j (by omega)).2.2 k)
            obtain ⟨ff, hff⟩ : ∃ ff : Nat → Int, ff = fun k => sumTo j (fr k) := ⟨_, rfl⟩
            have HFF := Lib.hid hff
            have e0 : sumTo j (fr 0) = ff 0 := by rw [hff]
            rw [e0] at c0
            clear hff e0
            have r0 : (0 : Int) < (rr : Int) := by omega
            go_wp2_with fail
            go_loop [16, 17] (fun l i => ∃ (k : Nat) (L : Int), k ≤ rr ∧ i = .int .i64 (k : Int) ∧ l = .int .i64 L ∧ (∀ k', k' < k → L ≤ ff k') ∧ ∃ k', k' < rr ∧ L = ff k') (fun _ i => rr - (intOf i).toNat)
            case atStart => exact ⟨0, ff 0, by omega, rfl, rfl, fun k' hk' => by omega, 0, by omega, rfl⟩
            case round =>
              obtain ⟨k, L, hk, rfl, rfl, hall, hex⟩ := hrel
              have HALLL := Lib.hid hall
              have HEX := Lib.hid hex
              clear hall hex
              by_cases hltk : k < rr
              · have ck := (HBK.out.cell k).trans (HCU.out k hltk)
                have ek : sumTo j (fr k) = ff k := by rw [HFF.out]
                rw [ek] at ck
                clear ek
                have k0 : (0 : Int) ≤ (k : Int) := by omega
                have k1 : (k : Int) < (rr : Int) := by omega
                obtain ⟨L', hL'⟩ : ∃ L', (if ff k < L then ff k else L) = L' := ⟨_, rfl⟩
                have HL2 : Hid ((∀ k', k' < k + 1 → L' ≤ ff k') ∧ ∃ k', k' < rr ∧ L' = ff k') := by
                  by_cases h : ff k < L
                  · rw [if_pos h] at hL'
                    refine ⟨fun k' hk' => ?_, k, hltk, hL'.symm⟩
                    by_cases e : k' = k
                    · subst e; omega
                    · have := HALLL.out k' (by omega); omega
                  · rw [if_neg h] at hL'
                    subst hL'
                    refine ⟨fun k' hk' => ?_, HEX.out⟩
                    by_cases e : k' = k
                    · subst e; omega
                    · exact HALLL.out k' (by omega)
                generalize ff k = fk at *
                go_wp2
                go_round
                case rel => exact ⟨k + 1, L', by omega, by go_num, rfl, HL2.out.1, HL2.out.2⟩
                case measure => simp [intOf]; omega
              · obtain rfl : k = rr := by omega
                have hbw4 : Below w4.heap.size w4 wr := by rw [HMz.out]; exact HBL.out
                have PL := PM.out wr HBL.out
                have HUL : Hid (∀ u, IsKth LZ 0 u → u = sumTo j fo + L) := Lib.hid (fun u hu => least_is hu (f := ff) (fun q hq => by rw [HLL.out.2 q hq, HFF.out]) HLL.out.1 HALLL.out HEX.out)
                have hLb : 0 ≤ L ∧ L ≤ 65970697666500 := by obtain ⟨k', _, e⟩ := HEX.out; have := HF0.out k'; rw [e, HFF.out]; exact this
                go_wp2_with fail
                refine PL.mono ?_; clear PL; rintro e w6 ⟨u, rfl, hu, hb6⟩
                obtain rfl := HUL.out u hu
                have HB6 := Lib.hid (HB5.out.trans ((btr hbw4 hb6).mono (by have := HMz.out; omega)))
                clear hu hb6 hbw4
                have ew : wrap64 (sumTo j fo + L) = sumTo j fo + L := by unfold wrap64; omega
                have hge : decide (sumTo j fo ≤ sumTo j fo + L) = true := decide_eq_true (by omega)
                generalize sumTo j fo = so at *
                go_wp2
                go_ret
                exact ⟨rfl, HB6.out⟩
theorem LinearLeast_walk (v0 v1 : Value) (w : World) (h0 : shPlay.Val w v0) (h1 : (Sh.slice (.int .i64)).Val w v1) :
    Calls Try.prog 4 #[v0, v1] w fun e w' => e = .returned (.bool true) ∧ Below w.heap.size w w' := by
  obtain ⟨r, c, l, n, cs, ds, rfl, h⟩ := val_play h0
  obtain ⟨c1s, hc⟩ := cols_of_val h1
  exact LinearLeast_main r c l n cs ds v1 c1s w h hc
end Go.Proofs.Ytcinlcbmjboaaaa
