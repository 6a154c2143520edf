/-
  The walk of LinearSums. Conditions: the arguments are of their types.
-/
import Derived.Test.YtcinlcbmjboaaaaLinE
import Derived.Test.YtcinlcbmjboaaaaLinS
namespace Go.Proofs.Ytcinlcbmjboaaaa
open Go.RowKit
set_option linter.unusedVariables false
set_option linter.unusedSimpArgs false

set_option maxRecDepth 100000 in
set_option maxHeartbeats 8000000 in
theorem LinearSums_main (r c : Int) (l : Value) (n : Nat) (cs : Nat → List Int) (ds : Nat → Int) (w : World) (hl : StepsAt w l n cs ds) :
    Calls Try.prog 3 #[.agg #[.int .i64 r, .int .i64 c, l]] w fun e w' => e = .returned (.bool true) ∧ Below w.heap.size w w' := by
  have P0 := Lib.hid (fun w => sized08 r c l w)
  have P1 := Lib.hid (fun w hl => done08 r c l n cs ds false false w hl)
  obtain ⟨r1, r2, -⟩ := sizeR_bd r
  obtain ⟨c1, c2, -⟩ := sizeW_bd c
  generalize sizeR r = R at *
  generalize sizeW c = W at *
  have HL := Lib.hid hl
  obtain ⟨ao, cap, rfl, hmx, hd64, hcells⟩ := hl
  have HCL := Lib.hid hcells
  clear hcells hd64
  obtain ⟨m, hm⟩ : ∃ m, m = min n 60 := ⟨_, rfl⟩
  rw [← hm] at P1
  have hm60 : m ≤ 60 := by omega
  have hmn : m ≤ n := by omega
  clear hm
  go_enter Try.func3, Try.ntmps3
  go_wp2_with fail
  obtain ⟨g1, hb1, hsz1⟩ := news1 w (.cells #[.int .i64 r, .int .i64 c, .slice ao n cap] 24)
  have hx1 : Blk (w.alloc (.cells #[.int .i64 r, .int .i64 c, .slice ao n cap] 24)) w.heap.size 24 #[.int .i64 r, .int .i64 c, .slice ao n cap] := g1
  have HL1 := Lib.hid (HL.out.kept hb1)
  have HB1 := Lib.hid hb1
  have HX1 := Lib.hid hx1
  clear g1 hb1 hx1
  generalize (w.alloc (.cells #[.int .i64 r, .int .i64 c, .slice ao n cap] 24)) = wz at *
  refine (shown08 wz).mono ?_; rintro e w1 ⟨rfl, hb⟩
  have hx1 := HX1.out.kept hb
  have HX2 := Lib.hid hx1
  have HB2 := Lib.hid (btr HB1.out hb)
  have HL2 := Lib.hid (HL1.out.kept hb)
  clear hb
  go_wp2_with (refine wpList_load_row rfl 24 _ rfl w.heap.size rfl 24 _ (0, 0) _ hx1 Try.underlying24 rfl (by kernel_rfl) ?_)
  refine (P0.out w1).mono ?_; rintro e w2 ⟨rfl, hb⟩
  have hx1 := HX2.out.kept hb
  have HX3 := Lib.hid hx1
  have HB3 := Lib.hid (btr HB2.out hb)
  have HL3 := Lib.hid (HL2.out.kept hb)
  clear hb
  go_wp2_with (refine wpList_load_row rfl 24 _ rfl w.heap.size rfl 24 _ (0, 0) _ hx1 Try.underlying24 rfl (by kernel_rfl) ?_)
  refine (P1.out w2 HL3.out).mono ?_; rintro e w3 ⟨G, C, va, vs, zs, rfl, -, -, hg, hsum, hall, hb⟩
  obtain ⟨aa, ca, rfl, hrows⟩ := hall.cell
  have hx := HX3.out.kept hb
  have q2 := hx.cell 2
  simp at q2
  have HG := Lib.hid hg
  have HSUM : Hid (SumsAre R W cs (fun i => smallZ (ds i)) zs m) := Lib.hid (by simpa [stepK, plainZ] using hsum)
  have HB := Lib.hid (btr HB3.out hb)
  have HROWS : Hid (∀ i, i < m → ∃ g vi, aa = some ⟨g, 0, none⟩ ∧ w3.cell? ⟨g, i, none⟩ = some vi ∧ RowI w3 vi (cutZ (cs i) R W)) := Lib.hid (fun i hi => hrows i _ (by simp [hi]))
  have HCL3 : Hid (0 < n → ∃ b off, ao = some ⟨b, off, none⟩ ∧ ∀ i, i < n → w3.cell? ⟨b, off + i * 2 + 1, none⟩ = some (.int .i64 (ds i))) := Lib.hid (fun h0 => by
    obtain ⟨b, off, e, hbl, hc⟩ := HCL.out h0
    exact ⟨b, off, e, fun i hi => (HB.out.cell (p := ⟨b, off + i * 2 + 1, none⟩) hbl).trans (hc i hi).2⟩)
  have hml : ((List.range m).map fun i => cutZ (cs i) R W).length = m := by simp
  simp only [hml]
  clear hml hx hg hsum hall hrows hb HL HL1 HL2 HL3 HCL HX1 HX2 HX3 HB1 HB2 HB3 P0 P1
  obtain ⟨f, hf⟩ : ∃ f : Nat → Nat → Nat → Int, f = fun r c => stepIf R W cs (fun i => smallZ (ds i)) r c := ⟨_, rfl⟩
  have HF := Lib.hid hf
  clear hf
  have HBD : Hid (∀ r c i, -1099511627775 ≤ f r c i ∧ f r c i ≤ 1099511627775) := Lib.hid (fun r c i => by
    rw [HF.out]
    have := smallZ_bd (ds i)
    simp only [stepIf]
    split <;> omega)
  go_wp2_with fail
  go_loop [8] (fun i => ∃ rr : Nat, rr ≤ R ∧ i = .int .i64 (rr : Int)) (fun i => R - (intOf i).toNat)
  case atStart => exact ⟨0, by omega, rfl⟩
  case round =>
    obtain ⟨rr, hrr, rfl⟩ := hrel
    by_cases hlr : rr < R
    · go_wp2_with fail
      go_loop [9] (fun i => ∃ cc : Nat, cc ≤ W ∧ i = .int .i64 (cc : Int)) (fun i => W - (intOf i).toNat)
      case atStart => exact ⟨0, by omega, rfl⟩
      case round =>
        obtain ⟨cc, hcc, rfl⟩ := hrel
        by_cases hlc : cc < W
        · go_wp2_with fail
          go_loop [10, 11] (fun s i => ∃ j : Nat, j ≤ m ∧ i = .int .i64 (j : Int) ∧ s = .int .i64 (sumTo j (f rr cc))) (fun _ i => m - (intOf i).toNat)
          case atStart => exact ⟨0, by omega, rfl, rfl⟩
          case round =>
            obtain ⟨j, hj, rfl, rfl⟩ := hrel
            have hbd := sumTo_bd (n := j) (B := 1099511627775) (fun i _ => HBD.out rr cc i)
            have HN : Hid (sumTo (j + 1) (f rr cc) = sumTo j (f rr cc) + f rr cc j) := rfl
            by_cases hlt : j < m
            · obtain ⟨ga, vj, rfl, hcj, gj, cpj, curj, rfl, -, hbj, hrj⟩ := HROWS.out j hlt
              have hcut : (cutZ (cs j) R W)[rr]? = some (cutV W (cs j) rr) := by simp [cutZ, hlr]
              have cx := (hbj.cell rr).trans (hrj rr _ hcut)
              have hcl := cutZ_len (cs := cs j) (R := R) (W := W)
              rw [hcl] at hcj
              have HFJ : Hid (f rr cc j = if cutV W (cs j) rr = (cc : Int) then smallZ (ds j) else 0) := Lib.hid (by
                rw [HF.out]
                simp only [stepIf, cut_col hlr]
                have := cutV_bd (W := W) (by omega) (cs j) rr
                have e : ((cutV W (cs j) rr).toNat = cc) ↔ (cutV W (cs j) rr = (cc : Int)) := by omega
                simp only [e])
              have hcv := cutV_bd (W := W) (by omega) (cs j) rr
              clear hcut hcl hbj hrj
              generalize cutV W (cs j) rr = cv at *
              generalize hS : sumTo j (f rr cc) = S at *
              have HS := Lib.hid hS
              clear hS
              have i0 : (0 : Int) ≤ (j : Int) := by omega
              have i1 : (j : Int) < (m : Int) := by omega
              have i2 : (0 : Int) ≤ (rr : Int) := by omega
              have i3 : (rr : Int) < (R : Int) := by omega
              have i4 : (j : Int) < (n : Int) := by omega
              obtain ⟨b, off, rfl, hc⟩ := HCL3.out (by omega)
              have cd := hc j (by omega)
              have PS := fun w => small08 (ds j) w
              have hsb := smallZ_bd (ds j)
              clear hc
              by_cases e : cv = (cc : Int)
              · have HE : Hid (sumTo (j + 1) (f rr cc) = S + smallZ (ds j)) := Lib.hid (by rw [HN.out, HFJ.out, if_pos e])
                have ew : wrap64 (S + smallZ (ds j)) = S + smallZ (ds j) := by unfold wrap64; omega
                have d1 : (cv == (cc : Int)) = true := by simp [e]
                have HEE := Lib.hid e
                clear e
                generalize ds j = dj at *
                generalize smallZ dj = s at *
                go_wp2_with (go_at_call 17; refine (PS _).mono ?_; rintro e w' ⟨rfl, hw'⟩; subst hw')
                go_round
                case rel => exact ⟨j + 1, by omega, by go_num, by rw [HE.out]⟩
                case measure => simp [intOf]; omega
              · have HE : Hid (sumTo (j + 1) (f rr cc) = S) := Lib.hid (by rw [HN.out, HFJ.out, if_neg e]; omega)
                have d1 : (cv == (cc : Int)) = false := by simp [e]
                have HEE := Lib.hid e
                clear e
                go_wp2
                go_round
                case rel => exact ⟨j + 1, by omega, by go_num, by rw [HE.out]⟩
                case measure => simp [intOf]; omega
            · obtain rfl : j = m := by omega
              have PA := at_in w3 G C R W rr cc zs HG.out hlr hlc
              rw [HSUM.out rr cc hlr hlc] at PA
              have PA : Calls Try.prog 18 #[.pointer (some ⟨G, 0, none⟩), .int .i64 (rr : Int), .int .i64 (cc : Int)] w3 fun e w' => e = .returned (.int .i64 (sumTo j (f rr cc))) ∧ w3 = w' := by rw [HF.out]; exact PA
              clear hbd
              generalize sumTo j (f rr cc) = S at *
              go_wp2_with (go_at_call 18; refine PA.mono ?_; rintro e w' ⟨rfl, hw'⟩; subst hw')
              go_round
              case rel => exact ⟨cc + 1, by omega, by go_num⟩
              case measure => simp [intOf]; omega
        · obtain rfl : cc = W := by omega
          go_wp2
          go_round
          case rel => exact ⟨rr + 1, by omega, by go_num⟩
          case measure => simp [intOf]; omega
    · obtain rfl : rr = R := by omega
      go_wp2
      go_ret
      exact ⟨rfl, HB.out⟩
theorem LinearSums_walk (v0 : Value) (w : World) (h0 : shPlay.Val w v0) :
    Calls Try.prog 3 #[v0] w fun e w' => e = .returned (.bool true) ∧ Below w.heap.size w w' := by
  obtain ⟨r, c, l, n, cs, ds, rfl, h⟩ := val_play h0
  exact LinearSums_main r c l n cs ds w h
end Go.Proofs.Ytcinlcbmjboaaaa
