/-
  The walks of wide.Sum, Plus, Minus. Conditions: the arguments fit their kinds.
-/
import Derived.Test.YtcfmipgdhhogcaaGrdV
import Derived.Test.YtcfmipgdhhogcaaRow
import Derived.RegionCalls
namespace Go.Proofs.Ytcfmipgdhhogcaa
open Go.RowKit
set_option linter.unusedVariables false
set_option linter.unusedSimpArgs false

/-! ### plain -/
def sumL (zs : List Int) : Int := zs.foldl (· + ·) 0
theorem sumL_snoc (zs : List Int) (x : Int) : sumL (zs ++ [x]) = sumL zs + x := by simp [sumL]
theorem foldl_start (zs : List Int) (a : Int) : zs.foldl (· + ·) a = a + zs.foldl (· + ·) 0 := by
  induction zs generalizing a with
  | nil => simp
  | cons x l ih => rw [List.foldl_cons, List.foldl_cons, ih (a + x), ih (0 + x)]; omega
theorem sumL_cons (z : Int) (zs : List Int) : sumL (z :: zs) = z + sumL zs := by
  unfold sumL
  rw [List.foldl_cons, foldl_start]; omega
theorem sumL_bd (zs : List Int) (h : ∀ x ∈ zs, -9223372036854775808 ≤ x ∧ x ≤ 9223372036854775807) : -9223372036854775808 * (zs.length : Int) ≤ sumL zs ∧ sumL zs ≤ 9223372036854775807 * (zs.length : Int) := by
  induction zs with
  | nil => simp [sumL]
  | cons x l ih =>
    rw [sumL_cons]
    have h1 := ih (fun y hy => h y (by simp [hy]))
    have h2 := h x (by simp)
    simp only [List.length_cons]
    omega
/-- what a wide number is made of -/
def wHi (x : Int) : Int := x / 18446744073709551616
def wLo (x : Int) : Int := x % 18446744073709551616
theorem sumL_take (zs : List Int) (j : Nat) (x : Int) (h : zs[j]? = some x) : sumL (zs.take (j + 1)) = sumL (zs.take j) + x := by
  rw [List.take_add_one, h]; simp [sumL]

set_option maxRecDepth 100000 in
set_option maxHeartbeats 4000000 in
theorem sum_yes (zs : List Int) (C cap : Nat) (hn : zs.length ≤ 1000) (hz : ∀ x ∈ zs, -9223372036854775808 ≤ x ∧ x ≤ 9223372036854775807) (w : World)
    (hC : ∀ i u, zs[i]? = some u → w.cell? ⟨C, i, none⟩ = some (.int .i64 u)) (hCw : C < w.heap.size) (x : Int) (hx : x = sumL zs) (x0 : -9223372036854775808 ≤ x) (x1 : x ≤ 9223372036854775807) :
    Calls Try.prog 53 #[.slice (some ⟨C, 0, none⟩) zs.length cap] w fun e w' => e = .returned (.tuple #[.int .i64 x, .bool true]) ∧ Below w.heap.size w w' := by
  have HC := Lib.hid hC
  have HZ := Lib.hid hz
  have HX := Lib.hid hx
  clear hC hz hx
  go_enter Try.func53, Try.ntmps53
  go_wp2
  have hO := Blk.new w 96 #[.int .i64 0, .int .u64 0]
  have hbel : Below w.heap.size w (w.alloc (.cells #[.int .i64 0, .int .u64 0] 96)) := (Below.refl _ _).alloc (Nat.le_refl _) _
  have HO := Lib.hid hO
  have HBL := Lib.hid hbel
  clear hO hbel
  generalize hA : w.heap.size = A at *
  have HA := Lib.hid hA
  clear hA
  go_loopw [9] (fun i wr => ∃ j : Nat, j ≤ zs.length ∧ i = .int .i64 (j : Int) ∧ Blk wr A 96 #[.int .i64 (wHi (sumL (zs.take j))), .int .u64 (wLo (sumL (zs.take j)))] ∧ Below A w wr) (fun i _ => zs.length - (intOf i).toNat)
  case atStart => exact ⟨0, by omega, rfl, HO.out, HBL.out⟩
  case round =>
    obtain ⟨j, hj, rfl, hO, hbel⟩ := hrel
    clear HO HBL
    have HBL := Lib.hid hbel
    have HO := Lib.hid hO
    clear hbel
    by_cases hlt : j < zs.length
    · have hzj : zs[j]? = some zs[j] := List.getElem?_eq_getElem hlt
      have hcj : wr.cell? ⟨C, j, none⟩ = some (.int .i64 zs[j]) := (HBL.out.cell (p := ⟨C, j, none⟩) hCw).trans (HC.out j _ hzj)
      have hb := HZ.out zs[j] (List.getElem_mem hlt)
      have hs := sumL_take zs j _ hzj
      obtain ⟨T, hT⟩ : ∃ T, T = sumL (zs.take (j + 1)) := ⟨_, rfl⟩
      have HT : Hid (sumL (zs.take (j + 1)) = T) := hT.symm
      rw [← hT] at hs
      clear hT
      have hbd := sumL_bd (zs.take j) (fun x hx => HZ.out x (List.mem_of_mem_take hx))
      have hl : (zs.take j).length ≤ 1000 := by simp; omega
      generalize sumL (zs.take j) = U at *
      generalize zs[j] = z at *
      have q0 := hO.cell 0
      have q1 := hO.cell 1
      simp at q0 q1
      go_wp2_with fail
      have W0 : -9223372036854775808 ≤ wHi U ∧ wHi U ≤ 9223372036854775807 := by unfold wHi; omega
      have W1 : 0 ≤ wLo U ∧ wLo U ≤ 18446744073709551615 := by unfold wLo; omega
      have W2 : 0 ≤ IntKind.u64.wrap z ∧ IntKind.u64.wrap z ≤ 18446744073709551615 := by rw [wrapU_eq]; omega
      have W3 : wHi T = wHi U + z / 9223372036854775808 + (wLo U + IntKind.u64.wrap z) / 18446744073709551616 := by rw [wrapU_eq, hs]; unfold wHi wLo; omega
      have W4 : wLo T = (wLo U + IntKind.u64.wrap z) % 18446744073709551616 := by rw [wrapU_eq, hs]; unfold wLo; omega
      have W5 : -9223372036854775808 ≤ wHi T ∧ wHi T ≤ 9223372036854775807 := by unfold wHi; omega
      have HADD : ∀ w, Calls Try.prog 58 #[.agg #[.int .i64 (wHi U), .int .u64 (wLo U)], .agg #[.int .i64 (z / 9223372036854775808), .int .u64 (IntKind.u64.wrap z)]] w fun e w' => e = .returned (.tuple #[.agg #[.int .i64 (wHi T), .int .u64 (wLo T)], .bool true]) ∧ Below w.heap.size w w' :=
        fun w => wadd_any _ _ _ _ _ _ W0.1 W0.2 (by omega) (by omega) W1.1 W1.2 W2.1 W2.2 W3 W4 W5.1 W5.2 w
      have HOF := fun w => of_any z hb.1 hb.2 w
      clear W0 W1 W2 W3 W4 W5 hs hbd hzj
      go_region_with (first | (go_at_call 56; refine (HOF _).mono ?_; rintro e w1 ⟨rfl, hb1⟩; have o1 := HO.out.drew.kept hb1; have q2 := o1.cell 0; have q3 := o1.cell 1; simp at q2 q3) | (go_at_call 58; refine (HADD _).mono ?_; rintro e w2 ⟨rfl, hb2⟩; have o2 := o1.kept hb2; have q4 := o2.cell 0; have q5 := o2.cell 1; have q6 := o2.frozen 0; have q7 := o2.frozen 1; simp at q4 q5))
      all_goals
        have HB9 : Hid (Below A w w2) := Lib.hid ((HBL.out.drew.trans (hb1.mono (by simp; have := HBL.out.size; have := HO.out.lt; omega))).trans (hb2.mono (by have := o1.lt; omega)))
        have HO9 := Lib.hid o2
        clear o1 o2 hb1 hb2 q0 q1 q2 q3 q4 q5 q6 q7
        go_wp2
        go_roundw
        case rel =>
          refine ⟨j + 1, by omega, by go_num, ?_, ?_⟩
          · have := (HO9.out.set_ 0 (.int .i64 (wHi T))).set_ 1 (.int .u64 (wLo T))
            rw [HT.out]
            simpa using this
          · exact (HB9.out.setCell (by simp) _).setCell (by simp) _
        case measure => simp [intOf]; omega
    · obtain rfl : j = zs.length := by omega
      have e : sumL (zs.take zs.length) = x := by rw [List.take_length, HX.out]
      rw [e] at hO HO
      have q0 := hO.cell 0
      have q1 := hO.cell 1
      simp at q0 q1
      have hx1 : wrap64 (wLo x) = x := wrap64_of_mod x x0 x1
      have hx2 : x / 9223372036854775808 = wHi x := by unfold wHi; omega
      have hx3 : IntKind.u64.wrap x = wLo x := wrapU_eq x
      have HI : ∀ w, Calls Try.prog 57 #[.agg #[.int .i64 (wHi x), .int .u64 (wLo x)]] w fun e w' => e = .returned (.tuple #[.int .i64 x, .bool true]) ∧ Below w.heap.size w w' :=
        fun w => int_yes _ _ x hx1 x0 x1 hx2 hx3 w
      clear hx1 hx2 hx3 e
      go_wp2_with (go_at_call 57; refine (HI _).mono ?_; rintro e w1 ⟨rfl, hb1⟩)
      go_ret2
      exact ⟨rfl, by rw [HA.out]; exact HBL.out.trans (hb1.mono (by have := HO.out.lt; omega))⟩
set_option maxRecDepth 100000 in
set_option maxHeartbeats 4000000 in
theorem sum_no (zs : List Int) (C cap : Nat) (hn : zs.length ≤ 1000) (hz : ∀ x ∈ zs, -9223372036854775808 ≤ x ∧ x ≤ 9223372036854775807) (w : World)
    (hC : ∀ i u, zs[i]? = some u → w.cell? ⟨C, i, none⟩ = some (.int .i64 u)) (hCw : C < w.heap.size) (x : Int) (hx : x = sumL zs) (xn : ¬ (-9223372036854775808 ≤ x ∧ x ≤ 9223372036854775807)) :
    Calls Try.prog 53 #[.slice (some ⟨C, 0, none⟩) zs.length cap] w fun e w' => e = .returned (.tuple #[.int .i64 0, .bool false]) ∧ Below w.heap.size w w' := by
  have HC := Lib.hid hC
  have HZ := Lib.hid hz
  have HX := Lib.hid hx
  clear hC hz hx
  go_enter Try.func53, Try.ntmps53
  go_wp2
  have hO := Blk.new w 96 #[.int .i64 0, .int .u64 0]
  have hbel : Below w.heap.size w (w.alloc (.cells #[.int .i64 0, .int .u64 0] 96)) := (Below.refl _ _).alloc (Nat.le_refl _) _
  have HO := Lib.hid hO
  have HBL := Lib.hid hbel
  clear hO hbel
  generalize hA : w.heap.size = A at *
  have HA := Lib.hid hA
  clear hA
  go_loopw [9] (fun i wr => ∃ j : Nat, j ≤ zs.length ∧ i = .int .i64 (j : Int) ∧ Blk wr A 96 #[.int .i64 (wHi (sumL (zs.take j))), .int .u64 (wLo (sumL (zs.take j)))] ∧ Below A w wr) (fun i _ => zs.length - (intOf i).toNat)
  case atStart => exact ⟨0, by omega, rfl, HO.out, HBL.out⟩
  case round =>
    obtain ⟨j, hj, rfl, hO, hbel⟩ := hrel
    clear HO HBL
    have HBL := Lib.hid hbel
    have HO := Lib.hid hO
    clear hbel
    by_cases hlt : j < zs.length
    · have hzj : zs[j]? = some zs[j] := List.getElem?_eq_getElem hlt
      have hcj : wr.cell? ⟨C, j, none⟩ = some (.int .i64 zs[j]) := (HBL.out.cell (p := ⟨C, j, none⟩) hCw).trans (HC.out j _ hzj)
      have hb := HZ.out zs[j] (List.getElem_mem hlt)
      have hs := sumL_take zs j _ hzj
      obtain ⟨T, hT⟩ : ∃ T, T = sumL (zs.take (j + 1)) := ⟨_, rfl⟩
      have HT : Hid (sumL (zs.take (j + 1)) = T) := hT.symm
      rw [← hT] at hs
      clear hT
      have hbd := sumL_bd (zs.take j) (fun x hx => HZ.out x (List.mem_of_mem_take hx))
      have hl : (zs.take j).length ≤ 1000 := by simp; omega
      generalize sumL (zs.take j) = U at *
      generalize zs[j] = z at *
      have q0 := hO.cell 0
      have q1 := hO.cell 1
      simp at q0 q1
      go_wp2_with fail
      have W0 : -9223372036854775808 ≤ wHi U ∧ wHi U ≤ 9223372036854775807 := by unfold wHi; omega
      have W1 : 0 ≤ wLo U ∧ wLo U ≤ 18446744073709551615 := by unfold wLo; omega
      have W2 : 0 ≤ IntKind.u64.wrap z ∧ IntKind.u64.wrap z ≤ 18446744073709551615 := by rw [wrapU_eq]; omega
      have W3 : wHi T = wHi U + z / 9223372036854775808 + (wLo U + IntKind.u64.wrap z) / 18446744073709551616 := by rw [wrapU_eq, hs]; unfold wHi wLo; omega
      have W4 : wLo T = (wLo U + IntKind.u64.wrap z) % 18446744073709551616 := by rw [wrapU_eq, hs]; unfold wLo; omega
      have W5 : -9223372036854775808 ≤ wHi T ∧ wHi T ≤ 9223372036854775807 := by unfold wHi; omega
      have HADD : ∀ w, Calls Try.prog 58 #[.agg #[.int .i64 (wHi U), .int .u64 (wLo U)], .agg #[.int .i64 (z / 9223372036854775808), .int .u64 (IntKind.u64.wrap z)]] w fun e w' => e = .returned (.tuple #[.agg #[.int .i64 (wHi T), .int .u64 (wLo T)], .bool true]) ∧ Below w.heap.size w w' :=
        fun w => wadd_any _ _ _ _ _ _ W0.1 W0.2 (by omega) (by omega) W1.1 W1.2 W2.1 W2.2 W3 W4 W5.1 W5.2 w
      have HOF := fun w => of_any z hb.1 hb.2 w
      clear W0 W1 W2 W3 W4 W5 hs hbd hzj
      go_region_with (first | (go_at_call 56; refine (HOF _).mono ?_; rintro e w1 ⟨rfl, hb1⟩; have o1 := HO.out.drew.kept hb1; have q2 := o1.cell 0; have q3 := o1.cell 1; simp at q2 q3) | (go_at_call 58; refine (HADD _).mono ?_; rintro e w2 ⟨rfl, hb2⟩; have o2 := o1.kept hb2; have q4 := o2.cell 0; have q5 := o2.cell 1; have q6 := o2.frozen 0; have q7 := o2.frozen 1; simp at q4 q5))
      all_goals
        have HB9 : Hid (Below A w w2) := Lib.hid ((HBL.out.drew.trans (hb1.mono (by simp; have := HBL.out.size; have := HO.out.lt; omega))).trans (hb2.mono (by have := o1.lt; omega)))
        have HO9 := Lib.hid o2
        clear o1 o2 hb1 hb2 q0 q1 q2 q3 q4 q5 q6 q7
        go_wp2
        go_roundw
        case rel =>
          refine ⟨j + 1, by omega, by go_num, ?_, ?_⟩
          · have := (HO9.out.set_ 0 (.int .i64 (wHi T))).set_ 1 (.int .u64 (wLo T))
            rw [HT.out]
            simpa using this
          · exact (HB9.out.setCell (by simp) _).setCell (by simp) _
        case measure => simp [intOf]; omega
    · obtain rfl : j = zs.length := by omega
      have e : sumL (zs.take zs.length) = x := by rw [List.take_length, HX.out]
      rw [e] at hO HO
      have q0 := hO.cell 0
      have q1 := hO.cell 1
      simp at q0 q1
      have hbd := sumL_bd zs HZ.out
      have hxx := HX.out
      obtain ⟨y, hy⟩ : ∃ y, wrap64 (wLo x) = y := ⟨_, rfl⟩
      have hy0 : -9223372036854775808 ≤ y ∧ y ≤ 9223372036854775807 := by rw [← hy]; unfold wrap64; omega
      have hx2 : ¬ y / 9223372036854775808 = wHi x := by
        rw [← hy]; unfold wrap64 wHi wLo; omega
      have HI : ∀ w, Calls Try.prog 57 #[.agg #[.int .i64 (wHi x), .int .u64 (wLo x)]] w fun e w' => e = .returned (.tuple #[.int .i64 0, .bool false]) ∧ Below w.heap.size w w' :=
        fun w => int_no _ _ y hy hy0.1 hy0.2 hx2 w
      clear hy hx2 e hbd hxx
      go_wp2_with (go_at_call 57; refine (HI _).mono ?_; rintro e w1 ⟨rfl, hb1⟩)
      go_ret2
      exact ⟨rfl, by rw [HA.out]; exact HBL.out.trans (hb1.mono (by have := HO.out.lt; omega))⟩

def TwoPost (w : World) (x : Int) (b : Bool) (e : Ending) (w' : World) : Prop := e = .returned (.tuple #[.int .i64 x, .bool b]) ∧ Below w.heap.size w w'
theorem two_cells (w : World) (a b : Int) (t : TypeId) : ∀ i u, ([a, b] : List Int)[i]? = some u → (w.alloc (.cells #[.int .i64 a, .int .i64 b] t)).cell? ⟨w.heap.size, i, none⟩ = some (.int .i64 u) := by
  intro i u hu
  have h := (Blk.new w t #[.int .i64 a, .int .i64 b]).cell i
  rw [h]
  match i with
  | 0 => simp at hu; simp [hu]
  | 1 => simp at hu; simp [hu]
  | n + 2 => simp at hu
theorem plus_yes (a b : Int) (a0 : -9223372036854775808 ≤ a) (a1 : a ≤ 9223372036854775807) (b0 : -9223372036854775808 ≤ b) (b1 : b ≤ 9223372036854775807) (s0 : -9223372036854775808 ≤ a + b) (s1 : a + b ≤ 9223372036854775807) (w : World) :
    Calls Try.prog 41 #[.int .i64 a, .int .i64 b] w (TwoPost w (a + b) true) := by
  have HS := sum_yes [a, b] w.heap.size 2 (by simp) (by intro x hx; simp at hx; omega) (w.alloc (.cells #[.int .i64 a, .int .i64 b] 2)) (two_cells w a b _) (by simp) (a + b) (by simp [sumL]) s0 s1
  simp only [List.length_cons, List.length_nil, Nat.zero_add, Nat.reduceAdd] at HS
  generalize a + b = x at *
  go_enter Try.func41, Try.ntmps41
  go_wp2_with (go_at_call 53; refine HS.mono ?_; rintro e w1 ⟨rfl, hb1⟩)
  go_ret2
  exact ⟨rfl, ((Below.refl _ _).alloc (Nat.le_refl _) _).trans (hb1.mono (by simp))⟩
theorem plus_no (a b : Int) (a0 : -9223372036854775808 ≤ a) (a1 : a ≤ 9223372036854775807) (b0 : -9223372036854775808 ≤ b) (b1 : b ≤ 9223372036854775807) (sn : ¬ (-9223372036854775808 ≤ a + b ∧ a + b ≤ 9223372036854775807)) (w : World) :
    Calls Try.prog 41 #[.int .i64 a, .int .i64 b] w (TwoPost w 0 false) := by
  have HS := sum_no [a, b] w.heap.size 2 (by simp) (by intro x hx; simp at hx; omega) (w.alloc (.cells #[.int .i64 a, .int .i64 b] 2)) (two_cells w a b _) (by simp) (a + b) (by simp [sumL]) sn
  simp only [List.length_cons, List.length_nil, Nat.zero_add, Nat.reduceAdd] at HS
  clear sn
  go_enter Try.func41, Try.ntmps41
  go_wp2_with (go_at_call 53; refine HS.mono ?_; rintro e w1 ⟨rfl, hb1⟩)
  go_ret2
  exact ⟨rfl, ((Below.refl _ _).alloc (Nat.le_refl _) _).trans (hb1.mono (by simp))⟩


theorem minus_yes (a b : Int) (a0 : -9223372036854775808 ≤ a) (a1 : a ≤ 9223372036854775807) (b0 : -9223372036854775808 ≤ b) (b1 : b ≤ 9223372036854775807) (s0 : -9223372036854775808 ≤ a - b) (s1 : a - b ≤ 9223372036854775807) (w : World) :
    Calls Try.prog 52 #[.int .i64 a, .int .i64 b] w (TwoPost w (a - b) true) := by
  have HOA := fun w => of_any a a0 a1 w
  have HOB := fun w => of_any b b0 b1 w
  have W0 : 0 ≤ IntKind.u64.wrap a ∧ IntKind.u64.wrap a ≤ 18446744073709551615 := by rw [wrapU_eq]; omega
  have W2 : 0 ≤ IntKind.u64.wrap b ∧ IntKind.u64.wrap b ≤ 18446744073709551615 := by rw [wrapU_eq]; omega
  have W3 : wHi (a - b) = a / 9223372036854775808 - b / 9223372036854775808 - bor64 (IntKind.u64.wrap a) (IntKind.u64.wrap b) := by rw [wrapU_eq, wrapU_eq]; unfold wHi bor64; split <;> omega
  have W4 : wLo (a - b) = (IntKind.u64.wrap a - IntKind.u64.wrap b) % 18446744073709551616 := by rw [wrapU_eq, wrapU_eq]; unfold wLo; omega
  have W5 : -9223372036854775808 ≤ wHi (a - b) ∧ wHi (a - b) ≤ 9223372036854775807 := by unfold wHi; omega
  have HSUB := fun w => wsub_any (a / 9223372036854775808) (IntKind.u64.wrap a) (b / 9223372036854775808) (IntKind.u64.wrap b) _ _ (by omega) (by omega) (by omega) (by omega) W0.1 W0.2 W2.1 W2.2 W3 W4 W5.1 W5.2 w
  have HI : ∀ w, Calls Try.prog 57 #[.agg #[.int .i64 (wHi (a - b)), .int .u64 (wLo (a - b))]] w fun e w' => e = .returned (.tuple #[.int .i64 (a - b), .bool true]) ∧ Below w.heap.size w w' :=
    fun w => int_yes _ _ (a - b) (wrap64_of_mod _ s0 s1) s0 s1 (by unfold wHi; omega) (wrapU_eq _) w
  generalize wHi (a - b) = H at *
  generalize wLo (a - b) = L at *
  generalize a - b = D at *
  clear W0 W2 W3 W4 W5 a0 a1 b0 b1
  go_enter Try.func52, Try.ntmps52
  go_wp2_with fail
  refine (HOA _).mono ?_; rintro e w1 ⟨rfl, hb1⟩
  go_wp2_with fail
  refine (HOB _).mono ?_; rintro e w2 ⟨rfl, hb2⟩
  go_wp2_with fail
  refine (HSUB _).mono ?_; rintro e w3 ⟨rfl, hb3⟩
  go_wp2_with fail
  refine (HI _).mono ?_; rintro e w4 ⟨rfl, hb4⟩
  go_wp2
  go_ret2
  exact ⟨rfl, (((hb1.trans (hb2.mono hb1.size)).trans (hb3.mono (Nat.le_trans hb1.size hb2.size))).alloc (Nat.le_trans hb1.size (Nat.le_trans hb2.size hb3.size)) _).trans (hb4.mono (by simp; have := hb1.size; have := hb2.size; have := hb3.size; omega))⟩

theorem minus_no (a b : Int) (a0 : -9223372036854775808 ≤ a) (a1 : a ≤ 9223372036854775807) (b0 : -9223372036854775808 ≤ b) (b1 : b ≤ 9223372036854775807) (sn : ¬ (-9223372036854775808 ≤ a - b ∧ a - b ≤ 9223372036854775807)) (w : World) :
    Calls Try.prog 52 #[.int .i64 a, .int .i64 b] w (TwoPost w 0 false) := by
  have HOA := fun w => of_any a a0 a1 w
  have HOB := fun w => of_any b b0 b1 w
  have W0 : 0 ≤ IntKind.u64.wrap a ∧ IntKind.u64.wrap a ≤ 18446744073709551615 := by rw [wrapU_eq]; omega
  have W2 : 0 ≤ IntKind.u64.wrap b ∧ IntKind.u64.wrap b ≤ 18446744073709551615 := by rw [wrapU_eq]; omega
  have W3 : wHi (a - b) = a / 9223372036854775808 - b / 9223372036854775808 - bor64 (IntKind.u64.wrap a) (IntKind.u64.wrap b) := by rw [wrapU_eq, wrapU_eq]; unfold wHi bor64; split <;> omega
  have W4 : wLo (a - b) = (IntKind.u64.wrap a - IntKind.u64.wrap b) % 18446744073709551616 := by rw [wrapU_eq, wrapU_eq]; unfold wLo; omega
  have W5 : -9223372036854775808 ≤ wHi (a - b) ∧ wHi (a - b) ≤ 9223372036854775807 := by unfold wHi; omega
  have HSUB := fun w => wsub_any (a / 9223372036854775808) (IntKind.u64.wrap a) (b / 9223372036854775808) (IntKind.u64.wrap b) _ _ (by omega) (by omega) (by omega) (by omega) W0.1 W0.2 W2.1 W2.2 W3 W4 W5.1 W5.2 w
  obtain ⟨y, hy⟩ : ∃ y, wrap64 (wLo (a - b)) = y := ⟨_, rfl⟩
  have hy0 : -9223372036854775808 ≤ y ∧ y ≤ 9223372036854775807 := by rw [← hy]; unfold wrap64; omega
  have hx2 : ¬ y / 9223372036854775808 = wHi (a - b) := by
    rw [← hy]; unfold wrap64 wHi wLo; omega
  have HI : ∀ w, Calls Try.prog 57 #[.agg #[.int .i64 (wHi (a - b)), .int .u64 (wLo (a - b))]] w fun e w' => e = .returned (.tuple #[.int .i64 0, .bool false]) ∧ Below w.heap.size w w' :=
    fun w => int_no _ _ y hy hy0.1 hy0.2 hx2 w
  clear hy hy0 hx2 sn
  generalize wHi (a - b) = H at *
  generalize wLo (a - b) = L at *
  clear W0 W2 W3 W4 W5 a0 a1 b0 b1
  go_enter Try.func52, Try.ntmps52
  go_wp2_with fail
  refine (HOA _).mono ?_; rintro e w1 ⟨rfl, hb1⟩
  go_wp2_with fail
  refine (HOB _).mono ?_; rintro e w2 ⟨rfl, hb2⟩
  go_wp2_with fail
  refine (HSUB _).mono ?_; rintro e w3 ⟨rfl, hb3⟩
  go_wp2_with fail
  refine (HI _).mono ?_; rintro e w4 ⟨rfl, hb4⟩
  go_wp2
  go_ret2
  exact ⟨rfl, (((hb1.trans (hb2.mono hb1.size)).trans (hb3.mono (Nat.le_trans hb1.size hb2.size))).alloc (Nat.le_trans hb1.size (Nat.le_trans hb2.size hb3.size)) _).trans (hb4.mono (by simp; have := hb1.size; have := hb2.size; have := hb3.size; omega))⟩
end Go.Proofs.Ytcfmipgdhhogcaa
