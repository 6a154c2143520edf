import Derived.Test.YtfeficdndjiijaaGreatDoorQwa
import Derived.RegionCalls
import Derived.Laws.CopyOwn
import Derived.Deep.QuietTactic
import Derived.BigQuiet
import Derived.WalkKit
import Derived.ProofKit
import Derived.OpenShut
import Derived.ChangeOld
import Derived.Below
import Derived.Deep.Slices
import Derived.Deep.RegionHeld3
import Derived.Laws.BitsAllLaws
import Derived.Test.YtfeficdndjiijaaGreatDoorProg
import Derived.Outline
import Derived.LoopN
import Derived.WalkSmall
import Derived.Deep.DeepCutAuto
/-
  Contracts of the functions that TopWire reaches, and the plain laws that it leans on. Conditions: none beyond those stated at each theorem.
-/
namespace Go.Proofs.YtfeficdndjiijaaGreatDoor
open Go.RowKit
set_option linter.unusedVariables false
set_option linter.unusedSimpArgs false

def sumL (zs : List Int) : Int := zs.foldl (· + ·) 0
theorem foldl_start (zs : List Int) (a : Int) : zs.foldl (· + ·) a = a + zs.foldl (· + ·) 0 := by
  induction zs generalizing a with
  | nil => simp
  | cons x l ih => rw [List.foldl_cons, List.foldl_cons, ih (a + x), ih (0 + x)]; omega
theorem sumL_cons (z : Int) (zs : List Int) : sumL (z :: zs) = z + sumL zs := by
  unfold sumL
  rw [List.foldl_cons, foldl_start]; omega
theorem sumL_bd (zs : List Int) (h : ∀ x ∈ zs, -9223372036854775808 ≤ x ∧ x ≤ 9223372036854775807) : -9223372036854775808 * (zs.length : Int) ≤ sumL zs ∧ sumL zs ≤ 9223372036854775807 * (zs.length : Int) := by
  induction zs with
  | nil => simp [sumL]
  | cons x l ih =>
    rw [sumL_cons]
    have h1 := ih (fun y hy => h y (by simp [hy]))
    have h2 := h x (by simp)
    simp only [List.length_cons]
    omega
def wHi (x : Int) : Int := x / 18446744073709551616
def wLo (x : Int) : Int := x % 18446744073709551616
theorem sumL_take (zs : List Int) (j : Nat) (x : Int) (h : zs[j]? = some x) : sumL (zs.take (j + 1)) = sumL (zs.take j) + x := by
  rw [List.take_add_one, h]; simp [sumL]

set_option maxRecDepth 100000 in
set_option maxHeartbeats 4000000 in
theorem sum_yes (zs : List Int) (C cap : Nat) (hn : zs.length ≤ 1000) (hz : ∀ x ∈ zs, -9223372036854775808 ≤ x ∧ x ≤ 9223372036854775807) (w : World)
  (hC : ∀ i u, zs[i]? = some u → w.cell? ⟨C, i, none⟩ = some (.int .i64 u)) (hCw : C < w.heap.size) (x : Int) (hx : x = sumL zs) (x0 : -9223372036854775808 ≤ x) (x1 : x ≤ 9223372036854775807) :
  Calls Tryz.prog 136 #[.slice (some ⟨C, 0, none⟩) zs.length cap] w fun e w' => e = .returned (.tuple #[.int .i64 x, .bool true]) ∧ Below w.heap.size w w' := by
 have HC := Lib.hid hC
 have HZ := Lib.hid hz
 have HX := Lib.hid hx
 clear hC hz hx
 go_enter Tryz.func136, Tryz.ntmps136
 go_wp2
 have hO := Blk.new w 143 #[.int .i64 0, .int .u64 0]
 have hbel : Below w.heap.size w (w.alloc (.cells #[.int .i64 0, .int .u64 0] 143)) := (Below.refl _ _).alloc (Nat.le_refl _) _
 have HO := Lib.hid hO
 have HBL := Lib.hid hbel
 clear hO hbel
 generalize hA : w.heap.size = A at *
 have HA := Lib.hid hA
 clear hA
 go_loopw [9] (fun i wr => ∃ j : Nat, j ≤ zs.length ∧ i = .int .i64 (j : Int) ∧ Blk wr A 143 #[.int .i64 (wHi (sumL (zs.take j))), .int .u64 (wLo (sumL (zs.take j)))] ∧ Below A w wr) (fun i _ => zs.length - (intOf i).toNat)
 case atStart => exact ⟨0, by omega, rfl, HO.out, HBL.out⟩
 case round =>
  obtain ⟨j, hj, rfl, hO, hbel⟩ := hrel
  clear HO HBL
  have HBL := Lib.hid hbel
  have HO := Lib.hid hO
  clear hbel
  by_cases hlt : j < zs.length
  ·have hzj : zs[j]? = some zs[j] := List.getElem?_eq_getElem hlt
   have hcj : wr.cell? ⟨C, j, none⟩ = some (.int .i64 zs[j]) := (HBL.out.cell (p := ⟨C, j, none⟩) hCw).trans (HC.out j _ hzj)
   have hb := HZ.out zs[j] (List.getElem_mem hlt)
   have hs := sumL_take zs j _ hzj
   obtain ⟨T, hT⟩ : ∃ T, T = sumL (zs.take (j + 1)) := ⟨_, rfl⟩
   have HT : Hid (sumL (zs.take (j + 1)) = T) := hT.symm
   rw [← hT] at hs
   clear hT
   have hbd := sumL_bd (zs.take j) (fun x hx => HZ.out x (List.mem_of_mem_take hx))
   have hl : (zs.take j).length ≤ 1000 := by simp; omega
   generalize sumL (zs.take j) = U at *
   generalize zs[j] = z at *
   have q0 := hO.cell 0
   have q1 := hO.cell 1
   simp at q0 q1
   go_wp2_with fail
   have W0 : -9223372036854775808 ≤ wHi U ∧ wHi U ≤ 9223372036854775807 := by unfold wHi; omega
   have W1 : 0 ≤ wLo U ∧ wLo U ≤ 18446744073709551615 := by unfold wLo; omega
   have W2 : 0 ≤ IntKind.u64.wrap z ∧ IntKind.u64.wrap z ≤ 18446744073709551615 := by rw [wrapU_eq]; omega
   have W3 : wHi T = wHi U + z / 9223372036854775808 + (wLo U + IntKind.u64.wrap z) / 18446744073709551616 := by rw [wrapU_eq, hs]; unfold wHi wLo; omega
   have W4 : wLo T = (wLo U + IntKind.u64.wrap z) % 18446744073709551616 := by rw [wrapU_eq, hs]; unfold wLo; omega
   have W5 : -9223372036854775808 ≤ wHi T ∧ wHi T ≤ 9223372036854775807 := by unfold wHi; omega
   have HADD : ∀ w, Calls Tryz.prog 177 #[.agg #[.int .i64 (wHi U), .int .u64 (wLo U)], .agg #[.int .i64 (z / 9223372036854775808), .int .u64 (IntKind.u64.wrap z)]] w fun e w' => e = .returned (.tuple #[.agg #[.int .i64 (wHi T), .int .u64 (wLo T)], .bool true]) ∧ Below w.heap.size w w' :=
    fun w => wadd_any _ _ _ _ _ _ W0.1 W0.2 (by omega) (by omega) W1.1 W1.2 W2.1 W2.2 W3 W4 W5.1 W5.2 w
   have HOF := fun w => of_any z hb.1 hb.2 w
   clear W0 W1 W2 W3 W4 W5 hs hbd hzj
   go_region_with (first | (go_at_call 178; refine (HOF _).mono ?_; rintro e w1 ⟨rfl, hb1⟩; have o1 := HO.out.drew.kept hb1; have q2 := o1.cell 0; have q3 := o1.cell 1; simp at q2 q3) | (go_at_call 177; refine (HADD _).mono ?_; rintro e w2 ⟨rfl, hb2⟩; have o2 := o1.kept hb2; have q4 := o2.cell 0; have q5 := o2.cell 1; have q6 := o2.frozen 0; have q7 := o2.frozen 1; simp at q4 q5))
   all_goals
    have HB9 : Hid (Below A w w2) := Lib.hid ((HBL.out.drew.trans (hb1.mono (by simp; have := HBL.out.size; have := HO.out.lt; omega))).trans (hb2.mono (by have := o1.lt; omega)))
    have HO9 := Lib.hid o2
    clear o1 o2 hb1 hb2 q0 q1 q2 q3 q4 q5 q6 q7
    go_wp2
    go_roundw
    case rel =>
     refine ⟨j + 1, by omega, by go_num, ?_, ?_⟩
     ·have := (HO9.out.set_ 0 (.int .i64 (wHi T))).set_ 1 (.int .u64 (wLo T))
      rw [HT.out]
      simpa using this
     ·exact (HB9.out.setCell (by simp) _).setCell (by simp) _
    case measure => simp [intOf]; omega
  ·obtain rfl : j = zs.length := by omega
   have e : sumL (zs.take zs.length) = x := by rw [List.take_length, HX.out]
   rw [e] at hO HO
   have q0 := hO.cell 0
   have q1 := hO.cell 1
   simp at q0 q1
   have hx1 : wrap64 (wLo x) = x := wrap64_of_mod x x0 x1
   have hx2 : x / 9223372036854775808 = wHi x := by unfold wHi; omega
   have hx3 : IntKind.u64.wrap x = wLo x := wrapU_eq x
   have HI : ∀ w, Calls Tryz.prog 179 #[.agg #[.int .i64 (wHi x), .int .u64 (wLo x)]] w fun e w' => e = .returned (.tuple #[.int .i64 x, .bool true]) ∧ Below w.heap.size w w' :=
    fun w => int_yes _ _ x hx1 x0 x1 hx2 hx3 w
   clear hx1 hx2 hx3 e
   go_wp2_with (go_at_call 179; refine (HI _).mono ?_; rintro e w1 ⟨rfl, hb1⟩)
   go_ret2
   exact ⟨rfl, by rw [HA.out]; exact HBL.out.trans (hb1.mono (by have := HO.out.lt; omega))⟩
set_option maxRecDepth 100000 in
set_option maxHeartbeats 4000000 in
theorem sum_no (zs : List Int) (C cap : Nat) (hn : zs.length ≤ 1000) (hz : ∀ x ∈ zs, -9223372036854775808 ≤ x ∧ x ≤ 9223372036854775807) (w : World)
  (hC : ∀ i u, zs[i]? = some u → w.cell? ⟨C, i, none⟩ = some (.int .i64 u)) (hCw : C < w.heap.size) (x : Int) (hx : x = sumL zs) (xn : ¬ (-9223372036854775808 ≤ x ∧ x ≤ 9223372036854775807)) :
  Calls Tryz.prog 136 #[.slice (some ⟨C, 0, none⟩) zs.length cap] w fun e w' => e = .returned (.tuple #[.int .i64 0, .bool false]) ∧ Below w.heap.size w w' := by
 have HC := Lib.hid hC
 have HZ := Lib.hid hz
 have HX := Lib.hid hx
 clear hC hz hx
 go_enter Tryz.func136, Tryz.ntmps136
 go_wp2
 have hO := Blk.new w 143 #[.int .i64 0, .int .u64 0]
 have hbel : Below w.heap.size w (w.alloc (.cells #[.int .i64 0, .int .u64 0] 143)) := (Below.refl _ _).alloc (Nat.le_refl _) _
 have HO := Lib.hid hO
 have HBL := Lib.hid hbel
 clear hO hbel
 generalize hA : w.heap.size = A at *
 have HA := Lib.hid hA
 clear hA
 go_loopw [9] (fun i wr => ∃ j : Nat, j ≤ zs.length ∧ i = .int .i64 (j : Int) ∧ Blk wr A 143 #[.int .i64 (wHi (sumL (zs.take j))), .int .u64 (wLo (sumL (zs.take j)))] ∧ Below A w wr) (fun i _ => zs.length - (intOf i).toNat)
 case atStart => exact ⟨0, by omega, rfl, HO.out, HBL.out⟩
 case round =>
  obtain ⟨j, hj, rfl, hO, hbel⟩ := hrel
  clear HO HBL
  have HBL := Lib.hid hbel
  have HO := Lib.hid hO
  clear hbel
  by_cases hlt : j < zs.length
  ·have hzj : zs[j]? = some zs[j] := List.getElem?_eq_getElem hlt
   have hcj : wr.cell? ⟨C, j, none⟩ = some (.int .i64 zs[j]) := (HBL.out.cell (p := ⟨C, j, none⟩) hCw).trans (HC.out j _ hzj)
   have hb := HZ.out zs[j] (List.getElem_mem hlt)
   have hs := sumL_take zs j _ hzj
   obtain ⟨T, hT⟩ : ∃ T, T = sumL (zs.take (j + 1)) := ⟨_, rfl⟩
   have HT : Hid (sumL (zs.take (j + 1)) = T) := hT.symm
   rw [← hT] at hs
   clear hT
   have hbd := sumL_bd (zs.take j) (fun x hx => HZ.out x (List.mem_of_mem_take hx))
   have hl : (zs.take j).length ≤ 1000 := by simp; omega
   generalize sumL (zs.take j) = U at *
   generalize zs[j] = z at *
   have q0 := hO.cell 0
   have q1 := hO.cell 1
   simp at q0 q1
   go_wp2_with fail
   have W0 : -9223372036854775808 ≤ wHi U ∧ wHi U ≤ 9223372036854775807 := by unfold wHi; omega
   have W1 : 0 ≤ wLo U ∧ wLo U ≤ 18446744073709551615 := by unfold wLo; omega
   have W2 : 0 ≤ IntKind.u64.wrap z ∧ IntKind.u64.wrap z ≤ 18446744073709551615 := by rw [wrapU_eq]; omega
   have W3 : wHi T = wHi U + z / 9223372036854775808 + (wLo U + IntKind.u64.wrap z) / 18446744073709551616 := by rw [wrapU_eq, hs]; unfold wHi wLo; omega
   have W4 : wLo T = (wLo U + IntKind.u64.wrap z) % 18446744073709551616 := by rw [wrapU_eq, hs]; unfold wLo; omega
   have W5 : -9223372036854775808 ≤ wHi T ∧ wHi T ≤ 9223372036854775807 := by unfold wHi; omega
   have HADD : ∀ w, Calls Tryz.prog 177 #[.agg #[.int .i64 (wHi U), .int .u64 (wLo U)], .agg #[.int .i64 (z / 9223372036854775808), .int .u64 (IntKind.u64.wrap z)]] w fun e w' => e = .returned (.tuple #[.agg #[.int .i64 (wHi T), .int .u64 (wLo T)], .bool true]) ∧ Below w.heap.size w w' :=
    fun w => wadd_any _ _ _ _ _ _ W0.1 W0.2 (by omega) (by omega) W1.1 W1.2 W2.1 W2.2 W3 W4 W5.1 W5.2 w
   have HOF := fun w => of_any z hb.1 hb.2 w
   clear W0 W1 W2 W3 W4 W5 hs hbd hzj
   go_region_with (first | (go_at_call 178; refine (HOF _).mono ?_; rintro e w1 ⟨rfl, hb1⟩; have o1 := HO.out.drew.kept hb1; have q2 := o1.cell 0; have q3 := o1.cell 1; simp at q2 q3) | (go_at_call 177; refine (HADD _).mono ?_; rintro e w2 ⟨rfl, hb2⟩; have o2 := o1.kept hb2; have q4 := o2.cell 0; have q5 := o2.cell 1; have q6 := o2.frozen 0; have q7 := o2.frozen 1; simp at q4 q5))
   all_goals
    have HB9 : Hid (Below A w w2) := Lib.hid ((HBL.out.drew.trans (hb1.mono (by simp; have := HBL.out.size; have := HO.out.lt; omega))).trans (hb2.mono (by have := o1.lt; omega)))
    have HO9 := Lib.hid o2
    clear o1 o2 hb1 hb2 q0 q1 q2 q3 q4 q5 q6 q7
    go_wp2
    go_roundw
    case rel =>
     refine ⟨j + 1, by omega, by go_num, ?_, ?_⟩
     ·have := (HO9.out.set_ 0 (.int .i64 (wHi T))).set_ 1 (.int .u64 (wLo T))
      rw [HT.out]
      simpa using this
     ·exact (HB9.out.setCell (by simp) _).setCell (by simp) _
    case measure => simp [intOf]; omega
  ·obtain rfl : j = zs.length := by omega
   have e : sumL (zs.take zs.length) = x := by rw [List.take_length, HX.out]
   rw [e] at hO HO
   have q0 := hO.cell 0
   have q1 := hO.cell 1
   simp at q0 q1
   have hbd := sumL_bd zs HZ.out
   have hxx := HX.out
   obtain ⟨y, hy⟩ : ∃ y, wrap64 (wLo x) = y := ⟨_, rfl⟩
   have hy0 : -9223372036854775808 ≤ y ∧ y ≤ 9223372036854775807 := by rw [← hy]; unfold wrap64; omega
   have hx2 : ¬ y / 9223372036854775808 = wHi x := by
    rw [← hy]; unfold wrap64 wHi wLo; omega
   have HI : ∀ w, Calls Tryz.prog 179 #[.agg #[.int .i64 (wHi x), .int .u64 (wLo x)]] w fun e w' => e = .returned (.tuple #[.int .i64 0, .bool false]) ∧ Below w.heap.size w w' :=
    fun w => int_no _ _ y hy hy0.1 hy0.2 hx2 w
   clear hy hx2 e hbd hxx
   go_wp2_with (go_at_call 179; refine (HI _).mono ?_; rintro e w1 ⟨rfl, hb1⟩)
   go_ret2
   exact ⟨rfl, by rw [HA.out]; exact HBL.out.trans (hb1.mono (by have := HO.out.lt; omega))⟩

def TwoPost (w : World) (x : Int) (b : Bool) (e : Ending) (w' : World) : Prop := e = .returned (.tuple #[.int .i64 x, .bool b]) ∧ Below w.heap.size w w'
theorem two_cells (w : World) (a b : Int) (t : TypeId) : ∀ i u, ([a, b] : List Int)[i]? = some u → (w.alloc (.cells #[.int .i64 a, .int .i64 b] t)).cell? ⟨w.heap.size, i, none⟩ = some (.int .i64 u) := by
  intro i u hu
  have h := (Blk.new w t #[.int .i64 a, .int .i64 b]).cell i
  rw [h]
  match i with
  | 0 => simp at hu; simp [hu]
  | 1 => simp at hu; simp [hu]
  | n + 2 => simp at hu
theorem plus_yes (a b : Int) (a0 : -9223372036854775808 ≤ a) (a1 : a ≤ 9223372036854775807) (b0 : -9223372036854775808 ≤ b) (b1 : b ≤ 9223372036854775807) (s0 : -9223372036854775808 ≤ a + b) (s1 : a + b ≤ 9223372036854775807) (w : World) :
    Calls Tryz.prog 238 #[.int .i64 a, .int .i64 b] w (TwoPost w (a + b) true) := by
  have HS := sum_yes [a, b] w.heap.size 2 (by simp) (by intro x hx; simp at hx; omega) (w.alloc (.cells #[.int .i64 a, .int .i64 b] 2)) (two_cells w a b _) (by simp) (a + b) (by simp [sumL]) s0 s1
  simp only [List.length_cons, List.length_nil, Nat.zero_add, Nat.reduceAdd] at HS
  generalize a + b = x at *
  go_enter Tryz.func238, Tryz.ntmps238
  go_wp2_with (go_at_call 136; refine HS.mono ?_; rintro e w1 ⟨rfl, hb1⟩)
  go_ret2
  exact ⟨rfl, ((Below.refl _ _).alloc (Nat.le_refl _) _).trans (hb1.mono (by simp))⟩
theorem plus_no (a b : Int) (a0 : -9223372036854775808 ≤ a) (a1 : a ≤ 9223372036854775807) (b0 : -9223372036854775808 ≤ b) (b1 : b ≤ 9223372036854775807) (sn : ¬ (-9223372036854775808 ≤ a + b ∧ a + b ≤ 9223372036854775807)) (w : World) :
    Calls Tryz.prog 238 #[.int .i64 a, .int .i64 b] w (TwoPost w 0 false) := by
  have HS := sum_no [a, b] w.heap.size 2 (by simp) (by intro x hx; simp at hx; omega) (w.alloc (.cells #[.int .i64 a, .int .i64 b] 2)) (two_cells w a b _) (by simp) (a + b) (by simp [sumL]) sn
  simp only [List.length_cons, List.length_nil, Nat.zero_add, Nat.reduceAdd] at HS
  clear sn
  go_enter Tryz.func238, Tryz.ntmps238
  go_wp2_with (go_at_call 136; refine HS.mono ?_; rintro e w1 ⟨rfl, hb1⟩)
  go_ret2
  exact ⟨rfl, ((Below.refl _ _).alloc (Nat.le_refl _) _).trans (hb1.mono (by simp))⟩


theorem minus_yes (a b : Int) (a0 : -9223372036854775808 ≤ a) (a1 : a ≤ 9223372036854775807) (b0 : -9223372036854775808 ≤ b) (b1 : b ≤ 9223372036854775807) (s0 : -9223372036854775808 ≤ a - b) (s1 : a - b ≤ 9223372036854775807) (w : World) :
  Calls Tryz.prog 180 #[.int .i64 a, .int .i64 b] w (TwoPost w (a - b) true) := by
 have HOA := fun w => of_any a a0 a1 w
 have HOB := fun w => of_any b b0 b1 w
 have W0 : 0 ≤ IntKind.u64.wrap a ∧ IntKind.u64.wrap a ≤ 18446744073709551615 := by rw [wrapU_eq]; omega
 have W2 : 0 ≤ IntKind.u64.wrap b ∧ IntKind.u64.wrap b ≤ 18446744073709551615 := by rw [wrapU_eq]; omega
 have W3 : wHi (a - b) = a / 9223372036854775808 - b / 9223372036854775808 - bor64 (IntKind.u64.wrap a) (IntKind.u64.wrap b) := by rw [wrapU_eq, wrapU_eq]; unfold wHi bor64; split <;> omega
 have W4 : wLo (a - b) = (IntKind.u64.wrap a - IntKind.u64.wrap b) % 18446744073709551616 := by rw [wrapU_eq, wrapU_eq]; unfold wLo; omega
 have W5 : -9223372036854775808 ≤ wHi (a - b) ∧ wHi (a - b) ≤ 9223372036854775807 := by unfold wHi; omega
 have HSUB := fun w => wsub_any (a / 9223372036854775808) (IntKind.u64.wrap a) (b / 9223372036854775808) (IntKind.u64.wrap b) _ _ (by omega) (by omega) (by omega) (by omega) W0.1 W0.2 W2.1 W2.2 W3 W4 W5.1 W5.2 w
 have HI : ∀ w, Calls Tryz.prog 179 #[.agg #[.int .i64 (wHi (a - b)), .int .u64 (wLo (a - b))]] w fun e w' => e = .returned (.tuple #[.int .i64 (a - b), .bool true]) ∧ Below w.heap.size w w' :=
  fun w => int_yes _ _ (a - b) (wrap64_of_mod _ s0 s1) s0 s1 (by unfold wHi; omega) (wrapU_eq _) w
 generalize wHi (a - b) = H at *
 generalize wLo (a - b) = L at *
 generalize a - b = D at *
 clear W0 W2 W3 W4 W5 a0 a1 b0 b1
 go_enter Tryz.func180, Tryz.ntmps180
 go_wp2_with fail
 refine (HOA _).mono ?_; rintro e w1 ⟨rfl, hb1⟩
 go_wp2_with fail
 refine (HOB _).mono ?_; rintro e w2 ⟨rfl, hb2⟩
 go_wp2_with fail
 refine (HSUB _).mono ?_; rintro e w3 ⟨rfl, hb3⟩
 go_wp2_with fail
 refine (HI _).mono ?_; rintro e w4 ⟨rfl, hb4⟩
 go_wp2
 go_ret2
 exact ⟨rfl, (((hb1.trans (hb2.mono hb1.size)).trans (hb3.mono (Nat.le_trans hb1.size hb2.size))).alloc (Nat.le_trans hb1.size (Nat.le_trans hb2.size hb3.size)) _).trans (hb4.mono (by simp; have := hb1.size; have := hb2.size; have := hb3.size; omega))⟩

end Go.Proofs.YtfeficdndjiijaaGreatDoor


namespace Go.Proofs.YtfeficdndjiijaaGreatDoor
open Go.RowKit
set_option linter.unusedVariables false
set_option linter.unusedSimpArgs false

def OpOK (F : Nat) (f : Int → Int → Int) : Prop := ∀ (a b : Int) (w : World), In64 a → In64 b →
  (In64 (f a b) → Calls Tryz.prog F #[.int .i64 a, .int .i64 b] w (TwoPost w (f a b) true)) ∧ (¬ In64 (f a b) → Calls Tryz.prog F #[.int .i64 a, .int .i64 b] w (TwoPost w 0 false))
theorem opok_plus : OpOK 238 (fun a b => a + b) := fun a b w ha hb =>
  ⟨fun h => plus_yes a b ha.1 ha.2 hb.1 hb.2 h.1 h.2 w, fun h => plus_no a b ha.1 ha.2 hb.1 hb.2 h w⟩
end Go.Proofs.YtfeficdndjiijaaGreatDoor


namespace Go.Proofs.YtfeficdndjiijaaGreatDoor
open Go.RowKit
set_option linter.unusedVariables false
set_option linter.unusedSimpArgs false

def meetB (R W : Nat) (cs : List Int) : Bool := decide (0 < R) && (decide (cs.length = R) && cs.all fun c => decide (0 ≤ c) && decide (c < (W : Int)))
def colN (cs : List Int) (r : Nat) : Nat := (cellD cs r).toNat
def readZ (W : Nat) (zs cs : List Int) : List Int := (List.range cs.length).map fun r => cellD zs (r * W + colN cs r)
theorem meetB_of {R W : Nat} {cs : List Int} (h : meetB R W cs = true) : 0 < R ∧ cs.length = R ∧ ∀ r, r < R → cs[r]? = some (colN cs r : Int) ∧ colN cs r < W := by
  simp only [meetB, Bool.and_eq_true, decide_eq_true_eq, List.all_eq_true] at h
  obtain ⟨h0, h1, h2⟩ := h
  refine ⟨h0, h1, fun r hr => ?_⟩
  have hl : r < cs.length := by omega
  have e : cellD cs r = cs[r] := by simp [cellD, hl]
  have := h2 cs[r] (List.getElem_mem hl)
  unfold colN
  rw [e, List.getElem?_eq_getElem hl]
  exact ⟨by rw [Int.toNat_of_nonneg (by omega)], by omega⟩
theorem meetB_zero {W : Nat} {cs : List Int} : meetB 0 W cs = false := by simp [meetB]
theorem meetB_len {R W : Nat} {cs : List Int} (h : cs.length ≠ R) : meetB R W cs = false := by simp [meetB, h]
theorem meetB_bad {R W : Nat} {cs : List Int} {j : Nat} {c : Int} (hc : cs[j]? = some c) (h : c < 0 ∨ (W : Int) ≤ c) : meetB R W cs = false := by
  cases hm : meetB R W cs with
  | false => rfl
  | true =>
    simp only [meetB, Bool.and_eq_true, decide_eq_true_eq, List.all_eq_true] at hm
    have := hm.2.2 c (List.mem_of_getElem? hc)
    omega
theorem meetB_all {R W : Nat} {cs : List Int} (h0 : 0 < R) (h1 : cs.length = R) (h2 : ∀ (j : Nat) (c : Int), cs[j]? = some c → 0 ≤ c ∧ c < (W : Int)) : meetB R W cs = true := by
  simp only [meetB, Bool.and_eq_true, decide_eq_true_eq, List.all_eq_true]
  refine ⟨h0, h1, fun c hc => ?_⟩
  obtain ⟨j, hj⟩ := List.getElem?_of_mem hc
  exact h2 j c hj

set_option maxRecDepth 100000 in
set_option maxHeartbeats 4000000 in
theorem meet_any (w : World) (G C R W : Nat) (zs cs : List Int) (v : Value) (h : GridIs w G C R W zs) (hv : IntsAt w v cs) (hl : cs.length ≤ 100000) :
  Calls Tryz.prog 297 #[.pointer (some ⟨G, 0, none⟩), v] w fun e w' => e = .returned (.bool (meetB R W cs)) ∧ w = w' := by
 have P1 := rows_any w G C R W zs h
 have P2 := width_any w G C R W zs h
 clear h
 obtain ⟨ao, cap, rfl, hcap, hcells⟩ := hv
 have HC := Lib.hid hcells
 clear hcells
 obtain ⟨n, hlen⟩ : ∃ n, n = cs.length := ⟨_, rfl⟩
 rw [← hlen] at hcap hl ⊢
 have HLEN := Lib.hid hlen
 clear hlen
 by_cases hR : R = 0
 ·have HM : Hid (meetB R W cs = false) := Lib.hid (by rw [hR]; exact meetB_zero)
  have d0 : decide ((R : Int) < 1) = true := decide_eq_true (by omega)
  have d0' : decide (R < 1) = true := decide_eq_true (by omega)
  clear hR
  go_enter Tryz.func297, Tryz.ntmps297
  go_wp2_with (go_at_call 304; refine P1.mono ?_; rintro e w' ⟨rfl, rfl⟩)
  go_ret
  exact ⟨ret_boolq HM.out.symm, rfl⟩
 have d0 : decide ((R : Int) < 1) = false := decide_eq_false (by omega)
 have d0' : decide (R < 1) = false := decide_eq_false (by omega)
 by_cases hn : n = R
 ·have HN := Lib.hid hn
  have d1 : ((n : Int) != (R : Int)) = false := by simp [hn]
  have d1' : (n != R) = false := by simp [hn]
  have h0R : 0 < R := by omega
  clear hn hR
  go_enter Tryz.func297, Tryz.ntmps297
  go_wp2_with (go_at_call 304; refine P1.mono ?_; rintro e w' ⟨rfl, rfl⟩)
  go_loop [23] (fun i => ∃ j : Nat, j ≤ n ∧ i = .int .i64 (j : Int) ∧ ∀ k c, k < j → cs[k]? = some c → 0 ≤ c ∧ c < (W : Int)) (fun i => n - (intOf i).toNat)
  case atStart => exact ⟨0, by omega, rfl, fun k c hk => by omega⟩
  case round =>
   obtain ⟨j, hj, rfl, hok⟩ := hrel
   have HOK := Lib.hid hok
   clear hok
   by_cases hlt : j < n
   ·obtain ⟨g, rfl, hg, hc⟩ := HC.out (by have := HLEN.out; omega)
    have hcj : cs[j]? = some (cellD cs j) := by
     have : j < cs.length := by have := HLEN.out; omega
     simp [cellD, this]
    have cx := hc j _ hcj
    have HCJ := Lib.hid hcj
    clear hc hcj
    generalize cellD cs j = x at *
    by_cases h1 : x < 0
    ·have HM : Hid (meetB R W cs = false) := Lib.hid (meetB_bad HCJ.out (.inl h1))
     have e1 : decide (x < 0) = true := decide_eq_true h1
     clear h1
     go_wp2_with (go_at_call 280; refine P2.mono ?_; rintro e w' ⟨rfl, rfl⟩)
     go_ret
     exact ⟨ret_boolq HM.out.symm, rfl⟩
    by_cases h2 : (W : Int) ≤ x
    ·have HM : Hid (meetB R W cs = false) := Lib.hid (meetB_bad HCJ.out (.inr h2))
     have e1 : decide (x < 0) = false := decide_eq_false h1
     have e2 : decide ((W : Int) ≤ x) = true := decide_eq_true h2
     clear h1 h2
     go_wp2_with (go_at_call 280; refine P2.mono ?_; rintro e w' ⟨rfl, rfl⟩)
     go_ret
     exact ⟨ret_boolq HM.out.symm, rfl⟩
    have HX : Hid (∀ k c, k < j + 1 → cs[k]? = some c → 0 ≤ c ∧ c < (W : Int)) := Lib.hid (fun k c hk hc => by
     by_cases e : k = j
     ·subst e; rw [HCJ.out] at hc; have := Option.some.inj hc; omega
     ·exact HOK.out k c (by omega) hc)
    have e1 : decide (x < 0) = false := decide_eq_false h1
    have e2 : decide ((W : Int) ≤ x) = false := decide_eq_false h2
    clear h1 h2
    go_wp2_with (go_at_call 280; refine P2.mono ?_; rintro e w' ⟨rfl, rfl⟩)
    go_round
    case rel => exact ⟨j + 1, by omega, by go_num, HX.out⟩
    case measure => simp [intOf]; omega
   ·obtain rfl : j = n := by omega
    have HM : Hid (meetB R W cs = true) := Lib.hid (meetB_all h0R (by rw [← HLEN.out, HN.out]) (fun k c hc => HOK.out k c (by
     have := (List.getElem?_eq_some_iff.1 hc).1
     have := HLEN.out
     omega) hc))
    go_wp2
    go_ret
    exact ⟨ret_boolq HM.out.symm, rfl⟩
 ·have HM : Hid (meetB R W cs = false) := Lib.hid (meetB_len (by have := HLEN.out; omega))
  have d1 : ((n : Int) != (R : Int)) = true := by simp; omega
  have d1' : (n != R) = true := by simp; omega
  clear hn hR
  go_enter Tryz.func297, Tryz.ntmps297
  go_wp2_with (go_at_call 304; refine P1.mono ?_; rintro e w' ⟨rfl, rfl⟩)
  go_ret
  exact ⟨ret_boolq HM.out.symm, rfl⟩

def ReadPost (w : World) (W : Nat) (zs cs : List Int) (e : Ending) (w' : World) : Prop :=
  ∃ g, e = .returned (.tuple #[.slice (some ⟨g, 0, none⟩) cs.length cs.length, .int .i64 0]) ∧ w.heap.size ≤ g ∧ w'.rowIs g 2 cs.length (fun r => .int .i64 (cellD zs (r * W + colN cs r))) ∧ Below w.heap.size w w'

set_option maxRecDepth 100000 in
set_option maxHeartbeats 4000000 in
theorem read_yes (w : World) (G C R W : Nat) (zs cs : List Int) (v : Value) (h : GridIs w G C R W zs) (hv : IntsAt w v cs) (hm : meetB R W cs = true) :
  Calls Tryz.prog 289 #[.pointer (some ⟨G, 0, none⟩), v] w (ReadPost w W zs cs) := by
 have hRle := h.rows
 have P1 := fun hl => meet_any w G C R W zs cs v h hv hl
 obtain ⟨h0R, hlR, hcol⟩ := meetB_of hm
 rw [hm] at P1
 have HG := Lib.hid h
 have HV := Lib.hid hv
 have HCOL := Lib.hid hcol
 clear h hcol hm
 have P2 := P1 (by omega)
 clear P1
 obtain ⟨ao, cap, rfl, hcap, hcells⟩ := hv
 obtain ⟨g, rfl, hg, hc⟩ := hcells (by omega)
 have HC := Lib.hid hc
 clear hcells hc
 obtain ⟨n, hlen⟩ : ∃ n, n = cs.length := ⟨_, rfl⟩
 rw [← hlen] at hcap P2
 unfold ReadPost
 simp only [← hlen]
 have HLEN := Lib.hid hlen
 have hn8 : n ≤ 8 := by omega
 have hnR : Hid (n = R) := by show _ = _; omega
 clear hlen hlR hRle
 have hmk := fun W => run_make_row' (P := Tryz.prog) 93 2 (.int .i64 0) 8 Tryz.underlying93 Tryz.info64 rfl .i64 .i64 n (by omega) (by omega) W
 go_enter Tryz.func289, Tryz.ntmps289
 go_wp2_with (go_at_call 297; refine P2.mono ?_; rintro e w' ⟨rfl, hw'⟩; subst hw')
 obtain ⟨f, hf⟩ : ∃ f : Nat → Int, f = fun r => cellD zs (r * W + colN cs r) := ⟨_, rfl⟩
 have HF := Lib.hid hf
 clear hf
 have hrow := RowUpTo.zeros (f := f) (World.rowIs_made w (.int .i64 0) n 2)
 have hbel : Below w.heap.size w (w.alloc (.cells (madeCells #[.int .i64 0] n) 2)) := (Below.refl _ _).alloc (Nat.le_refl _) _
 have hszg : w.heap.size < (w.alloc (.cells (madeCells #[.int .i64 0] n) 2)).heap.size := by simp
 generalize (w.alloc (.cells (madeCells #[.int .i64 0] n) 2)) = wz at *
 have HRW := Lib.hid hrow
 have HB := Lib.hid hbel
 clear hrow hbel hmk
 generalize hA : w.heap.size = A at *
 have HA := Lib.hid hA
 clear hA
 go_loopw [18] (fun i wr => ∃ j : Nat, j ≤ n ∧ i = .int .i64 (j : Int) ∧ RowUpTo wr A 2 n f j ∧ Below A w wr) (fun i _ => n - (intOf i).toNat)
 case atStart => exact ⟨0, by omega, rfl, HRW.out, HB.out⟩
 case round =>
  obtain ⟨j, hj, rfl, hrow, hbel⟩ := hrel
  clear HRW HB
  have HRW := Lib.hid hrow
  have HB := Lib.hid hbel
  by_cases hlt : j < n
  ·obtain ⟨hcj, hcw⟩ := HCOL.out j (by have := hnR.out; omega)
   have cx := (hbel.cell (p := ⟨g, j, none⟩) hg).trans (HC.out j _ hcj)
   have hG := HG.out
   have hgk : GridIs wr G C R W zs := hG.below hbel (by have := hG.ltG; have := HA.out; omega) (by have := hG.ltC; have := HA.out; omega)
   have P3 := at_in wr G C R W j (colN cs j) zs hgk (by have := hnR.out; omega) hcw
   have HFJ : Hid (cellD zs (j * W + colN cs j) = f j) := Lib.hid (by rw [HF.out])
   obtain ⟨ov, hov⟩ := hrow.cell hlt
   have hfr := hrow.frozen j
   clear hG hgk hcj hcw hrow hbel
   generalize cellD zs (j * W + colN cs j) = x at *
   generalize colN cs j = y at *
   have i0 : (0 : Int) ≤ (j : Int) := by omega
   have i1 : (j : Int) < (n : Int) := by omega
   go_wp2_with (go_at_call 281; refine P3.mono ?_; rintro e w' ⟨rfl, hw'⟩; subst hw')
   go_roundw
   case rel => exact ⟨j + 1, by omega, by go_num, HRW.out.put HFJ.out, HB.out.setCell (Nat.le_refl _) _⟩
   case measure => simp [intOf]; omega
  ·obtain rfl : j = n := by omega
   have HFU : Hid (wr.rowIs A 2 j (fun r => .int .i64 (cellD zs (r * W + colN cs r)))) := Lib.hid (by have := HRW.out.full; rw [HF.out] at this; exact this)
   clear hrow hbel
   go_wp2
   go_ret2
   exact ⟨A, rfl, Nat.le_of_eq HA.out, HFU.out, by rw [HA.out]; exact HB.out⟩
end Go.Proofs.YtfeficdndjiijaaGreatDoor


namespace Go.Proofs.YtfeficdndjiijaaGreatDoor
open Go.RowKit
set_option linter.unusedVariables false
set_option linter.unusedSimpArgs false

theorem place_eq {W a c b d : Nat} (hc : c < W) (hd : d < W) (h : a * W + c = b * W + d) : a = b ∧ c = d := by
  have h1 : (a * W + c) / W = a := by rw [Nat.mul_comm, Nat.mul_add_div (by omega), Nat.div_eq_of_lt hc]; rfl
  have h2 : (b * W + d) / W = b := by rw [Nat.mul_comm, Nat.mul_add_div (by omega), Nat.div_eq_of_lt hd]; rfl
  have h3 : a = b := by rw [← h1, ← h2, h]
  subst h3
  exact ⟨rfl, by omega⟩
end Go.Proofs.YtfeficdndjiijaaGreatDoor


namespace Go.Proofs.YtfeficdndjiijaaGreatDoor
open Go.RowKit
set_option linter.unusedVariables false
set_option linter.unusedSimpArgs false

def setsZ (W : Nat) (zs : List Int) (cf : Nat → Nat) (vf : Nat → Int) : Nat → List Int
  | 0 => zs
  | k + 1 => (setsZ W zs cf vf k).set (k * W + cf k) (vf k)
theorem setsZ_len {W : Nat} {zs : List Int} {cf : Nat → Nat} {vf : Nat → Int} (k : Nat) : (setsZ W zs cf vf k).length = zs.length := by
  induction k with
  | zero => rfl
  | succ k ih => rw [setsZ, List.length_set, ih]
theorem setsZ_get {R W : Nat} {zs : List Int} {cf : Nat → Nat} {vf : Nat → Int} (hl : zs.length = R * W) (hcf : ∀ r, r < R → cf r < W) (k : Nat) (hk : k ≤ R) (r c : Nat) (hr : r < R) (hc : c < W) :
    cellD (setsZ W zs cf vf k) (r * W + c) = if r < k ∧ c = cf r then vf r else cellD zs (r * W + c) := by
  induction k with
  | zero => simp [setsZ]
  | succ k ih =>
    have hlt : k * W + cf k < (setsZ W zs cf vf k).length := by
      rw [setsZ_len, hl]
      have h1 : (k + 1) * W ≤ R * W := Nat.mul_le_mul_right W hk
      rw [Nat.add_mul] at h1
      have := hcf k (by omega)
      omega
    have ih := ih (by omega)
    unfold cellD at ih ⊢
    rw [setsZ, List.getElem?_set]
    by_cases e : k * W + cf k = r * W + c
    · obtain ⟨rfl, rfl⟩ := place_eq (hcf k (by omega)) hc e
      simp [hlt]
    · rw [if_neg e, ih]
      by_cases hrk : r = k
      · subst hrk
        have : ¬ c = cf r := fun h => e (by rw [h])
        simp [this]
      · have : (r < k + 1 ∧ c = cf r) ↔ (r < k ∧ c = cf r) := by omega
        simp only [this]
def changeZ (W : Nat) (zs cs : List Int) (d : Int) : List Int := setsZ W zs (colN cs) (fun r => cellD zs (r * W + colN cs r) + d) cs.length
def changeFits (W : Nat) (zs cs : List Int) (d : Int) : Prop := ∀ r, r < cs.length → In64 (cellD zs (r * W + colN cs r) + d)
def ChangeYes (w : World) (G C R W : Nat) (zs cs : List Int) (d : Int) (e : Ending) (w' : World) : Prop :=
  e = .returned (.int .i64 0) ∧ GridIs w' G C R W (changeZ W zs cs d) ∧ w.grownBy w' (some C)
def ChangePost (w : World) (G C R W : Nat) (zs cs : List Int) (d : Int) (e : Ending) (w' : World) : Prop :=
  (changeFits W zs cs d ∧ ChangeYes w G C R W zs cs d e w') ∨ (¬ changeFits W zs cs d ∧ e = .returned (.int .i64 4) ∧ Below w.heap.size w w')
theorem below_grown {w w' : World} {row : Option Nat} (h : Below w.heap.size w w') : w.grownBy w' row := ⟨h.os, h.tape, h.output, h.size, fun k hk _ => h.block k hk⟩
theorem grown_trans {w w1 w2 : World} {row : Option Nat} (h : w.grownBy w1 row) (k : w1.grownBy w2 row) : w.grownBy w2 row :=
  ⟨k.os.trans h.os, k.tape.trans h.tape, k.output.trans h.output, Nat.le_trans h.size k.size, fun j hj hne => (k.block j (Nat.lt_of_lt_of_le hj h.size) hne).trans (h.block j hj hne)⟩
theorem cell_fit {zs : List Int} (h : Fit zs) (i : Nat) : In64 (cellD zs i) := by
  unfold cellD
  cases hz : zs[i]? with
  | none => exact ⟨by simp, by simp⟩
  | some x => exact h.get hz

set_option maxRecDepth 100000 in
set_option maxHeartbeats 4000000 in
theorem change_yes (w : World) (G C R W : Nat) (zs cs : List Int) (d : Int) (v : Value) (h : GridIs w G C R W zs) (hv : IntsAt w v cs) (hm : meetB R W cs = true) (hd : In64 d) (hvc : v.ownBlock ≠ some C) :
  Calls Tryz.prog 293 #[.pointer (some ⟨G, 0, none⟩), v, .int .i64 d] w (ChangePost w G C R W zs cs d) := by
 have hR8 := h.rows
 have hfit := h.fit
 obtain ⟨h0R, hlR, hcol⟩ := meetB_of hm
 have P1 := read_yes w G C R W zs cs v h hv hm
 have HG := Lib.hid h
 have HV := Lib.hid hv
 have HCOL := Lib.hid hcol
 have HFIT := Lib.hid hfit
 clear h hcol hm hfit
 obtain ⟨ao, cap, rfl, hcap, hcells⟩ := hv
 obtain ⟨g, rfl, hg, hc⟩ := hcells (by omega)
 have HC := Lib.hid hc
 have hgC : g ≠ C := fun e => hvc (by simp [Value.ownBlock, e])
 clear hcells hc hvc
 obtain ⟨n, hlen⟩ : ∃ n, n = cs.length := ⟨_, rfl⟩
 unfold ReadPost at P1
 have hCP : ChangePost w G C R W zs cs d = fun e w' => (changeFits W zs cs d ∧ (e = .returned (.int .i64 0) ∧ GridIs w' G C R W (setsZ W zs (colN cs) (fun r => cellD zs (r * W + colN cs r) + d) n) ∧ w.grownBy w' (some C))) ∨ (¬ changeFits W zs cs d ∧ e = .returned (.int .i64 4) ∧ Below w.heap.size w w') := by
  funext e w'; rw [hlen]; rfl
 rw [hCP]
 have HFITS : Hid (changeFits W zs cs d ↔ ∀ r, r < n → In64 (cellD zs (r * W + colN cs r) + d)) := Lib.hid (by rw [hlen]; exact Iff.rfl)
 clear hCP
 rw [← hlen] at hcap
 simp only [← hlen] at P1 ⊢
 have hn8 : n ≤ 8 := by omega
 have hnR : Hid (n = R) := by show _ = _; omega
 have HLEN := Lib.hid hlen
 clear hlen hlR hR8
 generalize changeFits W zs cs d = FITS at *
 obtain ⟨f, hf⟩ : ∃ f : Nat → Int, f = fun r => cellD zs (r * W + colN cs r) := ⟨_, rfl⟩
 have HF64 : Hid (∀ r, In64 (f r)) := Lib.hid (fun r => by rw [hf]; exact cell_fit HFIT.out _)
 rw [show (fun r => Value.int .i64 (cellD zs (r * W + colN cs r))) = fun r => Value.int .i64 (f r) by rw [hf]] at P1
 rw [show (fun r => cellD zs (r * W + colN cs r) + d) = fun r => f r + d by rw [hf]]
 have HFITS : Hid (FITS ↔ ∀ r, r < n → In64 (f r + d)) := Lib.hid (by rw [HFITS.out, hf])
 clear hf
 go_enter Tryz.func293, Tryz.ntmps293
 go_wp2_with (go_at_call 289; refine P1.mono ?_; rintro e w2 ⟨b, rfl, hb0, hrow, hb⟩; have HB0 := Lib.hid hb0; have HROW := Lib.hid hrow; have HB := Lib.hid hb; clear hrow hb hb0)
 go_loopw [26] (fun i wr => ∃ j : Nat, j ≤ n ∧ i = .int .i64 (j : Int) ∧ wr.rowIs b 2 n (fun k => .int .i64 (if k < j then f k + d else f k)) ∧ (∀ k, k < j → In64 (f k + d)) ∧ Below w.heap.size w wr) (fun i _ => n - (intOf i).toNat)
 case atStart => exact ⟨0, by omega, rfl, HROW.out.congr (fun k _ => by simp), fun k hk => by omega, HB.out⟩
 case round =>
  obtain ⟨j, hj, rfl, hrow, hok, hbel⟩ := hrel
  clear HROW HB
  have HROW := Lib.hid hrow
  have HB := Lib.hid hbel
  have HOK := Lib.hid hok
  by_cases hlt : j < n
  ·have cx := hrow.cell hlt
   simp only [Nat.lt_irrefl, if_false] at cx
   have i0 : (0 : Int) ≤ (j : Int) := by omega
   have i1 : (j : Int) < (n : Int) := by omega
   clear hrow hbel hok
   have h64 := HF64.out j
   by_cases hj64 : In64 (f j + d)
   ·have P2 := (opok_plus (f j) d wr h64 hd).1 hj64
    have HOK2 : Hid (∀ k, k < j + 1 → In64 (f k + d)) := Lib.hid (fun k hk => by
     by_cases e : k = j
     ·subst e; exact hj64
     ·exact HOK.out k (by omega))
    have HE : Hid (∀ k, (if k = j then f j + d else if k < j then f k + d else f k) = if k < j + 1 then f k + d else f k) := Lib.hid (fun k => by
     by_cases e : k = j
     ·subst e; simp
     ·have : k < j + 1 ↔ k < j := by omega
      simp [e, this])
    unfold TwoPost at P2
    generalize f j + d = x at *
    clear h64 hj64
    go_wp2_with (go_at_call 238; refine P2.mono ?_; rintro e w3 ⟨rfl, hb⟩; have hr3 := HROW.out.of_block (hb.block b HROW.out.lt); have HR3 := Lib.hid hr3; have HB3 := Lib.hid (btr HB.out hb); obtain ⟨ov, hov⟩ : ∃ ov, w3.cell? ⟨b, j, none⟩ = some ov := ⟨_, hr3.cell hlt⟩; have hfr := hr3.frozen j; clear hr3 hb)
    go_roundw
    case rel => exact ⟨j + 1, by omega, by go_num, (HR3.out.set j _).congr (fun k _ => by have := HE.out k; by_cases e : k = j <;> simp [e] at this ⊢ <;> simp [this]), HOK2.out, HB3.out.setCell HB0.out _⟩
    case measure => simp [intOf]; omega
   ·have P2 := (opok_plus (f j) d wr h64 hd).2 hj64
    have HNF : Hid (¬ FITS) := Lib.hid (fun h => hj64 (HFITS.out.1 h j hlt))
    unfold TwoPost at P2
    clear h64 hj64
    go_wp2_with (go_at_call 238; refine P2.mono ?_; rintro e w3 ⟨rfl, hb⟩; have HB3 := Lib.hid (btr HB.out hb); clear hb)
    go_ret
    exact .inr ⟨HNF.out, rfl, HB3.out⟩
  ·obtain rfl : j = n := by omega
   have hrow2 : wr.rowIs b 2 j (fun k => .int .i64 (f k + d)) := hrow.congr (fun k hk => by rw [if_pos hk])
   have HYES : Hid FITS := HFITS.out.2 hok
   have HROW := Lib.hid hrow2
   have HGR := Lib.hid (HG.out.kept hbel)
   have HGB := Lib.hid (below_grown (row := some C) hbel)
   have hbC : b ≠ C := by have := HG.out.ltC; have := HB0.out; omega
   have hgk : g < wr.heap.size := by have := hbel.size; omega
   clear hrow hrow2 hbel hok
   go_wp2_with fail
   go_loopw [46] (fun i ws => ∃ k : Nat, k ≤ j ∧ i = .int .i64 (k : Int) ∧ GridIs ws G C R W (setsZ W zs (colN cs) (fun r => f r + d) k) ∧ w.grownBy ws (some C) ∧ wr.grownBy ws (some C)) (fun i _ => j - (intOf i).toNat)
   case atStart => exact ⟨0, by omega, rfl, HGR.out, HGB.out, ⟨rfl, rfl, rfl, Nat.le_refl _, fun _ _ _ => rfl⟩⟩
   case round =>
    obtain ⟨k, hk, rfl, hgs, hgr, hgr2⟩ := hrel
    have HGS := Lib.hid hgs
    have HG1 := Lib.hid hgr
    have HG2 := Lib.hid hgr2
    by_cases hlk : k < j
    ·have cx := hgr2.cell (HROW.out.cell hlk) (by simpa using hbC)
     obtain ⟨hck, hcw⟩ := HCOL.out k (by have := hnR.out; omega)
     have cc := hgr.cell (HC.out k _ hck) (by simpa using hgC)
     have P3 := put_in _ G C R W k (colN cs k) (f k + d) _ hgs (by have := hnR.out; omega) hcw
     have i0 : (0 : Int) ≤ (k : Int) := by omega
     have i1 : (k : Int) < (j : Int) := by omega
     have HX : Hid (In64 (f k + d)) := HOK.out k hlk
     have HST : Hid (setsZ W zs (colN cs) (fun r => f r + d) (k + 1) = (setsZ W zs (colN cs) (fun r => f r + d) k).set (k * W + colN cs k) (f k + d)) := rfl
     clear hgs hgr hgr2 hck hcw
     generalize f k + d = x at *
     generalize hy : colN cs k = y at *
     have HY := Lib.hid hy
     clear hy
     go_wp2_with (go_at_call 282; refine P3.mono ?_; rintro e w3 ⟨rfl, hw3⟩; have HW3 := Lib.hid hw3; clear hw3)
     go_roundw
     case rel => exact ⟨k + 1, by omega, by go_num, by rw [HST.out, HW3.out]; exact HGS.out.set _ _ HX.out.1 HX.out.2, by rw [HW3.out]; exact grown_trans HG1.out (grown_set _ _ _ _), by rw [HW3.out]; exact grown_trans HG2.out (grown_set _ _ _ _)⟩
     case measure => simp [intOf]; omega
    ·obtain rfl : k = j := by omega
     clear hgs hgr hgr2
     go_wp2
     go_ret
     exact .inl ⟨HYES.out, rfl, HGS.out, HG1.out⟩
end Go.Proofs.YtfeficdndjiijaaGreatDoor


namespace Go.Proofs.YtfeficdndjiijaaGreatDoor
open Go.RowKit
set_option linter.unusedVariables false
set_option linter.unusedSimpArgs false

def TellPost (w : World) (W : Nat) (zs cs : List Int) (k : Nat) (e : Ending) (w' : World) : Prop :=
  ∃ u, e = .returned (.tuple #[.int .i64 u, .int .i64 0]) ∧ IsKth (readZ W zs cs) k u ∧ Below w.heap.size w w'

set_option maxRecDepth 100000 in
theorem of_least (w : World) (G C R W : Nat) (zs cs : List Int) (v : Value) (h : GridIs w G C R W zs) (hv : IntsAt w v cs) (hm : meetB R W cs = true) :
  Calls Tryz.prog 299 #[.agg #[.func (Fn.func 298) #[] #[]], .pointer (some ⟨G, 0, none⟩), v] w (TellPost w W zs cs 0) := by
 obtain ⟨h0R, hlR, hcol⟩ := meetB_of hm
 have hR8 := h.rows
 have HK := Lib.hid (box_kept (w := w) (cs := #[.func (Fn.func 298) #[] #[]]) (t := 403) (Below.refl _ _))
 have P1 := read_yes _ G C R W zs cs v (h.kept HK.out.2) (hv.kept HK.out.2) hm
 obtain ⟨ao, cap, rfl, hcap, hcells⟩ := hv
 clear hcells hcol h
 obtain ⟨n, hlen⟩ : ∃ n, n = cs.length := ⟨_, rfl⟩
 unfold ReadPost at P1
 rw [← hlen] at hcap hlR
 simp only [← hlen] at P1 ⊢
 have HLEN := Lib.hid hlen
 have h0n : 0 < n := by omega
 have hn8 : n ≤ 8 := by omega
 clear hlen hlR
 go_enter Tryz.func299, Tryz.ntmps299
 go_wp2_with (go_at_call 289; refine P1.mono ?_; rintro e w2 ⟨g, rfl, hg, hrow, hb⟩; have HROW := Lib.hid hrow; have HB := Lib.hid (HK.out.2.trans (hb.mono HK.out.2.size)); have hbx := HK.out.1.kept hb; have hbc := hbx.cell 0; simp at hbc; clear hrow hb hbx)
 have hints : IntsAt w2 (.slice (some ⟨g, 0, none⟩) n n) (readZ W zs cs) := by have := IntsAt.of_row HROW.out; rw [HLEN.out] at this ⊢; exact this
 have hrl : (readZ W zs cs).length = n := by rw [readZ, List.length_map, List.length_range, HLEN.out]
 have P2 := min_any _ _ w2 hints (by omega) (by omega)
 have HRL := Lib.hid hrl
 clear hrl hints
 go_wp2_with (go_at_call 298; refine P2.mono ?_; rintro e w3 ⟨u, rfl, hu, hb⟩; have HU := Lib.hid hu; have HB3 := Lib.hid (btr HB.out hb); clear hu hb)
 go_ret2
 exact ⟨u, rfl, by have := HU.out; first | exact this | (rw [HRL.out] at this; exact this), HB3.out⟩
theorem least_yes (w : World) (G C R W : Nat) (zs cs : List Int) (v : Value) (h : GridIs w G C R W zs) (hv : IntsAt w v cs) (hm : meetB R W cs = true) :
    Calls Tryz.prog 290 #[.pointer (some ⟨G, 0, none⟩), v] w (TellPost w W zs cs 0) := by
  have P1 := of_least w G C R W zs cs v h hv hm
  obtain ⟨ao, cap, rfl, hcap, hcells⟩ := hv
  clear hcells h
  go_enter Tryz.func290, Tryz.ntmps290
  go_wp2_with (go_at_call 299; refine P1.mono ?_; rintro e w2 ⟨u, rfl, hu, hb⟩; have HP : Hid (TellPost w W zs cs 0 (.returned (.tuple #[.int .i64 u, .int .i64 0])) w2) := ⟨u, rfl, hu, hb⟩; clear hu hb)
  go_ret2
  exact HP.out
set_option maxRecDepth 100000 in
theorem of_middle (w : World) (G C R W : Nat) (zs cs : List Int) (v : Value) (h : GridIs w G C R W zs) (hv : IntsAt w v cs) (hm : meetB R W cs = true) :
  Calls Tryz.prog 299 #[.agg #[.func (Fn.func 300) #[] #[]], .pointer (some ⟨G, 0, none⟩), v] w (TellPost w W zs cs ((cs.length - 1) / 2)) := by
 obtain ⟨h0R, hlR, hcol⟩ := meetB_of hm
 have hR8 := h.rows
 have HK := Lib.hid (box_kept (w := w) (cs := #[.func (Fn.func 300) #[] #[]]) (t := 403) (Below.refl _ _))
 have P1 := read_yes _ G C R W zs cs v (h.kept HK.out.2) (hv.kept HK.out.2) hm
 obtain ⟨ao, cap, rfl, hcap, hcells⟩ := hv
 clear hcells hcol h
 obtain ⟨n, hlen⟩ : ∃ n, n = cs.length := ⟨_, rfl⟩
 unfold ReadPost at P1
 rw [← hlen] at hcap hlR
 simp only [← hlen] at P1 ⊢
 have HLEN := Lib.hid hlen
 have h0n : 0 < n := by omega
 have hn8 : n ≤ 8 := by omega
 clear hlen hlR
 go_enter Tryz.func299, Tryz.ntmps299
 go_wp2_with (go_at_call 289; refine P1.mono ?_; rintro e w2 ⟨g, rfl, hg, hrow, hb⟩; have HROW := Lib.hid hrow; have HB := Lib.hid (HK.out.2.trans (hb.mono HK.out.2.size)); have hbx := HK.out.1.kept hb; have hbc := hbx.cell 0; simp at hbc; clear hrow hb hbx)
 have hints : IntsAt w2 (.slice (some ⟨g, 0, none⟩) n n) (readZ W zs cs) := by have := IntsAt.of_row HROW.out; rw [HLEN.out] at this ⊢; exact this
 have hrl : (readZ W zs cs).length = n := by rw [readZ, List.length_map, List.length_range, HLEN.out]
 have P2 := median_any _ _ w2 hints (by omega) (by omega)
 have HRL := Lib.hid hrl
 clear hrl hints
 go_wp2_with (go_at_call 300; refine P2.mono ?_; rintro e w3 ⟨u, rfl, hu, hb⟩; have HU := Lib.hid hu; have HB3 := Lib.hid (btr HB.out hb); clear hu hb)
 go_ret2
 exact ⟨u, rfl, by have := HU.out; first | exact this | (rw [HRL.out] at this; exact this), HB3.out⟩
theorem middle_yes (w : World) (G C R W : Nat) (zs cs : List Int) (v : Value) (h : GridIs w G C R W zs) (hv : IntsAt w v cs) (hm : meetB R W cs = true) :
    Calls Tryz.prog 291 #[.pointer (some ⟨G, 0, none⟩), v] w (TellPost w W zs cs ((cs.length - 1) / 2)) := by
  have P1 := of_middle w G C R W zs cs v h hv hm
  obtain ⟨ao, cap, rfl, hcap, hcells⟩ := hv
  clear hcells h
  go_enter Tryz.func291, Tryz.ntmps291
  go_wp2_with (go_at_call 299; refine P1.mono ?_; rintro e w2 ⟨u, rfl, hu, hb⟩; have HP : Hid (TellPost w W zs cs ((cs.length - 1) / 2) (.returned (.tuple #[.int .i64 u, .int .i64 0])) w2) := ⟨u, rfl, hu, hb⟩; clear hu hb)
  go_ret2
  exact HP.out
end Go.Proofs.YtfeficdndjiijaaGreatDoor


namespace Go.Proofs.YtfeficdndjiijaaGreatDoor
open Go.RowKit
set_option linter.unusedVariables false

inductive Sh where
  | int (k : IntKind)
  | bool
  | slice (e : Sh)
  | unit
  | cons (a b : Sh)
  | agg (s : Sh)

def Sh.size : Sh → Nat
  | .int _ => 1
  | .bool => 1
  | .slice _ => 1
  | .unit => 0
  | .cons a b => a.size + b.size
  | .agg s => s.size

def Sh.chk (P : Program) : Sh → (TypeId → Bool) × (List (Nat × TypeId) → Nat → Bool)
  | .int k => (fun t => match P.underlying t with | some (.int k') => decide (k' = k) | _ => false, fun _ _ => false)
  | .bool => (fun t => match P.underlying t with | some .bool => true | _ => false, fun _ _ => false)
  | .slice e => (fun t => match P.underlying t with | some (.slice te) => decide (P.cellsOf te = e.size) && (decide (0 < e.size) && (e.chk P).1 te) | _ => false, fun _ _ => false)
  | .unit => (fun _ => false, fun l _ => l.isEmpty)
  | .cons a b => (fun _ => false, fun l off => match l with | (o, t) :: l => decide (o = off) && decide (P.cellsOf t = a.size) && (a.chk P).1 t && (b.chk P).2 l (off + a.size) | [] => false)
  | .agg s => (fun t => decide (P.cellsOf t = s.size) && match P.underlying t with
      | some (.struct fs) => (s.chk P).2 (fs.toList.map fun f => (f.offset, f.type)) 0
      | some (.array n te) => (s.chk P).2 ((List.range n).map fun i => (i * P.cellsOf te, te)) 0
      | _ => false, fun _ _ => false)

def Sh.reads (w : World) : Sh → List Value → Prop
  | .int k, cs => ∃ n, cs = [.int k n] ∧ (Lit.int k n).wf = true
  | .bool, cs => ∃ b, cs = [.bool b]
  | .slice e, cs => ∃ (ao : Option Addr) (len cap : Nat), cs = [.slice ao len cap] ∧ len ≤ cap ∧ cap ≤ maxLen ∧
      (0 < len → ∃ b off, ao = some ⟨b, off, none⟩ ∧ b < w.heap.size ∧
        ∀ i, i < len → ∃ cs', cs'.length = e.size ∧ (∀ j, j < e.size → w.cell? ⟨b, off + (i * e.size + j), none⟩ = cs'[j]?) ∧ e.reads w cs')
  | .unit, cs => cs = []
  | .cons a b, cs => ∃ c d, cs = c ++ d ∧ a.reads w c ∧ b.reads w d
  | .agg s, cs => s.reads w cs

def Sh.Val (w : World) (sh : Sh) (v : Value) : Prop :=
  match sh with
  | .agg s => ∃ cs : Array Value, v = .agg cs ∧ s.reads w cs.toList
  | sh => sh.reads w [v]

section
variable {H : Type} {enc : TypeId × Value → H} {P : Program} {w : World} {spare : Nat → Bool} {held : Bool}

theorem cell_block {w : World} {a : Addr} {v : Value} (h : w.cell? a = some v) : a.block < w.heap.size := by
  rcases Nat.lt_or_ge a.block w.heap.size with h' | h'
  · exact h'
  · unfold World.cell? at h
    rw [Array.getElem?_eq_none h'] at h
    cases h

theorem addr_add (b off n : Nat) : (Addr.mk b off none).add n = ⟨b, off + n, none⟩ := by
  unfold Addr.add
  split <;> simp_all

theorem reads_of_trod : ∀ (sh : Sh),
  (∀ (t : TypeId) (fuel : Nat) (cs : List Value) (x : DataW H × List MemPlace), (sh.chk P).1 t = true → DataW.trod enc P w 0 spare held fuel t cs = some x → sh.reads w cs) ∧
  (∀ (l : List (Nat × TypeId)) (off fuel : Nat) (cs : List Value), (sh.chk P).2 l off = true → off + sh.size ≤ cs.length →
   (∀ q, q ∈ l → ∃ x, DataW.trod enc P w 0 spare held fuel q.2 ((cs.drop q.1).take (P.cellsOf q.2)) = some x) → sh.reads w ((cs.drop off).take sh.size)) := by
 intro sh
 induction sh with
 | int k =>
  refine ⟨fun t fuel cs x hc h => ?_, fun l off fuel cs hc => by simp [Sh.chk] at hc⟩
  cases hu : P.underlying t with
  | none => simp [Sh.chk, hu] at hc
  | some u =>
   simp only [Sh.chk, hu] at hc
   cases u <;> simp at hc
   subst hc
   obtain ⟨n, h1, _, h3⟩ := DataW.trod_int hu h
   exact ⟨n, h1, h3⟩
 | bool =>
  refine ⟨fun t fuel cs x hc h => ?_, fun l off fuel cs hc => by simp [Sh.chk] at hc⟩
  cases hu : P.underlying t with
  | none => simp [Sh.chk, hu] at hc
  | some u =>
   simp only [Sh.chk, hu] at hc
   cases u <;> simp at hc
   cases fuel with
   | zero => simp [DataW.trod] at h
   | succ n =>
    unfold DataW.trod at h
    rw [hu] at h
    split at h <;> simp_all
    exact ⟨_, rfl⟩
 | slice e ih =>
  refine ⟨fun t fuel cs x hc h => ?_, fun l off fuel cs hc => by simp [Sh.chk] at hc⟩
  cases hu : P.underlying t with
  | none => simp [Sh.chk, hu] at hc
  | some u =>
   simp only [Sh.chk, hu] at hc
   cases u <;> simp at hc
   rename_i te
   obtain ⟨hsz, hpos, hce⟩ := hc
   rcases Go.Deep.open_slice hu h with ⟨h1, _⟩ | ⟨a, len, cap, m, n, D, Pl, h1, _, hl, hm, hmm, _, hx⟩
   ·exact ⟨none, 0, 0, h1, by omega, by unfold maxLen; omega, fun h => by omega⟩
   ·have hlm : len ≤ m := by rw [hmm]; split <;> omega
    refine ⟨some a, len, cap, h1, hl, hm, fun h0 => ?_⟩
    obtain ⟨b, off, s⟩ := a
    obtain ⟨c0, g1, _⟩ := hx 0 (by omega)
    obtain ⟨_, g2, g3⟩ := World.cells?_some g1
    have g4 := g3 0 (by omega)
    have g5 : c0[0]? = some c0[0] := List.getElem?_eq_getElem (by omega)
    rw [g5] at g4
    have hb : b < w.heap.size := by
     have := cell_block g4
     simpa [Addr.add] using this
    have hs : s = none := by
     have := World.cell?_spot g4
     simpa [Addr.add] using this
    subst hs
    refine ⟨b, off, rfl, hb, fun i hi => ?_⟩
    obtain ⟨ci, k1, k2⟩ := hx i (by omega)
    obtain ⟨_, k3, k4⟩ := World.cells?_some k1
    refine ⟨ci, by rw [k3, hsz], fun j hj => ?_, ih.1 te n ci _ hce k2⟩
    have := k4 j (by omega)
    rw [addr_add, addr_add, hsz] at this
    rw [← this]
    congr 2
    omega
 | unit =>
  refine ⟨fun t fuel cs x hc => by simp [Sh.chk] at hc, fun l off fuel cs hc hl h => ?_⟩
  simp [Sh.reads, Sh.size]
 | cons a b iha ihb =>
  refine ⟨fun t fuel cs x hc => by simp [Sh.chk] at hc, fun l off fuel cs hc hl h => ?_⟩
  match l with
  | [] => simp [Sh.chk] at hc
  | (o, t) :: l =>
   simp [Sh.chk] at hc
   obtain ⟨⟨⟨rfl, h2⟩, h3⟩, h4⟩ := hc
   simp only [Sh.size] at hl ⊢
   obtain ⟨x, hx⟩ := h (o, t) (by simp)
   have r1 := iha.1 t fuel _ x h3 hx
   have r2 := ihb.2 l (o + a.size) fuel cs h4 (by omega) (fun q hq => h q (by simp [hq]))
   rw [h2] at r1
   refine ⟨_, _, ?_, r1, r2⟩
   rw [List.take_add, List.drop_drop, Nat.add_comm]
 | agg s ih =>
  refine ⟨fun t fuel cs x hc h => ?_, fun l off fuel cs hc => by simp [Sh.chk] at hc⟩
  cases hu : P.underlying t with
  | none => simp [Sh.chk, hu] at hc
  | some u =>
   simp only [Sh.chk, hu] at hc
   cases u <;> simp at hc
   ·rename_i n te
    obtain ⟨hsz, hce⟩ := hc
    obtain ⟨xs, m, _, _, hl, hxs, hf⟩ := DataW.trod_array hu h
    have := ih.2 _ 0 m cs hce (by omega) (by
     intro q hq
     simp at hq
     obtain ⟨i, hi, rfl⟩ := hq
     have := hf i hi
     refine ⟨xs[i], ?_⟩
     rw [this]
     simp [hxs, hi])
    simp [← hsz, ← hl] at this
    exact this
   ·rename_i fs
    obtain ⟨hsz, hce⟩ := hc
    obtain ⟨xs, n, _, _, hl, hxs, hf⟩ := DataW.trod_struct hu h
    have := ih.2 _ 0 n cs hce (by omega) (by
     intro q hq
     simp at hq
     obtain ⟨f, hf1, rfl⟩ := hq
     obtain ⟨i, hi', rfl⟩ := Array.getElem_of_mem hf1
     have := hf i fs[i] (by simp [hi'])
     refine ⟨xs[i], ?_⟩
     simp at this ⊢
     rw [this]
     simp [hxs, hi'])
    simp [← hsz, ← hl] at this
    exact this

theorem arg_val {sh : Sh} {r : Reach} {base : Nat} {t : TypeId} {v : Value} {d : DataW H} {p : List MemPlace} (hc : (sh.chk P).1 t = true)
  (hv : Value.okWide P w r base t v) (h : DataW.Trod enc P w 0 spare held t v d p) : sh.Val w v := by
 obtain ⟨fuel, hf⟩ := h
 have hr := (reads_of_trod sh).1 t fuel _ _ hc hf
 cases sh with
 | int k =>
  obtain ⟨n, h1, h2⟩ := hr
  cases hu : P.underlying t with
  | none => simp [Sh.chk, hu] at hc
  | some u =>
   simp only [Sh.chk, hu] at hc
   cases u <;> simp at hc
   subst hc
   obtain ⟨m, rfl⟩ := WideShapes.okWide_int hu hv
   exact ⟨n, by simpa [Value.cells] using h1, h2⟩
 | bool =>
  obtain ⟨n, h1⟩ := hr
  cases hu : P.underlying t with
  | none => simp [Sh.chk, hu] at hc
  | some u =>
   simp only [Sh.chk, hu] at hc
   cases u <;> simp at hc
   obtain ⟨m, rfl⟩ := WideShapes.okWide_bool hu hv
   exact ⟨n, by simpa [Value.cells] using h1⟩
 | slice e =>
  cases hu : P.underlying t with
  | none => simp [Sh.chk, hu] at hc
  | some u =>
   simp only [Sh.chk, hu] at hc
   cases u <;> simp at hc
   obtain ⟨a, l, c, rfl⟩ := WideShapes.okWide_slice hu hv
   exact hr
 | unit => simp [Sh.chk] at hc
 | cons a b => simp [Sh.chk] at hc
 | agg s =>
  cases hu : P.underlying t with
  | none => simp [Sh.chk, hu] at hc
  | some u =>
   simp only [Sh.chk, hu] at hc
   cases u <;> simp at hc
   all_goals
    simp only [Value.okWide, hu] at hv
    obtain ⟨cs, rfl, _⟩ := hv
    exact ⟨cs, rfl, hr⟩
end

end Go.Proofs.YtfeficdndjiijaaGreatDoor


namespace Go.Proofs.YtfeficdndjiijaaGreatDoor
open Go.RowKit
set_option linter.unusedVariables false
set_option linter.unusedSimpArgs false

theorem own_ne {w : World} {base : Nat} {e t : TypeId} {v : Value} {n : Nat} {xs : List Value} {b : Nat} {cs : Array Value} (h : w.ownsRow base e 1 v n xs) (hb : Blk w b t cs) (hne : e ≠ t) : v.ownBlock ≠ some b := by
  rcases h.2 with ⟨rfl, _⟩ | ⟨g, cap, cur, rfl, _, hg, _⟩
  · simp [Value.ownBlock]
  · simp only [Value.ownBlock]
    intro e2
    have e2 : g = b := Option.some.inj e2
    exact Blk.ne_ (w := w) (g := g) (g' := b) hg hb hne e2
end Go.Proofs.YtfeficdndjiijaaGreatDoor


namespace Go.Proofs.YtfeficdndjiijaaGreatDoor
open Go.RowKit
set_option linter.unusedVariables false
set_option linter.unusedSimpArgs false

end Go.Proofs.YtfeficdndjiijaaGreatDoor


namespace Go.Proofs.YtfeficdndjiijaaGreatDoor
open Go.RowKit
set_option linter.unusedVariables false
set_option linter.unusedSimpArgs false

def ColsAt (w : World) (v : Value) (cs : List Int) : Prop :=
  ∃ (ao : Option Addr) (cap : Nat), v = .slice ao cs.length cap ∧ cs.length ≤ cap ∧ cap ≤ maxLen ∧ (0 < cs.length → ∃ b off, ao = some ⟨b, off, none⟩ ∧ b < w.heap.size ∧ ∀ i u, cs[i]? = some u → w.cell? ⟨b, off + i, none⟩ = some (.int .i64 u))
theorem ColsAt.kept {w w' : World} {v : Value} {cs : List Int} (h : ColsAt w v cs) (hb : Below w.heap.size w w') : ColsAt w' v cs := by
  obtain ⟨ao, cap, e, hc, hm, h⟩ := h
  refine ⟨ao, cap, e, hc, hm, fun h0 => ?_⟩
  obtain ⟨b, off, e2, hg, hc⟩ := h h0
  exact ⟨b, off, e2, Nat.lt_of_lt_of_le hg hb.size, fun i u hu => (hb.cell (p := ⟨b, off + i, none⟩) hg).trans (hc i u hu)⟩
def RowI (w : World) (v : Value) (cs : List Int) : Prop :=
  ∃ (g cap : Nat) (cur : Array Value), v = .slice (some ⟨g, 0, none⟩) cs.length cap ∧ cs.length ≤ cap ∧ Blk w g 3 cur ∧ ∀ (i : Nat) (u : Int), cs[i]? = some u → cur[i]? = some (Value.int .i64 u)
theorem RowI.ints {w : World} {v : Value} {cs : List Int} (h : RowI w v cs) : IntsAt w v cs := by
  obtain ⟨g, cap, cur, rfl, hc, hb, hx⟩ := h
  exact ⟨_, _, rfl, hc, fun _ => ⟨g, rfl, hb.lt, fun i u hu => (hb.cell i).trans (hx i u hu)⟩⟩
theorem RowI.kept {w w' : World} {v : Value} {cs : List Int} (h : RowI w v cs) (hb : Below w.heap.size w w') : RowI w' v cs := by
  obtain ⟨g, cap, cur, rfl, hc, hg, hx⟩ := h
  exact ⟨g, cap, cur, rfl, hc, hg.kept hb, hx⟩
theorem RowI.grown {w w' : World} {v : Value} {cs : List Int} {row : Option Nat} (h : RowI w v cs) (hb : w.grownBy w' row) (hne : v.ownBlock ≠ row) : RowI w' v cs := by
  obtain ⟨g, cap, cur, rfl, hc, hg, hx⟩ := h
  exact ⟨g, cap, cur, rfl, hc, hg.grown hb hne, hx⟩
theorem RowI.far {w w' : World} {v : Value} {cs : List Int} {C : Nat} {t : TypeId} {cur : Array Value} (h : RowI w v cs) (hb : w.grownBy w' (some C)) (hC : Blk w C t cur) (ht : 3 ≠ t) : RowI w' v cs := by
  refine h.grown hb ?_
  obtain ⟨g, cap, cur', rfl, hc, hg, hx⟩ := h
  exact fun e => hg.ne_ hC ht (Option.some.inj e)
theorem RowI.own {w : World} {v : Value} {cs : List Int} (h : RowI w v cs) : ∃ k, v.ownBlock = some k ∧ k < w.heap.size := by
  obtain ⟨g, cap, cur, rfl, hc, hg, hx⟩ := h
  exact ⟨g, rfl, hg.lt⟩
end Go.Proofs.YtfeficdndjiijaaGreatDoor


namespace Go.Proofs.YtfeficdndjiijaaGreatDoor
open Go.RowKit
set_option linter.unusedVariables false
set_option linter.unusedSimpArgs false

theorem below_alloc1 (w : World) (o : Obj) : Below w.heap.size w (w.alloc o) := (Below.refl _ _).alloc (Nat.le_refl _) _
def riseV (W : Nat) (zs cs : List Int) (n : Int) (r : Nat) : Int := if cellD zs (r * W + colN cs r) < n then n else cellD zs (r * W + colN cs r)
def raiseZ (W : Nat) (zs cs : List Int) (n : Int) : List Int := setsZ W zs (colN cs) (riseV W zs cs n) cs.length
def RaisePost (w : World) (G C R W : Nat) (zs cs : List Int) (d : Int) (e : Ending) (w' : World) : Prop :=
  ∃ u, IsKth (readZ W zs cs) 0 u ∧ ((d < 0 ∧ e = .returned (.int .i64 3) ∧ Below w.heap.size w w') ∨ (0 ≤ d ∧ ¬ In64 (u + d) ∧ e = .returned (.int .i64 4) ∧ Below w.heap.size w w') ∨
    (0 ≤ d ∧ In64 (u + d) ∧ e = .returned (.int .i64 0) ∧ GridIs w' G C R W (raiseZ W zs cs (u + d)) ∧ w.grownBy w' (some C)))

theorem set_same {zs : List Int} {i : Nat} (h : i < zs.length) : zs.set i (cellD zs i) = zs := by
  apply List.ext_getElem?
  intro k
  rw [List.getElem?_set]
  by_cases e : i = k
  · subst e; simp [h, cellD]
  · rw [if_neg e]
def RisePost (w : World) (G C R W r c : Nat) (zs : List Int) (nn : Int) (e : Ending) (w' : World) : Prop :=
  (∃ v, e = .returned v) ∧ GridIs w' G C R W (zs.set (r * W + c) (if cellD zs (r * W + c) < nn then nn else cellD zs (r * W + c))) ∧ w.grownBy w' (some C)
set_option maxRecDepth 100000 in
set_option maxHeartbeats 4000000 in
theorem rise_any (w : World) (A NB G C R W r c : Nat) (zs : List Int) (nn : Int) (h : GridIs w G C R W zs) (hr : r < R) (hc : c < W) (hn : In64 nn) (hA : Blk w A 281 #[.pointer (some ⟨G, 0, none⟩)]) (hN : Blk w NB 2 #[.int .i64 nn]) :
  Calls Tryz.prog 301 #[.int .i64 (r : Int), .int .i64 (c : Int), .pointer (some ⟨A, 0, none⟩), .pointer (some ⟨NB, 0, none⟩)] w (RisePost w G C R W r c zs nn) := by
 obtain ⟨b1, b2, b3⟩ := placeBd hr hc h.rows h.width
 have hlen : r * W + c < zs.length := by rw [h.len]; omega
 have PA := Lib.hid (at_in (w.drewN 1) G C R W r c zs (h.drewN 1) hr hc)
 have PP := Lib.hid (put_in (w.drewN 1) G C R W r c nn zs (h.drewN 1) hr hc)
 have HG := Lib.hid (h.drewN 1)
 have HA := Lib.hid (hA.drewN 1)
 have HN := Lib.hid (hN.drewN 1)
 have HSAME := Lib.hid (set_same hlen)
 have hgr0 : Hid (w.grownBy (w.drewN 1) (some C)) := Lib.hid (below_grown (below_drewN (Below.refl _ _) 1))
 have a0 := (hA.drewN 1).cell 0
 have n0 := (hN.drewN 1).cell 0
 simp at a0 n0
 unfold RisePost
 clear hlen h b1 b2 b3 hA hN
 generalize cellD zs (r * W + c) = x at *
 go_enter Tryz.func301, Tryz.ntmps301
 go_wp2_with fail
 refine wp_region_held_drew (S := fun w' => Blk w' A 281 #[.pointer (some ⟨G, 0, none⟩)] ∧ Blk w' NB 2 #[.int .i64 nn]) (by kernel_rfl) (by exact ⟨HA.out, HN.out⟩) (fun hHeld => ?_)
 refine tkH (i := 0) (v := ?_) rfl (by kernel_rfl) (fun _ _ _ h => h) (Or.inl ⟨by rfl, ?_⟩) (by assumption) ?_
 rotate_left
 ·intro w hSw
  have c1 := hSw.1.cell 0
  have c2 := hSw.2.cell 0
  simp at c1 c2
  go_simp
  try with_reducible rfl
 simp only [Act.put, z1, z2, z3, z4, z5, z6]
 refine tkH (i := 1) (v := ?_) rfl (by kernel_rfl) (fun _ _ _ h => h) (Or.inl ⟨by rfl, ?_⟩) (by assumption) ?_
 rotate_left
 ·intro w hSw
  try dsimp only at hSw
  go_simp
  try with_reducible rfl
 simp only [Act.put, z1, z2, z3, z4, z5, z6]
 refine tkH (i := 2) (v := ?_) rfl (by kernel_rfl) (fun _ _ _ h => h) (Or.inl ⟨by rfl, ?_⟩) (by assumption) ?_
 rotate_left
 ·intro w hSw
  try dsimp only at hSw
  go_simp
  try with_reducible rfl
 simp only [Act.put, z1, z2, z3, z4, z5, z6]
 refine tkH (i := 4) (v := ?_) rfl (by kernel_rfl) (fun _ _ _ h => h) (Or.inl ⟨by rfl, ?_⟩) (by assumption) ?_
 rotate_left
 ·intro w hSw
  have c1 := hSw.1.cell 0
  have c2 := hSw.2.cell 0
  simp at c1 c2
  go_simp
  try with_reducible rfl
 simp only [Act.put, z1, z2, z3, z4, z5, z6]
 refine wpAnyH_ready (rs := [3]) (by kernel_rfl) (by simp) ?_
 refine AllReadyH.cons rfl (fun Kc hKc => ?_) AllReadyH.nil
 go_simp
 go_wp2_with (go_at_call 281; refine PA.out.mono ?_; rintro e w' ⟨rfl, hw'⟩; subst hw')
 refine hKc.out _ _ ?_ (fun hHeld => ?_)
 ·assumption
 clear hKc Kc
 refine tkH (i := 5) (v := ?_) rfl (by kernel_rfl) (fun _ _ _ h => h) (Or.inl ⟨by rfl, ?_⟩) (by assumption) ?_
 rotate_left
 ·intro w hSw
  try dsimp only at hSw
  go_simp
  try with_reducible rfl
 simp only [Act.put, z1, z2, z3, z4, z5, z6]
 refine wpAnyH_done (by kernel_rfl) ?_ _
 clear hHeld
 by_cases hlt : x < nn
 ·have e1 : decide (x < nn) = true := decide_eq_true hlt
  have a1 : w.drew.cell? ⟨A, 0, none⟩ = some (.pointer (some ⟨G, 0, none⟩)) := a0
  have n1 : w.drew.cell? ⟨NB, 0, none⟩ = some (.int .i64 nn) := n0
  go_wp2_with fail
  refine PP.out.mono ?_; rintro e w' ⟨rfl, hw'⟩
  have HW := Lib.hid hw'
  clear hw'
  go_wp2
  (try simp only [Exit.inBlock, Exit.then])
  refine bodyPost_end (results_none rfl _ _ _) rfl ?_
  refine ⟨⟨_, rfl⟩, ?_, ?_⟩
  ·rw [HW.out]; first | exact HG.out.set _ _ hn.1 hn.2 | (rw [if_pos (by omega)]; exact HG.out.set _ _ hn.1 hn.2)
  ·rw [HW.out]; exact grown_trans hgr0.out (grown_set _ _ _ _)
 ·have e1 : decide (x < nn) = false := decide_eq_false hlt
  go_wp2
  (try simp only [Exit.inBlock, Exit.then])
  refine bodyPost_end (results_none rfl _ _ _) rfl ?_
  exact ⟨⟨_, rfl⟩, by first | (rw [HSAME.out]; exact HG.out) | (rw [if_neg (by omega), HSAME.out]; exact HG.out), hgr0.out⟩

set_option maxRecDepth 100000 in
set_option maxHeartbeats 4000000 in
theorem raise_yes (w : World) (G C R W : Nat) (zs cs : List Int) (d : Int) (v : Value) (h : GridIs w G C R W zs) (hv : IntsAt w v cs) (hm : meetB R W cs = true) (hd : In64 d) (hvc : v.ownBlock ≠ some C) :
  Calls Tryz.prog 292 #[.pointer (some ⟨G, 0, none⟩), v, .int .i64 d] w (RaisePost w G C R W zs cs d) := by
 have hR8 := h.rows
 have hfit := h.fit
 obtain ⟨h0R, hlR, hcol⟩ := meetB_of hm
 have HK := Lib.hid (box_kept (w := w) (cs := #[.pointer (some ⟨G, 0, none⟩)]) (t := 281) (Below.refl _ _))
 have P1 := least_yes _ G C R W zs cs v (h.kept HK.out.2) (hv.kept HK.out.2) hm
 unfold TellPost at P1
 have HG := Lib.hid h
 have HCOL := Lib.hid hcol
 have HFIT := Lib.hid hfit
 have HV := Lib.hid hv
 clear h hcol hm hfit
 obtain ⟨ao, cap, rfl, hcap, hcells⟩ := hv
 obtain ⟨g, rfl, hg, hc⟩ := hcells (by omega)
 have HC := Lib.hid hc
 have hgC : g ≠ C := fun e => hvc (by simp [Value.ownBlock, e])
 clear hcells hc hvc
 obtain ⟨n, hlen⟩ : ∃ n, n = cs.length := ⟨_, rfl⟩
 rw [← hlen] at hcap P1 ⊢
 have HLEN := Lib.hid hlen
 have hn8 : n ≤ 8 := by omega
 have hnR : Hid (n = R) := by show _ = _; omega
 clear hlen hlR
 have hbx := HK.out.1
 have q0 := hbx.cell 0
 simp at q0
 go_enter Tryz.func292, Tryz.ntmps292
 go_wp2_with fail
 refine P1.mono ?_; clear P1; rintro e w2 ⟨u, rfl, hu, hb⟩
 have HU := Lib.hid hu
 have HX2 := Lib.hid (hbx.kept hb)
 have HB2 := Lib.hid (HK.out.2.trans (hb.mono HK.out.2.size))
 have hu64 : In64 u := by
  have := (kth_zero hu).1
  simp only [readZ, List.mem_map] at this
  obtain ⟨r, _, rfl⟩ := this
  exact cell_fit HFIT.out _
 clear hu hb q0
 by_cases hneg : d < 0
 ·have e1 : decide (d < 0) = true := decide_eq_true hneg
  go_wp2
  go_ret
  exact ⟨u, HU.out, .inl ⟨hneg, rfl, HB2.out⟩⟩
 ·have e1 : decide (d < 0) = false := decide_eq_false hneg
  by_cases hs64 : In64 (u + d)
  ·have P2 := (opok_plus u d w2 hu64 hd).1 hs64
   unfold TwoPost at P2
   go_wp2_with fail
   refine P2.mono ?_; clear P2; rintro e w3 ⟨rfl, hb⟩
   have HX3 := Lib.hid (HX2.out.kept hb)
   have HB3 := Lib.hid (btr HB2.out hb)
   have hA3 := HX3.out.lt
   clear hb
   go_wp2_with fail
   obtain ⟨nn, hnn⟩ : ∃ nn, nn = u + d := ⟨_, rfl⟩
   rw [← hnn]
   have hn64 : In64 nn := by rw [hnn]; exact hs64
   have HNN := Lib.hid hnn
   have hnb := Blk.new w3 2 #[.int .i64 nn]
   have HX4 := Lib.hid (HX3.out.alloc (.cells #[.int .i64 nn] 2))
   have hb4 : Below w.heap.size w (w3.alloc (.cells #[.int .i64 nn] 2)) := btr HB3.out (below_alloc1 _ _)
   have HG4 := Lib.hid (HG.out.kept hb4)
   have HGR4 := Lib.hid (below_grown (row := some C) hb4)
   have HNB := Lib.hid hnb
   have hne1 : w3.heap.size ≠ C := by have := HG.out.ltC; have := HB3.out.size; omega
   have hne2 : w.heap.size ≠ C := by have := HG.out.ltC; omega
   clear hnn hs64 hnb hb4
   generalize (w3.alloc (.cells #[.int .i64 nn] 2)) = w5 at *
   generalize hNB : w3.heap.size = NB at *
   clear hNB
   go_loopw [36] (fun i wr => ∃ j : Nat, j ≤ n ∧ i = .int .i64 (j : Int) ∧ GridIs wr G C R W (setsZ W zs (colN cs) (riseV W zs cs nn) j) ∧ Blk wr w.heap.size 281 #[.pointer (some ⟨G, 0, none⟩)] ∧ Blk wr NB 2 #[.int .i64 nn] ∧ w.grownBy wr (some C)) (fun i _ => n - (intOf i).toNat)
   case atStart => exact ⟨0, by omega, rfl, HG4.out, HX4.out, HNB.out, HGR4.out⟩
   case round =>
    obtain ⟨j, hj, rfl, hg', hx', hnb', hgr'⟩ := hrel
    clear HG4 HX4 HNB HGR4
    have HG5 := Lib.hid hg'
    have HX5 := Lib.hid hx'
    have HN5 := Lib.hid hnb'
    have HGR := Lib.hid hgr'
    by_cases hlt : j < n
    ·obtain ⟨hcj, hcw⟩ := HCOL.out j (by have := hnR.out; omega)
     have cx := hgr'.cell (HC.out j _ hcj) (by simpa using hgC)
     have i0 : (0 : Int) ≤ (j : Int) := by omega
     have i1 : (j : Int) < (n : Int) := by omega
     have PR := Lib.hid (rise_any wr w.heap.size NB G C R W j (colN cs j) _ nn hg' (by have := hnR.out; omega) hcw hn64 hx' hnb')
     have HST : Hid ((setsZ W zs (colN cs) (riseV W zs cs nn) j).set (j * W + colN cs j) (if cellD (setsZ W zs (colN cs) (riseV W zs cs nn) j) (j * W + colN cs j) < nn then nn else cellD (setsZ W zs (colN cs) (riseV W zs cs nn) j) (j * W + colN cs j)) = setsZ W zs (colN cs) (riseV W zs cs nn) (j + 1)) := Lib.hid (by
      have e := setsZ_get (cf := colN cs) (vf := riseV W zs cs nn) HG.out.len (fun r hr => (HCOL.out r hr).2) j (by have := hnR.out; omega) j (colN cs j) (by have := hnR.out; omega) hcw
      rw [if_neg (by omega)] at e
      rw [e]; rfl)
     unfold RisePost at PR
     clear hg' hx' hnb' hgr' hcj hcw
     rw [HST.out] at PR
     generalize hy : colN cs j = y at *
     clear hy HST
     go_wp2_with fail
     refine PR.out.mono ?_; rintro e w6 ⟨⟨v, rfl⟩, hg6, hgr6⟩
     have HG6 := Lib.hid hg6
     have HX6 := Lib.hid (HX5.out.grown hgr6 (by simpa using hne2))
     have HN6 := Lib.hid (HN5.out.grown hgr6 (by simpa using hne1))
     have HGR6 := Lib.hid (grown_trans HGR.out hgr6)
     clear hg6 hgr6
     go_wp2
     go_roundw
     case rel => exact ⟨j + 1, by omega, by go_num, HG6.out, HX6.out, HN6.out, HGR6.out⟩
     case measure => simp [intOf]; omega
    ·obtain rfl : j = n := by omega
     have HP : Hid (RaisePost w G C R W zs cs d (.returned (.int .i64 0)) wr) := ⟨u, HU.out, .inr (.inr ⟨by omega, by rw [← HNN.out]; exact hn64, rfl, by rw [← HNN.out, raiseZ, ← HLEN.out]; exact HG5.out, HGR.out⟩)⟩
     clear hg' hx' hnb' hgr'
     go_wp2
     go_ret
     exact HP.out
  ·have P2 := (opok_plus u d w2 hu64 hd).2 hs64
   unfold TwoPost at P2
   go_wp2_with fail
   refine P2.mono ?_; clear P2; rintro e w3 ⟨rfl, hb⟩
   have HB3 := Lib.hid (btr HB2.out hb)
   have HB4 : Hid (Below w.heap.size w (w3.alloc (.cells #[.int .i64 0] 2))) := Lib.hid (btr HB3.out (below_alloc1 _ _))
   clear hb
   go_wp2
   go_ret
   exact ⟨u, HU.out, .inr (.inl ⟨by omega, hs64, rfl, HB4.out⟩)⟩
end Go.Proofs.YtfeficdndjiijaaGreatDoor


namespace Go.Proofs.YtfeficdndjiijaaGreatDoor

def PN : Nat := 2305843009213693951
end Go.Proofs.YtfeficdndjiijaaGreatDoor


namespace Go.Proofs.YtfeficdndjiijaaGreatDoor
open Go.RowKit

def P : Int := 2305843009213693951
def ffold (a : Int) : Int := a % P
def fadd (a b : Int) : Int := (a + b) % P
def fmul (a b : Int) : Int := (a * b) % P
theorem mod_bd (a : Int) : 0 ≤ a % P ∧ a % P ≤ 2305843009213693950 := by unfold P; omega
theorem ffold_bd (a : Int) : 0 ≤ ffold a ∧ ffold a ≤ 2305843009213693950 := mod_bd _
theorem fadd_bd (a b : Int) : 0 ≤ fadd a b ∧ fadd a b ≤ 2305843009213693950 := mod_bd _
theorem fmul_bd (a b : Int) : 0 ≤ fmul a b ∧ fmul a b ≤ 2305843009213693950 := mod_bd _
theorem mod_idem (a : Int) : a % P % P = a % P := Int.emod_emod_of_dvd a (Int.dvd_refl P)
theorem add_l (a b : Int) : (a % P + b) % P = (a + b) % P := Int.emod_add_emod ..
theorem add_r (a b : Int) : (a + b % P) % P = (a + b) % P := Int.add_emod_emod ..
theorem mul_l (a b : Int) : (a % P * b) % P = (a * b) % P := by rw [Int.mul_emod, mod_idem, ← Int.mul_emod]
theorem mul_r (a b : Int) : (a * (b % P)) % P = (a * b) % P := by rw [Int.mul_comm, mul_l, Int.mul_comm]
theorem and_P (a : Int) (h0 : 0 ≤ a) (h1 : a ≤ 18446744073709551615) : bits BinOp.and IntKind.u64 a 2305843009213693951 = a % 2305843009213693952 := by
  have h := u64_and a 2305843009213693951 h0 (by omega) (by omega) (by omega)
  rw [h]
  have : (2305843009213693951 : Int).toNat = 2 ^ 61 - 1 := by decide +kernel
  rw [this, Nat.and_two_pow_sub_one_eq_mod]
  have e : ((a.toNat % 2 ^ 61 : Nat) : Int) = (a.toNat : Int) % 2305843009213693952 := by
    rw [Int.natCast_emod]; rfl
  rw [e, Int.toNat_of_nonneg h0]
theorem fold_step (a : Int) (h0 : 0 ≤ a) (h1 : a ≤ 18446744073709551615) :
    (2305843009213693951 ≤ a % 2305843009213693952 + a / 2305843009213693952 → a % 2305843009213693952 + a / 2305843009213693952 - 2305843009213693951 = ffold a) ∧
    (a % 2305843009213693952 + a / 2305843009213693952 < 2305843009213693951 → a % 2305843009213693952 + a / 2305843009213693952 = ffold a) := by
  unfold ffold P; omega

theorem fadd_of (a b : Int) : ffold (ffold a + ffold b) = fadd a b := by
  unfold ffold fadd; rw [add_l, add_r]
theorem or_shift (h l : Nat) (hh : h < 288230376151711744) (hl : l < 18446744073709551616) :
    bits BinOp.or IntKind.u64 ((h : Int) * 8) ((l : Int) / 2305843009213693952) = (h : Int) * 8 + (l : Int) / 2305843009213693952 := by
  have e1 : ((h : Int) * 8) = ((h * 8 : Nat) : Int) := by omega
  have e2 : ((l : Int) / 2305843009213693952) = ((l / 2305843009213693952 : Nat) : Int) := by omega
  rw [e1, e2, u64_or_nat _ _ (by omega) (by omega)]
  have hb : l / 2305843009213693952 < 2 ^ 3 := by omega
  have := Nat.two_pow_add_eq_or_of_lt hb h
  have e3 : h * 8 ||| l / 2305843009213693952 = h * 8 + l / 2305843009213693952 := by
    rw [show h * 8 = 2 ^ 3 * h by omega, this]
  rw [e3]
  omega

theorem fmul_of (x y : Nat) (a b : Int) (hx : (x : Int) = ffold a) (hy : (y : Int) = ffold b) :
    fadd (((x * y / 18446744073709551616 : Nat) : Int) * 8 + ((x * y % 18446744073709551616 : Nat) : Int) / 2305843009213693952) (((x * y % 18446744073709551616 : Nat) : Int) % 2305843009213693952) = fmul a b := by
  have e : fmul a b = ((x * y : Nat) : Int) % P := by
    unfold fmul; rw [Int.natCast_mul, hx, hy]; unfold ffold; rw [mul_l, mul_r]
  rw [e]
  generalize x * y = z
  unfold fadd P
  omega

theorem hi_bd (x y : Nat) (a b : Int) (hx : (x : Int) = ffold a) (hy : (y : Int) = ffold b) : x * y / 18446744073709551616 < 288230376151711744 := by
  have h1 := ffold_bd a; have h2 := ffold_bd b
  have : x * y ≤ 2305843009213693950 * 2305843009213693950 := Nat.mul_le_mul (by omega) (by omega)
  omega

end Go.Proofs.YtfeficdndjiijaaGreatDoor


namespace Go.Proofs.YtfeficdndjiijaaGreatDoor
set_option linter.unusedVariables false

def lineI (a b x : Int) : Int := fadd (fmul a x) b
theorem lineI_bd (a b x : Int) : 0 ≤ lineI a b x ∧ lineI a b x ≤ 2305843009213693950 := fadd_bd _ _
end Go.Proofs.YtfeficdndjiijaaGreatDoor


namespace Go.Proofs.YtfeficdndjiijaaGreatDoor
open Go.RowKit
set_option linter.unusedVariables false

def bv (a : Int) : BitVec 64 := BitVec.ofInt 64 a
def nv (x : BitVec 64) : Int := (x.toNat : Int)

theorem nv_bd (x : BitVec 64) : 0 ≤ nv x ∧ nv x ≤ 18446744073709551615 := by
  have := x.isLt; unfold nv; omega
theorem nv_bv (a : Int) (h0 : 0 ≤ a) (h1 : a ≤ 18446744073709551615) : nv (bv a) = a := by
  unfold nv bv
  rw [BitVec.toNat_ofInt]
  have : a % ((2 ^ 64 : Nat) : Int) = a := Int.emod_eq_of_lt h0 (by omega)
  rw [this, Int.toNat_of_nonneg h0]
theorem wrap_bv (a : Int) : IntKind.u64.wrap a = nv (bv a) := by
  unfold nv bv
  rw [IntKind.wrap_u64, BitVec.toNat_ofInt]
  have : 0 ≤ a % ((2 ^ 64 : Nat) : Int) := Int.emod_nonneg _ (by decide)
  rw [Int.toNat_of_nonneg this]
  rfl
theorem bv_nv (x : BitVec 64) : bv (nv x) = x := by
  unfold nv bv; rw [BitVec.ofInt_natCast]; simp
theorem bv_add (a b : Int) : bv (a + b) = bv a + bv b := BitVec.ofInt_add ..
theorem bv_mul (a b : Int) : bv (a * b) = bv a * bv b := BitVec.ofInt_mul ..
theorem bv_wrap (a : Int) : bv (IntKind.u64.wrap a) = bv a := by rw [wrap_bv, bv_nv]
theorem xor_nv (x y : BitVec 64) : bits BinOp.xor IntKind.u64 (nv x) (nv y) = nv (x ^^^ y) := by
  unfold nv
  rw [u64_xor_nat _ _ (by have := x.isLt; omega) (by have := y.isLt; omega), BitVec.toNat_xor]
theorem shr_nv (x : BitVec 64) (k : Nat) : nv x / ((2 ^ k : Nat) : Int) = nv (x >>> k) := by
  unfold nv
  rw [BitVec.toNat_ushiftRight, Nat.shiftRight_eq_div_pow]
  exact (Int.natCast_ediv ..).symm

def sx (k : Nat) (z : BitVec 64) : BitVec 64 := z ^^^ z >>> k
def C1 : BitVec 64 := 13787848793156543929#64
def C2 : BitVec 64 := 10723151780598845931#64
def mixB (z : BitVec 64) : BitVec 64 := sx 31 (sx 27 (sx 30 z * C1) * C2)
def G : BitVec 64 := 11400714819323198485#64
def drawB (s i : BitVec 64) : BitVec 64 := mixB (s + (i + 1#64) * G)

def mixI (a : Int) : Int := nv (mixB (bv a))
def drawI (s i : Int) : Int := nv (drawB (bv s) (bv i))
theorem drawI_bd (a b : Int) : 0 ≤ drawI a b ∧ drawI a b ≤ 18446744073709551615 := nv_bd _

def pairN (l r : Int) : Int := 16 * l + 2 * r
def pairA (s l r : Int) : Int := 1 + drawI s (pairN l r) % 2305843009213693950
def pairB (s l r : Int) : Int := drawI s (pairN l r + 1) % 2305843009213693951
theorem pairA_bd (s l r : Int) : 1 ≤ pairA s l r ∧ pairA s l r ≤ 2305843009213693950 := by unfold pairA; omega
theorem pairB_bd (s l r : Int) : 0 ≤ pairB s l r ∧ pairB s l r ≤ 2305843009213693950 := by unfold pairB; omega

theorem shake30 (x : BitVec 64) : bits BinOp.xor IntKind.u64 (nv x) (nv x / 1073741824) = nv (sx 30 x) := by
  rw [show (1073741824 : Int) = ((2 ^ 30 : Nat) : Int) from rfl, shr_nv, xor_nv]; rfl
theorem shake27 (x : BitVec 64) : bits BinOp.xor IntKind.u64 (nv x) (nv x / 134217728) = nv (sx 27 x) := by
  rw [show (134217728 : Int) = ((2 ^ 27 : Nat) : Int) from rfl, shr_nv, xor_nv]; rfl
theorem shake31 (x : BitVec 64) : bits BinOp.xor IntKind.u64 (nv x) (nv x / 2147483648) = nv (sx 31 x) := by
  rw [show (2147483648 : Int) = ((2 ^ 31 : Nat) : Int) from rfl, shr_nv, xor_nv]; rfl
theorem wrap_mulC (x : BitVec 64) (c : Int) (C : BitVec 64) (h : bv c = C) : IntKind.u64.wrap (nv x * c) = nv (x * C) := by
  rw [wrap_bv, bv_mul, bv_nv, h]

theorem mix_walk (a : Int) (h0 : 0 ≤ a) (h1 : a ≤ 18446744073709551615) :
    IntKind.u64.wrap (bits BinOp.xor IntKind.u64 (IntKind.u64.wrap (bits BinOp.xor IntKind.u64 (IntKind.u64.wrap (bits BinOp.xor IntKind.u64 a (a / 1073741824) * 13787848793156543929)) (IntKind.u64.wrap (bits BinOp.xor IntKind.u64 a (a / 1073741824) * 13787848793156543929) / 134217728) * 10723151780598845931)) (IntKind.u64.wrap (bits BinOp.xor IntKind.u64 (IntKind.u64.wrap (bits BinOp.xor IntKind.u64 a (a / 1073741824) * 13787848793156543929)) (IntKind.u64.wrap (bits BinOp.xor IntKind.u64 a (a / 1073741824) * 13787848793156543929) / 134217728) * 10723151780598845931) / 2147483648)) = mixI a := by
  obtain ⟨x, rfl⟩ : ∃ x : BitVec 64, a = nv x := ⟨bv a, (nv_bv a h0 h1).symm⟩
  rw [shake30, wrap_mulC _ _ C1 (by decide), shake27, wrap_mulC _ _ C2 (by decide), shake31, wrap_bv, bv_nv]
  unfold mixI mixB
  rw [bv_nv]

end Go.Proofs.YtfeficdndjiijaaGreatDoor


namespace Go.Proofs.YtfeficdndjiijaaGreatDoor
set_option linter.unusedVariables false

def rightB (b r d m : Int) : Bool := decide (1 ≤ b ∧ b ≤ 59 ∧ 1 ≤ r ∧ r ≤ 8 ∧ 1 ≤ d ∧ d ≤ 128 ∧ 1 ≤ m ∧ m ≤ 3)
theorem right_of {b r d m : Int} (h : rightB b r d m = true) : 1 ≤ b ∧ b ≤ 59 ∧ 1 ≤ r ∧ r ≤ 8 ∧ 1 ≤ d ∧ d ≤ 128 ∧ 1 ≤ m ∧ m ≤ 3 := of_decide_eq_true h
def keysI (b r d m l : Int) : Int := if rightB b r d m = true ∧ 0 ≤ l ∧ l ≤ b then 2 ^ (b - l).toNat else 0
theorem keysI_yes {b r d m l : Int} (h : rightB b r d m = true) (h0 : 0 ≤ l) (h1 : l ≤ b) : keysI b r d m l = 2 ^ (b - l).toNat := if_pos ⟨h, h0, h1⟩
theorem keysI_no {b r d m l : Int} (h : ¬ (rightB b r d m = true ∧ 0 ≤ l ∧ l ≤ b)) : keysI b r d m l = 0 := if_neg h
theorem pow_le (n : Nat) (h : n ≤ 59) : (1 : Int) ≤ 2 ^ n ∧ (2 : Int) ^ n ≤ 576460752303423488 := by
  have h1 : 2 ^ n ≤ 2 ^ 59 := Nat.pow_le_pow_right (by omega) h
  have h2 : 0 < 2 ^ n := Nat.two_pow_pos n
  have e : ((2 ^ n : Nat) : Int) = (2 : Int) ^ n := Int.natCast_pow ..
  omega
theorem keysI_bd (b r d m l : Int) : 0 ≤ keysI b r d m l ∧ keysI b r d m l ≤ 576460752303423488 := by
  unfold keysI
  by_cases c : rightB b r d m = true ∧ 0 ≤ l ∧ l ≤ b
  · rw [if_pos c]
    have := right_of c.1
    have := pow_le (b - l).toNat (by omega)
    omega
  · rw [if_neg c]; omega

def exactB (b r d m l : Int) : Bool := decide (0 < keysI b r d m l ∧ keysI b r d m l ≤ d)
def colI (d s l k i : Int) : Int := lineI (pairA s l i) (pairB s l i) k % d
end Go.Proofs.YtfeficdndjiijaaGreatDoor


namespace Go.Proofs.YtfeficdndjiijaaGreatDoor
open Go.RowKit
set_option linter.unusedVariables false
set_option linter.unusedSimpArgs false

def withinB (n0 m0 n1 m1 n2 m2 n3 m3 : Int) : Bool := decide (1 ≤ n0 ∧ n0 ≤ m0 ∧ 1 ≤ n1 ∧ n1 ≤ m1 ∧ 1 ≤ n2 ∧ n2 ≤ m2 ∧ 1 ≤ n3 ∧ n3 ≤ m3)

theorem ret_bool {a b : Bool} (h : a = b) : Ending.returned (.bool a) = .returned (.bool b) := by rw [h]

theorem within_any (B : Nat) (n0 m0 n1 m1 n2 m2 n3 m3 : Int) (w : World)
  (hB : Blk w B 231 #[.int .i64 n0, .int .i64 m0, .int .i64 n1, .int .i64 m1, .int .i64 n2, .int .i64 m2, .int .i64 n3, .int .i64 m3]) :
  Calls Tryz.prog 113 #[.slice (some ⟨B, 0, none⟩) 4 4] w fun e w' => e = .returned (.bool (withinB n0 m0 n1 m1 n2 m2 n3 m3)) ∧ Below w.heap.size w w' := by
 have HB := Lib.hid hB
 clear hB
 go_enter Tryz.func113, Tryz.ntmps113
 go_wp2
 go_loopw [7] (fun i wr => ∃ k : Nat, k ≤ 4 ∧ i = .int .i64 (k : Int) ∧ Blk wr B 231 #[.int .i64 n0, .int .i64 m0, .int .i64 n1, .int .i64 m1, .int .i64 n2, .int .i64 m2, .int .i64 n3, .int .i64 m3] ∧ Below w.heap.size w wr ∧
   (0 < k → 1 ≤ n0 ∧ n0 ≤ m0) ∧ (1 < k → 1 ≤ n1 ∧ n1 ≤ m1) ∧ (2 < k → 1 ≤ n2 ∧ n2 ≤ m2) ∧ (3 < k → 1 ≤ n3 ∧ n3 ≤ m3)) (fun i _ => 4 - (intOf i).toNat)
 case atStart => exact ⟨0, by omega, rfl, HB.out, Below.refl _ _, by omega, by omega, by omega, by omega⟩
 case round =>
  obtain ⟨k, hk, rfl, hU, hb, q0, q1, q2, q3⟩ := hrel
  rcases (show k = 0 ∨ k = 1 ∨ k = 2 ∨ k = 3 ∨ k = 4 by omega) with rfl | rfl | rfl | rfl | rfl
  ·have c0 := hU.cell 0
   have c1 := hU.cell 1
   simp at c0 c1
   have HU := Lib.hid hU
   have hlt := hU.lt
   have hsz := hb.size
   clear hU
   by_cases h0 : n0 < 1
   ·have H : Hid (false = withinB n0 m0 n1 m1 n2 m2 n3 m3) := Lib.hid (by unfold withinB; symm; simp; omega)
    go_wp2
    go_ret
    exact ⟨ret_bool H.out, hb.alloc hsz _⟩
   ·by_cases h1 : m0 < n0
    ·have H : Hid (false = withinB n0 m0 n1 m1 n2 m2 n3 m3) := Lib.hid (by unfold withinB; symm; simp; omega)
     go_wp2
     go_ret
     exact ⟨ret_bool H.out, hb.alloc hsz _⟩
    ·go_wp2
     exact ⟨⟨1, by omega, rfl, HU.out.alloc _, hb.alloc hsz _, by omega, by omega, by omega, by omega⟩, by simp [intOf]⟩
  ·have c0 := hU.cell 2
   have c1 := hU.cell 3
   simp at c0 c1
   have HU := Lib.hid hU
   have hlt := hU.lt
   have hsz := hb.size
   clear hU
   by_cases h0 : n1 < 1
   ·have H : Hid (false = withinB n0 m0 n1 m1 n2 m2 n3 m3) := Lib.hid (by unfold withinB; symm; simp; omega)
    go_wp2
    go_ret
    exact ⟨ret_bool H.out, hb.alloc hsz _⟩
   ·by_cases h1 : m1 < n1
    ·have H : Hid (false = withinB n0 m0 n1 m1 n2 m2 n3 m3) := Lib.hid (by unfold withinB; symm; simp; omega)
     go_wp2
     go_ret
     exact ⟨ret_bool H.out, hb.alloc hsz _⟩
    ·go_wp2
     exact ⟨⟨2, by omega, rfl, HU.out.alloc _, hb.alloc hsz _, by omega, by omega, by omega, by omega⟩, by simp [intOf]⟩
  ·have c0 := hU.cell 4
   have c1 := hU.cell 5
   simp at c0 c1
   have HU := Lib.hid hU
   have hlt := hU.lt
   have hsz := hb.size
   clear hU
   by_cases h0 : n2 < 1
   ·have H : Hid (false = withinB n0 m0 n1 m1 n2 m2 n3 m3) := Lib.hid (by unfold withinB; symm; simp; omega)
    go_wp2
    go_ret
    exact ⟨ret_bool H.out, hb.alloc hsz _⟩
   ·by_cases h1 : m2 < n2
    ·have H : Hid (false = withinB n0 m0 n1 m1 n2 m2 n3 m3) := Lib.hid (by unfold withinB; symm; simp; omega)
     go_wp2
     go_ret
     exact ⟨ret_bool H.out, hb.alloc hsz _⟩
    ·go_wp2
     exact ⟨⟨3, by omega, rfl, HU.out.alloc _, hb.alloc hsz _, by omega, by omega, by omega, by omega⟩, by simp [intOf]⟩
  ·have c0 := hU.cell 6
   have c1 := hU.cell 7
   simp at c0 c1
   have HU := Lib.hid hU
   have hlt := hU.lt
   have hsz := hb.size
   clear hU
   by_cases h0 : n3 < 1
   ·have H : Hid (false = withinB n0 m0 n1 m1 n2 m2 n3 m3) := Lib.hid (by unfold withinB; symm; simp; omega)
    go_wp2
    go_ret
    exact ⟨ret_bool H.out, hb.alloc hsz _⟩
   ·by_cases h1 : m3 < n3
    ·have H : Hid (false = withinB n0 m0 n1 m1 n2 m2 n3 m3) := Lib.hid (by unfold withinB; symm; simp; omega)
     go_wp2
     go_ret
     exact ⟨ret_bool H.out, hb.alloc hsz _⟩
    ·go_wp2
     exact ⟨⟨4, by omega, rfl, HU.out.alloc _, hb.alloc hsz _, by omega, by omega, by omega, by omega⟩, by simp [intOf]⟩
  ·have H : Hid (true = withinB n0 m0 n1 m1 n2 m2 n3 m3) := Lib.hid (by unfold withinB; symm; exact decide_eq_true (by omega))
   go_wp2
   go_ret
   exact ⟨ret_bool H.out, hb⟩

theorem right_any (b r d m s : Int) (w : World) :
    Calls Tryz.prog 66 #[.agg #[.int .i64 b, .int .i64 r, .int .i64 d, .int .i64 m, .int .u64 s]] w fun e w' => e = .returned (.bool (rightB b r d m)) ∧ Below w.heap.size w w' := by
  have H : Hid (withinB b 59 r 8 d 128 m 3 = rightB b r d m) := Lib.hid (by rfl)
  go_enter Tryz.func66, Tryz.ntmps66
  go_wp2_with fail
  refine (within_any (w.heap.size + 1) b 59 r 8 d 128 m 3 _ (by first | exact Blk.new _ _ _ | (have := Blk.new (w.alloc (.cells #[.int .i64 b, .int .i64 r, .int .i64 d, .int .i64 m, .int .u64 s] 24)) 231 #[.int .i64 b, .int .i64 59, .int .i64 r, .int .i64 8, .int .i64 d, .int .i64 128, .int .i64 m, .int .i64 3]; simpa using this))).mono ?_
  rintro e w' ⟨rfl, hb⟩
  go_wp2
  go_ret
  exact ⟨ret_bool H.out, (((Below.refl _ _).alloc (Nat.le_refl _) _).alloc (by simp) _).trans (hb.mono (by simp; omega))⟩

theorem ret_u64q {a b : Int} (h : a = b) : Ending.returned (.int .u64 a) = .returned (.int .u64 b) := by rw [h]

theorem keys_any (b r d m s l : Int) (w : World) :
  Calls Tryz.prog 72 #[.agg #[.int .i64 b, .int .i64 r, .int .i64 d, .int .i64 m, .int .u64 s], .int .i64 l] w fun e w' => e = .returned (.int .u64 (keysI b r d m l)) ∧ Below w.heap.size w w' := by
 cases hr : rightB b r d m
 ·have H : Hid (0 = keysI b r d m l) := Lib.hid (keysI_no (fun h => by rw [hr] at h; exact absurd h.1 (by decide))).symm
  go_enter Tryz.func72, Tryz.ntmps72
  go_wp2_with fail
  refine (right_any b r d m s _).mono ?_; rintro e w' ⟨rfl, hb⟩
  obtain ⟨hk, hbb⟩ := box_kept hb
  have c0 := hk.cell 0
  simp at c0
  rw [hr]
  go_wp2
  go_ret
  exact ⟨ret_u64q H.out, hbb⟩
 ·have HR := right_of hr
  by_cases h0 : l < 0
  ·have H : Hid (0 = keysI b r d m l) := Lib.hid (keysI_no (fun h => by omega)).symm
   go_enter Tryz.func72, Tryz.ntmps72
   go_wp2_with fail
   refine (right_any b r d m s _).mono ?_; rintro e w' ⟨rfl, hb⟩
   obtain ⟨hk, hbb⟩ := box_kept hb
   have c0 := hk.cell 0
   simp at c0
   rw [hr]
   go_wp2
   go_ret
   exact ⟨ret_u64q H.out, hbb⟩
  ·by_cases h1 : b < l
   ·have H : Hid (0 = keysI b r d m l) := Lib.hid (keysI_no (fun h => by omega)).symm
    go_enter Tryz.func72, Tryz.ntmps72
    go_wp2_with fail
    refine (right_any b r d m s _).mono ?_; rintro e w' ⟨rfl, hb⟩
    obtain ⟨hk, hbb⟩ := box_kept hb
    have c0 := hk.cell 0
    simp at c0
    rw [hr]
    go_wp2
    go_ret
    exact ⟨ret_u64q H.out, hbb⟩
   ·have H : Hid (2 ^ (b - l).toNat = keysI b r d m l) := Lib.hid (keysI_yes hr (by omega) (by omega)).symm
    have hp := pow_le (b - l).toNat (by omega)
    have g0 : 0 ≤ l := by omega
    have g1 : l ≤ b := by omega
    have g2 : 0 ≤ b - l := by omega
    have g3 : b - l ≤ 59 := by omega
    go_enter Tryz.func72, Tryz.ntmps72
    go_wp2_with fail
    refine (right_any b r d m s _).mono ?_; rintro e w' ⟨rfl, hb⟩
    obtain ⟨hk, hbb⟩ := box_kept hb
    have c0 := hk.cell 0
    simp at c0
    rw [hr]
    go_wp2
    go_ways
    go_ret
    go_show
    exact ⟨ret_u64q H.out, hbb⟩
end Go.Proofs.YtfeficdndjiijaaGreatDoor


namespace Go.Proofs.YtfeficdndjiijaaGreatDoor
open Go.RowKit
set_option linter.unusedVariables false
set_option linter.unusedSimpArgs false

end Go.Proofs.YtfeficdndjiijaaGreatDoor


namespace Go.Proofs.YtfeficdndjiijaaGreatDoor
open Go.RowKit
set_option linter.unusedVariables false
set_option linter.unusedSimpArgs false

theorem keys_right {b r d m l : Int} (h : 0 < keysI b r d m l) : 1 ≤ d ∧ d ≤ 128 ∧ 1 ≤ b ∧ b ≤ 59 ∧ 0 ≤ l ∧ l ≤ b ∧ 1 ≤ r ∧ r ≤ 8 ∧ rightB b r d m = true := by
  unfold keysI at h
  by_cases c : rightB b r d m = true ∧ 0 ≤ l ∧ l ≤ b
  · have := right_of c.1
    exact ⟨by omega, by omega, by omega, by omega, by omega, by omega, by omega, by omega, c.1⟩
  · rw [if_neg c] at h; omega

theorem exact_any (b r d m s l : Int) (w : World) :
  Calls Tryz.prog 71 #[.agg #[.int .i64 b, .int .i64 r, .int .i64 d, .int .i64 m, .int .u64 s], .int .i64 l] w fun e w' => e = .returned (.bool (exactB b r d m l)) ∧ Below w.heap.size w w' := by
 obtain ⟨k0, k1⟩ := keysI_bd b r d m l
 by_cases hp : 0 < keysI b r d m l
 ·obtain ⟨d0, d1, _⟩ := keys_right hp
  by_cases hd : keysI b r d m l ≤ d
  ·have H : Hid (true = exactB b r d m l) := Lib.hid (decide_eq_true ⟨hp, hd⟩).symm
   go_enter Tryz.func71, Tryz.ntmps71
   go_wp2_with fail
   refine (keys_any b r d m s l _).mono ?_; rintro e w' ⟨rfl, hb⟩
   obtain ⟨hk, hbb⟩ := box_kept hb
   have c2 := hk.cell 2
   simp at c2
   go_wp2
   go_ret
   exact ⟨ret_bool H.out, hbb⟩
  ·have H : Hid (false = exactB b r d m l) := Lib.hid (decide_eq_false (fun h => hd h.2)).symm
   go_enter Tryz.func71, Tryz.ntmps71
   go_wp2_with fail
   refine (keys_any b r d m s l _).mono ?_; rintro e w' ⟨rfl, hb⟩
   obtain ⟨hk, hbb⟩ := box_kept hb
   have c2 := hk.cell 2
   simp at c2
   have dd : decide (keysI b r d m l ≤ d) = false := decide_eq_false (by omega)
   go_wp2
   go_ret
   exact ⟨ret_bool H.out, hbb⟩
 ·have H : Hid (false = exactB b r d m l) := Lib.hid (decide_eq_false (fun h => hp h.1)).symm
  go_enter Tryz.func71, Tryz.ntmps71
  go_wp2_with fail
  refine (keys_any b r d m s l _).mono ?_; rintro e w' ⟨rfl, hb⟩
  obtain ⟨hk, hbb⟩ := box_kept hb
  go_wp2
  go_ret
  exact ⟨ret_bool H.out, hbb⟩


theorem box_cells {w' : World} {g : Nat} {t : TypeId} {b r d m s : Int} (hk : Blk w' g t #[.int .i64 b, .int .i64 r, .int .i64 d, .int .i64 m, .int .u64 s]) :
    w'.cell? ⟨g, 0, none⟩ = some (.int .i64 b) ∧ w'.cell? ⟨g, 1, none⟩ = some (.int .i64 r) ∧ w'.cell? ⟨g, 2, none⟩ = some (.int .i64 d) ∧ w'.cell? ⟨g, 3, none⟩ = some (.int .i64 m) ∧ w'.cell? ⟨g, 4, none⟩ = some (.int .u64 s) :=
  ⟨hk.cell 0, hk.cell 1, hk.cell 2, hk.cell 3, hk.cell 4⟩


end Go.Proofs.YtfeficdndjiijaaGreatDoor


namespace Go.Proofs.YtfeficdndjiijaaGreatDoor
open Go.RowKit
set_option linter.unusedVariables false
set_option linter.unusedSimpArgs false

end Go.Proofs.YtfeficdndjiijaaGreatDoor


namespace Go.Proofs.YtfeficdndjiijaaGreatDoor
open Go.RowKit
set_option linter.unusedVariables false
set_option linter.unusedSimpArgs false

def ArrIs (w : World) (A G C : Nat) (b r d m s l : Int) (K : Nat) (zs : List Int) : Prop :=
  Blk w A 284 #[.int .i64 b, .int .i64 r, .int .i64 d, .int .i64 m, .int .u64 s, .int .i64 l, .pointer (some ⟨G, 0, none⟩)] ∧ GridIs w G C 1 K zs
def ExNewPost (w : World) (b r d m s l : Int) (e : Ending) (w' : World) : Prop :=
  ∃ A G C, e = .returned (.tuple #[.pointer (some ⟨A, 0, none⟩), .int .i64 0]) ∧ w.heap.size ≤ A ∧ w.heap.size ≤ G ∧ w.heap.size ≤ C ∧ ArrIs w' A G C b r d m s l (keysI b r d m l).toNat (List.replicate (1 * (keysI b r d m l).toNat) 0) ∧ Below w.heap.size w w'

set_option maxRecDepth 100000 in
set_option maxHeartbeats 4000000 in
theorem exnew_yes (b r d m s l : Int) (h : exactB b r d m l = true) (w : World) :
  Calls Tryz.prog 114 #[.agg #[.int .i64 b, .int .i64 r, .int .i64 d, .int .i64 m, .int .u64 s], .int .i64 l] w (ExNewPost w b r d m s l) := by
 have PE := fun w => exact_any b r d m s l w
 have hk := of_decide_eq_true h
 have hkr := keys_right hk.1
 have PK := Lib.hid (fun w => keys_any b r d m s l w)
 rw [h] at PE
 have HPE := Lib.hid PE
 clear PE h
 obtain ⟨K, hK⟩ : ∃ K : Nat, keysI b r d m l = (K : Int) := ⟨(keysI b r d m l).toNat, by omega⟩
 unfold ExNewPost
 rw [hK] at PK ⊢
 have hK1 : K ≤ 128 := by omega
 have PN := Lib.hid (fun w => new_any 1 (K : Int) w)
 have e1 : clampN 1 8 = 1 := rfl
 have e2 : clampN (K : Int) 128 = K := by unfold clampN; omega
 rw [e1, e2] at PN
 simp only [Int.toNat_natCast]
 clear hk hkr hK e1 e2
 obtain ⟨g1, hb1, hsz1⟩ := news1 w (.cells #[.int .i64 b, .int .i64 r, .int .i64 d, .int .i64 m, .int .u64 s] 24)
 have hx1 : Blk _ w.heap.size 24 #[.int .i64 b, .int .i64 r, .int .i64 d, .int .i64 m, .int .u64 s] := g1
 have HB1 := Lib.hid hb1
 have HX1 := Lib.hid hx1
 clear g1 hb1 hsz1
 go_enter Tryz.func114, Tryz.ntmps114
 go_wp2_with (refine wpList_load_row rfl 24 _ rfl w.heap.size rfl 24 _ (0, 0) _ hx1 Tryz.underlying24 rfl (by kernel_rfl) ?_)
 refine (HPE.out _).mono ?_
 rintro e w2 ⟨rfl, hb⟩
 have HB2 := Lib.hid (btr HB1.out hb)
 have HX2 := Lib.hid (HX1.out.kept hb)
 have ek : IntKind.i64.wrap (K : Int) = (K : Int) := by simp [IntKind.wrap, IntKind.bits, IntKind.signed]; split <;> omega
 clear hb hx1
 go_wp2_with fail
 refine wp_region_held_drew (S := fun w' => Blk w' w.heap.size 24 #[.int .i64 b, .int .i64 r, .int .i64 d, .int .i64 m, .int .u64 s] ∧ w.heap.size ≤ w'.heap.size) (by kernel_rfl) (by exact ⟨HX2.out.drewN 1, HB2.out.size⟩) (fun hHeld => ?_)
 refine tkH (i := 0) (v := ?_) rfl (by kernel_rfl) (fun _ _ _ h => h) (Or.inl ⟨by rfl, ?_⟩) (by assumption) ?_
 rotate_left
 ·intro w hSw
  refine (exec_load_row 24 _ rfl _ rfl 24 _ (0, 0) _ hSw.1 Tryz.underlying24 rfl (by kernel_rfl)).trans ?_
  go_simp
  try with_reducible rfl
 simp only [Act.put, z1, z2, z3, z4, z5, z6]
 refine tkH (i := 1) (v := ?_) rfl (by kernel_rfl) (fun _ _ _ h => h) (Or.inl ⟨by rfl, ?_⟩) (by assumption) ?_
 rotate_left
 ·intro w hSw
  try dsimp only at hSw
  go_simp
  try with_reducible rfl
 simp only [Act.put, z1, z2, z3, z4, z5, z6]
 refine tkH (i := 2) (v := ?_) rfl (by kernel_rfl) (fun _ _ _ h => h) (Or.inl ⟨by rfl, ?_⟩) (by assumption) ?_
 rotate_left
 ·intro w hSw
  refine (exec_load_row 24 _ rfl _ rfl 24 _ (0, 0) _ hSw.1 Tryz.underlying24 rfl (by kernel_rfl)).trans ?_
  go_simp
  try with_reducible rfl
 simp only [Act.put, z1, z2, z3, z4, z5, z6]
 refine tkH (i := 3) (v := ?_) rfl (by kernel_rfl) (fun _ _ _ h => h) (Or.inl ⟨by rfl, ?_⟩) (by assumption) ?_
 rotate_left
 ·intro w hSw
  try dsimp only at hSw
  go_simp
  try with_reducible rfl
 simp only [Act.put, z1, z2, z3, z4, z5, z6]
 refine wpAnyH_ready (rs := [4]) (by kernel_rfl) (by simp) ?_
 refine AllReadyH.cons rfl (fun Kc hKc => ?_) AllReadyH.nil
 go_simp
 go_wp2_with (first | (go_at_call 72; refine (PK.out _).mono ?_; rintro e w3 ⟨rfl, hb'⟩; have HB3 := Lib.hid (btr (below_drewN HB2.out 1) hb')) | (go_at_call 159; refine (PN.out _).mono ?_; rintro e w4 ⟨G, C, rfl, hG, hC, hg, hb'⟩; have HG4 := Lib.hid hg; have HB4 := Lib.hid (btr HB3.out hb'); have hGC : Hid (w.heap.size ≤ G ∧ w.heap.size ≤ C) := ⟨Nat.le_trans hHeld.2 hG, Nat.le_trans hHeld.2 hC⟩; clear hg))
 refine hKc.out _ _ ?_ (fun hHeld => ?_)
 ·first | assumption | exact ⟨hHeld.1.kept hb', Nat.le_trans hHeld.2 hb'.size⟩ | exact ⟨hHeld.1.alloc _, by have := hHeld.2; simp; omega⟩
 clear hKc Kc
 refine tkH (i := 5) (v := ?_) rfl (by kernel_rfl) (fun _ _ _ h => h) (Or.inl ⟨by rfl, ?_⟩) (by assumption) ?_
 rotate_left
 ·intro w hSw
  try dsimp only at hSw
  go_simp
  try with_reducible rfl
 simp only [Act.put, z1, z2, z3, z4, z5, z6]
 refine wpAnyH_ready (rs := [6]) (by kernel_rfl) (by simp) ?_
 refine AllReadyH.cons rfl (fun Kc hKc => ?_) AllReadyH.nil
 go_simp
 go_wp2_with (first | (go_at_call 72; refine (PK.out _).mono ?_; rintro e w3 ⟨rfl, hb'⟩; have HB3 := Lib.hid (btr (below_drewN HB2.out 1) hb')) | (go_at_call 159; refine (PN.out _).mono ?_; rintro e w4 ⟨G, C, rfl, hG, hC, hg, hb'⟩; have HG4 := Lib.hid hg; have HB4 := Lib.hid (btr HB3.out hb'); have hGC : Hid (w.heap.size ≤ G ∧ w.heap.size ≤ C) := ⟨Nat.le_trans hHeld.2 hG, Nat.le_trans hHeld.2 hC⟩; clear hg))
 refine hKc.out _ _ ?_ (fun hHeld => ?_)
 ·first | assumption | exact ⟨hHeld.1.kept hb', Nat.le_trans hHeld.2 hb'.size⟩ | exact ⟨hHeld.1.alloc _, by have := hHeld.2; simp; omega⟩
 clear hKc Kc
 refine tkH (i := 7) (v := ?_) rfl (by kernel_rfl) (fun _ _ _ h => h) (Or.inl ⟨by rfl, ?_⟩) (by assumption) ?_
 rotate_left
 ·intro w hSw
  try dsimp only at hSw
  go_simp
  try with_reducible rfl
 simp only [Act.put, z1, z2, z3, z4, z5, z6]
 refine wpAnyH_ready (rs := [8]) (by kernel_rfl) (by simp) ?_
 refine AllReadyH.cons rfl (fun Kc hKc => ?_) AllReadyH.nil
 go_simp
 refine hKc.out _ _ ?_ (fun hHeld => ?_)
 ·first | assumption | exact ⟨hHeld.1.kept hb', Nat.le_trans hHeld.2 hb'.size⟩ | exact ⟨hHeld.1.alloc _, by have := hHeld.2; simp; omega⟩
 clear hKc Kc
 refine tkH (i := 9) (v := ?_) rfl (by kernel_rfl) (fun _ _ _ h => h) (Or.inl ⟨by rfl, ?_⟩) (by assumption) ?_
 rotate_left
 ·intro w hSw
  try dsimp only at hSw
  go_simp
  try with_reducible rfl
 simp only [Act.put, z1, z2, z3, z4, z5, z6]
 refine tkH (i := 10) (v := ?_) rfl (by kernel_rfl) (fun _ _ _ h => h) (Or.inl ⟨by rfl, ?_⟩) (by assumption) ?_
 rotate_left
 ·intro w hSw
  try dsimp only at hSw
  go_simp
  try with_reducible rfl
 simp only [Act.put, z1, z2, z3, z4, z5, z6]
 refine wpAnyH_done (by kernel_rfl) ?_ _
 have HNEW := Lib.hid (Blk.new w4 284 #[.int .i64 b, .int .i64 r, .int .i64 d, .int .i64 m, .int .u64 s, .int .i64 l, .pointer (some ⟨G, 0, none⟩)])
 have HAL : Hid (Below w4.heap.size w4 (w4.alloc (.cells #[.int .i64 b, .int .i64 r, .int .i64 d, .int .i64 m, .int .u64 s, .int .i64 l, .pointer (some ⟨G, 0, none⟩)] 284))) := Lib.hid ((Below.refl _ _).alloc (Nat.le_refl _) _)
 have HG5 := Lib.hid (HG4.out.kept HAL.out)
 have HB5 := Lib.hid (btr HB4.out HAL.out)
 clear hHeld
 go_wp2_with fail
 go_ret2
 exact ⟨w4.heap.size, G, C, rfl, HB4.out.size, hGC.out.1, hGC.out.2, ⟨HNEW.out, HG5.out⟩, HB5.out⟩
theorem exlevel (w : World) (A G C : Nat) (b r d m s l : Int) (K : Nat) (zs : List Int) (h : ArrIs w A G C b r d m s l K zs) :
    Calls Tryz.prog 187 #[.pointer (some ⟨A, 0, none⟩)] w fun e w' => e = .returned (.int .i64 l) ∧ w = w' := by
  have c5 := h.1.cell 5
  simp at c5
  clear h
  go_enter Tryz.func187, Tryz.ntmps187
  go_wp2
  go_ret
  exact ⟨rfl, rfl⟩
theorem excells (w : World) (A G C : Nat) (b r d m s l : Int) (K : Nat) (zs : List Int) (h : ArrIs w A G C b r d m s l K zs) :
    Calls Tryz.prog 189 #[.pointer (some ⟨A, 0, none⟩)] w (CellsPost w zs) := by
  have c6 := h.1.cell 6
  simp at c6
  have P := Lib.hid (cells_any w G C 1 K zs h.2)
  clear h
  go_enter Tryz.func189, Tryz.ntmps189
  go_wp2_with fail
  with_reducible refine P.out.mono ?_
  rintro e w2 ⟨v, rfl, hrest⟩
  have HR := Lib.hid hrest
  clear hrest
  go_wp2
  go_ret
  exact ⟨v, rfl, HR.out⟩
theorem expoint_yes (w : World) (A G C : Nat) (b r d m s l : Int) (K k : Nat) (zs : List Int) (h : ArrIs w A G C b r d m s l K zs) (hk : k < K) :
  Calls Tryz.prog 278 #[.pointer (some ⟨A, 0, none⟩), .int .u64 (k : Int)] w fun e w' => e = .returned (.tuple #[.int .i64 (cellD zs k), .int .i64 0]) ∧ w = w' := by
 have c6 := h.1.cell 6
 simp at c6
 have hw := h.2.width
 have P := Lib.hid (width_any w G C 1 K zs h.2)
 have P2 : Calls Tryz.prog 281 #[.pointer (some ⟨G, 0, none⟩), .int .i64 0, .int .i64 (k : Int)] w fun e w' => e = .returned (.int .i64 (cellD zs k)) ∧ w = w' := by
  have := at_in w G C 1 K 0 k zs h.2 (by decide) hk
  simpa using this
 have P2 := Lib.hid P2
 have e1 : decide ((K : Int) ≤ (k : Int)) = false := decide_eq_false (by omega)
 have e1' : decide (K ≤ k) = false := decide_eq_false (by omega)
 have e2 : IntKind.u64.wrap (K : Int) = (K : Int) := by rw [wrapU_mod]; omega
 have e3 : IntKind.i64.wrap (k : Int) = (k : Int) := by simp [IntKind.wrap, IntKind.bits, IntKind.signed]; split <;> omega
 clear h
 go_enter Tryz.func278, Tryz.ntmps278
 go_wp2_with fail
 with_reducible refine P.out.mono ?_
 rintro e w2 ⟨rfl, hw2⟩
 subst hw2
 go_wp2_with fail
 with_reducible refine P2.out.mono ?_
 rintro e w2 ⟨rfl, hw2⟩
 subst hw2
 go_wp2
 go_ret2
 exact ⟨rfl, rfl⟩
end Go.Proofs.YtfeficdndjiijaaGreatDoor

