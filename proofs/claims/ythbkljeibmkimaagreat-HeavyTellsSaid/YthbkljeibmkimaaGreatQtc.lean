import Derived.Test.YthbkljeibmkimaaGreatQtb
import Derived.Test.YthbkljeibmkimaaGreatQta
import Derived.Deep.QuietTactic
import Derived.BigQuiet
import Derived.Deep.MidRow
import Derived.StillTail
import Derived.Lib.LazyBuf
import Derived.BigRegion
import Derived.Deep.DeepCutAuto
import Derived.Deep.Cut
/-
  Contracts of the functions that HeavyTells reaches, and the plain laws that it leans on. Conditions: none beyond those stated at each theorem.
-/
namespace Go.Proofs.YthbkljeibmkimaaGreat
open Go.RowKit
set_option linter.unusedVariables false
set_option linter.unusedSimpArgs false

theorem two_lt {n : Nat} (h : n ≤ 59) : (1 : Int) ≤ 2 ^ n ∧ (2 : Int) ^ n ≤ 576460752303423488 := by
  have h1 : (2 : Nat) ^ n ≤ 2 ^ 59 := Nat.pow_le_pow_right (by decide) h
  have h2 : 0 < (2 : Nat) ^ n := Nat.two_pow_pos n
  have e : (2 : Int) ^ n = ((2 ^ n : Nat) : Int) := by simp
  have e2 : (2 : Nat) ^ 59 = 576460752303423488 := by decide
  omega
set_option maxRecDepth 100000 in
set_option maxHeartbeats 4000000 in
theorem pcis (b n i : Nat) (hb1 : 1 ≤ b) (hb : b ≤ 59) (hn : n ≤ b) (hi : i < 2 ^ (b - n)) (w : World) :
  Calls Tryz.prog 59 #[.int .i64 (b : Int), .agg #[.int .i64 (n : Int), .int .u64 (i : Int)]] w fun e w' => e = .returned (.bool true) ∧ Below w.heap.size w w' := by
 obtain ⟨g1, hb1', hsz1⟩ := news1 w (.cells #[.int .i64 (n : Int), .int .u64 (i : Int)] 64)
 have HX1 : Hid (Blk _ w.heap.size 64 #[.int .i64 (n : Int), .int .u64 (i : Int)]) := Lib.hid g1
 have HB1 := Lib.hid hb1'
 obtain ⟨t, ht⟩ : ∃ t, t = b - n := ⟨_, rfl⟩
 have hti : (b : Int) - (n : Int) = (t : Int) := by omega
 have h2 := two_lt (n := t) (by omega)
 have e2 : ((2 ^ t : Nat) : Int) = (2 : Int) ^ t := by simp
 rw [← ht] at hi
 have hii : (i : Int) < (2 : Int) ^ t := by omega
 have HD : Hid (decide ((i : Int) < IntKind.u64.wrap (2 ^ (b - n))) = true) := Lib.hid (decide_eq_true (by
  rw [← ht, wrapU_mod]
  omega))
 clear g1 hb1' hsz1 e2 ht hti h2 hii
 go_enter Tryz.func59, Tryz.ntmps59
 go_wp2_with fail
 generalize w.alloc (.cells #[.int .i64 (n : Int), .int .u64 (i : Int)] 64) = w1 at *
 have q0 := HX1.out.cell 0
 have q1 := HX1.out.cell 1
 simp at q0 q1
 have d1 : (1 : Int) ≤ (b : Int) := by omega
 have d2 : (b : Int) ≤ 59 := by omega
 have d3 : (0 : Int) ≤ (n : Int) := by omega
 have d4 : (n : Int) ≤ (b : Int) := by omega
 go_quiet (fail)
 go_wp2
 go_ret
 exact ⟨ret_bool HD.out, below_drewN HB1.out nq⟩
theorem Blk.rowFar {w : World} {g g' : Nat} {t : TypeId} {cs cs' : Array Value} (h : Blk w g t cs) (hne : g ≠ g') : Blk (w.setRow g' cs') g t cs := (setRow_other w g' g cs' hne).trans h
theorem Blk.rowNew {w : World} {g : Nat} {t : TypeId} {cs cs' : Array Value} (h : Blk w g t cs) : Blk (w.setRow g cs') g t cs' := setRow_heap w g cs cs' t (0, 0) h
set_option maxRecDepth 100000 in
set_option maxHeartbeats 4000000 in
theorem halves_no (b i : Nat) (hb1 : 1 ≤ b) (hb : b ≤ 59) (hi : i < 2 ^ b) (w : World) :
  Calls Tryz.prog 31 #[.int .i64 (b : Int), .agg #[.int .i64 0, .int .u64 (i : Int)]] w fun e w' => e = .returned (.tuple #[.agg #[.int .i64 0, .int .u64 0], .agg #[.int .i64 0, .int .u64 0], .bool false]) ∧ Below w.heap.size w w' := by
 have PI : Hid (∀ w, Calls Tryz.prog 59 #[.int .i64 (b : Int), .agg #[.int .i64 0, .int .u64 (i : Int)]] w fun e w' => e = .returned (.bool true) ∧ Below w.heap.size w w') := Lib.hid (fun w => pcis b 0 i hb1 hb (Nat.zero_le _) (by simpa using hi) w)
 obtain ⟨g1, g2, g3, hb1', hsz1⟩ := news3 w (.cells #[.int .i64 0, .int .u64 (i : Int)] 64) (.cells #[.int .i64 0, .int .u64 0] 64) (.cells #[.int .i64 0, .int .u64 0] 64)
 have HX1 : Hid (Blk _ w.heap.size 64 #[.int .i64 0, .int .u64 (i : Int)]) := Lib.hid g1
 have HY1 : Hid (Blk _ (w.heap.size + 1) 64 #[.int .i64 0, .int .u64 0]) := Lib.hid g2
 have HZ1 : Hid (Blk _ (w.heap.size + 1 + 1) 64 #[.int .i64 0, .int .u64 0]) := Lib.hid g3
 have HB1 := Lib.hid hb1'
 clear g1 g2 g3 hb1' hsz1
 go_enter Tryz.func31, Tryz.ntmps31
 go_wp2_with fail
 generalize (((w.alloc (.cells #[.int .i64 0, .int .u64 (i : Int)] 64)).alloc (.cells #[.int .i64 0, .int .u64 0] 64)).alloc (.cells #[.int .i64 0, .int .u64 0] 64)) = w1 at *
 have q := HX1.out
 go_wp2_with (first | refine wpList_load_row rfl 64 _ rfl w.heap.size rfl 64 _ (0, 0) _ q Tryz.underlying64 rfl (by kernel_rfl) ?_)
 with_reducible refine (PI.out w1).mono ?_
 rintro e w2 ⟨rfl, hb⟩
 have HX2 := Lib.hid (HX1.out.kept hb)
 have HY2 := Lib.hid (HY1.out.kept hb)
 have HZ2 := Lib.hid (HZ1.out.kept hb)
 have HB2 := Lib.hid (btr HB1.out hb)
 have q0 := HX2.out.cell 0
 simp at q0
 have y2 := HY2.out
 have z2 := HZ2.out
 clear hb q
 go_wp2_with (first | ((refine wpList_store_row rfl 64 _ _ rfl (w.heap.size + 1) #[.int .i64 0, .int .u64 0] rfl rfl 64 _ y2 (by kernel_rfl) rfl (by simp [Value.oneCell']) ?_); rw [Blk.setRow_same y2]) | (refine wpList_store_row rfl 64 _ _ rfl (w.heap.size + 1 + 1) #[.int .i64 0, .int .u64 0] rfl rfl 64 _ z2 (by kernel_rfl) rfl (by simp [Value.oneCell']) ?_; rw [Blk.setRow_same z2]))
 refine bodyPost_ret (results_row2_tmp rfl _ _ (w.heap.size + 1) (w.heap.size + 1 + 1) 64 64 _ _ (0, 0) (0, 0) _ rfl rfl HY2.out HZ2.out Tryz.underlying64 rfl (by kernel_rfl) (by kernel_rfl)) rfl ?_
 exact ⟨rfl, HB2.out⟩
set_option maxRecDepth 100000 in
set_option maxHeartbeats 40000000 in
theorem halves_yes (b n i : Nat) (hb1 : 1 ≤ b) (hb : b ≤ 59) (hn : n + 1 ≤ b) (hi : i < 2 ^ (b - (n + 1))) (w : World) :
  Calls Tryz.prog 31 #[.int .i64 (b : Int), .agg #[.int .i64 ((n + 1 : Nat) : Int), .int .u64 (i : Int)]] w fun e w' => e = .returned (.tuple #[.agg #[.int .i64 (n : Int), .int .u64 ((2 * i : Nat) : Int)], .agg #[.int .i64 (n : Int), .int .u64 ((2 * i + 1 : Nat) : Int)], .bool true]) ∧ Below w.heap.size w w' := by
 have PI := Lib.hid (fun w => pcis b (n + 1) i hb1 hb hn hi w)
 have h2 := two_lt (n := b - (n + 1)) (by omega)
 have e2 : ((2 ^ (b - (n + 1)) : Nat) : Int) = (2 : Int) ^ (b - (n + 1)) := by simp
 have hi2 : (i : Int) < 576460752303423488 := by omega
 have hx : ((n + 1 : Nat) : Int) ≠ 0 := by omega
 obtain ⟨m, hm⟩ : ∃ m, m = n + 1 := ⟨_, rfl⟩
 rw [← hm] at hx PI hn ⊢
 have HM1 : Hid (IntKind.i64.wrap ((m : Int) - 1) = (n : Int) ∧ (m : Int) - 1 = (n : Int)) := Lib.hid ⟨by rw [show (m : Int) - 1 = (n : Int) by omega]; exact wrapI_of _ (by omega) (by omega), by omega⟩
 have d0 : ((m : Int) == 0) = false := by simp; omega
 have HI2 : Hid (IntKind.u64.wrap (2 * (i : Int)) = ((2 * i : Nat) : Int) ∧ IntKind.u64.wrap (((2 * i : Nat) : Int) + 1) = ((2 * i + 1 : Nat) : Int)) := Lib.hid ⟨by rw [wrapU_mod]; omega, by rw [wrapU_mod]; omega⟩
 have HX := Lib.hid hx
 clear hm h2 e2 hi hx
 obtain ⟨g1, g2, g3, hb1', hsz1⟩ := news3 w (.cells #[.int .i64 (m : Int), .int .u64 (i : Int)] 64) (.cells #[.int .i64 0, .int .u64 0] 64) (.cells #[.int .i64 0, .int .u64 0] 64)
 have HX1 : Hid (Blk _ w.heap.size 64 #[.int .i64 (m : Int), .int .u64 (i : Int)]) := Lib.hid g1
 have HY1 : Hid (Blk _ (w.heap.size + 1) 64 #[.int .i64 0, .int .u64 0]) := Lib.hid g2
 have HZ1 : Hid (Blk _ (w.heap.size + 1 + 1) 64 #[.int .i64 0, .int .u64 0]) := Lib.hid g3
 have HB1 := Lib.hid hb1'
 clear g1 g2 g3 hb1' hsz1
 go_enter Tryz.func31, Tryz.ntmps31
 go_wp2_with fail
 generalize (((w.alloc (.cells #[.int .i64 (m : Int), .int .u64 (i : Int)] 64)).alloc (.cells #[.int .i64 0, .int .u64 0] 64)).alloc (.cells #[.int .i64 0, .int .u64 0] 64)) = w1 at *
 have q := HX1.out
 go_wp2_with (first | refine wpList_load_row rfl 64 _ rfl w.heap.size rfl 64 _ (0, 0) _ q Tryz.underlying64 rfl (by kernel_rfl) ?_)
 with_reducible refine (PI.out w1).mono ?_
 rintro e w2 ⟨rfl, hb⟩
 have HX2 := Lib.hid (HX1.out.kept hb)
 have HY2 := Lib.hid (HY1.out.kept hb)
 have HZ2 := Lib.hid (HZ1.out.kept hb)
 have HB2 := Lib.hid (btr HB1.out hb)
 have q0 := HX2.out.cell 0
 simp at q0
 clear hb q
 go_wp2_with fail
 clear q0
 refine wp_region_any (by kernel_rfl) ?_
 have hx3 := HX2.out.kept (below_drewN (Below.refl _ _) 1)
 have hy3 := HY2.out.kept (below_drewN (Below.refl _ _) 1)
 have hz3 := HZ2.out.kept (below_drewN (Below.refl _ _) 1)
 have HB3 := Lib.hid (below_drewN HB2.out 1)
 change Blk { heap := w2.heap, tape := w2.tape, drawn := w2.drawn + 1, os := w2.os, output := w2.output } _ _ _ at hx3
 change Blk { heap := w2.heap, tape := w2.tape, drawn := w2.drawn + 1, os := w2.os, output := w2.output } _ _ _ at hy3
 change Blk { heap := w2.heap, tape := w2.tape, drawn := w2.drawn + 1, os := w2.os, output := w2.output } _ _ _ at hz3
 have HB3 : Hid (Below w.heap.size w { heap := w2.heap, tape := w2.tape, drawn := w2.drawn + 1, os := w2.os, output := w2.output }) := HB3
 generalize ({ heap := w2.heap, tape := w2.tape, drawn := w2.drawn + 1, os := w2.os, output := w2.output } : World) = wd at *
 have hx4 := hx3.rowFar (g' := w.heap.size + 1) (cs' := #[.int .i64 (IntKind.i64.wrap ((m : Int) - 1)), .int .u64 (IntKind.u64.wrap (2 * (i : Int)))]) (by omega)
 have z4 := hz3.rowFar (g' := w.heap.size + 1) (cs' := #[.int .i64 (IntKind.i64.wrap ((m : Int) - 1)), .int .u64 (IntKind.u64.wrap (2 * (i : Int)))]) (by omega)
 have HY4 := Lib.hid (hy3.rowNew (cs' := #[.int .i64 (IntKind.i64.wrap ((m : Int) - 1)), .int .u64 (IntKind.u64.wrap (2 * (i : Int)))]))
 have HZ5 := Lib.hid (z4.rowNew (cs' := #[.int .i64 (IntKind.i64.wrap ((m : Int) - 1)), .int .u64 (IntKind.u64.wrap (IntKind.u64.wrap (2 * (i : Int)) + 1))]))
 have HY5 := Lib.hid (HY4.out.rowFar (g' := w.heap.size + 1 + 1) (cs' := #[.int .i64 (IntKind.i64.wrap ((m : Int) - 1)), .int .u64 (IntKind.u64.wrap (IntKind.u64.wrap (2 * (i : Int)) + 1))]) (by omega))
 have HB5 := Lib.hid (below_setRow (below_setRow HB3.out (g := w.heap.size + 1) (by omega) #[.int .i64 (IntKind.i64.wrap ((m : Int) - 1)), .int .u64 (IntKind.u64.wrap (2 * (i : Int)))]) (g := w.heap.size + 1 + 1) (by omega) #[.int .i64 (IntKind.i64.wrap ((m : Int) - 1)), .int .u64 (IntKind.u64.wrap (IntKind.u64.wrap (2 * (i : Int)) + 1))])
 have q0 := hx3.cell 0
 have q1 := hx3.cell 1
 have p0 := hx4.cell 0
 have p1 := hx4.cell 1
 simp at q0 q1 p0 p1
 clear hx3 hz3 hx4
 refine tkA (i := 0) (v := ?_) rfl (by kernel_rfl) (fun _ _ _ h => h) (Or.inl ⟨by rfl, ?_⟩) ?_
 rotate_left
 ·intro w
  go_simp
  try with_reducible rfl
 simp only [Act.put, z1, z2, z3, z4, z5, z6]
 refine tkA (i := 3) (v := ?_) rfl (by kernel_rfl) (fun _ _ _ h => h) (Or.inl ⟨by rfl, ?_⟩) ?_
 rotate_left
 ·intro w
  go_simp
  try with_reducible rfl
 simp only [Act.put, z1, z2, z3, z4, z5, z6]
 refine tkA (i := 7) (v := ?_) rfl (by kernel_rfl) (fun _ _ _ h => h) (Or.inl ⟨by rfl, ?_⟩) ?_
 rotate_left
 ·intro w
  go_simp
  try with_reducible rfl
 simp only [Act.put, z1, z2, z3, z4, z5, z6]
 refine tkA (i := 10) (v := ?_) rfl (by kernel_rfl) (fun _ _ _ h => h) (Or.inl ⟨by rfl, ?_⟩) ?_
 rotate_left
 ·intro w
  go_simp
  try with_reducible rfl
 simp only [Act.put, z1, z2, z3, z4, z5, z6]
 refine wpAny_ready (rs := [1, 4, 8, 11]) (by kernel_rfl) (by simp) ?_
 refine AllReady.cons rfl (fun Kc hKc => ?_) (AllReady.cons rfl (fun Kc hKc => ?_) (AllReady.cons rfl (fun Kc hKc => ?_) (AllReady.cons rfl (fun Kc hKc => ?_) AllReady.nil)))
 ·have HKc := Lib.hid hKc
  clear hKc
  go_simp
  refine HKc.out _ _ ?_
  clear HKc Kc
  refine tkA (i := 2) (v := ?_) rfl (by kernel_rfl) (fun _ _ _ h => h) (Or.inl ⟨by rfl, ?_⟩) ?_
  rotate_left
  ·intro w
   go_simp
   try with_reducible rfl
  simp only [Act.put, z1, z2, z3, z4, z5, z6]
  refine wpAny_ready (rs := [4, 8, 11]) (by kernel_rfl) (by simp) ?_
  refine AllReady.cons rfl (fun Kc hKc => ?_) (AllReady.cons rfl (fun Kc hKc => ?_) (AllReady.cons rfl (fun Kc hKc => ?_) AllReady.nil))
  ·have HKc := Lib.hid hKc
   clear hKc
   go_simp
   refine HKc.out _ _ ?_
   clear HKc Kc
   refine tkA (i := 5) (v := ?_) rfl (by kernel_rfl) (fun _ _ _ h => h) (Or.inl ⟨by rfl, ?_⟩) ?_
   rotate_left
   ·intro w
    go_simp
    try with_reducible rfl
   simp only [Act.put, z1, z2, z3, z4, z5, z6]
   refine tkA (i := 6) (v := ?_) rfl (by kernel_rfl) (fun _ _ _ h => h) (Or.inl ⟨by rfl, ?_⟩) ?_
   rotate_left
   ·intro w
    go_simp
    try with_reducible rfl
   simp only [Act.put, z1, z2, z3, z4, z5, z6]
   refine wpAny_ready (rs := [8, 11, 15]) (by kernel_rfl) (by simp) ?_
   refine AllReady.cons rfl (fun Kc hKc => ?_) (AllReady.cons rfl (fun Kc hKc => ?_) (AllReady.cons rfl (fun Kc hKc => ?_) AllReady.nil))
   ·have HKc := Lib.hid hKc
    clear hKc
    go_simp
    refine HKc.out _ _ ?_
    clear HKc Kc
    refine tkA (i := 9) (v := ?_) rfl (by kernel_rfl) (fun _ _ _ h => h) (Or.inl ⟨by rfl, ?_⟩) ?_
    rotate_left
    ·intro w
     go_simp
     try with_reducible rfl
    simp only [Act.put, z1, z2, z3, z4, z5, z6]
    refine wpAny_ready (rs := [11, 15]) (by kernel_rfl) (by simp) ?_
    refine AllReady.cons rfl (fun Kc hKc => ?_) (AllReady.cons rfl (fun Kc hKc => ?_) AllReady.nil)
    ·have HKc := Lib.hid hKc
     clear hKc
     go_simp
     refine HKc.out _ _ ?_
     clear HKc Kc
     refine tkA (i := 12) (v := ?_) rfl (by kernel_rfl) (fun _ _ _ h => h) (Or.inl ⟨by rfl, ?_⟩) ?_
     rotate_left
     ·intro w
      go_simp
      try with_reducible rfl
     simp only [Act.put, z1, z2, z3, z4, z5, z6]
     refine tkA (i := 13) (v := ?_) rfl (by kernel_rfl) (fun _ _ _ h => h) (Or.inl ⟨by rfl, ?_⟩) ?_
     rotate_left
     ·intro w
      go_simp
      try with_reducible rfl
     simp only [Act.put, z1, z2, z3, z4, z5, z6]
     refine tkA (i := 14) (v := ?_) rfl (by kernel_rfl) (fun _ _ _ h => h) (Or.inl ⟨by rfl, ?_⟩) ?_
     rotate_left
     ·intro w
      go_simp
      try with_reducible rfl
     simp only [Act.put, z1, z2, z3, z4, z5, z6]
     refine wpAny_ready (rs := [15]) (by kernel_rfl) (by simp) ?_
     refine AllReady.cons rfl (fun Kc hKc => ?_) AllReady.nil
     have HKc := Lib.hid hKc
     clear hKc
     first | refine wp_store_row 64 _ _ rfl (w.heap.size + 1) #[.int .i64 (IntKind.i64.wrap ((m : Int) - 1)), .int .u64 (IntKind.u64.wrap (2 * (i : Int)))] rfl rfl 64 _ hy3 (by kernel_rfl) rfl (by simp [Value.oneCell']) ?_ | refine wp_store_row 64 _ _ rfl (w.heap.size + 1 + 1) #[.int .i64 (IntKind.i64.wrap ((m : Int) - 1)), .int .u64 (IntKind.u64.wrap (IntKind.u64.wrap (2 * (i : Int)) + 1))] rfl rfl 64 _ z4 (by kernel_rfl) rfl (by simp [Value.oneCell']) ?_
     refine HKc.out _ _ ?_
     clear HKc Kc
     refine wpAny_ready (rs := [16]) (by kernel_rfl) (by simp) ?_
     refine AllReady.cons rfl (fun Kc hKc => ?_) AllReady.nil
     have HKc := Lib.hid hKc
     clear hKc
     first | refine wp_store_row 64 _ _ rfl (w.heap.size + 1) #[.int .i64 (IntKind.i64.wrap ((m : Int) - 1)), .int .u64 (IntKind.u64.wrap (2 * (i : Int)))] rfl rfl 64 _ hy3 (by kernel_rfl) rfl (by simp [Value.oneCell']) ?_ | refine wp_store_row 64 _ _ rfl (w.heap.size + 1 + 1) #[.int .i64 (IntKind.i64.wrap ((m : Int) - 1)), .int .u64 (IntKind.u64.wrap (IntKind.u64.wrap (2 * (i : Int)) + 1))] rfl rfl 64 _ z4 (by kernel_rfl) rfl (by simp [Value.oneCell']) ?_
     refine HKc.out _ _ ?_
     clear HKc Kc
     refine wpAny_ready (rs := [17]) (by kernel_rfl) (by simp) ?_
     refine AllReady.cons rfl (fun Kc hKc => ?_) AllReady.nil
     have HKc := Lib.hid hKc
     clear hKc
     go_simp
     refine HKc.out _ _ ?_
     clear HKc Kc
     refine wpAny_done (by kernel_rfl) ?_ _
     go_wp2_with fail
     refine bodyPost_ret (results_row2_tmp rfl _ _ (w.heap.size + 1) (w.heap.size + 1 + 1) 64 64 _ _ (0, 0) (0, 0) _ rfl rfl HY5.out HZ5.out Tryz.underlying64 rfl (by kernel_rfl) (by kernel_rfl)) rfl ?_
     exact ⟨by rw [HM1.out.1, HI2.out.1, HI2.out.2]; rfl, HB5.out⟩
    ·have HKc := Lib.hid hKc
     clear hKc
     first | refine wp_store_row 64 _ _ rfl (w.heap.size + 1) #[.int .i64 (IntKind.i64.wrap ((m : Int) - 1)), .int .u64 (IntKind.u64.wrap (2 * (i : Int)))] rfl rfl 64 _ hy3 (by kernel_rfl) rfl (by simp [Value.oneCell']) ?_ | refine wp_store_row 64 _ _ rfl (w.heap.size + 1 + 1) #[.int .i64 (IntKind.i64.wrap ((m : Int) - 1)), .int .u64 (IntKind.u64.wrap (IntKind.u64.wrap (2 * (i : Int)) + 1))] rfl rfl 64 _ z4 (by kernel_rfl) rfl (by simp [Value.oneCell']) ?_
     refine HKc.out _ _ ?_
     clear HKc Kc
     refine wpAny_ready (rs := [11]) (by kernel_rfl) (by simp) ?_
     refine AllReady.cons rfl (fun Kc hKc => ?_) AllReady.nil
     have HKc := Lib.hid hKc
     clear hKc
     go_simp
     refine HKc.out _ _ ?_
     clear HKc Kc
     refine wpAny_ready (rs := [12]) (by kernel_rfl) (by simp) ?_
     refine AllReady.cons rfl (fun Kc hKc => ?_) AllReady.nil
     have HKc := Lib.hid hKc
     clear hKc
     go_simp
     refine HKc.out _ _ ?_
     clear HKc Kc
     refine wpAny_ready (rs := [13]) (by kernel_rfl) (by simp) ?_
     refine AllReady.cons rfl (fun Kc hKc => ?_) AllReady.nil
     have HKc := Lib.hid hKc
     clear hKc
     go_simp
     refine HKc.out _ _ ?_
     clear HKc Kc
     refine wpAny_ready (rs := [14]) (by kernel_rfl) (by simp) ?_
     refine AllReady.cons rfl (fun Kc hKc => ?_) AllReady.nil
     have HKc := Lib.hid hKc
     clear hKc
     go_simp
     refine HKc.out _ _ ?_
     clear HKc Kc
     refine wpAny_ready (rs := [16]) (by kernel_rfl) (by simp) ?_
     refine AllReady.cons rfl (fun Kc hKc => ?_) AllReady.nil
     have HKc := Lib.hid hKc
     clear hKc
     first | refine wp_store_row 64 _ _ rfl (w.heap.size + 1) #[.int .i64 (IntKind.i64.wrap ((m : Int) - 1)), .int .u64 (IntKind.u64.wrap (2 * (i : Int)))] rfl rfl 64 _ hy3 (by kernel_rfl) rfl (by simp [Value.oneCell']) ?_ | refine wp_store_row 64 _ _ rfl (w.heap.size + 1 + 1) #[.int .i64 (IntKind.i64.wrap ((m : Int) - 1)), .int .u64 (IntKind.u64.wrap (IntKind.u64.wrap (2 * (i : Int)) + 1))] rfl rfl 64 _ z4 (by kernel_rfl) rfl (by simp [Value.oneCell']) ?_
     refine HKc.out _ _ ?_
     clear HKc Kc
     refine wpAny_ready (rs := [17]) (by kernel_rfl) (by simp) ?_
     refine AllReady.cons rfl (fun Kc hKc => ?_) AllReady.nil
     have HKc := Lib.hid hKc
     clear hKc
     go_simp
     refine HKc.out _ _ ?_
     clear HKc Kc
     refine wpAny_done (by kernel_rfl) ?_ _
     go_wp2_with fail
     refine bodyPost_ret (results_row2_tmp rfl _ _ (w.heap.size + 1) (w.heap.size + 1 + 1) 64 64 _ _ (0, 0) (0, 0) _ rfl rfl HY5.out HZ5.out Tryz.underlying64 rfl (by kernel_rfl) (by kernel_rfl)) rfl ?_
     exact ⟨by rw [HM1.out.1, HI2.out.1, HI2.out.2]; rfl, HB5.out⟩
   ·have HKc := Lib.hid hKc
    clear hKc
    go_simp
    refine HKc.out _ _ ?_
    clear HKc Kc
    refine tkA (i := 12) (v := ?_) rfl (by kernel_rfl) (fun _ _ _ h => h) (Or.inl ⟨by rfl, ?_⟩) ?_
    rotate_left
    ·intro w
     go_simp
     try with_reducible rfl
    simp only [Act.put, z1, z2, z3, z4, z5, z6]
    refine tkA (i := 13) (v := ?_) rfl (by kernel_rfl) (fun _ _ _ h => h) (Or.inl ⟨by rfl, ?_⟩) ?_
    rotate_left
    ·intro w
     go_simp
     try with_reducible rfl
    simp only [Act.put, z1, z2, z3, z4, z5, z6]
    refine wpAny_ready (rs := [8, 15]) (by kernel_rfl) (by simp) ?_
    refine AllReady.cons rfl (fun Kc hKc => ?_) (AllReady.cons rfl (fun Kc hKc => ?_) AllReady.nil)
    ·have HKc := Lib.hid hKc
     clear hKc
     go_simp
     refine HKc.out _ _ ?_
     clear HKc Kc
     refine tkA (i := 9) (v := ?_) rfl (by kernel_rfl) (fun _ _ _ h => h) (Or.inl ⟨by rfl, ?_⟩) ?_
     rotate_left
     ·intro w
      go_simp
      try with_reducible rfl
     simp only [Act.put, z1, z2, z3, z4, z5, z6]
     refine tkA (i := 14) (v := ?_) rfl (by kernel_rfl) (fun _ _ _ h => h) (Or.inl ⟨by rfl, ?_⟩) ?_
     rotate_left
     ·intro w
      go_simp
      try with_reducible rfl
     simp only [Act.put, z1, z2, z3, z4, z5, z6]
     refine wpAny_ready (rs := [15]) (by kernel_rfl) (by simp) ?_
     refine AllReady.cons rfl (fun Kc hKc => ?_) AllReady.nil
     have HKc := Lib.hid hKc
     clear hKc
     first | refine wp_store_row 64 _ _ rfl (w.heap.size + 1) #[.int .i64 (IntKind.i64.wrap ((m : Int) - 1)), .int .u64 (IntKind.u64.wrap (2 * (i : Int)))] rfl rfl 64 _ hy3 (by kernel_rfl) rfl (by simp [Value.oneCell']) ?_ | refine wp_store_row 64 _ _ rfl (w.heap.size + 1 + 1) #[.int .i64 (IntKind.i64.wrap ((m : Int) - 1)), .int .u64 (IntKind.u64.wrap (IntKind.u64.wrap (2 * (i : Int)) + 1))] rfl rfl 64 _ z4 (by kernel_rfl) rfl (by simp [Value.oneCell']) ?_
     refine HKc.out _ _ ?_
     clear HKc Kc
     refine wpAny_ready (rs := [16]) (by kernel_rfl) (by simp) ?_
     refine AllReady.cons rfl (fun Kc hKc => ?_) AllReady.nil
     have HKc := Lib.hid hKc
     clear hKc
     first | refine wp_store_row 64 _ _ rfl (w.heap.size + 1) #[.int .i64 (IntKind.i64.wrap ((m : Int) - 1)), .int .u64 (IntKind.u64.wrap (2 * (i : Int)))] rfl rfl 64 _ hy3 (by kernel_rfl) rfl (by simp [Value.oneCell']) ?_ | refine wp_store_row 64 _ _ rfl (w.heap.size + 1 + 1) #[.int .i64 (IntKind.i64.wrap ((m : Int) - 1)), .int .u64 (IntKind.u64.wrap (IntKind.u64.wrap (2 * (i : Int)) + 1))] rfl rfl 64 _ z4 (by kernel_rfl) rfl (by simp [Value.oneCell']) ?_
     refine HKc.out _ _ ?_
     clear HKc Kc
     refine wpAny_ready (rs := [17]) (by kernel_rfl) (by simp) ?_
     refine AllReady.cons rfl (fun Kc hKc => ?_) AllReady.nil
     have HKc := Lib.hid hKc
     clear hKc
     go_simp
     refine HKc.out _ _ ?_
     clear HKc Kc
     refine wpAny_done (by kernel_rfl) ?_ _
     go_wp2_with fail
     refine bodyPost_ret (results_row2_tmp rfl _ _ (w.heap.size + 1) (w.heap.size + 1 + 1) 64 64 _ _ (0, 0) (0, 0) _ rfl rfl HY5.out HZ5.out Tryz.underlying64 rfl (by kernel_rfl) (by kernel_rfl)) rfl ?_
     exact ⟨by rw [HM1.out.1, HI2.out.1, HI2.out.2]; rfl, HB5.out⟩
    ·have HKc := Lib.hid hKc
     clear hKc
     first | refine wp_store_row 64 _ _ rfl (w.heap.size + 1) #[.int .i64 (IntKind.i64.wrap ((m : Int) - 1)), .int .u64 (IntKind.u64.wrap (2 * (i : Int)))] rfl rfl 64 _ hy3 (by kernel_rfl) rfl (by simp [Value.oneCell']) ?_ | refine wp_store_row 64 _ _ rfl (w.heap.size + 1 + 1) #[.int .i64 (IntKind.i64.wrap ((m : Int) - 1)), .int .u64 (IntKind.u64.wrap (IntKind.u64.wrap (2 * (i : Int)) + 1))] rfl rfl 64 _ z4 (by kernel_rfl) rfl (by simp [Value.oneCell']) ?_
     refine HKc.out _ _ ?_
     clear HKc Kc
     refine wpAny_ready (rs := [8]) (by kernel_rfl) (by simp) ?_
     refine AllReady.cons rfl (fun Kc hKc => ?_) AllReady.nil
     have HKc := Lib.hid hKc
     clear hKc
     go_simp
     refine HKc.out _ _ ?_
     clear HKc Kc
     refine wpAny_ready (rs := [9]) (by kernel_rfl) (by simp) ?_
     refine AllReady.cons rfl (fun Kc hKc => ?_) AllReady.nil
     have HKc := Lib.hid hKc
     clear hKc
     go_simp
     refine HKc.out _ _ ?_
     clear HKc Kc
     refine wpAny_ready (rs := [14]) (by kernel_rfl) (by simp) ?_
     refine AllReady.cons rfl (fun Kc hKc => ?_) AllReady.nil
     have HKc := Lib.hid hKc
     clear hKc
     go_simp
     refine HKc.out _ _ ?_
     clear HKc Kc
     refine wpAny_ready (rs := [16]) (by kernel_rfl) (by simp) ?_
     refine AllReady.cons rfl (fun Kc hKc => ?_) AllReady.nil
     have HKc := Lib.hid hKc
     clear hKc
     first | refine wp_store_row 64 _ _ rfl (w.heap.size + 1) #[.int .i64 (IntKind.i64.wrap ((m : Int) - 1)), .int .u64 (IntKind.u64.wrap (2 * (i : Int)))] rfl rfl 64 _ hy3 (by kernel_rfl) rfl (by simp [Value.oneCell']) ?_ | refine wp_store_row 64 _ _ rfl (w.heap.size + 1 + 1) #[.int .i64 (IntKind.i64.wrap ((m : Int) - 1)), .int .u64 (IntKind.u64.wrap (IntKind.u64.wrap (2 * (i : Int)) + 1))] rfl rfl 64 _ z4 (by kernel_rfl) rfl (by simp [Value.oneCell']) ?_
     refine HKc.out _ _ ?_
     clear HKc Kc
     refine wpAny_ready (rs := [17]) (by kernel_rfl) (by simp) ?_
     refine AllReady.cons rfl (fun Kc hKc => ?_) AllReady.nil
     have HKc := Lib.hid hKc
     clear hKc
     go_simp
     refine HKc.out _ _ ?_
     clear HKc Kc
     refine wpAny_done (by kernel_rfl) ?_ _
     go_wp2_with fail
     refine bodyPost_ret (results_row2_tmp rfl _ _ (w.heap.size + 1) (w.heap.size + 1 + 1) 64 64 _ _ (0, 0) (0, 0) _ rfl rfl HY5.out HZ5.out Tryz.underlying64 rfl (by kernel_rfl) (by kernel_rfl)) rfl ?_
     exact ⟨by rw [HM1.out.1, HI2.out.1, HI2.out.2]; rfl, HB5.out⟩
   ·have HKc := Lib.hid hKc
    clear hKc
    first | refine wp_store_row 64 _ _ rfl (w.heap.size + 1) #[.int .i64 (IntKind.i64.wrap ((m : Int) - 1)), .int .u64 (IntKind.u64.wrap (2 * (i : Int)))] rfl rfl 64 _ hy3 (by kernel_rfl) rfl (by simp [Value.oneCell']) ?_ | refine wp_store_row 64 _ _ rfl (w.heap.size + 1 + 1) #[.int .i64 (IntKind.i64.wrap ((m : Int) - 1)), .int .u64 (IntKind.u64.wrap (IntKind.u64.wrap (2 * (i : Int)) + 1))] rfl rfl 64 _ z4 (by kernel_rfl) rfl (by simp [Value.oneCell']) ?_
    refine HKc.out _ _ ?_
    clear HKc Kc
    refine wpAny_ready (rs := [8, 11]) (by kernel_rfl) (by simp) ?_
    refine AllReady.cons rfl (fun Kc hKc => ?_) (AllReady.cons rfl (fun Kc hKc => ?_) AllReady.nil)
    ·have HKc := Lib.hid hKc
     clear hKc
     go_simp
     refine HKc.out _ _ ?_
     clear HKc Kc
     refine tkA (i := 9) (v := ?_) rfl (by kernel_rfl) (fun _ _ _ h => h) (Or.inl ⟨by rfl, ?_⟩) ?_
     rotate_left
     ·intro w
      go_simp
      try with_reducible rfl
     simp only [Act.put, z1, z2, z3, z4, z5, z6]
     refine wpAny_ready (rs := [11]) (by kernel_rfl) (by simp) ?_
     refine AllReady.cons rfl (fun Kc hKc => ?_) AllReady.nil
     have HKc := Lib.hid hKc
     clear hKc
     go_simp
     refine HKc.out _ _ ?_
     clear HKc Kc
     refine wpAny_ready (rs := [12]) (by kernel_rfl) (by simp) ?_
     refine AllReady.cons rfl (fun Kc hKc => ?_) AllReady.nil
     have HKc := Lib.hid hKc
     clear hKc
     go_simp
     refine HKc.out _ _ ?_
     clear HKc Kc
     refine wpAny_ready (rs := [13]) (by kernel_rfl) (by simp) ?_
     refine AllReady.cons rfl (fun Kc hKc => ?_) AllReady.nil
     have HKc := Lib.hid hKc
     clear hKc
     go_simp
     refine HKc.out _ _ ?_
     clear HKc Kc
     refine wpAny_ready (rs := [14]) (by kernel_rfl) (by simp) ?_
     refine AllReady.cons rfl (fun Kc hKc => ?_) AllReady.nil
     have HKc := Lib.hid hKc
     clear hKc
     go_simp
     refine HKc.out _ _ ?_
     clear HKc Kc
     refine wpAny_ready (rs := [16]) (by kernel_rfl) (by simp) ?_
     refine AllReady.cons rfl (fun Kc hKc => ?_) AllReady.nil
     have HKc := Lib.hid hKc
     clear hKc
     first | refine wp_store_row 64 _ _ rfl (w.heap.size + 1) #[.int .i64 (IntKind.i64.wrap ((m : Int) - 1)), .int .u64 (IntKind.u64.wrap (2 * (i : Int)))] rfl rfl 64 _ hy3 (by kernel_rfl) rfl (by simp [Value.oneCell']) ?_ | refine wp_store_row 64 _ _ rfl (w.heap.size + 1 + 1) #[.int .i64 (IntKind.i64.wrap ((m : Int) - 1)), .int .u64 (IntKind.u64.wrap (IntKind.u64.wrap (2 * (i : Int)) + 1))] rfl rfl 64 _ z4 (by kernel_rfl) rfl (by simp [Value.oneCell']) ?_
     refine HKc.out _ _ ?_
     clear HKc Kc
     refine wpAny_ready (rs := [17]) (by kernel_rfl) (by simp) ?_
     refine AllReady.cons rfl (fun Kc hKc => ?_) AllReady.nil
     have HKc := Lib.hid hKc
     clear hKc
     go_simp
     refine HKc.out _ _ ?_
     clear HKc Kc
     refine wpAny_done (by kernel_rfl) ?_ _
     go_wp2_with fail
     refine bodyPost_ret (results_row2_tmp rfl _ _ (w.heap.size + 1) (w.heap.size + 1 + 1) 64 64 _ _ (0, 0) (0, 0) _ rfl rfl HY5.out HZ5.out Tryz.underlying64 rfl (by kernel_rfl) (by kernel_rfl)) rfl ?_
     exact ⟨by rw [HM1.out.1, HI2.out.1, HI2.out.2]; rfl, HB5.out⟩
    ·have HKc := Lib.hid hKc
     clear hKc
     go_simp
     refine HKc.out _ _ ?_
     clear HKc Kc
     refine tkA (i := 12) (v := ?_) rfl (by kernel_rfl) (fun _ _ _ h => h) (Or.inl ⟨by rfl, ?_⟩) ?_
     rotate_left
     ·intro w
      go_simp
      try with_reducible rfl
     simp only [Act.put, z1, z2, z3, z4, z5, z6]
     refine tkA (i := 13) (v := ?_) rfl (by kernel_rfl) (fun _ _ _ h => h) (Or.inl ⟨by rfl, ?_⟩) ?_
     rotate_left
     ·intro w
      go_simp
      try with_reducible rfl
     simp only [Act.put, z1, z2, z3, z4, z5, z6]
     refine wpAny_ready (rs := [8]) (by kernel_rfl) (by simp) ?_
     refine AllReady.cons rfl (fun Kc hKc => ?_) AllReady.nil
     have HKc := Lib.hid hKc
     clear hKc
     go_simp
     refine HKc.out _ _ ?_
     clear HKc Kc
     refine wpAny_ready (rs := [9]) (by kernel_rfl) (by simp) ?_
     refine AllReady.cons rfl (fun Kc hKc => ?_) AllReady.nil
     have HKc := Lib.hid hKc
     clear hKc
     go_simp
     refine HKc.out _ _ ?_
     clear HKc Kc
     refine wpAny_ready (rs := [14]) (by kernel_rfl) (by simp) ?_
     refine AllReady.cons rfl (fun Kc hKc => ?_) AllReady.nil
     have HKc := Lib.hid hKc
     clear hKc
     go_simp
     refine HKc.out _ _ ?_
     clear HKc Kc
     refine wpAny_ready (rs := [16]) (by kernel_rfl) (by simp) ?_
     refine AllReady.cons rfl (fun Kc hKc => ?_) AllReady.nil
     have HKc := Lib.hid hKc
     clear hKc
     first | refine wp_store_row 64 _ _ rfl (w.heap.size + 1) #[.int .i64 (IntKind.i64.wrap ((m : Int) - 1)), .int .u64 (IntKind.u64.wrap (2 * (i : Int)))] rfl rfl 64 _ hy3 (by kernel_rfl) rfl (by simp [Value.oneCell']) ?_ | refine wp_store_row 64 _ _ rfl (w.heap.size + 1 + 1) #[.int .i64 (IntKind.i64.wrap ((m : Int) - 1)), .int .u64 (IntKind.u64.wrap (IntKind.u64.wrap (2 * (i : Int)) + 1))] rfl rfl 64 _ z4 (by kernel_rfl) rfl (by simp [Value.oneCell']) ?_
     refine HKc.out _ _ ?_
     clear HKc Kc
     refine wpAny_ready (rs := [17]) (by kernel_rfl) (by simp) ?_
     refine AllReady.cons rfl (fun Kc hKc => ?_) AllReady.nil
     have HKc := Lib.hid hKc
     clear hKc
     go_simp
     refine HKc.out _ _ ?_
     clear HKc Kc
     refine wpAny_done (by kernel_rfl) ?_ _
     go_wp2_with fail
     refine bodyPost_ret (results_row2_tmp rfl _ _ (w.heap.size + 1) (w.heap.size + 1 + 1) 64 64 _ _ (0, 0) (0, 0) _ rfl rfl HY5.out HZ5.out Tryz.underlying64 rfl (by kernel_rfl) (by kernel_rfl)) rfl ?_
     exact ⟨by rw [HM1.out.1, HI2.out.1, HI2.out.2]; rfl, HB5.out⟩
  ·have HKc := Lib.hid hKc
   clear hKc
   go_simp
   refine HKc.out _ _ ?_
   clear HKc Kc
   refine tkA (i := 9) (v := ?_) rfl (by kernel_rfl) (fun _ _ _ h => h) (Or.inl ⟨by rfl, ?_⟩) ?_
   rotate_left
   ·intro w
    go_simp
    try with_reducible rfl
   simp only [Act.put, z1, z2, z3, z4, z5, z6]
   refine wpAny_ready (rs := [4, 11]) (by kernel_rfl) (by simp) ?_
   refine AllReady.cons rfl (fun Kc hKc => ?_) (AllReady.cons rfl (fun Kc hKc => ?_) AllReady.nil)
   ·have HKc := Lib.hid hKc
    clear hKc
    go_simp
    refine HKc.out _ _ ?_
    clear HKc Kc
    refine tkA (i := 5) (v := ?_) rfl (by kernel_rfl) (fun _ _ _ h => h) (Or.inl ⟨by rfl, ?_⟩) ?_
    rotate_left
    ·intro w
     go_simp
     try with_reducible rfl
    simp only [Act.put, z1, z2, z3, z4, z5, z6]
    refine tkA (i := 6) (v := ?_) rfl (by kernel_rfl) (fun _ _ _ h => h) (Or.inl ⟨by rfl, ?_⟩) ?_
    rotate_left
    ·intro w
     go_simp
     try with_reducible rfl
    simp only [Act.put, z1, z2, z3, z4, z5, z6]
    refine wpAny_ready (rs := [11, 15]) (by kernel_rfl) (by simp) ?_
    refine AllReady.cons rfl (fun Kc hKc => ?_) (AllReady.cons rfl (fun Kc hKc => ?_) AllReady.nil)
    ·have HKc := Lib.hid hKc
     clear hKc
     go_simp
     refine HKc.out _ _ ?_
     clear HKc Kc
     refine tkA (i := 12) (v := ?_) rfl (by kernel_rfl) (fun _ _ _ h => h) (Or.inl ⟨by rfl, ?_⟩) ?_
     rotate_left
     ·intro w
      go_simp
      try with_reducible rfl
     simp only [Act.put, z1, z2, z3, z4, z5, z6]
     refine tkA (i := 13) (v := ?_) rfl (by kernel_rfl) (fun _ _ _ h => h) (Or.inl ⟨by rfl, ?_⟩) ?_
     rotate_left
     ·intro w
      go_simp
      try with_reducible rfl
     simp only [Act.put, z1, z2, z3, z4, z5, z6]
     refine tkA (i := 14) (v := ?_) rfl (by kernel_rfl) (fun _ _ _ h => h) (Or.inl ⟨by rfl, ?_⟩) ?_
     rotate_left
     ·intro w
      go_simp
      try with_reducible rfl
     simp only [Act.put, z1, z2, z3, z4, z5, z6]
     refine wpAny_ready (rs := [15]) (by kernel_rfl) (by simp) ?_
     refine AllReady.cons rfl (fun Kc hKc => ?_) AllReady.nil
     have HKc := Lib.hid hKc
     clear hKc
     first | refine wp_store_row 64 _ _ rfl (w.heap.size + 1) #[.int .i64 (IntKind.i64.wrap ((m : Int) - 1)), .int .u64 (IntKind.u64.wrap (2 * (i : Int)))] rfl rfl 64 _ hy3 (by kernel_rfl) rfl (by simp [Value.oneCell']) ?_ | refine wp_store_row 64 _ _ rfl (w.heap.size + 1 + 1) #[.int .i64 (IntKind.i64.wrap ((m : Int) - 1)), .int .u64 (IntKind.u64.wrap (IntKind.u64.wrap (2 * (i : Int)) + 1))] rfl rfl 64 _ z4 (by kernel_rfl) rfl (by simp [Value.oneCell']) ?_
     refine HKc.out _ _ ?_
     clear HKc Kc
     refine wpAny_ready (rs := [16]) (by kernel_rfl) (by simp) ?_
     refine AllReady.cons rfl (fun Kc hKc => ?_) AllReady.nil
     have HKc := Lib.hid hKc
     clear hKc
     first | refine wp_store_row 64 _ _ rfl (w.heap.size + 1) #[.int .i64 (IntKind.i64.wrap ((m : Int) - 1)), .int .u64 (IntKind.u64.wrap (2 * (i : Int)))] rfl rfl 64 _ hy3 (by kernel_rfl) rfl (by simp [Value.oneCell']) ?_ | refine wp_store_row 64 _ _ rfl (w.heap.size + 1 + 1) #[.int .i64 (IntKind.i64.wrap ((m : Int) - 1)), .int .u64 (IntKind.u64.wrap (IntKind.u64.wrap (2 * (i : Int)) + 1))] rfl rfl 64 _ z4 (by kernel_rfl) rfl (by simp [Value.oneCell']) ?_
     refine HKc.out _ _ ?_
     clear HKc Kc
     refine wpAny_ready (rs := [17]) (by kernel_rfl) (by simp) ?_
     refine AllReady.cons rfl (fun Kc hKc => ?_) AllReady.nil
     have HKc := Lib.hid hKc
     clear hKc
     go_simp
     refine HKc.out _ _ ?_
     clear HKc Kc
     refine wpAny_done (by kernel_rfl) ?_ _
     go_wp2_with fail
     refine bodyPost_ret (results_row2_tmp rfl _ _ (w.heap.size + 1) (w.heap.size + 1 + 1) 64 64 _ _ (0, 0) (0, 0) _ rfl rfl HY5.out HZ5.out Tryz.underlying64 rfl (by kernel_rfl) (by kernel_rfl)) rfl ?_
     exact ⟨by rw [HM1.out.1, HI2.out.1, HI2.out.2]; rfl, HB5.out⟩
    ·have HKc := Lib.hid hKc
     clear hKc
     first | refine wp_store_row 64 _ _ rfl (w.heap.size + 1) #[.int .i64 (IntKind.i64.wrap ((m : Int) - 1)), .int .u64 (IntKind.u64.wrap (2 * (i : Int)))] rfl rfl 64 _ hy3 (by kernel_rfl) rfl (by simp [Value.oneCell']) ?_ | refine wp_store_row 64 _ _ rfl (w.heap.size + 1 + 1) #[.int .i64 (IntKind.i64.wrap ((m : Int) - 1)), .int .u64 (IntKind.u64.wrap (IntKind.u64.wrap (2 * (i : Int)) + 1))] rfl rfl 64 _ z4 (by kernel_rfl) rfl (by simp [Value.oneCell']) ?_
     refine HKc.out _ _ ?_
     clear HKc Kc
     refine wpAny_ready (rs := [11]) (by kernel_rfl) (by simp) ?_
     refine AllReady.cons rfl (fun Kc hKc => ?_) AllReady.nil
     have HKc := Lib.hid hKc
     clear hKc
     go_simp
     refine HKc.out _ _ ?_
     clear HKc Kc
     refine wpAny_ready (rs := [12]) (by kernel_rfl) (by simp) ?_
     refine AllReady.cons rfl (fun Kc hKc => ?_) AllReady.nil
     have HKc := Lib.hid hKc
     clear hKc
     go_simp
     refine HKc.out _ _ ?_
     clear HKc Kc
     refine wpAny_ready (rs := [13]) (by kernel_rfl) (by simp) ?_
     refine AllReady.cons rfl (fun Kc hKc => ?_) AllReady.nil
     have HKc := Lib.hid hKc
     clear hKc
     go_simp
     refine HKc.out _ _ ?_
     clear HKc Kc
     refine wpAny_ready (rs := [14]) (by kernel_rfl) (by simp) ?_
     refine AllReady.cons rfl (fun Kc hKc => ?_) AllReady.nil
     have HKc := Lib.hid hKc
     clear hKc
     go_simp
     refine HKc.out _ _ ?_
     clear HKc Kc
     refine wpAny_ready (rs := [16]) (by kernel_rfl) (by simp) ?_
     refine AllReady.cons rfl (fun Kc hKc => ?_) AllReady.nil
     have HKc := Lib.hid hKc
     clear hKc
     first | refine wp_store_row 64 _ _ rfl (w.heap.size + 1) #[.int .i64 (IntKind.i64.wrap ((m : Int) - 1)), .int .u64 (IntKind.u64.wrap (2 * (i : Int)))] rfl rfl 64 _ hy3 (by kernel_rfl) rfl (by simp [Value.oneCell']) ?_ | refine wp_store_row 64 _ _ rfl (w.heap.size + 1 + 1) #[.int .i64 (IntKind.i64.wrap ((m : Int) - 1)), .int .u64 (IntKind.u64.wrap (IntKind.u64.wrap (2 * (i : Int)) + 1))] rfl rfl 64 _ z4 (by kernel_rfl) rfl (by simp [Value.oneCell']) ?_
     refine HKc.out _ _ ?_
     clear HKc Kc
     refine wpAny_ready (rs := [17]) (by kernel_rfl) (by simp) ?_
     refine AllReady.cons rfl (fun Kc hKc => ?_) AllReady.nil
     have HKc := Lib.hid hKc
     clear hKc
     go_simp
     refine HKc.out _ _ ?_
     clear HKc Kc
     refine wpAny_done (by kernel_rfl) ?_ _
     go_wp2_with fail
     refine bodyPost_ret (results_row2_tmp rfl _ _ (w.heap.size + 1) (w.heap.size + 1 + 1) 64 64 _ _ (0, 0) (0, 0) _ rfl rfl HY5.out HZ5.out Tryz.underlying64 rfl (by kernel_rfl) (by kernel_rfl)) rfl ?_
     exact ⟨by rw [HM1.out.1, HI2.out.1, HI2.out.2]; rfl, HB5.out⟩
   ·have HKc := Lib.hid hKc
    clear hKc
    go_simp
    refine HKc.out _ _ ?_
    clear HKc Kc
    refine tkA (i := 12) (v := ?_) rfl (by kernel_rfl) (fun _ _ _ h => h) (Or.inl ⟨by rfl, ?_⟩) ?_
    rotate_left
    ·intro w
     go_simp
     try with_reducible rfl
    simp only [Act.put, z1, z2, z3, z4, z5, z6]
    refine tkA (i := 13) (v := ?_) rfl (by kernel_rfl) (fun _ _ _ h => h) (Or.inl ⟨by rfl, ?_⟩) ?_
    rotate_left
    ·intro w
     go_simp
     try with_reducible rfl
    simp only [Act.put, z1, z2, z3, z4, z5, z6]
    refine tkA (i := 14) (v := ?_) rfl (by kernel_rfl) (fun _ _ _ h => h) (Or.inl ⟨by rfl, ?_⟩) ?_
    rotate_left
    ·intro w
     go_simp
     try with_reducible rfl
    simp only [Act.put, z1, z2, z3, z4, z5, z6]
    refine wpAny_ready (rs := [4]) (by kernel_rfl) (by simp) ?_
    refine AllReady.cons rfl (fun Kc hKc => ?_) AllReady.nil
    have HKc := Lib.hid hKc
    clear hKc
    go_simp
    refine HKc.out _ _ ?_
    clear HKc Kc
    refine wpAny_ready (rs := [5]) (by kernel_rfl) (by simp) ?_
    refine AllReady.cons rfl (fun Kc hKc => ?_) AllReady.nil
    have HKc := Lib.hid hKc
    clear hKc
    go_simp
    refine HKc.out _ _ ?_
    clear HKc Kc
    refine wpAny_ready (rs := [6]) (by kernel_rfl) (by simp) ?_
    refine AllReady.cons rfl (fun Kc hKc => ?_) AllReady.nil
    have HKc := Lib.hid hKc
    clear hKc
    go_simp
    refine HKc.out _ _ ?_
    clear HKc Kc
    refine wpAny_ready (rs := [15]) (by kernel_rfl) (by simp) ?_
    refine AllReady.cons rfl (fun Kc hKc => ?_) AllReady.nil
    have HKc := Lib.hid hKc
    clear hKc
    first | refine wp_store_row 64 _ _ rfl (w.heap.size + 1) #[.int .i64 (IntKind.i64.wrap ((m : Int) - 1)), .int .u64 (IntKind.u64.wrap (2 * (i : Int)))] rfl rfl 64 _ hy3 (by kernel_rfl) rfl (by simp [Value.oneCell']) ?_ | refine wp_store_row 64 _ _ rfl (w.heap.size + 1 + 1) #[.int .i64 (IntKind.i64.wrap ((m : Int) - 1)), .int .u64 (IntKind.u64.wrap (IntKind.u64.wrap (2 * (i : Int)) + 1))] rfl rfl 64 _ z4 (by kernel_rfl) rfl (by simp [Value.oneCell']) ?_
    refine HKc.out _ _ ?_
    clear HKc Kc
    refine wpAny_ready (rs := [16]) (by kernel_rfl) (by simp) ?_
    refine AllReady.cons rfl (fun Kc hKc => ?_) AllReady.nil
    have HKc := Lib.hid hKc
    clear hKc
    first | refine wp_store_row 64 _ _ rfl (w.heap.size + 1) #[.int .i64 (IntKind.i64.wrap ((m : Int) - 1)), .int .u64 (IntKind.u64.wrap (2 * (i : Int)))] rfl rfl 64 _ hy3 (by kernel_rfl) rfl (by simp [Value.oneCell']) ?_ | refine wp_store_row 64 _ _ rfl (w.heap.size + 1 + 1) #[.int .i64 (IntKind.i64.wrap ((m : Int) - 1)), .int .u64 (IntKind.u64.wrap (IntKind.u64.wrap (2 * (i : Int)) + 1))] rfl rfl 64 _ z4 (by kernel_rfl) rfl (by simp [Value.oneCell']) ?_
    refine HKc.out _ _ ?_
    clear HKc Kc
    refine wpAny_ready (rs := [17]) (by kernel_rfl) (by simp) ?_
    refine AllReady.cons rfl (fun Kc hKc => ?_) AllReady.nil
    have HKc := Lib.hid hKc
    clear hKc
    go_simp
    refine HKc.out _ _ ?_
    clear HKc Kc
    refine wpAny_done (by kernel_rfl) ?_ _
    go_wp2_with fail
    refine bodyPost_ret (results_row2_tmp rfl _ _ (w.heap.size + 1) (w.heap.size + 1 + 1) 64 64 _ _ (0, 0) (0, 0) _ rfl rfl HY5.out HZ5.out Tryz.underlying64 rfl (by kernel_rfl) (by kernel_rfl)) rfl ?_
    exact ⟨by rw [HM1.out.1, HI2.out.1, HI2.out.2]; rfl, HB5.out⟩
  ·have HKc := Lib.hid hKc
   clear hKc
   go_simp
   refine HKc.out _ _ ?_
   clear HKc Kc
   refine tkA (i := 12) (v := ?_) rfl (by kernel_rfl) (fun _ _ _ h => h) (Or.inl ⟨by rfl, ?_⟩) ?_
   rotate_left
   ·intro w
    go_simp
    try with_reducible rfl
   simp only [Act.put, z1, z2, z3, z4, z5, z6]
   refine tkA (i := 13) (v := ?_) rfl (by kernel_rfl) (fun _ _ _ h => h) (Or.inl ⟨by rfl, ?_⟩) ?_
   rotate_left
   ·intro w
    go_simp
    try with_reducible rfl
   simp only [Act.put, z1, z2, z3, z4, z5, z6]
   refine wpAny_ready (rs := [4, 8]) (by kernel_rfl) (by simp) ?_
   refine AllReady.cons rfl (fun Kc hKc => ?_) (AllReady.cons rfl (fun Kc hKc => ?_) AllReady.nil)
   ·have HKc := Lib.hid hKc
    clear hKc
    go_simp
    refine HKc.out _ _ ?_
    clear HKc Kc
    refine tkA (i := 5) (v := ?_) rfl (by kernel_rfl) (fun _ _ _ h => h) (Or.inl ⟨by rfl, ?_⟩) ?_
    rotate_left
    ·intro w
     go_simp
     try with_reducible rfl
    simp only [Act.put, z1, z2, z3, z4, z5, z6]
    refine tkA (i := 6) (v := ?_) rfl (by kernel_rfl) (fun _ _ _ h => h) (Or.inl ⟨by rfl, ?_⟩) ?_
    rotate_left
    ·intro w
     go_simp
     try with_reducible rfl
    simp only [Act.put, z1, z2, z3, z4, z5, z6]
    refine wpAny_ready (rs := [8, 15]) (by kernel_rfl) (by simp) ?_
    refine AllReady.cons rfl (fun Kc hKc => ?_) (AllReady.cons rfl (fun Kc hKc => ?_) AllReady.nil)
    ·have HKc := Lib.hid hKc
     clear hKc
     go_simp
     refine HKc.out _ _ ?_
     clear HKc Kc
     refine tkA (i := 9) (v := ?_) rfl (by kernel_rfl) (fun _ _ _ h => h) (Or.inl ⟨by rfl, ?_⟩) ?_
     rotate_left
     ·intro w
      go_simp
      try with_reducible rfl
     simp only [Act.put, z1, z2, z3, z4, z5, z6]
     refine tkA (i := 14) (v := ?_) rfl (by kernel_rfl) (fun _ _ _ h => h) (Or.inl ⟨by rfl, ?_⟩) ?_
     rotate_left
     ·intro w
      go_simp
      try with_reducible rfl
     simp only [Act.put, z1, z2, z3, z4, z5, z6]
     refine wpAny_ready (rs := [15]) (by kernel_rfl) (by simp) ?_
     refine AllReady.cons rfl (fun Kc hKc => ?_) AllReady.nil
     have HKc := Lib.hid hKc
     clear hKc
     first | refine wp_store_row 64 _ _ rfl (w.heap.size + 1) #[.int .i64 (IntKind.i64.wrap ((m : Int) - 1)), .int .u64 (IntKind.u64.wrap (2 * (i : Int)))] rfl rfl 64 _ hy3 (by kernel_rfl) rfl (by simp [Value.oneCell']) ?_ | refine wp_store_row 64 _ _ rfl (w.heap.size + 1 + 1) #[.int .i64 (IntKind.i64.wrap ((m : Int) - 1)), .int .u64 (IntKind.u64.wrap (IntKind.u64.wrap (2 * (i : Int)) + 1))] rfl rfl 64 _ z4 (by kernel_rfl) rfl (by simp [Value.oneCell']) ?_
     refine HKc.out _ _ ?_
     clear HKc Kc
     refine wpAny_ready (rs := [16]) (by kernel_rfl) (by simp) ?_
     refine AllReady.cons rfl (fun Kc hKc => ?_) AllReady.nil
     have HKc := Lib.hid hKc
     clear hKc
     first | refine wp_store_row 64 _ _ rfl (w.heap.size + 1) #[.int .i64 (IntKind.i64.wrap ((m : Int) - 1)), .int .u64 (IntKind.u64.wrap (2 * (i : Int)))] rfl rfl 64 _ hy3 (by kernel_rfl) rfl (by simp [Value.oneCell']) ?_ | refine wp_store_row 64 _ _ rfl (w.heap.size + 1 + 1) #[.int .i64 (IntKind.i64.wrap ((m : Int) - 1)), .int .u64 (IntKind.u64.wrap (IntKind.u64.wrap (2 * (i : Int)) + 1))] rfl rfl 64 _ z4 (by kernel_rfl) rfl (by simp [Value.oneCell']) ?_
     refine HKc.out _ _ ?_
     clear HKc Kc
     refine wpAny_ready (rs := [17]) (by kernel_rfl) (by simp) ?_
     refine AllReady.cons rfl (fun Kc hKc => ?_) AllReady.nil
     have HKc := Lib.hid hKc
     clear hKc
     go_simp
     refine HKc.out _ _ ?_
     clear HKc Kc
     refine wpAny_done (by kernel_rfl) ?_ _
     go_wp2_with fail
     refine bodyPost_ret (results_row2_tmp rfl _ _ (w.heap.size + 1) (w.heap.size + 1 + 1) 64 64 _ _ (0, 0) (0, 0) _ rfl rfl HY5.out HZ5.out Tryz.underlying64 rfl (by kernel_rfl) (by kernel_rfl)) rfl ?_
     exact ⟨by rw [HM1.out.1, HI2.out.1, HI2.out.2]; rfl, HB5.out⟩
    ·have HKc := Lib.hid hKc
     clear hKc
     first | refine wp_store_row 64 _ _ rfl (w.heap.size + 1) #[.int .i64 (IntKind.i64.wrap ((m : Int) - 1)), .int .u64 (IntKind.u64.wrap (2 * (i : Int)))] rfl rfl 64 _ hy3 (by kernel_rfl) rfl (by simp [Value.oneCell']) ?_ | refine wp_store_row 64 _ _ rfl (w.heap.size + 1 + 1) #[.int .i64 (IntKind.i64.wrap ((m : Int) - 1)), .int .u64 (IntKind.u64.wrap (IntKind.u64.wrap (2 * (i : Int)) + 1))] rfl rfl 64 _ z4 (by kernel_rfl) rfl (by simp [Value.oneCell']) ?_
     refine HKc.out _ _ ?_
     clear HKc Kc
     refine wpAny_ready (rs := [8]) (by kernel_rfl) (by simp) ?_
     refine AllReady.cons rfl (fun Kc hKc => ?_) AllReady.nil
     have HKc := Lib.hid hKc
     clear hKc
     go_simp
     refine HKc.out _ _ ?_
     clear HKc Kc
     refine wpAny_ready (rs := [9]) (by kernel_rfl) (by simp) ?_
     refine AllReady.cons rfl (fun Kc hKc => ?_) AllReady.nil
     have HKc := Lib.hid hKc
     clear hKc
     go_simp
     refine HKc.out _ _ ?_
     clear HKc Kc
     refine wpAny_ready (rs := [14]) (by kernel_rfl) (by simp) ?_
     refine AllReady.cons rfl (fun Kc hKc => ?_) AllReady.nil
     have HKc := Lib.hid hKc
     clear hKc
     go_simp
     refine HKc.out _ _ ?_
     clear HKc Kc
     refine wpAny_ready (rs := [16]) (by kernel_rfl) (by simp) ?_
     refine AllReady.cons rfl (fun Kc hKc => ?_) AllReady.nil
     have HKc := Lib.hid hKc
     clear hKc
     first | refine wp_store_row 64 _ _ rfl (w.heap.size + 1) #[.int .i64 (IntKind.i64.wrap ((m : Int) - 1)), .int .u64 (IntKind.u64.wrap (2 * (i : Int)))] rfl rfl 64 _ hy3 (by kernel_rfl) rfl (by simp [Value.oneCell']) ?_ | refine wp_store_row 64 _ _ rfl (w.heap.size + 1 + 1) #[.int .i64 (IntKind.i64.wrap ((m : Int) - 1)), .int .u64 (IntKind.u64.wrap (IntKind.u64.wrap (2 * (i : Int)) + 1))] rfl rfl 64 _ z4 (by kernel_rfl) rfl (by simp [Value.oneCell']) ?_
     refine HKc.out _ _ ?_
     clear HKc Kc
     refine wpAny_ready (rs := [17]) (by kernel_rfl) (by simp) ?_
     refine AllReady.cons rfl (fun Kc hKc => ?_) AllReady.nil
     have HKc := Lib.hid hKc
     clear hKc
     go_simp
     refine HKc.out _ _ ?_
     clear HKc Kc
     refine wpAny_done (by kernel_rfl) ?_ _
     go_wp2_with fail
     refine bodyPost_ret (results_row2_tmp rfl _ _ (w.heap.size + 1) (w.heap.size + 1 + 1) 64 64 _ _ (0, 0) (0, 0) _ rfl rfl HY5.out HZ5.out Tryz.underlying64 rfl (by kernel_rfl) (by kernel_rfl)) rfl ?_
     exact ⟨by rw [HM1.out.1, HI2.out.1, HI2.out.2]; rfl, HB5.out⟩
   ·have HKc := Lib.hid hKc
    clear hKc
    go_simp
    refine HKc.out _ _ ?_
    clear HKc Kc
    refine tkA (i := 9) (v := ?_) rfl (by kernel_rfl) (fun _ _ _ h => h) (Or.inl ⟨by rfl, ?_⟩) ?_
    rotate_left
    ·intro w
     go_simp
     try with_reducible rfl
    simp only [Act.put, z1, z2, z3, z4, z5, z6]
    refine tkA (i := 14) (v := ?_) rfl (by kernel_rfl) (fun _ _ _ h => h) (Or.inl ⟨by rfl, ?_⟩) ?_
    rotate_left
    ·intro w
     go_simp
     try with_reducible rfl
    simp only [Act.put, z1, z2, z3, z4, z5, z6]
    refine wpAny_ready (rs := [4]) (by kernel_rfl) (by simp) ?_
    refine AllReady.cons rfl (fun Kc hKc => ?_) AllReady.nil
    have HKc := Lib.hid hKc
    clear hKc
    go_simp
    refine HKc.out _ _ ?_
    clear HKc Kc
    refine wpAny_ready (rs := [5]) (by kernel_rfl) (by simp) ?_
    refine AllReady.cons rfl (fun Kc hKc => ?_) AllReady.nil
    have HKc := Lib.hid hKc
    clear hKc
    go_simp
    refine HKc.out _ _ ?_
    clear HKc Kc
    refine wpAny_ready (rs := [6]) (by kernel_rfl) (by simp) ?_
    refine AllReady.cons rfl (fun Kc hKc => ?_) AllReady.nil
    have HKc := Lib.hid hKc
    clear hKc
    go_simp
    refine HKc.out _ _ ?_
    clear HKc Kc
    refine wpAny_ready (rs := [15]) (by kernel_rfl) (by simp) ?_
    refine AllReady.cons rfl (fun Kc hKc => ?_) AllReady.nil
    have HKc := Lib.hid hKc
    clear hKc
    first | refine wp_store_row 64 _ _ rfl (w.heap.size + 1) #[.int .i64 (IntKind.i64.wrap ((m : Int) - 1)), .int .u64 (IntKind.u64.wrap (2 * (i : Int)))] rfl rfl 64 _ hy3 (by kernel_rfl) rfl (by simp [Value.oneCell']) ?_ | refine wp_store_row 64 _ _ rfl (w.heap.size + 1 + 1) #[.int .i64 (IntKind.i64.wrap ((m : Int) - 1)), .int .u64 (IntKind.u64.wrap (IntKind.u64.wrap (2 * (i : Int)) + 1))] rfl rfl 64 _ z4 (by kernel_rfl) rfl (by simp [Value.oneCell']) ?_
    refine HKc.out _ _ ?_
    clear HKc Kc
    refine wpAny_ready (rs := [16]) (by kernel_rfl) (by simp) ?_
    refine AllReady.cons rfl (fun Kc hKc => ?_) AllReady.nil
    have HKc := Lib.hid hKc
    clear hKc
    first | refine wp_store_row 64 _ _ rfl (w.heap.size + 1) #[.int .i64 (IntKind.i64.wrap ((m : Int) - 1)), .int .u64 (IntKind.u64.wrap (2 * (i : Int)))] rfl rfl 64 _ hy3 (by kernel_rfl) rfl (by simp [Value.oneCell']) ?_ | refine wp_store_row 64 _ _ rfl (w.heap.size + 1 + 1) #[.int .i64 (IntKind.i64.wrap ((m : Int) - 1)), .int .u64 (IntKind.u64.wrap (IntKind.u64.wrap (2 * (i : Int)) + 1))] rfl rfl 64 _ z4 (by kernel_rfl) rfl (by simp [Value.oneCell']) ?_
    refine HKc.out _ _ ?_
    clear HKc Kc
    refine wpAny_ready (rs := [17]) (by kernel_rfl) (by simp) ?_
    refine AllReady.cons rfl (fun Kc hKc => ?_) AllReady.nil
    have HKc := Lib.hid hKc
    clear hKc
    go_simp
    refine HKc.out _ _ ?_
    clear HKc Kc
    refine wpAny_done (by kernel_rfl) ?_ _
    go_wp2_with fail
    refine bodyPost_ret (results_row2_tmp rfl _ _ (w.heap.size + 1) (w.heap.size + 1 + 1) 64 64 _ _ (0, 0) (0, 0) _ rfl rfl HY5.out HZ5.out Tryz.underlying64 rfl (by kernel_rfl) (by kernel_rfl)) rfl ?_
    exact ⟨by rw [HM1.out.1, HI2.out.1, HI2.out.2]; rfl, HB5.out⟩
 ·have HKc := Lib.hid hKc
  clear hKc
  go_simp
  refine HKc.out _ _ ?_
  clear HKc Kc
  refine tkA (i := 5) (v := ?_) rfl (by kernel_rfl) (fun _ _ _ h => h) (Or.inl ⟨by rfl, ?_⟩) ?_
  rotate_left
  ·intro w
   go_simp
   try with_reducible rfl
  simp only [Act.put, z1, z2, z3, z4, z5, z6]
  refine wpAny_ready (rs := [1, 8, 11]) (by kernel_rfl) (by simp) ?_
  refine AllReady.cons rfl (fun Kc hKc => ?_) (AllReady.cons rfl (fun Kc hKc => ?_) (AllReady.cons rfl (fun Kc hKc => ?_) AllReady.nil))
  ·have HKc := Lib.hid hKc
   clear hKc
   go_simp
   refine HKc.out _ _ ?_
   clear HKc Kc
   refine tkA (i := 2) (v := ?_) rfl (by kernel_rfl) (fun _ _ _ h => h) (Or.inl ⟨by rfl, ?_⟩) ?_
   rotate_left
   ·intro w
    go_simp
    try with_reducible rfl
   simp only [Act.put, z1, z2, z3, z4, z5, z6]
   refine tkA (i := 6) (v := ?_) rfl (by kernel_rfl) (fun _ _ _ h => h) (Or.inl ⟨by rfl, ?_⟩) ?_
   rotate_left
   ·intro w
    go_simp
    try with_reducible rfl
   simp only [Act.put, z1, z2, z3, z4, z5, z6]
   refine wpAny_ready (rs := [8, 11, 15]) (by kernel_rfl) (by simp) ?_
   refine AllReady.cons rfl (fun Kc hKc => ?_) (AllReady.cons rfl (fun Kc hKc => ?_) (AllReady.cons rfl (fun Kc hKc => ?_) AllReady.nil))
   ·have HKc := Lib.hid hKc
    clear hKc
    go_simp
    refine HKc.out _ _ ?_
    clear HKc Kc
    refine tkA (i := 9) (v := ?_) rfl (by kernel_rfl) (fun _ _ _ h => h) (Or.inl ⟨by rfl, ?_⟩) ?_
    rotate_left
    ·intro w
     go_simp
     try with_reducible rfl
    simp only [Act.put, z1, z2, z3, z4, z5, z6]
    refine wpAny_ready (rs := [11, 15]) (by kernel_rfl) (by simp) ?_
    refine AllReady.cons rfl (fun Kc hKc => ?_) (AllReady.cons rfl (fun Kc hKc => ?_) AllReady.nil)
    ·have HKc := Lib.hid hKc
     clear hKc
     go_simp
     refine HKc.out _ _ ?_
     clear HKc Kc
     refine tkA (i := 12) (v := ?_) rfl (by kernel_rfl) (fun _ _ _ h => h) (Or.inl ⟨by rfl, ?_⟩) ?_
     rotate_left
     ·intro w
      go_simp
      try with_reducible rfl
     simp only [Act.put, z1, z2, z3, z4, z5, z6]
     refine tkA (i := 13) (v := ?_) rfl (by kernel_rfl) (fun _ _ _ h => h) (Or.inl ⟨by rfl, ?_⟩) ?_
     rotate_left
     ·intro w
      go_simp
      try with_reducible rfl
     simp only [Act.put, z1, z2, z3, z4, z5, z6]
     refine tkA (i := 14) (v := ?_) rfl (by kernel_rfl) (fun _ _ _ h => h) (Or.inl ⟨by rfl, ?_⟩) ?_
     rotate_left
     ·intro w
      go_simp
      try with_reducible rfl
     simp only [Act.put, z1, z2, z3, z4, z5, z6]
     refine wpAny_ready (rs := [15]) (by kernel_rfl) (by simp) ?_
     refine AllReady.cons rfl (fun Kc hKc => ?_) AllReady.nil
     have HKc := Lib.hid hKc
     clear hKc
     first | refine wp_store_row 64 _ _ rfl (w.heap.size + 1) #[.int .i64 (IntKind.i64.wrap ((m : Int) - 1)), .int .u64 (IntKind.u64.wrap (2 * (i : Int)))] rfl rfl 64 _ hy3 (by kernel_rfl) rfl (by simp [Value.oneCell']) ?_ | refine wp_store_row 64 _ _ rfl (w.heap.size + 1 + 1) #[.int .i64 (IntKind.i64.wrap ((m : Int) - 1)), .int .u64 (IntKind.u64.wrap (IntKind.u64.wrap (2 * (i : Int)) + 1))] rfl rfl 64 _ z4 (by kernel_rfl) rfl (by simp [Value.oneCell']) ?_
     refine HKc.out _ _ ?_
     clear HKc Kc
     refine wpAny_ready (rs := [16]) (by kernel_rfl) (by simp) ?_
     refine AllReady.cons rfl (fun Kc hKc => ?_) AllReady.nil
     have HKc := Lib.hid hKc
     clear hKc
     first | refine wp_store_row 64 _ _ rfl (w.heap.size + 1) #[.int .i64 (IntKind.i64.wrap ((m : Int) - 1)), .int .u64 (IntKind.u64.wrap (2 * (i : Int)))] rfl rfl 64 _ hy3 (by kernel_rfl) rfl (by simp [Value.oneCell']) ?_ | refine wp_store_row 64 _ _ rfl (w.heap.size + 1 + 1) #[.int .i64 (IntKind.i64.wrap ((m : Int) - 1)), .int .u64 (IntKind.u64.wrap (IntKind.u64.wrap (2 * (i : Int)) + 1))] rfl rfl 64 _ z4 (by kernel_rfl) rfl (by simp [Value.oneCell']) ?_
     refine HKc.out _ _ ?_
     clear HKc Kc
     refine wpAny_ready (rs := [17]) (by kernel_rfl) (by simp) ?_
     refine AllReady.cons rfl (fun Kc hKc => ?_) AllReady.nil
     have HKc := Lib.hid hKc
     clear hKc
     go_simp
     refine HKc.out _ _ ?_
     clear HKc Kc
     refine wpAny_done (by kernel_rfl) ?_ _
     go_wp2_with fail
     refine bodyPost_ret (results_row2_tmp rfl _ _ (w.heap.size + 1) (w.heap.size + 1 + 1) 64 64 _ _ (0, 0) (0, 0) _ rfl rfl HY5.out HZ5.out Tryz.underlying64 rfl (by kernel_rfl) (by kernel_rfl)) rfl ?_
     exact ⟨by rw [HM1.out.1, HI2.out.1, HI2.out.2]; rfl, HB5.out⟩
    ·have HKc := Lib.hid hKc
     clear hKc
     first | refine wp_store_row 64 _ _ rfl (w.heap.size + 1) #[.int .i64 (IntKind.i64.wrap ((m : Int) - 1)), .int .u64 (IntKind.u64.wrap (2 * (i : Int)))] rfl rfl 64 _ hy3 (by kernel_rfl) rfl (by simp [Value.oneCell']) ?_ | refine wp_store_row 64 _ _ rfl (w.heap.size + 1 + 1) #[.int .i64 (IntKind.i64.wrap ((m : Int) - 1)), .int .u64 (IntKind.u64.wrap (IntKind.u64.wrap (2 * (i : Int)) + 1))] rfl rfl 64 _ z4 (by kernel_rfl) rfl (by simp [Value.oneCell']) ?_
     refine HKc.out _ _ ?_
     clear HKc Kc
     refine wpAny_ready (rs := [11]) (by kernel_rfl) (by simp) ?_
     refine AllReady.cons rfl (fun Kc hKc => ?_) AllReady.nil
     have HKc := Lib.hid hKc
     clear hKc
     go_simp
     refine HKc.out _ _ ?_
     clear HKc Kc
     refine wpAny_ready (rs := [12]) (by kernel_rfl) (by simp) ?_
     refine AllReady.cons rfl (fun Kc hKc => ?_) AllReady.nil
     have HKc := Lib.hid hKc
     clear hKc
     go_simp
     refine HKc.out _ _ ?_
     clear HKc Kc
     refine wpAny_ready (rs := [13]) (by kernel_rfl) (by simp) ?_
     refine AllReady.cons rfl (fun Kc hKc => ?_) AllReady.nil
     have HKc := Lib.hid hKc
     clear hKc
     go_simp
     refine HKc.out _ _ ?_
     clear HKc Kc
     refine wpAny_ready (rs := [14]) (by kernel_rfl) (by simp) ?_
     refine AllReady.cons rfl (fun Kc hKc => ?_) AllReady.nil
     have HKc := Lib.hid hKc
     clear hKc
     go_simp
     refine HKc.out _ _ ?_
     clear HKc Kc
     refine wpAny_ready (rs := [16]) (by kernel_rfl) (by simp) ?_
     refine AllReady.cons rfl (fun Kc hKc => ?_) AllReady.nil
     have HKc := Lib.hid hKc
     clear hKc
     first | refine wp_store_row 64 _ _ rfl (w.heap.size + 1) #[.int .i64 (IntKind.i64.wrap ((m : Int) - 1)), .int .u64 (IntKind.u64.wrap (2 * (i : Int)))] rfl rfl 64 _ hy3 (by kernel_rfl) rfl (by simp [Value.oneCell']) ?_ | refine wp_store_row 64 _ _ rfl (w.heap.size + 1 + 1) #[.int .i64 (IntKind.i64.wrap ((m : Int) - 1)), .int .u64 (IntKind.u64.wrap (IntKind.u64.wrap (2 * (i : Int)) + 1))] rfl rfl 64 _ z4 (by kernel_rfl) rfl (by simp [Value.oneCell']) ?_
     refine HKc.out _ _ ?_
     clear HKc Kc
     refine wpAny_ready (rs := [17]) (by kernel_rfl) (by simp) ?_
     refine AllReady.cons rfl (fun Kc hKc => ?_) AllReady.nil
     have HKc := Lib.hid hKc
     clear hKc
     go_simp
     refine HKc.out _ _ ?_
     clear HKc Kc
     refine wpAny_done (by kernel_rfl) ?_ _
     go_wp2_with fail
     refine bodyPost_ret (results_row2_tmp rfl _ _ (w.heap.size + 1) (w.heap.size + 1 + 1) 64 64 _ _ (0, 0) (0, 0) _ rfl rfl HY5.out HZ5.out Tryz.underlying64 rfl (by kernel_rfl) (by kernel_rfl)) rfl ?_
     exact ⟨by rw [HM1.out.1, HI2.out.1, HI2.out.2]; rfl, HB5.out⟩
   ·have HKc := Lib.hid hKc
    clear hKc
    go_simp
    refine HKc.out _ _ ?_
    clear HKc Kc
    refine tkA (i := 12) (v := ?_) rfl (by kernel_rfl) (fun _ _ _ h => h) (Or.inl ⟨by rfl, ?_⟩) ?_
    rotate_left
    ·intro w
     go_simp
     try with_reducible rfl
    simp only [Act.put, z1, z2, z3, z4, z5, z6]
    refine tkA (i := 13) (v := ?_) rfl (by kernel_rfl) (fun _ _ _ h => h) (Or.inl ⟨by rfl, ?_⟩) ?_
    rotate_left
    ·intro w
     go_simp
     try with_reducible rfl
    simp only [Act.put, z1, z2, z3, z4, z5, z6]
    refine wpAny_ready (rs := [8, 15]) (by kernel_rfl) (by simp) ?_
    refine AllReady.cons rfl (fun Kc hKc => ?_) (AllReady.cons rfl (fun Kc hKc => ?_) AllReady.nil)
    ·have HKc := Lib.hid hKc
     clear hKc
     go_simp
     refine HKc.out _ _ ?_
     clear HKc Kc
     refine tkA (i := 9) (v := ?_) rfl (by kernel_rfl) (fun _ _ _ h => h) (Or.inl ⟨by rfl, ?_⟩) ?_
     rotate_left
     ·intro w
      go_simp
      try with_reducible rfl
     simp only [Act.put, z1, z2, z3, z4, z5, z6]
     refine tkA (i := 14) (v := ?_) rfl (by kernel_rfl) (fun _ _ _ h => h) (Or.inl ⟨by rfl, ?_⟩) ?_
     rotate_left
     ·intro w
      go_simp
      try with_reducible rfl
     simp only [Act.put, z1, z2, z3, z4, z5, z6]
     refine wpAny_ready (rs := [15]) (by kernel_rfl) (by simp) ?_
     refine AllReady.cons rfl (fun Kc hKc => ?_) AllReady.nil
     have HKc := Lib.hid hKc
     clear hKc
     first | refine wp_store_row 64 _ _ rfl (w.heap.size + 1) #[.int .i64 (IntKind.i64.wrap ((m : Int) - 1)), .int .u64 (IntKind.u64.wrap (2 * (i : Int)))] rfl rfl 64 _ hy3 (by kernel_rfl) rfl (by simp [Value.oneCell']) ?_ | refine wp_store_row 64 _ _ rfl (w.heap.size + 1 + 1) #[.int .i64 (IntKind.i64.wrap ((m : Int) - 1)), .int .u64 (IntKind.u64.wrap (IntKind.u64.wrap (2 * (i : Int)) + 1))] rfl rfl 64 _ z4 (by kernel_rfl) rfl (by simp [Value.oneCell']) ?_
     refine HKc.out _ _ ?_
     clear HKc Kc
     refine wpAny_ready (rs := [16]) (by kernel_rfl) (by simp) ?_
     refine AllReady.cons rfl (fun Kc hKc => ?_) AllReady.nil
     have HKc := Lib.hid hKc
     clear hKc
     first | refine wp_store_row 64 _ _ rfl (w.heap.size + 1) #[.int .i64 (IntKind.i64.wrap ((m : Int) - 1)), .int .u64 (IntKind.u64.wrap (2 * (i : Int)))] rfl rfl 64 _ hy3 (by kernel_rfl) rfl (by simp [Value.oneCell']) ?_ | refine wp_store_row 64 _ _ rfl (w.heap.size + 1 + 1) #[.int .i64 (IntKind.i64.wrap ((m : Int) - 1)), .int .u64 (IntKind.u64.wrap (IntKind.u64.wrap (2 * (i : Int)) + 1))] rfl rfl 64 _ z4 (by kernel_rfl) rfl (by simp [Value.oneCell']) ?_
     refine HKc.out _ _ ?_
     clear HKc Kc
     refine wpAny_ready (rs := [17]) (by kernel_rfl) (by simp) ?_
     refine AllReady.cons rfl (fun Kc hKc => ?_) AllReady.nil
     have HKc := Lib.hid hKc
     clear hKc
     go_simp
     refine HKc.out _ _ ?_
     clear HKc Kc
     refine wpAny_done (by kernel_rfl) ?_ _
     go_wp2_with fail
     refine bodyPost_ret (results_row2_tmp rfl _ _ (w.heap.size + 1) (w.heap.size + 1 + 1) 64 64 _ _ (0, 0) (0, 0) _ rfl rfl HY5.out HZ5.out Tryz.underlying64 rfl (by kernel_rfl) (by kernel_rfl)) rfl ?_
     exact ⟨by rw [HM1.out.1, HI2.out.1, HI2.out.2]; rfl, HB5.out⟩
    ·have HKc := Lib.hid hKc
     clear hKc
     first | refine wp_store_row 64 _ _ rfl (w.heap.size + 1) #[.int .i64 (IntKind.i64.wrap ((m : Int) - 1)), .int .u64 (IntKind.u64.wrap (2 * (i : Int)))] rfl rfl 64 _ hy3 (by kernel_rfl) rfl (by simp [Value.oneCell']) ?_ | refine wp_store_row 64 _ _ rfl (w.heap.size + 1 + 1) #[.int .i64 (IntKind.i64.wrap ((m : Int) - 1)), .int .u64 (IntKind.u64.wrap (IntKind.u64.wrap (2 * (i : Int)) + 1))] rfl rfl 64 _ z4 (by kernel_rfl) rfl (by simp [Value.oneCell']) ?_
     refine HKc.out _ _ ?_
     clear HKc Kc
     refine wpAny_ready (rs := [8]) (by kernel_rfl) (by simp) ?_
     refine AllReady.cons rfl (fun Kc hKc => ?_) AllReady.nil
     have HKc := Lib.hid hKc
     clear hKc
     go_simp
     refine HKc.out _ _ ?_
     clear HKc Kc
     refine wpAny_ready (rs := [9]) (by kernel_rfl) (by simp) ?_
     refine AllReady.cons rfl (fun Kc hKc => ?_) AllReady.nil
     have HKc := Lib.hid hKc
     clear hKc
     go_simp
     refine HKc.out _ _ ?_
     clear HKc Kc
     refine wpAny_ready (rs := [14]) (by kernel_rfl) (by simp) ?_
     refine AllReady.cons rfl (fun Kc hKc => ?_) AllReady.nil
     have HKc := Lib.hid hKc
     clear hKc
     go_simp
     refine HKc.out _ _ ?_
     clear HKc Kc
     refine wpAny_ready (rs := [16]) (by kernel_rfl) (by simp) ?_
     refine AllReady.cons rfl (fun Kc hKc => ?_) AllReady.nil
     have HKc := Lib.hid hKc
     clear hKc
     first | refine wp_store_row 64 _ _ rfl (w.heap.size + 1) #[.int .i64 (IntKind.i64.wrap ((m : Int) - 1)), .int .u64 (IntKind.u64.wrap (2 * (i : Int)))] rfl rfl 64 _ hy3 (by kernel_rfl) rfl (by simp [Value.oneCell']) ?_ | refine wp_store_row 64 _ _ rfl (w.heap.size + 1 + 1) #[.int .i64 (IntKind.i64.wrap ((m : Int) - 1)), .int .u64 (IntKind.u64.wrap (IntKind.u64.wrap (2 * (i : Int)) + 1))] rfl rfl 64 _ z4 (by kernel_rfl) rfl (by simp [Value.oneCell']) ?_
     refine HKc.out _ _ ?_
     clear HKc Kc
     refine wpAny_ready (rs := [17]) (by kernel_rfl) (by simp) ?_
     refine AllReady.cons rfl (fun Kc hKc => ?_) AllReady.nil
     have HKc := Lib.hid hKc
     clear hKc
     go_simp
     refine HKc.out _ _ ?_
     clear HKc Kc
     refine wpAny_done (by kernel_rfl) ?_ _
     go_wp2_with fail
     refine bodyPost_ret (results_row2_tmp rfl _ _ (w.heap.size + 1) (w.heap.size + 1 + 1) 64 64 _ _ (0, 0) (0, 0) _ rfl rfl HY5.out HZ5.out Tryz.underlying64 rfl (by kernel_rfl) (by kernel_rfl)) rfl ?_
     exact ⟨by rw [HM1.out.1, HI2.out.1, HI2.out.2]; rfl, HB5.out⟩
   ·have HKc := Lib.hid hKc
    clear hKc
    first | refine wp_store_row 64 _ _ rfl (w.heap.size + 1) #[.int .i64 (IntKind.i64.wrap ((m : Int) - 1)), .int .u64 (IntKind.u64.wrap (2 * (i : Int)))] rfl rfl 64 _ hy3 (by kernel_rfl) rfl (by simp [Value.oneCell']) ?_ | refine wp_store_row 64 _ _ rfl (w.heap.size + 1 + 1) #[.int .i64 (IntKind.i64.wrap ((m : Int) - 1)), .int .u64 (IntKind.u64.wrap (IntKind.u64.wrap (2 * (i : Int)) + 1))] rfl rfl 64 _ z4 (by kernel_rfl) rfl (by simp [Value.oneCell']) ?_
    refine HKc.out _ _ ?_
    clear HKc Kc
    refine wpAny_ready (rs := [8, 11]) (by kernel_rfl) (by simp) ?_
    refine AllReady.cons rfl (fun Kc hKc => ?_) (AllReady.cons rfl (fun Kc hKc => ?_) AllReady.nil)
    ·have HKc := Lib.hid hKc
     clear hKc
     go_simp
     refine HKc.out _ _ ?_
     clear HKc Kc
     refine tkA (i := 9) (v := ?_) rfl (by kernel_rfl) (fun _ _ _ h => h) (Or.inl ⟨by rfl, ?_⟩) ?_
     rotate_left
     ·intro w
      go_simp
      try with_reducible rfl
     simp only [Act.put, z1, z2, z3, z4, z5, z6]
     refine wpAny_ready (rs := [11]) (by kernel_rfl) (by simp) ?_
     refine AllReady.cons rfl (fun Kc hKc => ?_) AllReady.nil
     have HKc := Lib.hid hKc
     clear hKc
     go_simp
     refine HKc.out _ _ ?_
     clear HKc Kc
     refine wpAny_ready (rs := [12]) (by kernel_rfl) (by simp) ?_
     refine AllReady.cons rfl (fun Kc hKc => ?_) AllReady.nil
     have HKc := Lib.hid hKc
     clear hKc
     go_simp
     refine HKc.out _ _ ?_
     clear HKc Kc
     refine wpAny_ready (rs := [13]) (by kernel_rfl) (by simp) ?_
     refine AllReady.cons rfl (fun Kc hKc => ?_) AllReady.nil
     have HKc := Lib.hid hKc
     clear hKc
     go_simp
     refine HKc.out _ _ ?_
     clear HKc Kc
     refine wpAny_ready (rs := [14]) (by kernel_rfl) (by simp) ?_
     refine AllReady.cons rfl (fun Kc hKc => ?_) AllReady.nil
     have HKc := Lib.hid hKc
     clear hKc
     go_simp
     refine HKc.out _ _ ?_
     clear HKc Kc
     refine wpAny_ready (rs := [16]) (by kernel_rfl) (by simp) ?_
     refine AllReady.cons rfl (fun Kc hKc => ?_) AllReady.nil
     have HKc := Lib.hid hKc
     clear hKc
     first | refine wp_store_row 64 _ _ rfl (w.heap.size + 1) #[.int .i64 (IntKind.i64.wrap ((m : Int) - 1)), .int .u64 (IntKind.u64.wrap (2 * (i : Int)))] rfl rfl 64 _ hy3 (by kernel_rfl) rfl (by simp [Value.oneCell']) ?_ | refine wp_store_row 64 _ _ rfl (w.heap.size + 1 + 1) #[.int .i64 (IntKind.i64.wrap ((m : Int) - 1)), .int .u64 (IntKind.u64.wrap (IntKind.u64.wrap (2 * (i : Int)) + 1))] rfl rfl 64 _ z4 (by kernel_rfl) rfl (by simp [Value.oneCell']) ?_
     refine HKc.out _ _ ?_
     clear HKc Kc
     refine wpAny_ready (rs := [17]) (by kernel_rfl) (by simp) ?_
     refine AllReady.cons rfl (fun Kc hKc => ?_) AllReady.nil
     have HKc := Lib.hid hKc
     clear hKc
     go_simp
     refine HKc.out _ _ ?_
     clear HKc Kc
     refine wpAny_done (by kernel_rfl) ?_ _
     go_wp2_with fail
     refine bodyPost_ret (results_row2_tmp rfl _ _ (w.heap.size + 1) (w.heap.size + 1 + 1) 64 64 _ _ (0, 0) (0, 0) _ rfl rfl HY5.out HZ5.out Tryz.underlying64 rfl (by kernel_rfl) (by kernel_rfl)) rfl ?_
     exact ⟨by rw [HM1.out.1, HI2.out.1, HI2.out.2]; rfl, HB5.out⟩
    ·have HKc := Lib.hid hKc
     clear hKc
     go_simp
     refine HKc.out _ _ ?_
     clear HKc Kc
     refine tkA (i := 12) (v := ?_) rfl (by kernel_rfl) (fun _ _ _ h => h) (Or.inl ⟨by rfl, ?_⟩) ?_
     rotate_left
     ·intro w
      go_simp
      try with_reducible rfl
     simp only [Act.put, z1, z2, z3, z4, z5, z6]
     refine tkA (i := 13) (v := ?_) rfl (by kernel_rfl) (fun _ _ _ h => h) (Or.inl ⟨by rfl, ?_⟩) ?_
     rotate_left
     ·intro w
      go_simp
      try with_reducible rfl
     simp only [Act.put, z1, z2, z3, z4, z5, z6]
     refine wpAny_ready (rs := [8]) (by kernel_rfl) (by simp) ?_
     refine AllReady.cons rfl (fun Kc hKc => ?_) AllReady.nil
     have HKc := Lib.hid hKc
     clear hKc
     go_simp
     refine HKc.out _ _ ?_
     clear HKc Kc
     refine wpAny_ready (rs := [9]) (by kernel_rfl) (by simp) ?_
     refine AllReady.cons rfl (fun Kc hKc => ?_) AllReady.nil
     have HKc := Lib.hid hKc
     clear hKc
     go_simp
     refine HKc.out _ _ ?_
     clear HKc Kc
     refine wpAny_ready (rs := [14]) (by kernel_rfl) (by simp) ?_
     refine AllReady.cons rfl (fun Kc hKc => ?_) AllReady.nil
     have HKc := Lib.hid hKc
     clear hKc
     go_simp
     refine HKc.out _ _ ?_
     clear HKc Kc
     refine wpAny_ready (rs := [16]) (by kernel_rfl) (by simp) ?_
     refine AllReady.cons rfl (fun Kc hKc => ?_) AllReady.nil
     have HKc := Lib.hid hKc
     clear hKc
     first | refine wp_store_row 64 _ _ rfl (w.heap.size + 1) #[.int .i64 (IntKind.i64.wrap ((m : Int) - 1)), .int .u64 (IntKind.u64.wrap (2 * (i : Int)))] rfl rfl 64 _ hy3 (by kernel_rfl) rfl (by simp [Value.oneCell']) ?_ | refine wp_store_row 64 _ _ rfl (w.heap.size + 1 + 1) #[.int .i64 (IntKind.i64.wrap ((m : Int) - 1)), .int .u64 (IntKind.u64.wrap (IntKind.u64.wrap (2 * (i : Int)) + 1))] rfl rfl 64 _ z4 (by kernel_rfl) rfl (by simp [Value.oneCell']) ?_
     refine HKc.out _ _ ?_
     clear HKc Kc
     refine wpAny_ready (rs := [17]) (by kernel_rfl) (by simp) ?_
     refine AllReady.cons rfl (fun Kc hKc => ?_) AllReady.nil
     have HKc := Lib.hid hKc
     clear hKc
     go_simp
     refine HKc.out _ _ ?_
     clear HKc Kc
     refine wpAny_done (by kernel_rfl) ?_ _
     go_wp2_with fail
     refine bodyPost_ret (results_row2_tmp rfl _ _ (w.heap.size + 1) (w.heap.size + 1 + 1) 64 64 _ _ (0, 0) (0, 0) _ rfl rfl HY5.out HZ5.out Tryz.underlying64 rfl (by kernel_rfl) (by kernel_rfl)) rfl ?_
     exact ⟨by rw [HM1.out.1, HI2.out.1, HI2.out.2]; rfl, HB5.out⟩
  ·have HKc := Lib.hid hKc
   clear hKc
   go_simp
   refine HKc.out _ _ ?_
   clear HKc Kc
   refine tkA (i := 9) (v := ?_) rfl (by kernel_rfl) (fun _ _ _ h => h) (Or.inl ⟨by rfl, ?_⟩) ?_
   rotate_left
   ·intro w
    go_simp
    try with_reducible rfl
   simp only [Act.put, z1, z2, z3, z4, z5, z6]
   refine wpAny_ready (rs := [1, 11]) (by kernel_rfl) (by simp) ?_
   refine AllReady.cons rfl (fun Kc hKc => ?_) (AllReady.cons rfl (fun Kc hKc => ?_) AllReady.nil)
   ·have HKc := Lib.hid hKc
    clear hKc
    go_simp
    refine HKc.out _ _ ?_
    clear HKc Kc
    refine tkA (i := 2) (v := ?_) rfl (by kernel_rfl) (fun _ _ _ h => h) (Or.inl ⟨by rfl, ?_⟩) ?_
    rotate_left
    ·intro w
     go_simp
     try with_reducible rfl
    simp only [Act.put, z1, z2, z3, z4, z5, z6]
    refine tkA (i := 6) (v := ?_) rfl (by kernel_rfl) (fun _ _ _ h => h) (Or.inl ⟨by rfl, ?_⟩) ?_
    rotate_left
    ·intro w
     go_simp
     try with_reducible rfl
    simp only [Act.put, z1, z2, z3, z4, z5, z6]
    refine wpAny_ready (rs := [11, 15]) (by kernel_rfl) (by simp) ?_
    refine AllReady.cons rfl (fun Kc hKc => ?_) (AllReady.cons rfl (fun Kc hKc => ?_) AllReady.nil)
    ·have HKc := Lib.hid hKc
     clear hKc
     go_simp
     refine HKc.out _ _ ?_
     clear HKc Kc
     refine tkA (i := 12) (v := ?_) rfl (by kernel_rfl) (fun _ _ _ h => h) (Or.inl ⟨by rfl, ?_⟩) ?_
     rotate_left
     ·intro w
      go_simp
      try with_reducible rfl
     simp only [Act.put, z1, z2, z3, z4, z5, z6]
     refine tkA (i := 13) (v := ?_) rfl (by kernel_rfl) (fun _ _ _ h => h) (Or.inl ⟨by rfl, ?_⟩) ?_
     rotate_left
     ·intro w
      go_simp
      try with_reducible rfl
     simp only [Act.put, z1, z2, z3, z4, z5, z6]
     refine tkA (i := 14) (v := ?_) rfl (by kernel_rfl) (fun _ _ _ h => h) (Or.inl ⟨by rfl, ?_⟩) ?_
     rotate_left
     ·intro w
      go_simp
      try with_reducible rfl
     simp only [Act.put, z1, z2, z3, z4, z5, z6]
     refine wpAny_ready (rs := [15]) (by kernel_rfl) (by simp) ?_
     refine AllReady.cons rfl (fun Kc hKc => ?_) AllReady.nil
     have HKc := Lib.hid hKc
     clear hKc
     first | refine wp_store_row 64 _ _ rfl (w.heap.size + 1) #[.int .i64 (IntKind.i64.wrap ((m : Int) - 1)), .int .u64 (IntKind.u64.wrap (2 * (i : Int)))] rfl rfl 64 _ hy3 (by kernel_rfl) rfl (by simp [Value.oneCell']) ?_ | refine wp_store_row 64 _ _ rfl (w.heap.size + 1 + 1) #[.int .i64 (IntKind.i64.wrap ((m : Int) - 1)), .int .u64 (IntKind.u64.wrap (IntKind.u64.wrap (2 * (i : Int)) + 1))] rfl rfl 64 _ z4 (by kernel_rfl) rfl (by simp [Value.oneCell']) ?_
     refine HKc.out _ _ ?_
     clear HKc Kc
     refine wpAny_ready (rs := [16]) (by kernel_rfl) (by simp) ?_
     refine AllReady.cons rfl (fun Kc hKc => ?_) AllReady.nil
     have HKc := Lib.hid hKc
     clear hKc
     first | refine wp_store_row 64 _ _ rfl (w.heap.size + 1) #[.int .i64 (IntKind.i64.wrap ((m : Int) - 1)), .int .u64 (IntKind.u64.wrap (2 * (i : Int)))] rfl rfl 64 _ hy3 (by kernel_rfl) rfl (by simp [Value.oneCell']) ?_ | refine wp_store_row 64 _ _ rfl (w.heap.size + 1 + 1) #[.int .i64 (IntKind.i64.wrap ((m : Int) - 1)), .int .u64 (IntKind.u64.wrap (IntKind.u64.wrap (2 * (i : Int)) + 1))] rfl rfl 64 _ z4 (by kernel_rfl) rfl (by simp [Value.oneCell']) ?_
     refine HKc.out _ _ ?_
     clear HKc Kc
     refine wpAny_ready (rs := [17]) (by kernel_rfl) (by simp) ?_
     refine AllReady.cons rfl (fun Kc hKc => ?_) AllReady.nil
     have HKc := Lib.hid hKc
     clear hKc
     go_simp
     refine HKc.out _ _ ?_
     clear HKc Kc
     refine wpAny_done (by kernel_rfl) ?_ _
     go_wp2_with fail
     refine bodyPost_ret (results_row2_tmp rfl _ _ (w.heap.size + 1) (w.heap.size + 1 + 1) 64 64 _ _ (0, 0) (0, 0) _ rfl rfl HY5.out HZ5.out Tryz.underlying64 rfl (by kernel_rfl) (by kernel_rfl)) rfl ?_
     exact ⟨by rw [HM1.out.1, HI2.out.1, HI2.out.2]; rfl, HB5.out⟩
    ·have HKc := Lib.hid hKc
     clear hKc
     first | refine wp_store_row 64 _ _ rfl (w.heap.size + 1) #[.int .i64 (IntKind.i64.wrap ((m : Int) - 1)), .int .u64 (IntKind.u64.wrap (2 * (i : Int)))] rfl rfl 64 _ hy3 (by kernel_rfl) rfl (by simp [Value.oneCell']) ?_ | refine wp_store_row 64 _ _ rfl (w.heap.size + 1 + 1) #[.int .i64 (IntKind.i64.wrap ((m : Int) - 1)), .int .u64 (IntKind.u64.wrap (IntKind.u64.wrap (2 * (i : Int)) + 1))] rfl rfl 64 _ z4 (by kernel_rfl) rfl (by simp [Value.oneCell']) ?_
     refine HKc.out _ _ ?_
     clear HKc Kc
     refine wpAny_ready (rs := [11]) (by kernel_rfl) (by simp) ?_
     refine AllReady.cons rfl (fun Kc hKc => ?_) AllReady.nil
     have HKc := Lib.hid hKc
     clear hKc
     go_simp
     refine HKc.out _ _ ?_
     clear HKc Kc
     refine wpAny_ready (rs := [12]) (by kernel_rfl) (by simp) ?_
     refine AllReady.cons rfl (fun Kc hKc => ?_) AllReady.nil
     have HKc := Lib.hid hKc
     clear hKc
     go_simp
     refine HKc.out _ _ ?_
     clear HKc Kc
     refine wpAny_ready (rs := [13]) (by kernel_rfl) (by simp) ?_
     refine AllReady.cons rfl (fun Kc hKc => ?_) AllReady.nil
     have HKc := Lib.hid hKc
     clear hKc
     go_simp
     refine HKc.out _ _ ?_
     clear HKc Kc
     refine wpAny_ready (rs := [14]) (by kernel_rfl) (by simp) ?_
     refine AllReady.cons rfl (fun Kc hKc => ?_) AllReady.nil
     have HKc := Lib.hid hKc
     clear hKc
     go_simp
     refine HKc.out _ _ ?_
     clear HKc Kc
     refine wpAny_ready (rs := [16]) (by kernel_rfl) (by simp) ?_
     refine AllReady.cons rfl (fun Kc hKc => ?_) AllReady.nil
     have HKc := Lib.hid hKc
     clear hKc
     first | refine wp_store_row 64 _ _ rfl (w.heap.size + 1) #[.int .i64 (IntKind.i64.wrap ((m : Int) - 1)), .int .u64 (IntKind.u64.wrap (2 * (i : Int)))] rfl rfl 64 _ hy3 (by kernel_rfl) rfl (by simp [Value.oneCell']) ?_ | refine wp_store_row 64 _ _ rfl (w.heap.size + 1 + 1) #[.int .i64 (IntKind.i64.wrap ((m : Int) - 1)), .int .u64 (IntKind.u64.wrap (IntKind.u64.wrap (2 * (i : Int)) + 1))] rfl rfl 64 _ z4 (by kernel_rfl) rfl (by simp [Value.oneCell']) ?_
     refine HKc.out _ _ ?_
     clear HKc Kc
     refine wpAny_ready (rs := [17]) (by kernel_rfl) (by simp) ?_
     refine AllReady.cons rfl (fun Kc hKc => ?_) AllReady.nil
     have HKc := Lib.hid hKc
     clear hKc
     go_simp
     refine HKc.out _ _ ?_
     clear HKc Kc
     refine wpAny_done (by kernel_rfl) ?_ _
     go_wp2_with fail
     refine bodyPost_ret (results_row2_tmp rfl _ _ (w.heap.size + 1) (w.heap.size + 1 + 1) 64 64 _ _ (0, 0) (0, 0) _ rfl rfl HY5.out HZ5.out Tryz.underlying64 rfl (by kernel_rfl) (by kernel_rfl)) rfl ?_
     exact ⟨by rw [HM1.out.1, HI2.out.1, HI2.out.2]; rfl, HB5.out⟩
   ·have HKc := Lib.hid hKc
    clear hKc
    go_simp
    refine HKc.out _ _ ?_
    clear HKc Kc
    refine tkA (i := 12) (v := ?_) rfl (by kernel_rfl) (fun _ _ _ h => h) (Or.inl ⟨by rfl, ?_⟩) ?_
    rotate_left
    ·intro w
     go_simp
     try with_reducible rfl
    simp only [Act.put, z1, z2, z3, z4, z5, z6]
    refine tkA (i := 13) (v := ?_) rfl (by kernel_rfl) (fun _ _ _ h => h) (Or.inl ⟨by rfl, ?_⟩) ?_
    rotate_left
    ·intro w
     go_simp
     try with_reducible rfl
    simp only [Act.put, z1, z2, z3, z4, z5, z6]
    refine tkA (i := 14) (v := ?_) rfl (by kernel_rfl) (fun _ _ _ h => h) (Or.inl ⟨by rfl, ?_⟩) ?_
    rotate_left
    ·intro w
     go_simp
     try with_reducible rfl
    simp only [Act.put, z1, z2, z3, z4, z5, z6]
    refine wpAny_ready (rs := [1]) (by kernel_rfl) (by simp) ?_
    refine AllReady.cons rfl (fun Kc hKc => ?_) AllReady.nil
    have HKc := Lib.hid hKc
    clear hKc
    go_simp
    refine HKc.out _ _ ?_
    clear HKc Kc
    refine wpAny_ready (rs := [2]) (by kernel_rfl) (by simp) ?_
    refine AllReady.cons rfl (fun Kc hKc => ?_) AllReady.nil
    have HKc := Lib.hid hKc
    clear hKc
    go_simp
    refine HKc.out _ _ ?_
    clear HKc Kc
    refine wpAny_ready (rs := [6]) (by kernel_rfl) (by simp) ?_
    refine AllReady.cons rfl (fun Kc hKc => ?_) AllReady.nil
    have HKc := Lib.hid hKc
    clear hKc
    go_simp
    refine HKc.out _ _ ?_
    clear HKc Kc
    refine wpAny_ready (rs := [15]) (by kernel_rfl) (by simp) ?_
    refine AllReady.cons rfl (fun Kc hKc => ?_) AllReady.nil
    have HKc := Lib.hid hKc
    clear hKc
    first | refine wp_store_row 64 _ _ rfl (w.heap.size + 1) #[.int .i64 (IntKind.i64.wrap ((m : Int) - 1)), .int .u64 (IntKind.u64.wrap (2 * (i : Int)))] rfl rfl 64 _ hy3 (by kernel_rfl) rfl (by simp [Value.oneCell']) ?_ | refine wp_store_row 64 _ _ rfl (w.heap.size + 1 + 1) #[.int .i64 (IntKind.i64.wrap ((m : Int) - 1)), .int .u64 (IntKind.u64.wrap (IntKind.u64.wrap (2 * (i : Int)) + 1))] rfl rfl 64 _ z4 (by kernel_rfl) rfl (by simp [Value.oneCell']) ?_
    refine HKc.out _ _ ?_
    clear HKc Kc
    refine wpAny_ready (rs := [16]) (by kernel_rfl) (by simp) ?_
    refine AllReady.cons rfl (fun Kc hKc => ?_) AllReady.nil
    have HKc := Lib.hid hKc
    clear hKc
    first | refine wp_store_row 64 _ _ rfl (w.heap.size + 1) #[.int .i64 (IntKind.i64.wrap ((m : Int) - 1)), .int .u64 (IntKind.u64.wrap (2 * (i : Int)))] rfl rfl 64 _ hy3 (by kernel_rfl) rfl (by simp [Value.oneCell']) ?_ | refine wp_store_row 64 _ _ rfl (w.heap.size + 1 + 1) #[.int .i64 (IntKind.i64.wrap ((m : Int) - 1)), .int .u64 (IntKind.u64.wrap (IntKind.u64.wrap (2 * (i : Int)) + 1))] rfl rfl 64 _ z4 (by kernel_rfl) rfl (by simp [Value.oneCell']) ?_
    refine HKc.out _ _ ?_
    clear HKc Kc
    refine wpAny_ready (rs := [17]) (by kernel_rfl) (by simp) ?_
    refine AllReady.cons rfl (fun Kc hKc => ?_) AllReady.nil
    have HKc := Lib.hid hKc
    clear hKc
    go_simp
    refine HKc.out _ _ ?_
    clear HKc Kc
    refine wpAny_done (by kernel_rfl) ?_ _
    go_wp2_with fail
    refine bodyPost_ret (results_row2_tmp rfl _ _ (w.heap.size + 1) (w.heap.size + 1 + 1) 64 64 _ _ (0, 0) (0, 0) _ rfl rfl HY5.out HZ5.out Tryz.underlying64 rfl (by kernel_rfl) (by kernel_rfl)) rfl ?_
    exact ⟨by rw [HM1.out.1, HI2.out.1, HI2.out.2]; rfl, HB5.out⟩
  ·have HKc := Lib.hid hKc
   clear hKc
   go_simp
   refine HKc.out _ _ ?_
   clear HKc Kc
   refine tkA (i := 12) (v := ?_) rfl (by kernel_rfl) (fun _ _ _ h => h) (Or.inl ⟨by rfl, ?_⟩) ?_
   rotate_left
   ·intro w
    go_simp
    try with_reducible rfl
   simp only [Act.put, z1, z2, z3, z4, z5, z6]
   refine tkA (i := 13) (v := ?_) rfl (by kernel_rfl) (fun _ _ _ h => h) (Or.inl ⟨by rfl, ?_⟩) ?_
   rotate_left
   ·intro w
    go_simp
    try with_reducible rfl
   simp only [Act.put, z1, z2, z3, z4, z5, z6]
   refine wpAny_ready (rs := [1, 8]) (by kernel_rfl) (by simp) ?_
   refine AllReady.cons rfl (fun Kc hKc => ?_) (AllReady.cons rfl (fun Kc hKc => ?_) AllReady.nil)
   ·have HKc := Lib.hid hKc
    clear hKc
    go_simp
    refine HKc.out _ _ ?_
    clear HKc Kc
    refine tkA (i := 2) (v := ?_) rfl (by kernel_rfl) (fun _ _ _ h => h) (Or.inl ⟨by rfl, ?_⟩) ?_
    rotate_left
    ·intro w
     go_simp
     try with_reducible rfl
    simp only [Act.put, z1, z2, z3, z4, z5, z6]
    refine tkA (i := 6) (v := ?_) rfl (by kernel_rfl) (fun _ _ _ h => h) (Or.inl ⟨by rfl, ?_⟩) ?_
    rotate_left
    ·intro w
     go_simp
     try with_reducible rfl
    simp only [Act.put, z1, z2, z3, z4, z5, z6]
    refine wpAny_ready (rs := [8, 15]) (by kernel_rfl) (by simp) ?_
    refine AllReady.cons rfl (fun Kc hKc => ?_) (AllReady.cons rfl (fun Kc hKc => ?_) AllReady.nil)
    ·have HKc := Lib.hid hKc
     clear hKc
     go_simp
     refine HKc.out _ _ ?_
     clear HKc Kc
     refine tkA (i := 9) (v := ?_) rfl (by kernel_rfl) (fun _ _ _ h => h) (Or.inl ⟨by rfl, ?_⟩) ?_
     rotate_left
     ·intro w
      go_simp
      try with_reducible rfl
     simp only [Act.put, z1, z2, z3, z4, z5, z6]
     refine tkA (i := 14) (v := ?_) rfl (by kernel_rfl) (fun _ _ _ h => h) (Or.inl ⟨by rfl, ?_⟩) ?_
     rotate_left
     ·intro w
      go_simp
      try with_reducible rfl
     simp only [Act.put, z1, z2, z3, z4, z5, z6]
     refine wpAny_ready (rs := [15]) (by kernel_rfl) (by simp) ?_
     refine AllReady.cons rfl (fun Kc hKc => ?_) AllReady.nil
     have HKc := Lib.hid hKc
     clear hKc
     first | refine wp_store_row 64 _ _ rfl (w.heap.size + 1) #[.int .i64 (IntKind.i64.wrap ((m : Int) - 1)), .int .u64 (IntKind.u64.wrap (2 * (i : Int)))] rfl rfl 64 _ hy3 (by kernel_rfl) rfl (by simp [Value.oneCell']) ?_ | refine wp_store_row 64 _ _ rfl (w.heap.size + 1 + 1) #[.int .i64 (IntKind.i64.wrap ((m : Int) - 1)), .int .u64 (IntKind.u64.wrap (IntKind.u64.wrap (2 * (i : Int)) + 1))] rfl rfl 64 _ z4 (by kernel_rfl) rfl (by simp [Value.oneCell']) ?_
     refine HKc.out _ _ ?_
     clear HKc Kc
     refine wpAny_ready (rs := [16]) (by kernel_rfl) (by simp) ?_
     refine AllReady.cons rfl (fun Kc hKc => ?_) AllReady.nil
     have HKc := Lib.hid hKc
     clear hKc
     first | refine wp_store_row 64 _ _ rfl (w.heap.size + 1) #[.int .i64 (IntKind.i64.wrap ((m : Int) - 1)), .int .u64 (IntKind.u64.wrap (2 * (i : Int)))] rfl rfl 64 _ hy3 (by kernel_rfl) rfl (by simp [Value.oneCell']) ?_ | refine wp_store_row 64 _ _ rfl (w.heap.size + 1 + 1) #[.int .i64 (IntKind.i64.wrap ((m : Int) - 1)), .int .u64 (IntKind.u64.wrap (IntKind.u64.wrap (2 * (i : Int)) + 1))] rfl rfl 64 _ z4 (by kernel_rfl) rfl (by simp [Value.oneCell']) ?_
     refine HKc.out _ _ ?_
     clear HKc Kc
     refine wpAny_ready (rs := [17]) (by kernel_rfl) (by simp) ?_
     refine AllReady.cons rfl (fun Kc hKc => ?_) AllReady.nil
     have HKc := Lib.hid hKc
     clear hKc
     go_simp
     refine HKc.out _ _ ?_
     clear HKc Kc
     refine wpAny_done (by kernel_rfl) ?_ _
     go_wp2_with fail
     refine bodyPost_ret (results_row2_tmp rfl _ _ (w.heap.size + 1) (w.heap.size + 1 + 1) 64 64 _ _ (0, 0) (0, 0) _ rfl rfl HY5.out HZ5.out Tryz.underlying64 rfl (by kernel_rfl) (by kernel_rfl)) rfl ?_
     exact ⟨by rw [HM1.out.1, HI2.out.1, HI2.out.2]; rfl, HB5.out⟩
    ·have HKc := Lib.hid hKc
     clear hKc
     first | refine wp_store_row 64 _ _ rfl (w.heap.size + 1) #[.int .i64 (IntKind.i64.wrap ((m : Int) - 1)), .int .u64 (IntKind.u64.wrap (2 * (i : Int)))] rfl rfl 64 _ hy3 (by kernel_rfl) rfl (by simp [Value.oneCell']) ?_ | refine wp_store_row 64 _ _ rfl (w.heap.size + 1 + 1) #[.int .i64 (IntKind.i64.wrap ((m : Int) - 1)), .int .u64 (IntKind.u64.wrap (IntKind.u64.wrap (2 * (i : Int)) + 1))] rfl rfl 64 _ z4 (by kernel_rfl) rfl (by simp [Value.oneCell']) ?_
     refine HKc.out _ _ ?_
     clear HKc Kc
     refine wpAny_ready (rs := [8]) (by kernel_rfl) (by simp) ?_
     refine AllReady.cons rfl (fun Kc hKc => ?_) AllReady.nil
     have HKc := Lib.hid hKc
     clear hKc
     go_simp
     refine HKc.out _ _ ?_
     clear HKc Kc
     refine wpAny_ready (rs := [9]) (by kernel_rfl) (by simp) ?_
     refine AllReady.cons rfl (fun Kc hKc => ?_) AllReady.nil
     have HKc := Lib.hid hKc
     clear hKc
     go_simp
     refine HKc.out _ _ ?_
     clear HKc Kc
     refine wpAny_ready (rs := [14]) (by kernel_rfl) (by simp) ?_
     refine AllReady.cons rfl (fun Kc hKc => ?_) AllReady.nil
     have HKc := Lib.hid hKc
     clear hKc
     go_simp
     refine HKc.out _ _ ?_
     clear HKc Kc
     refine wpAny_ready (rs := [16]) (by kernel_rfl) (by simp) ?_
     refine AllReady.cons rfl (fun Kc hKc => ?_) AllReady.nil
     have HKc := Lib.hid hKc
     clear hKc
     first | refine wp_store_row 64 _ _ rfl (w.heap.size + 1) #[.int .i64 (IntKind.i64.wrap ((m : Int) - 1)), .int .u64 (IntKind.u64.wrap (2 * (i : Int)))] rfl rfl 64 _ hy3 (by kernel_rfl) rfl (by simp [Value.oneCell']) ?_ | refine wp_store_row 64 _ _ rfl (w.heap.size + 1 + 1) #[.int .i64 (IntKind.i64.wrap ((m : Int) - 1)), .int .u64 (IntKind.u64.wrap (IntKind.u64.wrap (2 * (i : Int)) + 1))] rfl rfl 64 _ z4 (by kernel_rfl) rfl (by simp [Value.oneCell']) ?_
     refine HKc.out _ _ ?_
     clear HKc Kc
     refine wpAny_ready (rs := [17]) (by kernel_rfl) (by simp) ?_
     refine AllReady.cons rfl (fun Kc hKc => ?_) AllReady.nil
     have HKc := Lib.hid hKc
     clear hKc
     go_simp
     refine HKc.out _ _ ?_
     clear HKc Kc
     refine wpAny_done (by kernel_rfl) ?_ _
     go_wp2_with fail
     refine bodyPost_ret (results_row2_tmp rfl _ _ (w.heap.size + 1) (w.heap.size + 1 + 1) 64 64 _ _ (0, 0) (0, 0) _ rfl rfl HY5.out HZ5.out Tryz.underlying64 rfl (by kernel_rfl) (by kernel_rfl)) rfl ?_
     exact ⟨by rw [HM1.out.1, HI2.out.1, HI2.out.2]; rfl, HB5.out⟩
   ·have HKc := Lib.hid hKc
    clear hKc
    go_simp
    refine HKc.out _ _ ?_
    clear HKc Kc
    refine tkA (i := 9) (v := ?_) rfl (by kernel_rfl) (fun _ _ _ h => h) (Or.inl ⟨by rfl, ?_⟩) ?_
    rotate_left
    ·intro w
     go_simp
     try with_reducible rfl
    simp only [Act.put, z1, z2, z3, z4, z5, z6]
    refine tkA (i := 14) (v := ?_) rfl (by kernel_rfl) (fun _ _ _ h => h) (Or.inl ⟨by rfl, ?_⟩) ?_
    rotate_left
    ·intro w
     go_simp
     try with_reducible rfl
    simp only [Act.put, z1, z2, z3, z4, z5, z6]
    refine wpAny_ready (rs := [1]) (by kernel_rfl) (by simp) ?_
    refine AllReady.cons rfl (fun Kc hKc => ?_) AllReady.nil
    have HKc := Lib.hid hKc
    clear hKc
    go_simp
    refine HKc.out _ _ ?_
    clear HKc Kc
    refine wpAny_ready (rs := [2]) (by kernel_rfl) (by simp) ?_
    refine AllReady.cons rfl (fun Kc hKc => ?_) AllReady.nil
    have HKc := Lib.hid hKc
    clear hKc
    go_simp
    refine HKc.out _ _ ?_
    clear HKc Kc
    refine wpAny_ready (rs := [6]) (by kernel_rfl) (by simp) ?_
    refine AllReady.cons rfl (fun Kc hKc => ?_) AllReady.nil
    have HKc := Lib.hid hKc
    clear hKc
    go_simp
    refine HKc.out _ _ ?_
    clear HKc Kc
    refine wpAny_ready (rs := [15]) (by kernel_rfl) (by simp) ?_
    refine AllReady.cons rfl (fun Kc hKc => ?_) AllReady.nil
    have HKc := Lib.hid hKc
    clear hKc
    first | refine wp_store_row 64 _ _ rfl (w.heap.size + 1) #[.int .i64 (IntKind.i64.wrap ((m : Int) - 1)), .int .u64 (IntKind.u64.wrap (2 * (i : Int)))] rfl rfl 64 _ hy3 (by kernel_rfl) rfl (by simp [Value.oneCell']) ?_ | refine wp_store_row 64 _ _ rfl (w.heap.size + 1 + 1) #[.int .i64 (IntKind.i64.wrap ((m : Int) - 1)), .int .u64 (IntKind.u64.wrap (IntKind.u64.wrap (2 * (i : Int)) + 1))] rfl rfl 64 _ z4 (by kernel_rfl) rfl (by simp [Value.oneCell']) ?_
    refine HKc.out _ _ ?_
    clear HKc Kc
    refine wpAny_ready (rs := [16]) (by kernel_rfl) (by simp) ?_
    refine AllReady.cons rfl (fun Kc hKc => ?_) AllReady.nil
    have HKc := Lib.hid hKc
    clear hKc
    first | refine wp_store_row 64 _ _ rfl (w.heap.size + 1) #[.int .i64 (IntKind.i64.wrap ((m : Int) - 1)), .int .u64 (IntKind.u64.wrap (2 * (i : Int)))] rfl rfl 64 _ hy3 (by kernel_rfl) rfl (by simp [Value.oneCell']) ?_ | refine wp_store_row 64 _ _ rfl (w.heap.size + 1 + 1) #[.int .i64 (IntKind.i64.wrap ((m : Int) - 1)), .int .u64 (IntKind.u64.wrap (IntKind.u64.wrap (2 * (i : Int)) + 1))] rfl rfl 64 _ z4 (by kernel_rfl) rfl (by simp [Value.oneCell']) ?_
    refine HKc.out _ _ ?_
    clear HKc Kc
    refine wpAny_ready (rs := [17]) (by kernel_rfl) (by simp) ?_
    refine AllReady.cons rfl (fun Kc hKc => ?_) AllReady.nil
    have HKc := Lib.hid hKc
    clear hKc
    go_simp
    refine HKc.out _ _ ?_
    clear HKc Kc
    refine wpAny_done (by kernel_rfl) ?_ _
    go_wp2_with fail
    refine bodyPost_ret (results_row2_tmp rfl _ _ (w.heap.size + 1) (w.heap.size + 1 + 1) 64 64 _ _ (0, 0) (0, 0) _ rfl rfl HY5.out HZ5.out Tryz.underlying64 rfl (by kernel_rfl) (by kernel_rfl)) rfl ?_
    exact ⟨by rw [HM1.out.1, HI2.out.1, HI2.out.2]; rfl, HB5.out⟩
 ·have HKc := Lib.hid hKc
  clear hKc
  go_simp
  refine HKc.out _ _ ?_
  clear HKc Kc
  refine tkA (i := 9) (v := ?_) rfl (by kernel_rfl) (fun _ _ _ h => h) (Or.inl ⟨by rfl, ?_⟩) ?_
  rotate_left
  ·intro w
   go_simp
   try with_reducible rfl
  simp only [Act.put, z1, z2, z3, z4, z5, z6]
  refine wpAny_ready (rs := [1, 4, 11]) (by kernel_rfl) (by simp) ?_
  refine AllReady.cons rfl (fun Kc hKc => ?_) (AllReady.cons rfl (fun Kc hKc => ?_) (AllReady.cons rfl (fun Kc hKc => ?_) AllReady.nil))
  ·have HKc := Lib.hid hKc
   clear hKc
   go_simp
   refine HKc.out _ _ ?_
   clear HKc Kc
   refine tkA (i := 2) (v := ?_) rfl (by kernel_rfl) (fun _ _ _ h => h) (Or.inl ⟨by rfl, ?_⟩) ?_
   rotate_left
   ·intro w
    go_simp
    try with_reducible rfl
   simp only [Act.put, z1, z2, z3, z4, z5, z6]
   refine wpAny_ready (rs := [4, 11]) (by kernel_rfl) (by simp) ?_
   refine AllReady.cons rfl (fun Kc hKc => ?_) (AllReady.cons rfl (fun Kc hKc => ?_) AllReady.nil)
   ·have HKc := Lib.hid hKc
    clear hKc
    go_simp
    refine HKc.out _ _ ?_
    clear HKc Kc
    refine tkA (i := 5) (v := ?_) rfl (by kernel_rfl) (fun _ _ _ h => h) (Or.inl ⟨by rfl, ?_⟩) ?_
    rotate_left
    ·intro w
     go_simp
     try with_reducible rfl
    simp only [Act.put, z1, z2, z3, z4, z5, z6]
    refine tkA (i := 6) (v := ?_) rfl (by kernel_rfl) (fun _ _ _ h => h) (Or.inl ⟨by rfl, ?_⟩) ?_
    rotate_left
    ·intro w
     go_simp
     try with_reducible rfl
    simp only [Act.put, z1, z2, z3, z4, z5, z6]
    refine wpAny_ready (rs := [11, 15]) (by kernel_rfl) (by simp) ?_
    refine AllReady.cons rfl (fun Kc hKc => ?_) (AllReady.cons rfl (fun Kc hKc => ?_) AllReady.nil)
    ·have HKc := Lib.hid hKc
     clear hKc
     go_simp
     refine HKc.out _ _ ?_
     clear HKc Kc
     refine tkA (i := 12) (v := ?_) rfl (by kernel_rfl) (fun _ _ _ h => h) (Or.inl ⟨by rfl, ?_⟩) ?_
     rotate_left
     ·intro w
      go_simp
      try with_reducible rfl
     simp only [Act.put, z1, z2, z3, z4, z5, z6]
     refine tkA (i := 13) (v := ?_) rfl (by kernel_rfl) (fun _ _ _ h => h) (Or.inl ⟨by rfl, ?_⟩) ?_
     rotate_left
     ·intro w
      go_simp
      try with_reducible rfl
     simp only [Act.put, z1, z2, z3, z4, z5, z6]
     refine tkA (i := 14) (v := ?_) rfl (by kernel_rfl) (fun _ _ _ h => h) (Or.inl ⟨by rfl, ?_⟩) ?_
     rotate_left
     ·intro w
      go_simp
      try with_reducible rfl
     simp only [Act.put, z1, z2, z3, z4, z5, z6]
     refine wpAny_ready (rs := [15]) (by kernel_rfl) (by simp) ?_
     refine AllReady.cons rfl (fun Kc hKc => ?_) AllReady.nil
     have HKc := Lib.hid hKc
     clear hKc
     first | refine wp_store_row 64 _ _ rfl (w.heap.size + 1) #[.int .i64 (IntKind.i64.wrap ((m : Int) - 1)), .int .u64 (IntKind.u64.wrap (2 * (i : Int)))] rfl rfl 64 _ hy3 (by kernel_rfl) rfl (by simp [Value.oneCell']) ?_ | refine wp_store_row 64 _ _ rfl (w.heap.size + 1 + 1) #[.int .i64 (IntKind.i64.wrap ((m : Int) - 1)), .int .u64 (IntKind.u64.wrap (IntKind.u64.wrap (2 * (i : Int)) + 1))] rfl rfl 64 _ z4 (by kernel_rfl) rfl (by simp [Value.oneCell']) ?_
     refine HKc.out _ _ ?_
     clear HKc Kc
     refine wpAny_ready (rs := [16]) (by kernel_rfl) (by simp) ?_
     refine AllReady.cons rfl (fun Kc hKc => ?_) AllReady.nil
     have HKc := Lib.hid hKc
     clear hKc
     first | refine wp_store_row 64 _ _ rfl (w.heap.size + 1) #[.int .i64 (IntKind.i64.wrap ((m : Int) - 1)), .int .u64 (IntKind.u64.wrap (2 * (i : Int)))] rfl rfl 64 _ hy3 (by kernel_rfl) rfl (by simp [Value.oneCell']) ?_ | refine wp_store_row 64 _ _ rfl (w.heap.size + 1 + 1) #[.int .i64 (IntKind.i64.wrap ((m : Int) - 1)), .int .u64 (IntKind.u64.wrap (IntKind.u64.wrap (2 * (i : Int)) + 1))] rfl rfl 64 _ z4 (by kernel_rfl) rfl (by simp [Value.oneCell']) ?_
     refine HKc.out _ _ ?_
     clear HKc Kc
     refine wpAny_ready (rs := [17]) (by kernel_rfl) (by simp) ?_
     refine AllReady.cons rfl (fun Kc hKc => ?_) AllReady.nil
     have HKc := Lib.hid hKc
     clear hKc
     go_simp
     refine HKc.out _ _ ?_
     clear HKc Kc
     refine wpAny_done (by kernel_rfl) ?_ _
     go_wp2_with fail
     refine bodyPost_ret (results_row2_tmp rfl _ _ (w.heap.size + 1) (w.heap.size + 1 + 1) 64 64 _ _ (0, 0) (0, 0) _ rfl rfl HY5.out HZ5.out Tryz.underlying64 rfl (by kernel_rfl) (by kernel_rfl)) rfl ?_
     exact ⟨by rw [HM1.out.1, HI2.out.1, HI2.out.2]; rfl, HB5.out⟩
    ·have HKc := Lib.hid hKc
     clear hKc
     first | refine wp_store_row 64 _ _ rfl (w.heap.size + 1) #[.int .i64 (IntKind.i64.wrap ((m : Int) - 1)), .int .u64 (IntKind.u64.wrap (2 * (i : Int)))] rfl rfl 64 _ hy3 (by kernel_rfl) rfl (by simp [Value.oneCell']) ?_ | refine wp_store_row 64 _ _ rfl (w.heap.size + 1 + 1) #[.int .i64 (IntKind.i64.wrap ((m : Int) - 1)), .int .u64 (IntKind.u64.wrap (IntKind.u64.wrap (2 * (i : Int)) + 1))] rfl rfl 64 _ z4 (by kernel_rfl) rfl (by simp [Value.oneCell']) ?_
     refine HKc.out _ _ ?_
     clear HKc Kc
     refine wpAny_ready (rs := [11]) (by kernel_rfl) (by simp) ?_
     refine AllReady.cons rfl (fun Kc hKc => ?_) AllReady.nil
     have HKc := Lib.hid hKc
     clear hKc
     go_simp
     refine HKc.out _ _ ?_
     clear HKc Kc
     refine wpAny_ready (rs := [12]) (by kernel_rfl) (by simp) ?_
     refine AllReady.cons rfl (fun Kc hKc => ?_) AllReady.nil
     have HKc := Lib.hid hKc
     clear hKc
     go_simp
     refine HKc.out _ _ ?_
     clear HKc Kc
     refine wpAny_ready (rs := [13]) (by kernel_rfl) (by simp) ?_
     refine AllReady.cons rfl (fun Kc hKc => ?_) AllReady.nil
     have HKc := Lib.hid hKc
     clear hKc
     go_simp
     refine HKc.out _ _ ?_
     clear HKc Kc
     refine wpAny_ready (rs := [14]) (by kernel_rfl) (by simp) ?_
     refine AllReady.cons rfl (fun Kc hKc => ?_) AllReady.nil
     have HKc := Lib.hid hKc
     clear hKc
     go_simp
     refine HKc.out _ _ ?_
     clear HKc Kc
     refine wpAny_ready (rs := [16]) (by kernel_rfl) (by simp) ?_
     refine AllReady.cons rfl (fun Kc hKc => ?_) AllReady.nil
     have HKc := Lib.hid hKc
     clear hKc
     first | refine wp_store_row 64 _ _ rfl (w.heap.size + 1) #[.int .i64 (IntKind.i64.wrap ((m : Int) - 1)), .int .u64 (IntKind.u64.wrap (2 * (i : Int)))] rfl rfl 64 _ hy3 (by kernel_rfl) rfl (by simp [Value.oneCell']) ?_ | refine wp_store_row 64 _ _ rfl (w.heap.size + 1 + 1) #[.int .i64 (IntKind.i64.wrap ((m : Int) - 1)), .int .u64 (IntKind.u64.wrap (IntKind.u64.wrap (2 * (i : Int)) + 1))] rfl rfl 64 _ z4 (by kernel_rfl) rfl (by simp [Value.oneCell']) ?_
     refine HKc.out _ _ ?_
     clear HKc Kc
     refine wpAny_ready (rs := [17]) (by kernel_rfl) (by simp) ?_
     refine AllReady.cons rfl (fun Kc hKc => ?_) AllReady.nil
     have HKc := Lib.hid hKc
     clear hKc
     go_simp
     refine HKc.out _ _ ?_
     clear HKc Kc
     refine wpAny_done (by kernel_rfl) ?_ _
     go_wp2_with fail
     refine bodyPost_ret (results_row2_tmp rfl _ _ (w.heap.size + 1) (w.heap.size + 1 + 1) 64 64 _ _ (0, 0) (0, 0) _ rfl rfl HY5.out HZ5.out Tryz.underlying64 rfl (by kernel_rfl) (by kernel_rfl)) rfl ?_
     exact ⟨by rw [HM1.out.1, HI2.out.1, HI2.out.2]; rfl, HB5.out⟩
   ·have HKc := Lib.hid hKc
    clear hKc
    go_simp
    refine HKc.out _ _ ?_
    clear HKc Kc
    refine tkA (i := 12) (v := ?_) rfl (by kernel_rfl) (fun _ _ _ h => h) (Or.inl ⟨by rfl, ?_⟩) ?_
    rotate_left
    ·intro w
     go_simp
     try with_reducible rfl
    simp only [Act.put, z1, z2, z3, z4, z5, z6]
    refine tkA (i := 13) (v := ?_) rfl (by kernel_rfl) (fun _ _ _ h => h) (Or.inl ⟨by rfl, ?_⟩) ?_
    rotate_left
    ·intro w
     go_simp
     try with_reducible rfl
    simp only [Act.put, z1, z2, z3, z4, z5, z6]
    refine tkA (i := 14) (v := ?_) rfl (by kernel_rfl) (fun _ _ _ h => h) (Or.inl ⟨by rfl, ?_⟩) ?_
    rotate_left
    ·intro w
     go_simp
     try with_reducible rfl
    simp only [Act.put, z1, z2, z3, z4, z5, z6]
    refine wpAny_ready (rs := [4]) (by kernel_rfl) (by simp) ?_
    refine AllReady.cons rfl (fun Kc hKc => ?_) AllReady.nil
    have HKc := Lib.hid hKc
    clear hKc
    go_simp
    refine HKc.out _ _ ?_
    clear HKc Kc
    refine wpAny_ready (rs := [5]) (by kernel_rfl) (by simp) ?_
    refine AllReady.cons rfl (fun Kc hKc => ?_) AllReady.nil
    have HKc := Lib.hid hKc
    clear hKc
    go_simp
    refine HKc.out _ _ ?_
    clear HKc Kc
    refine wpAny_ready (rs := [6]) (by kernel_rfl) (by simp) ?_
    refine AllReady.cons rfl (fun Kc hKc => ?_) AllReady.nil
    have HKc := Lib.hid hKc
    clear hKc
    go_simp
    refine HKc.out _ _ ?_
    clear HKc Kc
    refine wpAny_ready (rs := [15]) (by kernel_rfl) (by simp) ?_
    refine AllReady.cons rfl (fun Kc hKc => ?_) AllReady.nil
    have HKc := Lib.hid hKc
    clear hKc
    first | refine wp_store_row 64 _ _ rfl (w.heap.size + 1) #[.int .i64 (IntKind.i64.wrap ((m : Int) - 1)), .int .u64 (IntKind.u64.wrap (2 * (i : Int)))] rfl rfl 64 _ hy3 (by kernel_rfl) rfl (by simp [Value.oneCell']) ?_ | refine wp_store_row 64 _ _ rfl (w.heap.size + 1 + 1) #[.int .i64 (IntKind.i64.wrap ((m : Int) - 1)), .int .u64 (IntKind.u64.wrap (IntKind.u64.wrap (2 * (i : Int)) + 1))] rfl rfl 64 _ z4 (by kernel_rfl) rfl (by simp [Value.oneCell']) ?_
    refine HKc.out _ _ ?_
    clear HKc Kc
    refine wpAny_ready (rs := [16]) (by kernel_rfl) (by simp) ?_
    refine AllReady.cons rfl (fun Kc hKc => ?_) AllReady.nil
    have HKc := Lib.hid hKc
    clear hKc
    first | refine wp_store_row 64 _ _ rfl (w.heap.size + 1) #[.int .i64 (IntKind.i64.wrap ((m : Int) - 1)), .int .u64 (IntKind.u64.wrap (2 * (i : Int)))] rfl rfl 64 _ hy3 (by kernel_rfl) rfl (by simp [Value.oneCell']) ?_ | refine wp_store_row 64 _ _ rfl (w.heap.size + 1 + 1) #[.int .i64 (IntKind.i64.wrap ((m : Int) - 1)), .int .u64 (IntKind.u64.wrap (IntKind.u64.wrap (2 * (i : Int)) + 1))] rfl rfl 64 _ z4 (by kernel_rfl) rfl (by simp [Value.oneCell']) ?_
    refine HKc.out _ _ ?_
    clear HKc Kc
    refine wpAny_ready (rs := [17]) (by kernel_rfl) (by simp) ?_
    refine AllReady.cons rfl (fun Kc hKc => ?_) AllReady.nil
    have HKc := Lib.hid hKc
    clear hKc
    go_simp
    refine HKc.out _ _ ?_
    clear HKc Kc
    refine wpAny_done (by kernel_rfl) ?_ _
    go_wp2_with fail
    refine bodyPost_ret (results_row2_tmp rfl _ _ (w.heap.size + 1) (w.heap.size + 1 + 1) 64 64 _ _ (0, 0) (0, 0) _ rfl rfl HY5.out HZ5.out Tryz.underlying64 rfl (by kernel_rfl) (by kernel_rfl)) rfl ?_
    exact ⟨by rw [HM1.out.1, HI2.out.1, HI2.out.2]; rfl, HB5.out⟩
  ·have HKc := Lib.hid hKc
   clear hKc
   go_simp
   refine HKc.out _ _ ?_
   clear HKc Kc
   refine tkA (i := 5) (v := ?_) rfl (by kernel_rfl) (fun _ _ _ h => h) (Or.inl ⟨by rfl, ?_⟩) ?_
   rotate_left
   ·intro w
    go_simp
    try with_reducible rfl
   simp only [Act.put, z1, z2, z3, z4, z5, z6]
   refine wpAny_ready (rs := [1, 11]) (by kernel_rfl) (by simp) ?_
   refine AllReady.cons rfl (fun Kc hKc => ?_) (AllReady.cons rfl (fun Kc hKc => ?_) AllReady.nil)
   ·have HKc := Lib.hid hKc
    clear hKc
    go_simp
    refine HKc.out _ _ ?_
    clear HKc Kc
    refine tkA (i := 2) (v := ?_) rfl (by kernel_rfl) (fun _ _ _ h => h) (Or.inl ⟨by rfl, ?_⟩) ?_
    rotate_left
    ·intro w
     go_simp
     try with_reducible rfl
    simp only [Act.put, z1, z2, z3, z4, z5, z6]
    refine tkA (i := 6) (v := ?_) rfl (by kernel_rfl) (fun _ _ _ h => h) (Or.inl ⟨by rfl, ?_⟩) ?_
    rotate_left
    ·intro w
     go_simp
     try with_reducible rfl
    simp only [Act.put, z1, z2, z3, z4, z5, z6]
    refine wpAny_ready (rs := [11, 15]) (by kernel_rfl) (by simp) ?_
    refine AllReady.cons rfl (fun Kc hKc => ?_) (AllReady.cons rfl (fun Kc hKc => ?_) AllReady.nil)
    ·have HKc := Lib.hid hKc
     clear hKc
     go_simp
     refine HKc.out _ _ ?_
     clear HKc Kc
     refine tkA (i := 12) (v := ?_) rfl (by kernel_rfl) (fun _ _ _ h => h) (Or.inl ⟨by rfl, ?_⟩) ?_
     rotate_left
     ·intro w
      go_simp
      try with_reducible rfl
     simp only [Act.put, z1, z2, z3, z4, z5, z6]
     refine tkA (i := 13) (v := ?_) rfl (by kernel_rfl) (fun _ _ _ h => h) (Or.inl ⟨by rfl, ?_⟩) ?_
     rotate_left
     ·intro w
      go_simp
      try with_reducible rfl
     simp only [Act.put, z1, z2, z3, z4, z5, z6]
     refine tkA (i := 14) (v := ?_) rfl (by kernel_rfl) (fun _ _ _ h => h) (Or.inl ⟨by rfl, ?_⟩) ?_
     rotate_left
     ·intro w
      go_simp
      try with_reducible rfl
     simp only [Act.put, z1, z2, z3, z4, z5, z6]
     refine wpAny_ready (rs := [15]) (by kernel_rfl) (by simp) ?_
     refine AllReady.cons rfl (fun Kc hKc => ?_) AllReady.nil
     have HKc := Lib.hid hKc
     clear hKc
     first | refine wp_store_row 64 _ _ rfl (w.heap.size + 1) #[.int .i64 (IntKind.i64.wrap ((m : Int) - 1)), .int .u64 (IntKind.u64.wrap (2 * (i : Int)))] rfl rfl 64 _ hy3 (by kernel_rfl) rfl (by simp [Value.oneCell']) ?_ | refine wp_store_row 64 _ _ rfl (w.heap.size + 1 + 1) #[.int .i64 (IntKind.i64.wrap ((m : Int) - 1)), .int .u64 (IntKind.u64.wrap (IntKind.u64.wrap (2 * (i : Int)) + 1))] rfl rfl 64 _ z4 (by kernel_rfl) rfl (by simp [Value.oneCell']) ?_
     refine HKc.out _ _ ?_
     clear HKc Kc
     refine wpAny_ready (rs := [16]) (by kernel_rfl) (by simp) ?_
     refine AllReady.cons rfl (fun Kc hKc => ?_) AllReady.nil
     have HKc := Lib.hid hKc
     clear hKc
     first | refine wp_store_row 64 _ _ rfl (w.heap.size + 1) #[.int .i64 (IntKind.i64.wrap ((m : Int) - 1)), .int .u64 (IntKind.u64.wrap (2 * (i : Int)))] rfl rfl 64 _ hy3 (by kernel_rfl) rfl (by simp [Value.oneCell']) ?_ | refine wp_store_row 64 _ _ rfl (w.heap.size + 1 + 1) #[.int .i64 (IntKind.i64.wrap ((m : Int) - 1)), .int .u64 (IntKind.u64.wrap (IntKind.u64.wrap (2 * (i : Int)) + 1))] rfl rfl 64 _ z4 (by kernel_rfl) rfl (by simp [Value.oneCell']) ?_
     refine HKc.out _ _ ?_
     clear HKc Kc
     refine wpAny_ready (rs := [17]) (by kernel_rfl) (by simp) ?_
     refine AllReady.cons rfl (fun Kc hKc => ?_) AllReady.nil
     have HKc := Lib.hid hKc
     clear hKc
     go_simp
     refine HKc.out _ _ ?_
     clear HKc Kc
     refine wpAny_done (by kernel_rfl) ?_ _
     go_wp2_with fail
     refine bodyPost_ret (results_row2_tmp rfl _ _ (w.heap.size + 1) (w.heap.size + 1 + 1) 64 64 _ _ (0, 0) (0, 0) _ rfl rfl HY5.out HZ5.out Tryz.underlying64 rfl (by kernel_rfl) (by kernel_rfl)) rfl ?_
     exact ⟨by rw [HM1.out.1, HI2.out.1, HI2.out.2]; rfl, HB5.out⟩
    ·have HKc := Lib.hid hKc
     clear hKc
     first | refine wp_store_row 64 _ _ rfl (w.heap.size + 1) #[.int .i64 (IntKind.i64.wrap ((m : Int) - 1)), .int .u64 (IntKind.u64.wrap (2 * (i : Int)))] rfl rfl 64 _ hy3 (by kernel_rfl) rfl (by simp [Value.oneCell']) ?_ | refine wp_store_row 64 _ _ rfl (w.heap.size + 1 + 1) #[.int .i64 (IntKind.i64.wrap ((m : Int) - 1)), .int .u64 (IntKind.u64.wrap (IntKind.u64.wrap (2 * (i : Int)) + 1))] rfl rfl 64 _ z4 (by kernel_rfl) rfl (by simp [Value.oneCell']) ?_
     refine HKc.out _ _ ?_
     clear HKc Kc
     refine wpAny_ready (rs := [11]) (by kernel_rfl) (by simp) ?_
     refine AllReady.cons rfl (fun Kc hKc => ?_) AllReady.nil
     have HKc := Lib.hid hKc
     clear hKc
     go_simp
     refine HKc.out _ _ ?_
     clear HKc Kc
     refine wpAny_ready (rs := [12]) (by kernel_rfl) (by simp) ?_
     refine AllReady.cons rfl (fun Kc hKc => ?_) AllReady.nil
     have HKc := Lib.hid hKc
     clear hKc
     go_simp
     refine HKc.out _ _ ?_
     clear HKc Kc
     refine wpAny_ready (rs := [13]) (by kernel_rfl) (by simp) ?_
     refine AllReady.cons rfl (fun Kc hKc => ?_) AllReady.nil
     have HKc := Lib.hid hKc
     clear hKc
     go_simp
     refine HKc.out _ _ ?_
     clear HKc Kc
     refine wpAny_ready (rs := [14]) (by kernel_rfl) (by simp) ?_
     refine AllReady.cons rfl (fun Kc hKc => ?_) AllReady.nil
     have HKc := Lib.hid hKc
     clear hKc
     go_simp
     refine HKc.out _ _ ?_
     clear HKc Kc
     refine wpAny_ready (rs := [16]) (by kernel_rfl) (by simp) ?_
     refine AllReady.cons rfl (fun Kc hKc => ?_) AllReady.nil
     have HKc := Lib.hid hKc
     clear hKc
     first | refine wp_store_row 64 _ _ rfl (w.heap.size + 1) #[.int .i64 (IntKind.i64.wrap ((m : Int) - 1)), .int .u64 (IntKind.u64.wrap (2 * (i : Int)))] rfl rfl 64 _ hy3 (by kernel_rfl) rfl (by simp [Value.oneCell']) ?_ | refine wp_store_row 64 _ _ rfl (w.heap.size + 1 + 1) #[.int .i64 (IntKind.i64.wrap ((m : Int) - 1)), .int .u64 (IntKind.u64.wrap (IntKind.u64.wrap (2 * (i : Int)) + 1))] rfl rfl 64 _ z4 (by kernel_rfl) rfl (by simp [Value.oneCell']) ?_
     refine HKc.out _ _ ?_
     clear HKc Kc
     refine wpAny_ready (rs := [17]) (by kernel_rfl) (by simp) ?_
     refine AllReady.cons rfl (fun Kc hKc => ?_) AllReady.nil
     have HKc := Lib.hid hKc
     clear hKc
     go_simp
     refine HKc.out _ _ ?_
     clear HKc Kc
     refine wpAny_done (by kernel_rfl) ?_ _
     go_wp2_with fail
     refine bodyPost_ret (results_row2_tmp rfl _ _ (w.heap.size + 1) (w.heap.size + 1 + 1) 64 64 _ _ (0, 0) (0, 0) _ rfl rfl HY5.out HZ5.out Tryz.underlying64 rfl (by kernel_rfl) (by kernel_rfl)) rfl ?_
     exact ⟨by rw [HM1.out.1, HI2.out.1, HI2.out.2]; rfl, HB5.out⟩
   ·have HKc := Lib.hid hKc
    clear hKc
    go_simp
    refine HKc.out _ _ ?_
    clear HKc Kc
    refine tkA (i := 12) (v := ?_) rfl (by kernel_rfl) (fun _ _ _ h => h) (Or.inl ⟨by rfl, ?_⟩) ?_
    rotate_left
    ·intro w
     go_simp
     try with_reducible rfl
    simp only [Act.put, z1, z2, z3, z4, z5, z6]
    refine tkA (i := 13) (v := ?_) rfl (by kernel_rfl) (fun _ _ _ h => h) (Or.inl ⟨by rfl, ?_⟩) ?_
    rotate_left
    ·intro w
     go_simp
     try with_reducible rfl
    simp only [Act.put, z1, z2, z3, z4, z5, z6]
    refine tkA (i := 14) (v := ?_) rfl (by kernel_rfl) (fun _ _ _ h => h) (Or.inl ⟨by rfl, ?_⟩) ?_
    rotate_left
    ·intro w
     go_simp
     try with_reducible rfl
    simp only [Act.put, z1, z2, z3, z4, z5, z6]
    refine wpAny_ready (rs := [1]) (by kernel_rfl) (by simp) ?_
    refine AllReady.cons rfl (fun Kc hKc => ?_) AllReady.nil
    have HKc := Lib.hid hKc
    clear hKc
    go_simp
    refine HKc.out _ _ ?_
    clear HKc Kc
    refine wpAny_ready (rs := [2]) (by kernel_rfl) (by simp) ?_
    refine AllReady.cons rfl (fun Kc hKc => ?_) AllReady.nil
    have HKc := Lib.hid hKc
    clear hKc
    go_simp
    refine HKc.out _ _ ?_
    clear HKc Kc
    refine wpAny_ready (rs := [6]) (by kernel_rfl) (by simp) ?_
    refine AllReady.cons rfl (fun Kc hKc => ?_) AllReady.nil
    have HKc := Lib.hid hKc
    clear hKc
    go_simp
    refine HKc.out _ _ ?_
    clear HKc Kc
    refine wpAny_ready (rs := [15]) (by kernel_rfl) (by simp) ?_
    refine AllReady.cons rfl (fun Kc hKc => ?_) AllReady.nil
    have HKc := Lib.hid hKc
    clear hKc
    first | refine wp_store_row 64 _ _ rfl (w.heap.size + 1) #[.int .i64 (IntKind.i64.wrap ((m : Int) - 1)), .int .u64 (IntKind.u64.wrap (2 * (i : Int)))] rfl rfl 64 _ hy3 (by kernel_rfl) rfl (by simp [Value.oneCell']) ?_ | refine wp_store_row 64 _ _ rfl (w.heap.size + 1 + 1) #[.int .i64 (IntKind.i64.wrap ((m : Int) - 1)), .int .u64 (IntKind.u64.wrap (IntKind.u64.wrap (2 * (i : Int)) + 1))] rfl rfl 64 _ z4 (by kernel_rfl) rfl (by simp [Value.oneCell']) ?_
    refine HKc.out _ _ ?_
    clear HKc Kc
    refine wpAny_ready (rs := [16]) (by kernel_rfl) (by simp) ?_
    refine AllReady.cons rfl (fun Kc hKc => ?_) AllReady.nil
    have HKc := Lib.hid hKc
    clear hKc
    first | refine wp_store_row 64 _ _ rfl (w.heap.size + 1) #[.int .i64 (IntKind.i64.wrap ((m : Int) - 1)), .int .u64 (IntKind.u64.wrap (2 * (i : Int)))] rfl rfl 64 _ hy3 (by kernel_rfl) rfl (by simp [Value.oneCell']) ?_ | refine wp_store_row 64 _ _ rfl (w.heap.size + 1 + 1) #[.int .i64 (IntKind.i64.wrap ((m : Int) - 1)), .int .u64 (IntKind.u64.wrap (IntKind.u64.wrap (2 * (i : Int)) + 1))] rfl rfl 64 _ z4 (by kernel_rfl) rfl (by simp [Value.oneCell']) ?_
    refine HKc.out _ _ ?_
    clear HKc Kc
    refine wpAny_ready (rs := [17]) (by kernel_rfl) (by simp) ?_
    refine AllReady.cons rfl (fun Kc hKc => ?_) AllReady.nil
    have HKc := Lib.hid hKc
    clear hKc
    go_simp
    refine HKc.out _ _ ?_
    clear HKc Kc
    refine wpAny_done (by kernel_rfl) ?_ _
    go_wp2_with fail
    refine bodyPost_ret (results_row2_tmp rfl _ _ (w.heap.size + 1) (w.heap.size + 1 + 1) 64 64 _ _ (0, 0) (0, 0) _ rfl rfl HY5.out HZ5.out Tryz.underlying64 rfl (by kernel_rfl) (by kernel_rfl)) rfl ?_
    exact ⟨by rw [HM1.out.1, HI2.out.1, HI2.out.2]; rfl, HB5.out⟩
  ·have HKc := Lib.hid hKc
   clear hKc
   go_simp
   refine HKc.out _ _ ?_
   clear HKc Kc
   refine tkA (i := 12) (v := ?_) rfl (by kernel_rfl) (fun _ _ _ h => h) (Or.inl ⟨by rfl, ?_⟩) ?_
   rotate_left
   ·intro w
    go_simp
    try with_reducible rfl
   simp only [Act.put, z1, z2, z3, z4, z5, z6]
   refine tkA (i := 13) (v := ?_) rfl (by kernel_rfl) (fun _ _ _ h => h) (Or.inl ⟨by rfl, ?_⟩) ?_
   rotate_left
   ·intro w
    go_simp
    try with_reducible rfl
   simp only [Act.put, z1, z2, z3, z4, z5, z6]
   refine tkA (i := 14) (v := ?_) rfl (by kernel_rfl) (fun _ _ _ h => h) (Or.inl ⟨by rfl, ?_⟩) ?_
   rotate_left
   ·intro w
    go_simp
    try with_reducible rfl
   simp only [Act.put, z1, z2, z3, z4, z5, z6]
   refine wpAny_ready (rs := [1, 4]) (by kernel_rfl) (by simp) ?_
   refine AllReady.cons rfl (fun Kc hKc => ?_) (AllReady.cons rfl (fun Kc hKc => ?_) AllReady.nil)
   ·have HKc := Lib.hid hKc
    clear hKc
    go_simp
    refine HKc.out _ _ ?_
    clear HKc Kc
    refine tkA (i := 2) (v := ?_) rfl (by kernel_rfl) (fun _ _ _ h => h) (Or.inl ⟨by rfl, ?_⟩) ?_
    rotate_left
    ·intro w
     go_simp
     try with_reducible rfl
    simp only [Act.put, z1, z2, z3, z4, z5, z6]
    refine wpAny_ready (rs := [4]) (by kernel_rfl) (by simp) ?_
    refine AllReady.cons rfl (fun Kc hKc => ?_) AllReady.nil
    have HKc := Lib.hid hKc
    clear hKc
    go_simp
    refine HKc.out _ _ ?_
    clear HKc Kc
    refine wpAny_ready (rs := [5]) (by kernel_rfl) (by simp) ?_
    refine AllReady.cons rfl (fun Kc hKc => ?_) AllReady.nil
    have HKc := Lib.hid hKc
    clear hKc
    go_simp
    refine HKc.out _ _ ?_
    clear HKc Kc
    refine wpAny_ready (rs := [6]) (by kernel_rfl) (by simp) ?_
    refine AllReady.cons rfl (fun Kc hKc => ?_) AllReady.nil
    have HKc := Lib.hid hKc
    clear hKc
    go_simp
    refine HKc.out _ _ ?_
    clear HKc Kc
    refine wpAny_ready (rs := [15]) (by kernel_rfl) (by simp) ?_
    refine AllReady.cons rfl (fun Kc hKc => ?_) AllReady.nil
    have HKc := Lib.hid hKc
    clear hKc
    first | refine wp_store_row 64 _ _ rfl (w.heap.size + 1) #[.int .i64 (IntKind.i64.wrap ((m : Int) - 1)), .int .u64 (IntKind.u64.wrap (2 * (i : Int)))] rfl rfl 64 _ hy3 (by kernel_rfl) rfl (by simp [Value.oneCell']) ?_ | refine wp_store_row 64 _ _ rfl (w.heap.size + 1 + 1) #[.int .i64 (IntKind.i64.wrap ((m : Int) - 1)), .int .u64 (IntKind.u64.wrap (IntKind.u64.wrap (2 * (i : Int)) + 1))] rfl rfl 64 _ z4 (by kernel_rfl) rfl (by simp [Value.oneCell']) ?_
    refine HKc.out _ _ ?_
    clear HKc Kc
    refine wpAny_ready (rs := [16]) (by kernel_rfl) (by simp) ?_
    refine AllReady.cons rfl (fun Kc hKc => ?_) AllReady.nil
    have HKc := Lib.hid hKc
    clear hKc
    first | refine wp_store_row 64 _ _ rfl (w.heap.size + 1) #[.int .i64 (IntKind.i64.wrap ((m : Int) - 1)), .int .u64 (IntKind.u64.wrap (2 * (i : Int)))] rfl rfl 64 _ hy3 (by kernel_rfl) rfl (by simp [Value.oneCell']) ?_ | refine wp_store_row 64 _ _ rfl (w.heap.size + 1 + 1) #[.int .i64 (IntKind.i64.wrap ((m : Int) - 1)), .int .u64 (IntKind.u64.wrap (IntKind.u64.wrap (2 * (i : Int)) + 1))] rfl rfl 64 _ z4 (by kernel_rfl) rfl (by simp [Value.oneCell']) ?_
    refine HKc.out _ _ ?_
    clear HKc Kc
    refine wpAny_ready (rs := [17]) (by kernel_rfl) (by simp) ?_
    refine AllReady.cons rfl (fun Kc hKc => ?_) AllReady.nil
    have HKc := Lib.hid hKc
    clear hKc
    go_simp
    refine HKc.out _ _ ?_
    clear HKc Kc
    refine wpAny_done (by kernel_rfl) ?_ _
    go_wp2_with fail
    refine bodyPost_ret (results_row2_tmp rfl _ _ (w.heap.size + 1) (w.heap.size + 1 + 1) 64 64 _ _ (0, 0) (0, 0) _ rfl rfl HY5.out HZ5.out Tryz.underlying64 rfl (by kernel_rfl) (by kernel_rfl)) rfl ?_
    exact ⟨by rw [HM1.out.1, HI2.out.1, HI2.out.2]; rfl, HB5.out⟩
   ·have HKc := Lib.hid hKc
    clear hKc
    go_simp
    refine HKc.out _ _ ?_
    clear HKc Kc
    refine tkA (i := 5) (v := ?_) rfl (by kernel_rfl) (fun _ _ _ h => h) (Or.inl ⟨by rfl, ?_⟩) ?_
    rotate_left
    ·intro w
     go_simp
     try with_reducible rfl
    simp only [Act.put, z1, z2, z3, z4, z5, z6]
    refine wpAny_ready (rs := [1]) (by kernel_rfl) (by simp) ?_
    refine AllReady.cons rfl (fun Kc hKc => ?_) AllReady.nil
    have HKc := Lib.hid hKc
    clear hKc
    go_simp
    refine HKc.out _ _ ?_
    clear HKc Kc
    refine wpAny_ready (rs := [2]) (by kernel_rfl) (by simp) ?_
    refine AllReady.cons rfl (fun Kc hKc => ?_) AllReady.nil
    have HKc := Lib.hid hKc
    clear hKc
    go_simp
    refine HKc.out _ _ ?_
    clear HKc Kc
    refine wpAny_ready (rs := [6]) (by kernel_rfl) (by simp) ?_
    refine AllReady.cons rfl (fun Kc hKc => ?_) AllReady.nil
    have HKc := Lib.hid hKc
    clear hKc
    go_simp
    refine HKc.out _ _ ?_
    clear HKc Kc
    refine wpAny_ready (rs := [15]) (by kernel_rfl) (by simp) ?_
    refine AllReady.cons rfl (fun Kc hKc => ?_) AllReady.nil
    have HKc := Lib.hid hKc
    clear hKc
    first | refine wp_store_row 64 _ _ rfl (w.heap.size + 1) #[.int .i64 (IntKind.i64.wrap ((m : Int) - 1)), .int .u64 (IntKind.u64.wrap (2 * (i : Int)))] rfl rfl 64 _ hy3 (by kernel_rfl) rfl (by simp [Value.oneCell']) ?_ | refine wp_store_row 64 _ _ rfl (w.heap.size + 1 + 1) #[.int .i64 (IntKind.i64.wrap ((m : Int) - 1)), .int .u64 (IntKind.u64.wrap (IntKind.u64.wrap (2 * (i : Int)) + 1))] rfl rfl 64 _ z4 (by kernel_rfl) rfl (by simp [Value.oneCell']) ?_
    refine HKc.out _ _ ?_
    clear HKc Kc
    refine wpAny_ready (rs := [16]) (by kernel_rfl) (by simp) ?_
    refine AllReady.cons rfl (fun Kc hKc => ?_) AllReady.nil
    have HKc := Lib.hid hKc
    clear hKc
    first | refine wp_store_row 64 _ _ rfl (w.heap.size + 1) #[.int .i64 (IntKind.i64.wrap ((m : Int) - 1)), .int .u64 (IntKind.u64.wrap (2 * (i : Int)))] rfl rfl 64 _ hy3 (by kernel_rfl) rfl (by simp [Value.oneCell']) ?_ | refine wp_store_row 64 _ _ rfl (w.heap.size + 1 + 1) #[.int .i64 (IntKind.i64.wrap ((m : Int) - 1)), .int .u64 (IntKind.u64.wrap (IntKind.u64.wrap (2 * (i : Int)) + 1))] rfl rfl 64 _ z4 (by kernel_rfl) rfl (by simp [Value.oneCell']) ?_
    refine HKc.out _ _ ?_
    clear HKc Kc
    refine wpAny_ready (rs := [17]) (by kernel_rfl) (by simp) ?_
    refine AllReady.cons rfl (fun Kc hKc => ?_) AllReady.nil
    have HKc := Lib.hid hKc
    clear hKc
    go_simp
    refine HKc.out _ _ ?_
    clear HKc Kc
    refine wpAny_done (by kernel_rfl) ?_ _
    go_wp2_with fail
    refine bodyPost_ret (results_row2_tmp rfl _ _ (w.heap.size + 1) (w.heap.size + 1 + 1) 64 64 _ _ (0, 0) (0, 0) _ rfl rfl HY5.out HZ5.out Tryz.underlying64 rfl (by kernel_rfl) (by kernel_rfl)) rfl ?_
    exact ⟨by rw [HM1.out.1, HI2.out.1, HI2.out.2]; rfl, HB5.out⟩
 ·have HKc := Lib.hid hKc
  clear hKc
  go_simp
  refine HKc.out _ _ ?_
  clear HKc Kc
  refine tkA (i := 12) (v := ?_) rfl (by kernel_rfl) (fun _ _ _ h => h) (Or.inl ⟨by rfl, ?_⟩) ?_
  rotate_left
  ·intro w
   go_simp
   try with_reducible rfl
  simp only [Act.put, z1, z2, z3, z4, z5, z6]
  refine tkA (i := 13) (v := ?_) rfl (by kernel_rfl) (fun _ _ _ h => h) (Or.inl ⟨by rfl, ?_⟩) ?_
  rotate_left
  ·intro w
   go_simp
   try with_reducible rfl
  simp only [Act.put, z1, z2, z3, z4, z5, z6]
  refine wpAny_ready (rs := [1, 4, 8]) (by kernel_rfl) (by simp) ?_
  refine AllReady.cons rfl (fun Kc hKc => ?_) (AllReady.cons rfl (fun Kc hKc => ?_) (AllReady.cons rfl (fun Kc hKc => ?_) AllReady.nil))
  ·have HKc := Lib.hid hKc
   clear hKc
   go_simp
   refine HKc.out _ _ ?_
   clear HKc Kc
   refine tkA (i := 2) (v := ?_) rfl (by kernel_rfl) (fun _ _ _ h => h) (Or.inl ⟨by rfl, ?_⟩) ?_
   rotate_left
   ·intro w
    go_simp
    try with_reducible rfl
   simp only [Act.put, z1, z2, z3, z4, z5, z6]
   refine wpAny_ready (rs := [4, 8]) (by kernel_rfl) (by simp) ?_
   refine AllReady.cons rfl (fun Kc hKc => ?_) (AllReady.cons rfl (fun Kc hKc => ?_) AllReady.nil)
   ·have HKc := Lib.hid hKc
    clear hKc
    go_simp
    refine HKc.out _ _ ?_
    clear HKc Kc
    refine tkA (i := 5) (v := ?_) rfl (by kernel_rfl) (fun _ _ _ h => h) (Or.inl ⟨by rfl, ?_⟩) ?_
    rotate_left
    ·intro w
     go_simp
     try with_reducible rfl
    simp only [Act.put, z1, z2, z3, z4, z5, z6]
    refine tkA (i := 6) (v := ?_) rfl (by kernel_rfl) (fun _ _ _ h => h) (Or.inl ⟨by rfl, ?_⟩) ?_
    rotate_left
    ·intro w
     go_simp
     try with_reducible rfl
    simp only [Act.put, z1, z2, z3, z4, z5, z6]
    refine wpAny_ready (rs := [8, 15]) (by kernel_rfl) (by simp) ?_
    refine AllReady.cons rfl (fun Kc hKc => ?_) (AllReady.cons rfl (fun Kc hKc => ?_) AllReady.nil)
    ·have HKc := Lib.hid hKc
     clear hKc
     go_simp
     refine HKc.out _ _ ?_
     clear HKc Kc
     refine tkA (i := 9) (v := ?_) rfl (by kernel_rfl) (fun _ _ _ h => h) (Or.inl ⟨by rfl, ?_⟩) ?_
     rotate_left
     ·intro w
      go_simp
      try with_reducible rfl
     simp only [Act.put, z1, z2, z3, z4, z5, z6]
     refine tkA (i := 14) (v := ?_) rfl (by kernel_rfl) (fun _ _ _ h => h) (Or.inl ⟨by rfl, ?_⟩) ?_
     rotate_left
     ·intro w
      go_simp
      try with_reducible rfl
     simp only [Act.put, z1, z2, z3, z4, z5, z6]
     refine wpAny_ready (rs := [15]) (by kernel_rfl) (by simp) ?_
     refine AllReady.cons rfl (fun Kc hKc => ?_) AllReady.nil
     have HKc := Lib.hid hKc
     clear hKc
     first | refine wp_store_row 64 _ _ rfl (w.heap.size + 1) #[.int .i64 (IntKind.i64.wrap ((m : Int) - 1)), .int .u64 (IntKind.u64.wrap (2 * (i : Int)))] rfl rfl 64 _ hy3 (by kernel_rfl) rfl (by simp [Value.oneCell']) ?_ | refine wp_store_row 64 _ _ rfl (w.heap.size + 1 + 1) #[.int .i64 (IntKind.i64.wrap ((m : Int) - 1)), .int .u64 (IntKind.u64.wrap (IntKind.u64.wrap (2 * (i : Int)) + 1))] rfl rfl 64 _ z4 (by kernel_rfl) rfl (by simp [Value.oneCell']) ?_
     refine HKc.out _ _ ?_
     clear HKc Kc
     refine wpAny_ready (rs := [16]) (by kernel_rfl) (by simp) ?_
     refine AllReady.cons rfl (fun Kc hKc => ?_) AllReady.nil
     have HKc := Lib.hid hKc
     clear hKc
     first | refine wp_store_row 64 _ _ rfl (w.heap.size + 1) #[.int .i64 (IntKind.i64.wrap ((m : Int) - 1)), .int .u64 (IntKind.u64.wrap (2 * (i : Int)))] rfl rfl 64 _ hy3 (by kernel_rfl) rfl (by simp [Value.oneCell']) ?_ | refine wp_store_row 64 _ _ rfl (w.heap.size + 1 + 1) #[.int .i64 (IntKind.i64.wrap ((m : Int) - 1)), .int .u64 (IntKind.u64.wrap (IntKind.u64.wrap (2 * (i : Int)) + 1))] rfl rfl 64 _ z4 (by kernel_rfl) rfl (by simp [Value.oneCell']) ?_
     refine HKc.out _ _ ?_
     clear HKc Kc
     refine wpAny_ready (rs := [17]) (by kernel_rfl) (by simp) ?_
     refine AllReady.cons rfl (fun Kc hKc => ?_) AllReady.nil
     have HKc := Lib.hid hKc
     clear hKc
     go_simp
     refine HKc.out _ _ ?_
     clear HKc Kc
     refine wpAny_done (by kernel_rfl) ?_ _
     go_wp2_with fail
     refine bodyPost_ret (results_row2_tmp rfl _ _ (w.heap.size + 1) (w.heap.size + 1 + 1) 64 64 _ _ (0, 0) (0, 0) _ rfl rfl HY5.out HZ5.out Tryz.underlying64 rfl (by kernel_rfl) (by kernel_rfl)) rfl ?_
     exact ⟨by rw [HM1.out.1, HI2.out.1, HI2.out.2]; rfl, HB5.out⟩
    ·have HKc := Lib.hid hKc
     clear hKc
     first | refine wp_store_row 64 _ _ rfl (w.heap.size + 1) #[.int .i64 (IntKind.i64.wrap ((m : Int) - 1)), .int .u64 (IntKind.u64.wrap (2 * (i : Int)))] rfl rfl 64 _ hy3 (by kernel_rfl) rfl (by simp [Value.oneCell']) ?_ | refine wp_store_row 64 _ _ rfl (w.heap.size + 1 + 1) #[.int .i64 (IntKind.i64.wrap ((m : Int) - 1)), .int .u64 (IntKind.u64.wrap (IntKind.u64.wrap (2 * (i : Int)) + 1))] rfl rfl 64 _ z4 (by kernel_rfl) rfl (by simp [Value.oneCell']) ?_
     refine HKc.out _ _ ?_
     clear HKc Kc
     refine wpAny_ready (rs := [8]) (by kernel_rfl) (by simp) ?_
     refine AllReady.cons rfl (fun Kc hKc => ?_) AllReady.nil
     have HKc := Lib.hid hKc
     clear hKc
     go_simp
     refine HKc.out _ _ ?_
     clear HKc Kc
     refine wpAny_ready (rs := [9]) (by kernel_rfl) (by simp) ?_
     refine AllReady.cons rfl (fun Kc hKc => ?_) AllReady.nil
     have HKc := Lib.hid hKc
     clear hKc
     go_simp
     refine HKc.out _ _ ?_
     clear HKc Kc
     refine wpAny_ready (rs := [14]) (by kernel_rfl) (by simp) ?_
     refine AllReady.cons rfl (fun Kc hKc => ?_) AllReady.nil
     have HKc := Lib.hid hKc
     clear hKc
     go_simp
     refine HKc.out _ _ ?_
     clear HKc Kc
     refine wpAny_ready (rs := [16]) (by kernel_rfl) (by simp) ?_
     refine AllReady.cons rfl (fun Kc hKc => ?_) AllReady.nil
     have HKc := Lib.hid hKc
     clear hKc
     first | refine wp_store_row 64 _ _ rfl (w.heap.size + 1) #[.int .i64 (IntKind.i64.wrap ((m : Int) - 1)), .int .u64 (IntKind.u64.wrap (2 * (i : Int)))] rfl rfl 64 _ hy3 (by kernel_rfl) rfl (by simp [Value.oneCell']) ?_ | refine wp_store_row 64 _ _ rfl (w.heap.size + 1 + 1) #[.int .i64 (IntKind.i64.wrap ((m : Int) - 1)), .int .u64 (IntKind.u64.wrap (IntKind.u64.wrap (2 * (i : Int)) + 1))] rfl rfl 64 _ z4 (by kernel_rfl) rfl (by simp [Value.oneCell']) ?_
     refine HKc.out _ _ ?_
     clear HKc Kc
     refine wpAny_ready (rs := [17]) (by kernel_rfl) (by simp) ?_
     refine AllReady.cons rfl (fun Kc hKc => ?_) AllReady.nil
     have HKc := Lib.hid hKc
     clear hKc
     go_simp
     refine HKc.out _ _ ?_
     clear HKc Kc
     refine wpAny_done (by kernel_rfl) ?_ _
     go_wp2_with fail
     refine bodyPost_ret (results_row2_tmp rfl _ _ (w.heap.size + 1) (w.heap.size + 1 + 1) 64 64 _ _ (0, 0) (0, 0) _ rfl rfl HY5.out HZ5.out Tryz.underlying64 rfl (by kernel_rfl) (by kernel_rfl)) rfl ?_
     exact ⟨by rw [HM1.out.1, HI2.out.1, HI2.out.2]; rfl, HB5.out⟩
   ·have HKc := Lib.hid hKc
    clear hKc
    go_simp
    refine HKc.out _ _ ?_
    clear HKc Kc
    refine tkA (i := 9) (v := ?_) rfl (by kernel_rfl) (fun _ _ _ h => h) (Or.inl ⟨by rfl, ?_⟩) ?_
    rotate_left
    ·intro w
     go_simp
     try with_reducible rfl
    simp only [Act.put, z1, z2, z3, z4, z5, z6]
    refine tkA (i := 14) (v := ?_) rfl (by kernel_rfl) (fun _ _ _ h => h) (Or.inl ⟨by rfl, ?_⟩) ?_
    rotate_left
    ·intro w
     go_simp
     try with_reducible rfl
    simp only [Act.put, z1, z2, z3, z4, z5, z6]
    refine wpAny_ready (rs := [4]) (by kernel_rfl) (by simp) ?_
    refine AllReady.cons rfl (fun Kc hKc => ?_) AllReady.nil
    have HKc := Lib.hid hKc
    clear hKc
    go_simp
    refine HKc.out _ _ ?_
    clear HKc Kc
    refine wpAny_ready (rs := [5]) (by kernel_rfl) (by simp) ?_
    refine AllReady.cons rfl (fun Kc hKc => ?_) AllReady.nil
    have HKc := Lib.hid hKc
    clear hKc
    go_simp
    refine HKc.out _ _ ?_
    clear HKc Kc
    refine wpAny_ready (rs := [6]) (by kernel_rfl) (by simp) ?_
    refine AllReady.cons rfl (fun Kc hKc => ?_) AllReady.nil
    have HKc := Lib.hid hKc
    clear hKc
    go_simp
    refine HKc.out _ _ ?_
    clear HKc Kc
    refine wpAny_ready (rs := [15]) (by kernel_rfl) (by simp) ?_
    refine AllReady.cons rfl (fun Kc hKc => ?_) AllReady.nil
    have HKc := Lib.hid hKc
    clear hKc
    first | refine wp_store_row 64 _ _ rfl (w.heap.size + 1) #[.int .i64 (IntKind.i64.wrap ((m : Int) - 1)), .int .u64 (IntKind.u64.wrap (2 * (i : Int)))] rfl rfl 64 _ hy3 (by kernel_rfl) rfl (by simp [Value.oneCell']) ?_ | refine wp_store_row 64 _ _ rfl (w.heap.size + 1 + 1) #[.int .i64 (IntKind.i64.wrap ((m : Int) - 1)), .int .u64 (IntKind.u64.wrap (IntKind.u64.wrap (2 * (i : Int)) + 1))] rfl rfl 64 _ z4 (by kernel_rfl) rfl (by simp [Value.oneCell']) ?_
    refine HKc.out _ _ ?_
    clear HKc Kc
    refine wpAny_ready (rs := [16]) (by kernel_rfl) (by simp) ?_
    refine AllReady.cons rfl (fun Kc hKc => ?_) AllReady.nil
    have HKc := Lib.hid hKc
    clear hKc
    first | refine wp_store_row 64 _ _ rfl (w.heap.size + 1) #[.int .i64 (IntKind.i64.wrap ((m : Int) - 1)), .int .u64 (IntKind.u64.wrap (2 * (i : Int)))] rfl rfl 64 _ hy3 (by kernel_rfl) rfl (by simp [Value.oneCell']) ?_ | refine wp_store_row 64 _ _ rfl (w.heap.size + 1 + 1) #[.int .i64 (IntKind.i64.wrap ((m : Int) - 1)), .int .u64 (IntKind.u64.wrap (IntKind.u64.wrap (2 * (i : Int)) + 1))] rfl rfl 64 _ z4 (by kernel_rfl) rfl (by simp [Value.oneCell']) ?_
    refine HKc.out _ _ ?_
    clear HKc Kc
    refine wpAny_ready (rs := [17]) (by kernel_rfl) (by simp) ?_
    refine AllReady.cons rfl (fun Kc hKc => ?_) AllReady.nil
    have HKc := Lib.hid hKc
    clear hKc
    go_simp
    refine HKc.out _ _ ?_
    clear HKc Kc
    refine wpAny_done (by kernel_rfl) ?_ _
    go_wp2_with fail
    refine bodyPost_ret (results_row2_tmp rfl _ _ (w.heap.size + 1) (w.heap.size + 1 + 1) 64 64 _ _ (0, 0) (0, 0) _ rfl rfl HY5.out HZ5.out Tryz.underlying64 rfl (by kernel_rfl) (by kernel_rfl)) rfl ?_
    exact ⟨by rw [HM1.out.1, HI2.out.1, HI2.out.2]; rfl, HB5.out⟩
  ·have HKc := Lib.hid hKc
   clear hKc
   go_simp
   refine HKc.out _ _ ?_
   clear HKc Kc
   refine tkA (i := 5) (v := ?_) rfl (by kernel_rfl) (fun _ _ _ h => h) (Or.inl ⟨by rfl, ?_⟩) ?_
   rotate_left
   ·intro w
    go_simp
    try with_reducible rfl
   simp only [Act.put, z1, z2, z3, z4, z5, z6]
   refine wpAny_ready (rs := [1, 8]) (by kernel_rfl) (by simp) ?_
   refine AllReady.cons rfl (fun Kc hKc => ?_) (AllReady.cons rfl (fun Kc hKc => ?_) AllReady.nil)
   ·have HKc := Lib.hid hKc
    clear hKc
    go_simp
    refine HKc.out _ _ ?_
    clear HKc Kc
    refine tkA (i := 2) (v := ?_) rfl (by kernel_rfl) (fun _ _ _ h => h) (Or.inl ⟨by rfl, ?_⟩) ?_
    rotate_left
    ·intro w
     go_simp
     try with_reducible rfl
    simp only [Act.put, z1, z2, z3, z4, z5, z6]
    refine tkA (i := 6) (v := ?_) rfl (by kernel_rfl) (fun _ _ _ h => h) (Or.inl ⟨by rfl, ?_⟩) ?_
    rotate_left
    ·intro w
     go_simp
     try with_reducible rfl
    simp only [Act.put, z1, z2, z3, z4, z5, z6]
    refine wpAny_ready (rs := [8, 15]) (by kernel_rfl) (by simp) ?_
    refine AllReady.cons rfl (fun Kc hKc => ?_) (AllReady.cons rfl (fun Kc hKc => ?_) AllReady.nil)
    ·have HKc := Lib.hid hKc
     clear hKc
     go_simp
     refine HKc.out _ _ ?_
     clear HKc Kc
     refine tkA (i := 9) (v := ?_) rfl (by kernel_rfl) (fun _ _ _ h => h) (Or.inl ⟨by rfl, ?_⟩) ?_
     rotate_left
     ·intro w
      go_simp
      try with_reducible rfl
     simp only [Act.put, z1, z2, z3, z4, z5, z6]
     refine tkA (i := 14) (v := ?_) rfl (by kernel_rfl) (fun _ _ _ h => h) (Or.inl ⟨by rfl, ?_⟩) ?_
     rotate_left
     ·intro w
      go_simp
      try with_reducible rfl
     simp only [Act.put, z1, z2, z3, z4, z5, z6]
     refine wpAny_ready (rs := [15]) (by kernel_rfl) (by simp) ?_
     refine AllReady.cons rfl (fun Kc hKc => ?_) AllReady.nil
     have HKc := Lib.hid hKc
     clear hKc
     first | refine wp_store_row 64 _ _ rfl (w.heap.size + 1) #[.int .i64 (IntKind.i64.wrap ((m : Int) - 1)), .int .u64 (IntKind.u64.wrap (2 * (i : Int)))] rfl rfl 64 _ hy3 (by kernel_rfl) rfl (by simp [Value.oneCell']) ?_ | refine wp_store_row 64 _ _ rfl (w.heap.size + 1 + 1) #[.int .i64 (IntKind.i64.wrap ((m : Int) - 1)), .int .u64 (IntKind.u64.wrap (IntKind.u64.wrap (2 * (i : Int)) + 1))] rfl rfl 64 _ z4 (by kernel_rfl) rfl (by simp [Value.oneCell']) ?_
     refine HKc.out _ _ ?_
     clear HKc Kc
     refine wpAny_ready (rs := [16]) (by kernel_rfl) (by simp) ?_
     refine AllReady.cons rfl (fun Kc hKc => ?_) AllReady.nil
     have HKc := Lib.hid hKc
     clear hKc
     first | refine wp_store_row 64 _ _ rfl (w.heap.size + 1) #[.int .i64 (IntKind.i64.wrap ((m : Int) - 1)), .int .u64 (IntKind.u64.wrap (2 * (i : Int)))] rfl rfl 64 _ hy3 (by kernel_rfl) rfl (by simp [Value.oneCell']) ?_ | refine wp_store_row 64 _ _ rfl (w.heap.size + 1 + 1) #[.int .i64 (IntKind.i64.wrap ((m : Int) - 1)), .int .u64 (IntKind.u64.wrap (IntKind.u64.wrap (2 * (i : Int)) + 1))] rfl rfl 64 _ z4 (by kernel_rfl) rfl (by simp [Value.oneCell']) ?_
     refine HKc.out _ _ ?_
     clear HKc Kc
     refine wpAny_ready (rs := [17]) (by kernel_rfl) (by simp) ?_
     refine AllReady.cons rfl (fun Kc hKc => ?_) AllReady.nil
     have HKc := Lib.hid hKc
     clear hKc
     go_simp
     refine HKc.out _ _ ?_
     clear HKc Kc
     refine wpAny_done (by kernel_rfl) ?_ _
     go_wp2_with fail
     refine bodyPost_ret (results_row2_tmp rfl _ _ (w.heap.size + 1) (w.heap.size + 1 + 1) 64 64 _ _ (0, 0) (0, 0) _ rfl rfl HY5.out HZ5.out Tryz.underlying64 rfl (by kernel_rfl) (by kernel_rfl)) rfl ?_
     exact ⟨by rw [HM1.out.1, HI2.out.1, HI2.out.2]; rfl, HB5.out⟩
    ·have HKc := Lib.hid hKc
     clear hKc
     first | refine wp_store_row 64 _ _ rfl (w.heap.size + 1) #[.int .i64 (IntKind.i64.wrap ((m : Int) - 1)), .int .u64 (IntKind.u64.wrap (2 * (i : Int)))] rfl rfl 64 _ hy3 (by kernel_rfl) rfl (by simp [Value.oneCell']) ?_ | refine wp_store_row 64 _ _ rfl (w.heap.size + 1 + 1) #[.int .i64 (IntKind.i64.wrap ((m : Int) - 1)), .int .u64 (IntKind.u64.wrap (IntKind.u64.wrap (2 * (i : Int)) + 1))] rfl rfl 64 _ z4 (by kernel_rfl) rfl (by simp [Value.oneCell']) ?_
     refine HKc.out _ _ ?_
     clear HKc Kc
     refine wpAny_ready (rs := [8]) (by kernel_rfl) (by simp) ?_
     refine AllReady.cons rfl (fun Kc hKc => ?_) AllReady.nil
     have HKc := Lib.hid hKc
     clear hKc
     go_simp
     refine HKc.out _ _ ?_
     clear HKc Kc
     refine wpAny_ready (rs := [9]) (by kernel_rfl) (by simp) ?_
     refine AllReady.cons rfl (fun Kc hKc => ?_) AllReady.nil
     have HKc := Lib.hid hKc
     clear hKc
     go_simp
     refine HKc.out _ _ ?_
     clear HKc Kc
     refine wpAny_ready (rs := [14]) (by kernel_rfl) (by simp) ?_
     refine AllReady.cons rfl (fun Kc hKc => ?_) AllReady.nil
     have HKc := Lib.hid hKc
     clear hKc
     go_simp
     refine HKc.out _ _ ?_
     clear HKc Kc
     refine wpAny_ready (rs := [16]) (by kernel_rfl) (by simp) ?_
     refine AllReady.cons rfl (fun Kc hKc => ?_) AllReady.nil
     have HKc := Lib.hid hKc
     clear hKc
     first | refine wp_store_row 64 _ _ rfl (w.heap.size + 1) #[.int .i64 (IntKind.i64.wrap ((m : Int) - 1)), .int .u64 (IntKind.u64.wrap (2 * (i : Int)))] rfl rfl 64 _ hy3 (by kernel_rfl) rfl (by simp [Value.oneCell']) ?_ | refine wp_store_row 64 _ _ rfl (w.heap.size + 1 + 1) #[.int .i64 (IntKind.i64.wrap ((m : Int) - 1)), .int .u64 (IntKind.u64.wrap (IntKind.u64.wrap (2 * (i : Int)) + 1))] rfl rfl 64 _ z4 (by kernel_rfl) rfl (by simp [Value.oneCell']) ?_
     refine HKc.out _ _ ?_
     clear HKc Kc
     refine wpAny_ready (rs := [17]) (by kernel_rfl) (by simp) ?_
     refine AllReady.cons rfl (fun Kc hKc => ?_) AllReady.nil
     have HKc := Lib.hid hKc
     clear hKc
     go_simp
     refine HKc.out _ _ ?_
     clear HKc Kc
     refine wpAny_done (by kernel_rfl) ?_ _
     go_wp2_with fail
     refine bodyPost_ret (results_row2_tmp rfl _ _ (w.heap.size + 1) (w.heap.size + 1 + 1) 64 64 _ _ (0, 0) (0, 0) _ rfl rfl HY5.out HZ5.out Tryz.underlying64 rfl (by kernel_rfl) (by kernel_rfl)) rfl ?_
     exact ⟨by rw [HM1.out.1, HI2.out.1, HI2.out.2]; rfl, HB5.out⟩
   ·have HKc := Lib.hid hKc
    clear hKc
    go_simp
    refine HKc.out _ _ ?_
    clear HKc Kc
    refine tkA (i := 9) (v := ?_) rfl (by kernel_rfl) (fun _ _ _ h => h) (Or.inl ⟨by rfl, ?_⟩) ?_
    rotate_left
    ·intro w
     go_simp
     try with_reducible rfl
    simp only [Act.put, z1, z2, z3, z4, z5, z6]
    refine tkA (i := 14) (v := ?_) rfl (by kernel_rfl) (fun _ _ _ h => h) (Or.inl ⟨by rfl, ?_⟩) ?_
    rotate_left
    ·intro w
     go_simp
     try with_reducible rfl
    simp only [Act.put, z1, z2, z3, z4, z5, z6]
    refine wpAny_ready (rs := [1]) (by kernel_rfl) (by simp) ?_
    refine AllReady.cons rfl (fun Kc hKc => ?_) AllReady.nil
    have HKc := Lib.hid hKc
    clear hKc
    go_simp
    refine HKc.out _ _ ?_
    clear HKc Kc
    refine wpAny_ready (rs := [2]) (by kernel_rfl) (by simp) ?_
    refine AllReady.cons rfl (fun Kc hKc => ?_) AllReady.nil
    have HKc := Lib.hid hKc
    clear hKc
    go_simp
    refine HKc.out _ _ ?_
    clear HKc Kc
    refine wpAny_ready (rs := [6]) (by kernel_rfl) (by simp) ?_
    refine AllReady.cons rfl (fun Kc hKc => ?_) AllReady.nil
    have HKc := Lib.hid hKc
    clear hKc
    go_simp
    refine HKc.out _ _ ?_
    clear HKc Kc
    refine wpAny_ready (rs := [15]) (by kernel_rfl) (by simp) ?_
    refine AllReady.cons rfl (fun Kc hKc => ?_) AllReady.nil
    have HKc := Lib.hid hKc
    clear hKc
    first | refine wp_store_row 64 _ _ rfl (w.heap.size + 1) #[.int .i64 (IntKind.i64.wrap ((m : Int) - 1)), .int .u64 (IntKind.u64.wrap (2 * (i : Int)))] rfl rfl 64 _ hy3 (by kernel_rfl) rfl (by simp [Value.oneCell']) ?_ | refine wp_store_row 64 _ _ rfl (w.heap.size + 1 + 1) #[.int .i64 (IntKind.i64.wrap ((m : Int) - 1)), .int .u64 (IntKind.u64.wrap (IntKind.u64.wrap (2 * (i : Int)) + 1))] rfl rfl 64 _ z4 (by kernel_rfl) rfl (by simp [Value.oneCell']) ?_
    refine HKc.out _ _ ?_
    clear HKc Kc
    refine wpAny_ready (rs := [16]) (by kernel_rfl) (by simp) ?_
    refine AllReady.cons rfl (fun Kc hKc => ?_) AllReady.nil
    have HKc := Lib.hid hKc
    clear hKc
    first | refine wp_store_row 64 _ _ rfl (w.heap.size + 1) #[.int .i64 (IntKind.i64.wrap ((m : Int) - 1)), .int .u64 (IntKind.u64.wrap (2 * (i : Int)))] rfl rfl 64 _ hy3 (by kernel_rfl) rfl (by simp [Value.oneCell']) ?_ | refine wp_store_row 64 _ _ rfl (w.heap.size + 1 + 1) #[.int .i64 (IntKind.i64.wrap ((m : Int) - 1)), .int .u64 (IntKind.u64.wrap (IntKind.u64.wrap (2 * (i : Int)) + 1))] rfl rfl 64 _ z4 (by kernel_rfl) rfl (by simp [Value.oneCell']) ?_
    refine HKc.out _ _ ?_
    clear HKc Kc
    refine wpAny_ready (rs := [17]) (by kernel_rfl) (by simp) ?_
    refine AllReady.cons rfl (fun Kc hKc => ?_) AllReady.nil
    have HKc := Lib.hid hKc
    clear hKc
    go_simp
    refine HKc.out _ _ ?_
    clear HKc Kc
    refine wpAny_done (by kernel_rfl) ?_ _
    go_wp2_with fail
    refine bodyPost_ret (results_row2_tmp rfl _ _ (w.heap.size + 1) (w.heap.size + 1 + 1) 64 64 _ _ (0, 0) (0, 0) _ rfl rfl HY5.out HZ5.out Tryz.underlying64 rfl (by kernel_rfl) (by kernel_rfl)) rfl ?_
    exact ⟨by rw [HM1.out.1, HI2.out.1, HI2.out.2]; rfl, HB5.out⟩
  ·have HKc := Lib.hid hKc
   clear hKc
   go_simp
   refine HKc.out _ _ ?_
   clear HKc Kc
   refine tkA (i := 9) (v := ?_) rfl (by kernel_rfl) (fun _ _ _ h => h) (Or.inl ⟨by rfl, ?_⟩) ?_
   rotate_left
   ·intro w
    go_simp
    try with_reducible rfl
   simp only [Act.put, z1, z2, z3, z4, z5, z6]
   refine tkA (i := 14) (v := ?_) rfl (by kernel_rfl) (fun _ _ _ h => h) (Or.inl ⟨by rfl, ?_⟩) ?_
   rotate_left
   ·intro w
    go_simp
    try with_reducible rfl
   simp only [Act.put, z1, z2, z3, z4, z5, z6]
   refine wpAny_ready (rs := [1, 4]) (by kernel_rfl) (by simp) ?_
   refine AllReady.cons rfl (fun Kc hKc => ?_) (AllReady.cons rfl (fun Kc hKc => ?_) AllReady.nil)
   ·have HKc := Lib.hid hKc
    clear hKc
    go_simp
    refine HKc.out _ _ ?_
    clear HKc Kc
    refine tkA (i := 2) (v := ?_) rfl (by kernel_rfl) (fun _ _ _ h => h) (Or.inl ⟨by rfl, ?_⟩) ?_
    rotate_left
    ·intro w
     go_simp
     try with_reducible rfl
    simp only [Act.put, z1, z2, z3, z4, z5, z6]
    refine wpAny_ready (rs := [4]) (by kernel_rfl) (by simp) ?_
    refine AllReady.cons rfl (fun Kc hKc => ?_) AllReady.nil
    have HKc := Lib.hid hKc
    clear hKc
    go_simp
    refine HKc.out _ _ ?_
    clear HKc Kc
    refine wpAny_ready (rs := [5]) (by kernel_rfl) (by simp) ?_
    refine AllReady.cons rfl (fun Kc hKc => ?_) AllReady.nil
    have HKc := Lib.hid hKc
    clear hKc
    go_simp
    refine HKc.out _ _ ?_
    clear HKc Kc
    refine wpAny_ready (rs := [6]) (by kernel_rfl) (by simp) ?_
    refine AllReady.cons rfl (fun Kc hKc => ?_) AllReady.nil
    have HKc := Lib.hid hKc
    clear hKc
    go_simp
    refine HKc.out _ _ ?_
    clear HKc Kc
    refine wpAny_ready (rs := [15]) (by kernel_rfl) (by simp) ?_
    refine AllReady.cons rfl (fun Kc hKc => ?_) AllReady.nil
    have HKc := Lib.hid hKc
    clear hKc
    first | refine wp_store_row 64 _ _ rfl (w.heap.size + 1) #[.int .i64 (IntKind.i64.wrap ((m : Int) - 1)), .int .u64 (IntKind.u64.wrap (2 * (i : Int)))] rfl rfl 64 _ hy3 (by kernel_rfl) rfl (by simp [Value.oneCell']) ?_ | refine wp_store_row 64 _ _ rfl (w.heap.size + 1 + 1) #[.int .i64 (IntKind.i64.wrap ((m : Int) - 1)), .int .u64 (IntKind.u64.wrap (IntKind.u64.wrap (2 * (i : Int)) + 1))] rfl rfl 64 _ z4 (by kernel_rfl) rfl (by simp [Value.oneCell']) ?_
    refine HKc.out _ _ ?_
    clear HKc Kc
    refine wpAny_ready (rs := [16]) (by kernel_rfl) (by simp) ?_
    refine AllReady.cons rfl (fun Kc hKc => ?_) AllReady.nil
    have HKc := Lib.hid hKc
    clear hKc
    first | refine wp_store_row 64 _ _ rfl (w.heap.size + 1) #[.int .i64 (IntKind.i64.wrap ((m : Int) - 1)), .int .u64 (IntKind.u64.wrap (2 * (i : Int)))] rfl rfl 64 _ hy3 (by kernel_rfl) rfl (by simp [Value.oneCell']) ?_ | refine wp_store_row 64 _ _ rfl (w.heap.size + 1 + 1) #[.int .i64 (IntKind.i64.wrap ((m : Int) - 1)), .int .u64 (IntKind.u64.wrap (IntKind.u64.wrap (2 * (i : Int)) + 1))] rfl rfl 64 _ z4 (by kernel_rfl) rfl (by simp [Value.oneCell']) ?_
    refine HKc.out _ _ ?_
    clear HKc Kc
    refine wpAny_ready (rs := [17]) (by kernel_rfl) (by simp) ?_
    refine AllReady.cons rfl (fun Kc hKc => ?_) AllReady.nil
    have HKc := Lib.hid hKc
    clear hKc
    go_simp
    refine HKc.out _ _ ?_
    clear HKc Kc
    refine wpAny_done (by kernel_rfl) ?_ _
    go_wp2_with fail
    refine bodyPost_ret (results_row2_tmp rfl _ _ (w.heap.size + 1) (w.heap.size + 1 + 1) 64 64 _ _ (0, 0) (0, 0) _ rfl rfl HY5.out HZ5.out Tryz.underlying64 rfl (by kernel_rfl) (by kernel_rfl)) rfl ?_
    exact ⟨by rw [HM1.out.1, HI2.out.1, HI2.out.2]; rfl, HB5.out⟩
   ·have HKc := Lib.hid hKc
    clear hKc
    go_simp
    refine HKc.out _ _ ?_
    clear HKc Kc
    refine tkA (i := 5) (v := ?_) rfl (by kernel_rfl) (fun _ _ _ h => h) (Or.inl ⟨by rfl, ?_⟩) ?_
    rotate_left
    ·intro w
     go_simp
     try with_reducible rfl
    simp only [Act.put, z1, z2, z3, z4, z5, z6]
    refine wpAny_ready (rs := [1]) (by kernel_rfl) (by simp) ?_
    refine AllReady.cons rfl (fun Kc hKc => ?_) AllReady.nil
    have HKc := Lib.hid hKc
    clear hKc
    go_simp
    refine HKc.out _ _ ?_
    clear HKc Kc
    refine wpAny_ready (rs := [2]) (by kernel_rfl) (by simp) ?_
    refine AllReady.cons rfl (fun Kc hKc => ?_) AllReady.nil
    have HKc := Lib.hid hKc
    clear hKc
    go_simp
    refine HKc.out _ _ ?_
    clear HKc Kc
    refine wpAny_ready (rs := [6]) (by kernel_rfl) (by simp) ?_
    refine AllReady.cons rfl (fun Kc hKc => ?_) AllReady.nil
    have HKc := Lib.hid hKc
    clear hKc
    go_simp
    refine HKc.out _ _ ?_
    clear HKc Kc
    refine wpAny_ready (rs := [15]) (by kernel_rfl) (by simp) ?_
    refine AllReady.cons rfl (fun Kc hKc => ?_) AllReady.nil
    have HKc := Lib.hid hKc
    clear hKc
    first | refine wp_store_row 64 _ _ rfl (w.heap.size + 1) #[.int .i64 (IntKind.i64.wrap ((m : Int) - 1)), .int .u64 (IntKind.u64.wrap (2 * (i : Int)))] rfl rfl 64 _ hy3 (by kernel_rfl) rfl (by simp [Value.oneCell']) ?_ | refine wp_store_row 64 _ _ rfl (w.heap.size + 1 + 1) #[.int .i64 (IntKind.i64.wrap ((m : Int) - 1)), .int .u64 (IntKind.u64.wrap (IntKind.u64.wrap (2 * (i : Int)) + 1))] rfl rfl 64 _ z4 (by kernel_rfl) rfl (by simp [Value.oneCell']) ?_
    refine HKc.out _ _ ?_
    clear HKc Kc
    refine wpAny_ready (rs := [16]) (by kernel_rfl) (by simp) ?_
    refine AllReady.cons rfl (fun Kc hKc => ?_) AllReady.nil
    have HKc := Lib.hid hKc
    clear hKc
    first | refine wp_store_row 64 _ _ rfl (w.heap.size + 1) #[.int .i64 (IntKind.i64.wrap ((m : Int) - 1)), .int .u64 (IntKind.u64.wrap (2 * (i : Int)))] rfl rfl 64 _ hy3 (by kernel_rfl) rfl (by simp [Value.oneCell']) ?_ | refine wp_store_row 64 _ _ rfl (w.heap.size + 1 + 1) #[.int .i64 (IntKind.i64.wrap ((m : Int) - 1)), .int .u64 (IntKind.u64.wrap (IntKind.u64.wrap (2 * (i : Int)) + 1))] rfl rfl 64 _ z4 (by kernel_rfl) rfl (by simp [Value.oneCell']) ?_
    refine HKc.out _ _ ?_
    clear HKc Kc
    refine wpAny_ready (rs := [17]) (by kernel_rfl) (by simp) ?_
    refine AllReady.cons rfl (fun Kc hKc => ?_) AllReady.nil
    have HKc := Lib.hid hKc
    clear hKc
    go_simp
    refine HKc.out _ _ ?_
    clear HKc Kc
    refine wpAny_done (by kernel_rfl) ?_ _
    go_wp2_with fail
    refine bodyPost_ret (results_row2_tmp rfl _ _ (w.heap.size + 1) (w.heap.size + 1 + 1) 64 64 _ _ (0, 0) (0, 0) _ rfl rfl HY5.out HZ5.out Tryz.underlying64 rfl (by kernel_rfl) (by kernel_rfl)) rfl ?_
    exact ⟨by rw [HM1.out.1, HI2.out.1, HI2.out.2]; rfl, HB5.out⟩
end Go.Proofs.YthbkljeibmkimaaGreat


namespace Go.Proofs.YthbkljeibmkimaaGreat
open Go.RowKit
set_option linter.unusedVariables false
set_option linter.unusedSimpArgs false

def toldR (pt : Nat → Nat → Int) (least : Int) (n : Nat) (row : List Nat) : List Nat := row.filter fun i => decide (least ≤ pt n i)
def kids (l : List Nat) : List Nat := l.flatMap fun i => [2 * i, 2 * i + 1]
def rowAt (pt : Nat → Nat → Int) (least : Int) (b : Nat) : Nat → List Nat
  | 0 => [0]
  | j + 1 => kids (toldR pt least (b - j) (rowAt pt least b j))
def askedUp (pt : Nat → Nat → Int) (least : Int) (b : Nat) : Nat → Nat
  | 0 => 0
  | j + 1 => askedUp pt least b j + (rowAt pt least b j).length
def foundR (pt : Nat → Nat → Int) (least : Int) (n : Nat) (row : List Nat) : List (Nat × Nat) := (toldR pt least n row).map fun i => (n, i)
def hvOut (pt : Nat → Nat → Int) (least : Int) (b : Nat) : Nat → List (Nat × Nat)
  | 0 => []
  | j + 1 => hvOut pt least b j ++ foundR pt least (b - j) (rowAt pt least b j)
theorem kids_len (l : List Nat) : (kids l).length = 2 * l.length := by
  induction l with
  | nil => rfl
  | cons a l ih => simp [kids] at ih ⊢; omega
theorem toldR_le (pt : Nat → Nat → Int) (least : Int) (n : Nat) (row : List Nat) : (toldR pt least n row).length ≤ row.length := List.length_filter_le _ _
theorem mem_kids {l : List Nat} {i : Nat} : i ∈ kids l ↔ i / 2 ∈ l := by
  unfold kids
  rw [List.mem_flatMap]
  constructor
  · rintro ⟨a, ha, h⟩
    simp at h
    rcases h with rfl | rfl
    · rwa [show 2 * a / 2 = a by omega]
    · rwa [show (2 * a + 1) / 2 = a by omega]
  · intro h
    refine ⟨i / 2, h, ?_⟩
    simp
    omega
theorem rowAt_lt (pt : Nat → Nat → Int) (least : Int) (b : Nat) : ∀ (j i : Nat), i ∈ rowAt pt least b j → i < 2 ^ j
  | 0, i, h => by simp [rowAt] at h; subst h; decide
  | j + 1, i, h => by
    rw [rowAt, mem_kids] at h
    have h2 := rowAt_lt pt least b j (i / 2) (List.mem_filter.1 h).1
    rw [Nat.pow_succ]
    omega
theorem askedUp_mono (pt : Nat → Nat → Int) (least : Int) (b : Nat) {j k : Nat} (h : j ≤ k) : askedUp pt least b j ≤ askedUp pt least b k := by
  induction h with
  | refl => exact Nat.le_refl _
  | step _ ih => exact Nat.le_trans ih (by rw [askedUp]; omega)
theorem hvOut_len (pt : Nat → Nat → Int) (least : Int) (b : Nat) : ∀ j, (hvOut pt least b j).length ≤ askedUp pt least b j
  | 0 => Nat.le_refl _
  | j + 1 => by
    rw [hvOut, askedUp, List.length_append, foundR, List.length_map]
    have := hvOut_len pt least b j
    have := toldR_le pt least (b - j) (rowAt pt least b j)
    omega
end Go.Proofs.YthbkljeibmkimaaGreat


namespace Go.Proofs.YthbkljeibmkimaaGreat
open Go.RowKit
set_option linter.unusedVariables false
set_option linter.unusedSimpArgs false

def pcCells (n : Nat) (l : List Nat) : List Value := l.flatMap fun (i : Nat) => [.int .i64 (n : Int), .int .u64 (i : Int)]
def fdCells (pt : Nat → Nat → Int) (l : List (Nat × Nat)) : List Value := l.flatMap fun p => [.int .i64 (p.1 : Int), .int .u64 (p.2 : Int), .int .i64 (pt p.1 p.2)]
theorem pcCells_get {n : Nat} : ∀ {l : List Nat} {t i : Nat}, l[t]? = some i → (pcCells n l)[2 * t]? = some (.int .i64 (n : Int)) ∧ (pcCells n l)[2 * t + 1]? = some (.int .u64 (i : Int))
  | [], t, i, h => by simp at h
  | a :: l, 0, i, h => by simp at h; subst h; simp [pcCells]
  | a :: l, t + 1, i, h => by
    have := pcCells_get (n := n) (l := l) (t := t) (i := i) (by simpa using h)
    rw [show 2 * (t + 1) = 2 * t + 2 by omega, show 2 * t + 2 + 1 = 2 * t + 1 + 2 by omega]
    have e : pcCells n (a :: l) = [.int .i64 (n : Int), .int .u64 (a : Int)] ++ pcCells n l := by simp [pcCells]
    rw [e, List.getElem?_append_right (by simp), List.getElem?_append_right (by simp)]
    simpa using this
theorem fdCells_get {pt : Nat → Nat → Int} : ∀ {l : List (Nat × Nat)} {t : Nat} {p : Nat × Nat}, l[t]? = some p → (fdCells pt l)[3 * t]? = some (.int .i64 (p.1 : Int)) ∧ (fdCells pt l)[3 * t + 1]? = some (.int .u64 (p.2 : Int)) ∧ (fdCells pt l)[3 * t + 2]? = some (.int .i64 (pt p.1 p.2))
  | [], t, p, h => by simp at h
  | a :: l, 0, p, h => by simp at h; subst h; simp [fdCells]
  | a :: l, t + 1, p, h => by
    have := fdCells_get (pt := pt) (l := l) (t := t) (p := p) (by simpa using h)
    rw [show 3 * (t + 1) = 3 * t + 3 by omega, show 3 * t + 3 + 1 = 3 * t + 1 + 3 by omega, show 3 * t + 3 + 2 = 3 * t + 2 + 3 by omega]
    have e : fdCells pt (a :: l) = [.int .i64 (a.1 : Int), .int .u64 (a.2 : Int), .int .i64 (pt a.1 a.2)] ++ fdCells pt l := by simp [fdCells]
    rw [e, List.getElem?_append_right (by simp), List.getElem?_append_right (by simp), List.getElem?_append_right (by simp)]
    simpa using this
def PcOwn (w : World) (base : Nat) (v : Value) (n : Nat) (l : List Nat) : Prop := w.ownsRow base 64 2 v l.length (pcCells n l)
def FdOwn (w : World) (base : Nat) (v : Value) (pt : Nat → Nat → Int) (l : List (Nat × Nat)) : Prop := w.ownsRow base 66 3 v l.length (fdCells pt l)
theorem own_cells {w : World} {base : Nat} {e : TypeId} {size : Nat} {v : Value} {n : Nat} {xs : List Value} (h : w.ownsRow base e size v n xs) (h0 : 0 < n) : ∃ g cap, v = .slice (some ⟨g, 0, none⟩) n cap ∧ base ≤ g ∧ g < w.heap.size ∧ n ≤ cap ∧ cap ≤ maxLen ∧ ∀ (j : Nat) (u : Value), xs[j]? = some u → w.cell? ⟨g, j, none⟩ = some u := by
  have hlt := h.lt
  have hc := fun (g : Nat) hg => h.cells (g := g) hg
  rcases h.2 with ⟨-, h1⟩ | ⟨g, cap, cur, rfl, hb, hg, hn, hm, hs, ht⟩
  · omega
  · refine ⟨g, cap, rfl, hb, (hlt g rfl).2, hn, hm, fun j u hu => ?_⟩
    have := hc g rfl j u hu
    rwa [Addr.add_mid, Nat.zero_add] at this
theorem own_mono {w : World} {base base' : Nat} {e : TypeId} {size : Nat} {v : Value} {n : Nat} {xs : List Value} (h : w.ownsRow base e size v n xs) (hb : base' ≤ base) : w.ownsRow base' e size v n xs :=
  ⟨h.1, h.2.imp id fun ⟨g, cap, cur, h1, h2, h3⟩ => ⟨g, cap, cur, h1, Nat.le_trans hb h2, h3⟩⟩
theorem own_open {w : World} {base : Nat} {e : TypeId} {size : Nat} {v : Value} {n : Nat} {xs : List Value} (h : w.ownsRow base e size v n xs) : ∃ ao cap, v = .slice ao n cap ∧ n ≤ cap ∧ cap ≤ maxLen := by
  rcases h.2 with ⟨rfl, rfl⟩ | ⟨g, cap, cur, h1, h2, h3, h4, h5, -⟩
  · exact ⟨none, 0, rfl, Nat.le_refl _, by unfold maxLen; omega⟩
  · exact ⟨_, cap, h1, h4, h5⟩
theorem PcOwn.range {w : World} {base : Nat} {v : Value} {n : Nat} {l : List Nat} (h : PcOwn w base v n l) {t i : Nat} (ht : l[t]? = some i) : ∃ g cap, v = .slice (some ⟨g, 0, none⟩) l.length cap ∧ base ≤ g ∧ g < w.heap.size ∧ l.length ≤ cap ∧ cap ≤ maxLen ∧ w.rangeAt g (t * 2) [.int .i64 (n : Int), .int .u64 (i : Int)] := by
  have hl : t < l.length := (List.getElem?_eq_some_iff.1 ht).1
  obtain ⟨g, cap, h1, h2, h3, h4, h5, h6⟩ := own_cells h (by omega)
  obtain ⟨g0, g1⟩ := pcCells_get (n := n) ht
  rw [Nat.mul_comm 2 t] at g0 g1
  refine ⟨g, cap, h1, h2, h3, h4, h5, fun j u hu => ?_⟩
  match j, hu with
  | 0, hu => simp at hu; subst hu; simpa using h6 _ _ g0
  | 1, hu => simp at hu; subst hu; exact h6 _ _ g1
  | j + 2, hu => simp at hu
theorem FdOwn.range {w : World} {base : Nat} {v : Value} {pt : Nat → Nat → Int} {l : List (Nat × Nat)} (h : FdOwn w base v pt l) {t : Nat} {p : Nat × Nat} (ht : l[t]? = some p) : ∃ g cap, v = .slice (some ⟨g, 0, none⟩) l.length cap ∧ base ≤ g ∧ g < w.heap.size ∧ l.length ≤ cap ∧ cap ≤ maxLen ∧ w.rangeAt g (t * 3) [.int .i64 (p.1 : Int), .int .u64 (p.2 : Int), .int .i64 (pt p.1 p.2)] := by
  have hl : t < l.length := (List.getElem?_eq_some_iff.1 ht).1
  obtain ⟨g, cap, h1, h2, h3, h4, h5, h6⟩ := own_cells h (by omega)
  obtain ⟨g0, g1, g2⟩ := fdCells_get (pt := pt) ht
  rw [Nat.mul_comm 3 t] at g0 g1 g2
  refine ⟨g, cap, h1, h2, h3, h4, h5, fun j u hu => ?_⟩
  match j, hu with
  | 0, hu => simp at hu; subst hu; simpa using h6 _ _ g0
  | 1, hu => simp at hu; subst hu; exact h6 _ _ g1
  | 2, hu => simp at hu; subst hu; exact h6 _ _ g2
  | j + 3, hu => simp at hu
theorem own_kept {w w' : World} {base : Nat} {e : TypeId} {size : Nat} {v : Value} {n : Nat} {xs : List Value} (h : w.ownsRow base e size v n xs) (hb : Below w.heap.size w w') : w'.ownsRow base e size v n xs :=
  World.ownsRow.kept h (row := none) ⟨hb.os, hb.tape, hb.output, hb.size, fun k hk _ => hb.block k hk⟩ (by cases v.ownBlock <;> simp)
theorem PcOwn.kept {w w' : World} {base : Nat} {v : Value} {n : Nat} {l : List Nat} (h : PcOwn w base v n l) (hb : Below w.heap.size w w') : PcOwn w' base v n l := own_kept h hb
theorem FdOwn.kept {w w' : World} {base : Nat} {v : Value} {pt : Nat → Nat → Int} {l : List (Nat × Nat)} (h : FdOwn w base v pt l) (hb : Below w.heap.size w w') : FdOwn w' base v pt l := own_kept h hb
theorem own_gr {w w' : World} {base : Nat} {e : TypeId} {size : Nat} {v : Value} {n : Nat} {xs : List Value} (h : w.ownsRow base e size v n xs) {row : Option Nat} (hg : w.grownBy w' row) (hne : ∀ k, v.ownBlock = some k → row ≠ some k) : w'.ownsRow base e size v n xs :=
  World.ownsRow.kept h hg (by
    cases hv : v.ownBlock with
    | none => exact .inl rfl
    | some k => exact .inr (fun e => hne k hv e.symm))
theorem pcCells_append (n : Nat) (l m : List Nat) : pcCells n (l ++ m) = pcCells n l ++ pcCells n m := by simp [pcCells]
theorem fdCells_append (pt : Nat → Nat → Int) (l m : List (Nat × Nat)) : fdCells pt (l ++ m) = fdCells pt l ++ fdCells pt m := by simp [fdCells]
theorem toldR_snoc {pt : Nat → Nat → Int} {least : Int} {n : Nat} {l : List Nat} {t x : Nat} (h : l[t]? = some x) : toldR pt least n (l.take (t + 1)) = toldR pt least n (l.take t) ++ (if least ≤ pt n x then [x] else []) := by
  rw [List.take_add_one, h, toldR, List.filter_append]
  unfold toldR
  congr 1
  simp [List.filter]
  split <;> split <;> simp_all
theorem foundR_snoc {pt : Nat → Nat → Int} {least : Int} {n : Nat} {l : List Nat} {t x : Nat} (h : l[t]? = some x) : foundR pt least n (l.take (t + 1)) = foundR pt least n (l.take t) ++ (if least ≤ pt n x then [(n, x)] else []) := by
  unfold foundR
  rw [toldR_snoc h, List.map_append]
  congr 1
  split <;> rfl
theorem kids_snoc {pt : Nat → Nat → Int} {least : Int} {n : Nat} {l : List Nat} {t x : Nat} (h : l[t]? = some x) : kids (toldR pt least n (l.take (t + 1))) = kids (toldR pt least n (l.take t)) ++ (if least ≤ pt n x then [2 * x, 2 * x + 1] else []) := by
  rw [toldR_snoc h]
  unfold kids
  rw [List.flatMap_append]
  congr 1
  split <;> simp
theorem cells_new {w : World} {cs : Array Value} {t : TypeId} (vs : List Value) (hv : vs = cs.toList) : ∀ (j : Nat) (u : Value), vs[j]? = some u → (w.alloc (.cells cs t)).cell? ((⟨w.heap.size, 0, none⟩ : Addr).add j) = some u := fun j u hu => by
  subst hv
  rw [Addr.add_mid, Nat.zero_add, (Blk.new w t cs).cell j]
  simpa using hu
theorem cells_new' {w : World} {cs : Array Value} {t : TypeId} {b : Nat} (vs : List Value) (hv : vs = cs.toList) (hb : b = w.heap.size) : ∀ (j : Nat) (u : Value), vs[j]? = some u → (w.alloc (.cells cs t)).cell? ((⟨b, 0, none⟩ : Addr).add j) = some u := by
  subst hb
  exact cells_new vs hv
theorem own_far {w : World} {base : Nat} {e t : TypeId} {size : Nat} {v : Value} {n : Nat} {xs : List Value} {b : Nat} {cs : Array Value} (h : w.ownsRow base e size v n xs) (hb : Blk w b t cs) (hne : t ≠ e) : some b ≠ v.ownBlock := by
  intro e1
  rcases h.2 with ⟨rfl, _⟩ | ⟨g, cap, cur, rfl, _, hg, _⟩
  · simp [Value.ownBlock] at e1
  · simp only [Value.ownBlock] at e1
    have e2 : b = g := Option.some.inj e1
    subst e2
    have : Obj.cells cs t (0, 0) = Obj.cells cur e (0, 0) := Option.some.inj ((show w.heap[b]? = some (.cells cs t (0, 0)) from hb).symm.trans hg)
    injection this with h1 h2
    exact hne h2
theorem FdOwn.push {w : World} {base : Nat} {v : Value} {pt : Nat → Nat → Int} {l l' : List (Nat × Nat)} {n x N : Nat} (hl : l' = l ++ [(n, x)]) (hN : N = l.length) (h : w.ownsRow base 66 3 v (N + 1) (fdCells pt l ++ [.int .i64 (n : Int), .int .u64 (x : Int), .int .i64 (pt n x)])) : FdOwn w base v pt l' := by
  subst hl hN
  unfold FdOwn
  rw [fdCells_append, List.length_append]
  exact h
theorem PcOwn.push2 {w : World} {base : Nat} {v : Value} {n : Nat} {l l' : List Nat} {x y N : Nat} (hl : l' = l ++ [x, y]) (hN : N = l.length) (h : w.ownsRow base 64 2 v (N + 2) (pcCells n l ++ [.int .i64 (n : Int), .int .u64 (x : Int), .int .i64 (n : Int), .int .u64 (y : Int)])) : PcOwn w base v n l' := by
  subst hl hN
  unfold PcOwn
  rw [pcCells_append, List.length_append]
  exact h
theorem Tryz.infoFd : (Tryz.prog.info? 66).map (fun i => (i.zero, i.size, i.bytes)) = some (some (.agg #[.int .i64 0, .int .u64 0, .int .i64 0]), 3, 24) := by kernel_rfl
theorem Tryz.infoPc : (Tryz.prog.info? 64).map (fun i => (i.zero, i.size, i.bytes)) = some (some (.agg #[.int .i64 0, .int .u64 0]), 2, 16) := by kernel_rfl
end Go.Proofs.YthbkljeibmkimaaGreat


namespace Go.Proofs.YthbkljeibmkimaaGreat
set_option linter.unusedVariables false
set_option linter.unusedSimpArgs false

variable {α : Type} {key : α → Int}
def kf (key : α → Int) (x : List α) (i : Nat) : Int := (x[i]?.map key).getD 0
theorem kf_eq {x y : List α} {i j : Nat} (h : y[i]? = x[j]?) : kf key y i = kf key x j := by unfold kf; rw [h]
theorem kf_get {x : List α} {i : Nat} {u : α} (h : x[i]? = some u) : kf key x i = key u := by unfold kf; rw [h]; rfl
structure Stp (key : α → Int) (a b : Nat) (x y : List α) : Prop where
  len : y.length = x.length
  out : ∀ i, (i < a ∨ b ≤ i) → y[i]? = x[i]?
  mem : ∀ i, a ≤ i → i < b → ∃ j, a ≤ j ∧ j < b ∧ y[i]? = x[j]?
  flt : ∀ n : Int, (y.filter fun e => decide (key e = n)) = x.filter fun e => decide (key e = n)
theorem Stp.refl (a b : Nat) (x : List α) : Stp key a b x x := ⟨rfl, fun _ _ => rfl, fun i h1 h2 => ⟨i, h1, h2, rfl⟩, fun _ => rfl⟩
theorem Stp.trans {a b : Nat} {x y z : List α} (h : Stp key a b x y) (k : Stp key a b y z) : Stp key a b x z :=
  ⟨k.len.trans h.len, fun i hi => (k.out i hi).trans (h.out i hi), fun i h1 h2 => by
    obtain ⟨j, j1, j2, e⟩ := k.mem i h1 h2
    obtain ⟨l, l1, l2, f⟩ := h.mem j j1 j2
    exact ⟨l, l1, l2, e.trans f⟩, fun n => (k.flt n).trans (h.flt n)⟩
theorem Stp.mono {a b a' b' : Nat} {x y : List α} (h : Stp key a b x y) (ha : a' ≤ a) (hb : b ≤ b') : Stp key a' b' x y :=
  ⟨h.len, fun i hi => h.out i (by omega), fun i h1 h2 => by
    by_cases hi : a ≤ i ∧ i < b
    · obtain ⟨j, j1, j2, e⟩ := h.mem i hi.1 hi.2
      exact ⟨j, by omega, by omega, e⟩
    · exact ⟨i, h1, h2, h.out i (by omega)⟩, h.flt⟩
def Srt (key : α → Int) (a b : Nat) (x : List α) : Prop := ∀ i j, a ≤ i → i ≤ j → j < b → kf key x i ≤ kf key x j
def rotIdx (a m b k : Nat) : Nat := if k < a then k else if k < a + (b - m) then k + (m - a) else if k < b then k - (b - m) else k
def IsRot (x y : List α) (a m b : Nat) : Prop := y.length = x.length ∧ ∀ k, y[k]? = x[rotIdx a m b k]?
def swIdx (a b n k : Nat) : Nat := if a ≤ k ∧ k < a + n then k + b - a else if b ≤ k ∧ k < b + n then k + a - b else k
def IsSw (x y : List α) (a b n : Nat) : Prop := y.length = x.length ∧ ∀ k, y[k]? = x[swIdx a b n k]?
theorem IsSw.zero (x : List α) (a b : Nat) : IsSw x x a b 0 := ⟨rfl, fun k => by unfold swIdx; rw [if_neg (by omega), if_neg (by omega)]⟩
theorem isSw_set {x : List α} {i j : Nat} {u v : α} (hi : x[i]? = some u) (hj : x[j]? = some v) : IsSw x ((x.set i v).set j u) i j 1 := by
  have h1 : i < x.length := (List.getElem?_eq_some_iff.1 hi).1
  have h2 : j < x.length := (List.getElem?_eq_some_iff.1 hj).1
  refine ⟨by simp, fun k => ?_⟩
  unfold swIdx
  rw [List.getElem?_set, List.getElem?_set]
  simp only [List.length_set]
  by_cases e1 : k = j
  · subst e1
    rw [if_pos rfl, if_pos h2]
    by_cases e2 : i = k
    · subst e2
      rw [if_pos ⟨Nat.le_refl _, by omega⟩, show i + i - i = i by omega, hi]
    · rw [if_neg (by omega), if_pos ⟨Nat.le_refl _, by omega⟩, show k + i - k = i by omega, hi]
  · rw [if_neg (by omega)]
    by_cases e2 : k = i
    · subst e2
      rw [if_pos rfl, if_pos h1, if_pos ⟨Nat.le_refl _, by omega⟩, show k + j - k = j by omega, hj]
    · rw [if_neg (by omega), if_neg (by omega), if_neg (by omega)]
theorem IsSw.next {x y z : List α} {a b n : Nat} (hab : a + n < b ∨ b + n < a) (h : IsSw x y a b n) (k : IsSw y z (a + n) (b + n) 1) : IsSw x z a b (n + 1) := by
  refine ⟨k.1.trans h.1, fun i => ?_⟩
  rw [k.2 i, h.2 _]
  congr 1
  unfold swIdx
  repeat' split
  all_goals omega
theorem IsRot.self (x : List α) {a m b : Nat} (h : (a = m ∧ m ≤ b) ∨ (a ≤ m ∧ m = b)) : IsRot x x a m b := ⟨rfl, fun k => by
  congr 1
  unfold rotIdx
  repeat' split
  all_goals omega⟩
theorem IsRot.of_sw {x y : List α} {m i : Nat} (hi : i ≤ m) (h : IsSw x y (m - i) m i) : IsRot x y (m - i) m (m + i) := ⟨h.1, fun k => by
  rw [h.2 k]
  congr 1
  unfold rotIdx swIdx
  repeat' split
  all_goals omega⟩
theorem rot_left {x y z : List α} {m i j : Nat} (hi : i ≤ m) (hj : j < i) (h : IsSw x y (m - i) m j) (k : IsRot y z (m - (i - j)) m (m + j)) : IsRot x z (m - i) m (m + j) := ⟨k.1.trans h.1, fun t => by
  rw [k.2 t, h.2 _]
  congr 1
  unfold rotIdx swIdx
  repeat' split
  all_goals omega⟩
theorem rot_right {x y z : List α} {m i j : Nat} (hi : i ≤ m) (hj : i < j) (h : IsSw x y (m - i) (m + j - i) i) (k : IsRot y z (m - i) m (m + (j - i))) : IsRot x z (m - i) m (m + j) := ⟨k.1.trans h.1, fun t => by
  rw [k.2 t, h.2 _]
  congr 1
  unfold rotIdx swIdx
  repeat' split
  all_goals omega⟩
theorem filter_rot {p : α → Bool} {u v : List α} (h : ∀ x ∈ u, ∀ y ∈ v, ¬ (p x = true ∧ p y = true)) : (v ++ u).filter p = (u ++ v).filter p := by
  rw [List.filter_append, List.filter_append]
  by_cases hu : u.filter p = []
  · rw [hu]; simp
  · have : v.filter p = [] := by
      obtain ⟨x, hx⟩ := List.exists_mem_of_ne_nil _ hu
      rw [List.mem_filter] at hx
      rw [List.filter_eq_nil_iff]
      intro y hy hp
      exact h x hx.1 y hy ⟨hx.2, hp⟩
    rw [this]; simp
theorem IsRot.parts {x y : List α} {a m b : Nat} (ham : a ≤ m) (hmb : m ≤ b) (hb : b ≤ x.length) (h : IsRot x y a m b) :
    x = x.take a ++ ((x.drop a).take (m - a) ++ (x.drop m).take (b - m)) ++ x.drop b ∧ y = x.take a ++ ((x.drop m).take (b - m) ++ (x.drop a).take (m - a)) ++ x.drop b := by
  constructor
  · apply List.ext_getElem?
    intro k
    simp only [List.getElem?_append, List.length_append, List.length_take, List.length_drop, List.getElem?_take, List.getElem?_drop]
    repeat' split
    all_goals first | rfl | (congr 1; omega) | (exfalso; omega) | skip
  · apply List.ext_getElem?
    intro k
    rw [h.2 k]
    unfold rotIdx
    simp only [List.getElem?_append, List.length_append, List.length_take, List.length_drop, List.getElem?_take, List.getElem?_drop]
    repeat' split
    all_goals first | rfl | (congr 1; omega) | (exfalso; omega) | skip
theorem stp_rot {x y : List α} {a m b : Nat} (ham : a ≤ m) (hmb : m ≤ b) (hb : b ≤ x.length) (h : IsRot x y a m b) (hk : ∀ i j, a ≤ i → i < m → m ≤ j → j < b → kf key x i ≠ kf key x j) : Stp key a b x y := by
 refine ⟨h.1, fun i hi => ?_, fun i h1 h2 => ⟨rotIdx a m b i, ?_, ?_, h.2 i⟩, fun n => ?_⟩
 ·rw [h.2 i]
  congr 1
  unfold rotIdx
  repeat' split
  all_goals omega
 ·unfold rotIdx
  repeat' split
  all_goals omega
 ·unfold rotIdx
  repeat' split
  all_goals omega
 ·obtain ⟨e1, e2⟩ := h.parts ham hmb hb
  rw [e2]
  conv => rhs; rw [e1]
  rw [List.filter_append (p := fun e => decide (key e = n)) (l₂ := x.drop b), List.filter_append (p := fun e => decide (key e = n)) (l₂ := x.drop b), List.filter_append (l₁ := x.take a), List.filter_append (l₁ := x.take a)]
  congr 2
  refine filter_rot (fun u hu v hv hp => ?_)
  obtain ⟨i, hi, rfl⟩ := List.mem_iff_getElem.1 hu
  obtain ⟨j, hj, rfl⟩ := List.mem_iff_getElem.1 hv
  simp only [List.length_take, List.length_drop] at hi hj
  have h1 : kf key x (a + i) = n := by
   rw [kf_get (u := x[a + i]'(by omega)) (List.getElem?_eq_getElem (by omega))]
   have := hp.1
   simp only [List.getElem_take, List.getElem_drop, decide_eq_true_eq] at this
   exact this
  have h2 : kf key x (m + j) = n := by
   rw [kf_get (u := x[m + j]'(by omega)) (List.getElem?_eq_getElem (by omega))]
   have := hp.2
   simp only [List.getElem_take, List.getElem_drop, decide_eq_true_eq] at this
   exact this
  exact hk (a + i) (m + j) (by omega) (by omega) (by omega) (by omega) (h1.trans h2.symm)
theorem IsRot.of_swap {x y : List α} {i : Nat} (h : IsSw x y i (i + 1) 1) : IsRot x y i (i + 1) (i + 2) := ⟨h.1, fun k => by
  rw [h.2 k]
  congr 1
  unfold rotIdx swIdx
  repeat' split
  all_goals omega⟩
theorem IsSw.symm1 {x y : List α} {i j : Nat} (h : IsSw x y i j 1) : IsSw x y j i 1 := ⟨h.1, fun k => by
  rw [h.2 k]
  congr 1
  unfold swIdx
  repeat' split
  all_goals omega⟩
theorem stp_swap {x y : List α} {i : Nat} (hb : i + 2 ≤ x.length) (h : IsSw x y i (i + 1) 1) (hk : kf key x (i + 1) < kf key x i) : Stp key i (i + 2) x y :=
  stp_rot (m := i + 1) (by omega) (by omega) hb (IsRot.of_swap h) (fun p q h1 h2 h3 h4 => by
    rw [show p = i by omega, show q = i + 1 by omega]
    omega)
theorem rot_up {x y z : List α} {a k : Nat} (hk : a ≤ k) (h : IsRot x y a (a + 1) (k + 1)) (g : IsSw y z k (k + 1) 1) : IsRot x z a (a + 1) (k + 2) := ⟨g.1.trans h.1, fun t => by
  rw [g.2 t, h.2 _]
  congr 1
  unfold rotIdx swIdx
  repeat' split
  all_goals omega⟩
theorem rot_down {x y z : List α} {m k : Nat} (hk : k < m) (h : IsRot x y (k + 1) m (m + 1)) (g : IsSw y z k (k + 1) 1) : IsRot x z k m (m + 1) := ⟨g.1.trans h.1, fun t => by
  rw [g.2 t, h.2 _]
  congr 1
  unfold rotIdx swIdx
  repeat' split
  all_goals omega⟩
theorem IsRot.kf {x y : List α} {a m b : Nat} (h : IsRot x y a m b) (k : Nat) : kf key y k = kf key x (rotIdx a m b k) := kf_eq (h.2 k)
def InsInv (key : α → Int) (a i j : Nat) (y : List α) : Prop := ∀ p q, a ≤ p → p < q → q < i + 1 → q ≠ j → kf key y p ≤ kf key y q
theorem ins_start {a i : Nat} {x : List α} (h : Srt key a i x) : InsInv key a i i x := fun p q h1 h2 h3 h4 => h p q h1 (by omega) (by omega)
theorem ins_next {a i j : Nat} {x y : List α} (ha : a ≤ j) (hj : j < i) (h : InsInv key a i (j + 1) x) (hs : IsSw x y j (j + 1) 1) (hk : kf key x (j + 1) < kf key x j) : InsInv key a i j y := by
  have e : ∀ k, kf key y k = kf key x (swIdx j (j + 1) 1 k) := fun k => kf_eq (hs.2 k)
  intro p q h1 h2 h3 h4
  rw [e p, e q]
  have e1 : swIdx j (j + 1) 1 j = j + 1 := by unfold swIdx; rw [if_pos (by omega)]; omega
  have e2 : swIdx j (j + 1) 1 (j + 1) = j := by unfold swIdx; rw [if_neg (by omega), if_pos (by omega)]; omega
  have e3 : ∀ k, k ≠ j → k ≠ j + 1 → swIdx j (j + 1) 1 k = k := fun k g1 g2 => by unfold swIdx; rw [if_neg (by omega), if_neg (by omega)]
  by_cases hq : q = j + 1
  · subst hq
    rw [e2]
    by_cases hp : p = j
    · subst hp; rw [e1]; omega
    · rw [e3 p hp (by omega)]
      exact h p j h1 (by omega) (by omega) (by omega)
  · rw [e3 q h4 hq]
    by_cases hp : p = j
    · subst hp; rw [e1]
      exact h (p + 1) q (by omega) (by omega) h3 hq
    · by_cases hp2 : p = j + 1
      · subst hp2; rw [e2]
        exact h j q ha (by omega) h3 hq
      · rw [e3 p hp hp2]
        exact h p q h1 h2 h3 hq
theorem ins_done {a i j : Nat} {x : List α} (ha : a ≤ j) (hj : j ≤ i) (h : InsInv key a i j x) (hk : j ≤ a ∨ kf key x (j - 1) ≤ kf key x j) : Srt key a (i + 1) x := by
  intro p q h1 h2 h3
  by_cases e : p = q
  · rw [e]; exact Int.le_refl _
  · by_cases hq : q = j
    · rcases hk with hk | hk
      · omega
      · subst hq
        by_cases hp : p = q - 1
        · rw [hp]; exact hk
        · exact Int.le_trans (h p (q - 1) h1 (by omega) (by omega) (by omega)) hk
    · exact h p q h1 (by omega) h3 hq
theorem Srt.of_out {a b c d : Nat} {x y : List α} (h : Srt key a b x) (g : Stp key c d x y) (hd : b ≤ c ∨ d ≤ a) : Srt key a b y := fun i j h1 h2 h3 => by
  rw [kf_eq (key := key) (g.out i (by omega)), kf_eq (key := key) (g.out j (by omega))]
  exact h i j h1 h2 h3
theorem merge_one_left {x y : List α} {a i b : Nat} (h1 : a + 1 ≤ i) (h2 : i ≤ b) (hs : Srt key (a + 1) b x) (h : IsRot x y a (a + 1) i) (hlt : ∀ c, a + 1 ≤ c → c < i → kf key x c < kf key x a) (hge : ∀ c, i ≤ c → c < b → kf key x a ≤ kf key x c) : Srt key a b y := by
 intro p q g1 g2 g3
 rw [h.kf p, h.kf q]
 have e : ∀ k, a ≤ k → k < b → (k < i - 1 → rotIdx a (a + 1) i k = k + 1) ∧ (k = i - 1 → rotIdx a (a + 1) i k = a) ∧ (i ≤ k → rotIdx a (a + 1) i k = k) := fun k _ _ => by
  unfold rotIdx
  refine ⟨fun _ => ?_, fun _ => ?_, fun _ => ?_⟩
  all_goals repeat' split
  all_goals omega
 obtain ⟨p1, p2, p3⟩ := e p g1 (by omega)
 obtain ⟨q1, q2, q3⟩ := e q (by omega) g3
 by_cases c1 : p < i - 1
 ·rw [p1 c1]
  by_cases d1 : q < i - 1
  ·rw [q1 d1]; exact hs _ _ (by omega) (by omega) (by omega)
  ·by_cases d2 : q = i - 1
   ·rw [q2 d2]; exact Int.le_of_lt (hlt _ (by omega) (by omega))
   ·rw [q3 (by omega)]; exact hs _ _ (by omega) (by omega) (by omega)
 ·by_cases c2 : p = i - 1
  ·rw [p2 c2]
   by_cases d2 : q = i - 1
   ·rw [q2 d2]; exact Int.le_refl _
   ·rw [q3 (by omega)]; exact hge _ (by omega) (by omega)
  ·rw [p3 (by omega), q3 (by omega)]; exact hs _ _ (by omega) (by omega) (by omega)
theorem merge_one_right {x y : List α} {a i m : Nat} (h1 : a ≤ i) (h2 : i ≤ m) (hs : Srt key a m x) (h : IsRot x y i m (m + 1)) (hle : ∀ c, a ≤ c → c < i → kf key x c ≤ kf key x m) (hgt : ∀ c, i ≤ c → c < m → kf key x m < kf key x c) : Srt key a (m + 1) y := by
 intro p q g1 g2 g3
 rw [h.kf p, h.kf q]
 have e : ∀ k, a ≤ k → k < m + 1 → (k < i → rotIdx i m (m + 1) k = k) ∧ (k = i → rotIdx i m (m + 1) k = m) ∧ (i < k → rotIdx i m (m + 1) k = k - 1) := fun k _ _ => by
  unfold rotIdx
  refine ⟨fun _ => ?_, fun _ => ?_, fun _ => ?_⟩
  all_goals repeat' split
  all_goals omega
 obtain ⟨p1, p2, p3⟩ := e p g1 (by omega)
 obtain ⟨q1, q2, q3⟩ := e q (by omega) g3
 by_cases c1 : p < i
 ·rw [p1 c1]
  by_cases d1 : q < i
  ·rw [q1 d1]; exact hs _ _ (by omega) (by omega) (by omega)
  ·by_cases d2 : q = i
   ·rw [q2 d2]; exact hle _ (by omega) (by omega)
   ·rw [q3 (by omega)]; exact hs _ _ (by omega) (by omega) (by omega)
 ·by_cases c2 : p = i
  ·rw [p2 c2]
   by_cases d2 : q = i
   ·rw [q2 d2]; exact Int.le_refl _
   ·rw [q3 (by omega)]; exact Int.le_of_lt (hgt _ (by omega) (by omega))
  ·rw [p3 (by omega), q3 (by omega)]; exact hs _ _ (by omega) (by omega) (by omega)
structure SymCut (key : α → Int) (x : List α) (a m b mid s e : Nat) : Prop where
  s0 : a ≤ s
  s1 : s ≤ m
  s2 : s ≤ mid
  e0 : m ≤ e
  e1 : e ≤ b
  sum : s + e = mid + m
  low : a < s → e < b → kf key x (s - 1) ≤ kf key x e
  high : s < m → m < e → kf key x (e - 1) < kf key x s
theorem sym_rot {x y : List α} {a m b mid s e : Nat} (hb : b ≤ x.length) (hc : SymCut key x a m b mid s e) (h1 : Srt key a m x) (h2 : Srt key m b x) (h : IsRot x y s m e) :
  Stp key a b x y ∧ Srt key a s y ∧ Srt key s mid y ∧ Srt key mid e y ∧ Srt key e b y ∧ ∀ p q, a ≤ p → p < mid → mid ≤ q → q < b → kf key y p ≤ kf key y q := by
 have hs := hc.sum
 have c0 := hc.s0
 have c1 := hc.s1
 have c2 := hc.s2
 have c3 := hc.e0
 have c4 := hc.e1
 have er : ∀ k, (k < s → rotIdx s m e k = k) ∧ (s ≤ k → k < mid → rotIdx s m e k = k + (m - s)) ∧ (mid ≤ k → k < e → rotIdx s m e k = k - (e - m)) ∧ (e ≤ k → rotIdx s m e k = k) := fun k => by
  unfold rotIdx
  refine ⟨fun _ => ?_, fun _ _ => ?_, fun _ _ => ?_, fun _ => ?_⟩
  all_goals repeat' split
  all_goals omega
 have hgt : ∀ i j, s ≤ i → i < m → m ≤ j → j < e → kf key x j < kf key x i := fun i j g1 g2 g3 g4 => by
  have k1 := hc.high (by omega) (by omega)
  have k2 := h1 s i (by omega) g1 g2
  have k3 := h2 j (e - 1) g3 (by omega) (by omega)
  omega
 refine ⟨(stp_rot c1 c3 (by omega) h (fun i j g1 g2 g3 g4 => by have := hgt i j g1 g2 g3 g4; omega)).mono c0 c4, ?_, ?_, ?_, ?_, ?_⟩
 ·intro i j g1 g2 g3
  rw [h.kf i, h.kf j, (er i).1 (by omega), (er j).1 g3]
  exact h1 i j g1 g2 (by omega)
 ·intro i j g1 g2 g3
  rw [h.kf i, h.kf j, (er i).2.1 g1 (by omega), (er j).2.1 (by omega) g3]
  exact h2 _ _ (by omega) (by omega) (by omega)
 ·intro i j g1 g2 g3
  rw [h.kf i, h.kf j, (er i).2.2.1 g1 (by omega), (er j).2.2.1 (by omega) g3]
  exact h1 _ _ (by omega) (by omega) (by omega)
 ·intro i j g1 g2 g3
  rw [h.kf i, h.kf j, (er i).2.2.2 g1, (er j).2.2.2 (by omega)]
  exact h2 i j (by omega) g2 g3
 ·intro p q g1 g2 g3 g4
  rw [h.kf p, h.kf q]
  by_cases hp : p < s
  ·rw [(er p).1 hp]
   by_cases hq : q < e
   ·rw [(er q).2.2.1 g3 hq]
    exact h1 _ _ (by omega) (by omega) (by omega)
   ·rw [(er q).2.2.2 (by omega)]
    have k1 := hc.low (by omega) (by omega)
    have k2 := h1 p (s - 1) (by omega) (by omega) (by omega)
    have k3 := h2 e q (by omega) (by omega) g4
    omega
  ·rw [(er p).2.1 (by omega) g2]
   by_cases hq : q < e
   ·rw [(er q).2.2.1 g3 hq]
    exact Int.le_of_lt (hgt _ _ (by omega) (by omega) (by omega) (by omega))
   ·rw [(er q).2.2.2 (by omega)]
    exact h2 _ _ (by omega) (by omega) g4
theorem srt_both {y z w : List α} {a mid b : Nat} (h1 : Stp key a mid y z) (h2 : Stp key mid b z w) (hm : a ≤ mid) (hb : mid ≤ b) (s1 : Srt key a mid z) (s2 : Srt key mid b w) (hle : ∀ p q, a ≤ p → p < mid → mid ≤ q → q < b → kf key y p ≤ kf key y q) : Srt key a b w := by
  intro p q g1 g2 g3
  by_cases hq : q < mid
  · rw [kf_eq (key := key) (h2.out p (by omega)), kf_eq (key := key) (h2.out q (by omega))]
    exact s1 p q g1 g2 hq
  · by_cases hp : mid ≤ p
    · exact s2 p q hp g2 g3
    · rw [kf_eq (key := key) (h2.out p (by omega))]
      obtain ⟨j, j1, j2, e⟩ := h2.mem q (by omega) g3
      rw [kf_eq (key := key) e, kf_eq (key := key) (h1.out j (by omega))]
      obtain ⟨i, i1, i2, f⟩ := h1.mem p g1 (by omega)
      rw [kf_eq (key := key) f]
      exact hle i j i1 i2 j1 j2
theorem srt_join {a m b : Nat} {x : List α} (h1 : Srt key a m x) (h2 : Srt key m b x) (h : a = m ∨ m = b) : Srt key a b x := by
  rcases h with h | h
  · subst h; exact h2
  · subst h; exact h1
def SrtU (key : α → Int) (s a : Nat) (x : List α) : Prop := ∀ p q, p ≤ q → q < a → p / s = q / s → kf key x p ≤ kf key x q
theorem SrtU.next {s t : Nat} {x y : List α} (h0 : 0 < s) (h : SrtU key s (t * s) x) (g : Stp key (t * s) (t * s + s) x y) (hs : Srt key (t * s) (t * s + s) y) : SrtU key s (t * s + s) y := by
  intro p q h1 h2 h3
  by_cases hq : q < t * s
  · rw [kf_eq (key := key) (g.out p (by omega)), kf_eq (key := key) (g.out q (by omega))]
    exact h p q h1 hq h3
  · have hq1 : q / s = t := Nat.div_eq_of_lt_le (by omega) (by rw [Nat.succ_mul]; omega)
    have hp : t * s ≤ p := by
      rw [hq1] at h3
      have := Nat.div_mul_le_self p s
      rw [h3] at this
      exact this
    exact hs p q hp h1 h2
theorem SrtU.last {s t n : Nat} {x y : List α} (h0 : 0 < s) (hn : n ≤ t * s + s) (htn : t * s ≤ n) (h : SrtU key s (t * s) x) (g : Stp key (t * s) n x y) (hs : Srt key (t * s) n y) : SrtU key s n y := by
  intro p q h1 h2 h3
  by_cases hq : q < t * s
  · rw [kf_eq (key := key) (g.out p (by omega)), kf_eq (key := key) (g.out q (by omega))]
    exact h p q h1 hq h3
  · have hq1 : q / s = t := Nat.div_eq_of_lt_le (by omega) (by rw [Nat.succ_mul]; omega)
    have hp : t * s ≤ p := by
      rw [hq1] at h3
      have := Nat.div_mul_le_self p s
      rw [h3] at this
      exact this
    exact hs p q hp h1 h2
theorem SrtU.part {s n : Nat} {x : List α} (h : SrtU key s n x) {t lo hi : Nat} (h1 : t * s ≤ lo) (h2 : hi ≤ t * s + s) (h3 : hi ≤ n) : Srt key lo hi x := fun i j g1 g2 g3 => by
  have e : ∀ k, lo ≤ k → k < hi → k / s = t := fun k k1 k2 => Nat.div_eq_of_lt_le (by omega) (by rw [Nat.succ_mul]; omega)
  exact h i j g2 (by omega) (by rw [e i g1 (by omega), e j (by omega) g3])
def SrtV (key : α → Int) (s a n : Nat) (x : List α) : Prop := ∀ p q, a ≤ p → p ≤ q → q < n → p / s = q / s → kf key x p ≤ kf key x q
theorem SrtV.part {s a n : Nat} {x : List α} (h : SrtV key s a n x) {t lo hi : Nat} (h0 : a ≤ lo) (h1 : t * s ≤ lo) (h2 : hi ≤ t * s + s) (h3 : hi ≤ n) : Srt key lo hi x := fun i j g1 g2 g3 => by
  have e : ∀ k, lo ≤ k → k < hi → k / s = t := fun k k1 k2 => Nat.div_eq_of_lt_le (by omega) (by rw [Nat.succ_mul]; omega)
  exact h i j (by omega) g2 (by omega) (by rw [e i g1 (by omega), e j (by omega) g3])
theorem SrtV.out {s a b n : Nat} {x y : List α} (h : SrtV key s a n x) (g : Stp key a b x y) (hb : a ≤ b) : SrtV key s b n y := fun p q h1 h2 h3 h4 => by
  rw [kf_eq (key := key) (g.out p (by omega)), kf_eq (key := key) (g.out q (by omega))]
  exact h p q (by omega) h2 h3 h4
theorem SrtU.toV {s n : Nat} {x : List α} (h : SrtU key s n x) : SrtV key s 0 n x := fun p q _ h2 h3 h4 => h p q h2 h3 h4
theorem SrtU.whole {s n : Nat} {x : List α} (h : SrtU key s n x) (hs : n ≤ s) : Srt key 0 n x := fun i j _ h2 h3 => h i j h2 h3 (by rw [Nat.div_eq_of_lt (by omega), Nat.div_eq_of_lt (by omega)])
theorem filter_lt_succ (key : α → Int) (n : Int) : ∀ (x : List α), x.Pairwise (fun u v => key u ≤ key v) → (x.filter fun e => decide (key e < n + 1)) = (x.filter fun e => decide (key e < n)) ++ x.filter fun e => decide (key e = n)
  | [], _ => rfl
  | a :: x, h => by
    rw [List.pairwise_cons] at h
    have ih := filter_lt_succ key n x h.2
    by_cases h1 : key a < n
    · rw [List.filter_cons_of_pos (by simp; omega), List.filter_cons_of_pos (by simp; omega), List.filter_cons_of_neg (by simp; omega), ih]
      rfl
    · have e0 : (x.filter fun e => decide (key e < n)) = [] := by
        rw [List.filter_eq_nil_iff]
        intro y hy
        have := h.1 y hy
        simp
        omega
      by_cases h2 : key a = n
      · rw [List.filter_cons_of_pos (by simp; omega), List.filter_cons_of_neg (by simp; omega), List.filter_cons_of_pos (by simp; omega), ih, e0]
        rfl
      · rw [List.filter_cons_of_neg (by simp; omega), List.filter_cons_of_neg (by simp; omega), List.filter_cons_of_neg (by simp; omega), ih]
def byKey (key : α → Int) (b : Nat) (x : List α) : List α := (List.range b).flatMap fun (n : Nat) => x.filter fun e => decide (key e = (n : Int))
theorem sorted_byKey {x : List α} (h : x.Pairwise (fun u v => key u ≤ key v)) (b : Nat) (h0 : ∀ e ∈ x, 0 ≤ key e) : (x.filter fun e => decide (key e < (b : Int))) = byKey key b x := by
  induction b with
  | zero =>
    unfold byKey
    rw [List.filter_eq_nil_iff.2 (fun e he => by have := h0 e he; simp; omega)]
    rfl
  | succ b ih =>
    unfold byKey at ih ⊢
    rw [List.range_succ, List.flatMap_append, ← ih]
    have := filter_lt_succ key (b : Int) x h
    rw [show ((b + 1 : Nat) : Int) = (b : Int) + 1 by omega, this]
    simp
theorem pairwise_of_srt {x : List α} (h : Srt key 0 x.length x) : x.Pairwise (fun u v => key u ≤ key v) := by
  rw [List.pairwise_iff_getElem]
  intro i j hi hj hij
  have := h i j (Nat.zero_le _) (by omega) hj
  rwa [kf_get (List.getElem?_eq_getElem hi), kf_get (List.getElem?_eq_getElem hj)] at this
theorem srt_byKey {x y : List α} {b : Nat} (h : Stp key 0 x.length x y) (hs : Srt key 0 x.length y) (h0 : ∀ e ∈ x, 0 ≤ key e ∧ key e < (b : Int)) : y = byKey key b x := by
  have hm : ∀ e, e ∈ y → e ∈ x := fun e he => by
    have h1 := h.flt (key e)
    have : e ∈ y.filter fun u => decide (key u = key e) := List.mem_filter.2 ⟨he, by simp⟩
    rw [h1] at this
    exact (List.mem_filter.1 this).1
  have h1 := sorted_byKey (pairwise_of_srt (by rw [h.len]; exact hs)) b (fun e he => (h0 e (hm e he)).1)
  rw [List.filter_eq_self.2 (fun e he => by simpa using (h0 e (hm e he)).2)] at h1
  rw [h1]
  unfold byKey
  congr 1
  funext n
  exact h.flt n
end Go.Proofs.YthbkljeibmkimaaGreat


namespace Go.Proofs.YthbkljeibmkimaaGreat
set_option linter.unusedVariables false
set_option linter.unusedSimpArgs false

def wI (pt : Nat → Nat → Int) (K : List (Nat × Nat)) : Nat → Nat → Int
  | 0, i => if (0, i) ∈ K then pt 0 i else 0
  | n + 1, i => if (n + 1, i) ∈ K then pt (n + 1) i else wI pt K n (2 * i) + wI pt K n (2 * i + 1)
def liesB (p q : Nat × Nat) : Bool := decide (p.1 ≤ q.1) && decide (p.2 / 2 ^ (q.1 - p.1) = q.2)
theorem liesB_iff {p q : Nat × Nat} : liesB p q = true ↔ p.1 ≤ q.1 ∧ p.2 / 2 ^ (q.1 - p.1) = q.2 := by unfold liesB; simp
theorem liesB_refl (p : Nat × Nat) : liesB p p = true := by rw [liesB_iff]; simp
theorem liesB_same {p q : Nat × Nat} (h : liesB p q = true) (e : q.1 ≤ p.1) : p = q := by
  rw [liesB_iff] at h
  have e1 : p.1 = q.1 := by omega
  have h2 := h.2
  rw [e1, Nat.sub_self, Nat.pow_zero, Nat.div_one] at h2
  exact Prod.ext e1 h2
theorem liesB_up {q : Nat × Nat} {n i : Nat} (h : liesB q (n, i) = true) : liesB q (n + 1, i / 2) = true := by
  rw [liesB_iff] at h ⊢
  refine ⟨by have := h.1; simp at this ⊢; omega, ?_⟩
  have h1 : q.1 ≤ n := h.1
  have h2 : q.2 / 2 ^ (n - q.1) = i := h.2
  show q.2 / 2 ^ (n + 1 - q.1) = i / 2
  rw [show n + 1 - q.1 = n - q.1 + 1 by omega, Nat.pow_succ, ← Nat.div_div_eq_div_mul, h2]
theorem liesB_down {q : Nat × Nat} {n i : Nat} (h : liesB q (n + 1, i) = true) (hn : q.1 ≤ n) : (liesB q (n, 2 * i) = true ∨ liesB q (n, 2 * i + 1) = true) ∧ ¬ (liesB q (n, 2 * i) = true ∧ liesB q (n, 2 * i + 1) = true) := by
  rw [liesB_iff] at h
  rw [liesB_iff, liesB_iff]
  have h2 : q.2 / 2 ^ (n + 1 - q.1) = i := h.2
  rw [show n + 1 - q.1 = n - q.1 + 1 by omega, Nat.pow_succ, ← Nat.div_div_eq_div_mul] at h2
  refine ⟨?_, fun ⟨a, b⟩ => ?_⟩
  · rcases Nat.lt_or_ge (q.2 / 2 ^ (n - q.1)) (2 * i + 1) with h3 | h3
    · exact .inl ⟨hn, by show q.2 / 2 ^ (n - q.1) = 2 * i; omega⟩
    · exact .inr ⟨hn, by show q.2 / 2 ^ (n - q.1) = 2 * i + 1; omega⟩
  · have a2 : q.2 / 2 ^ (n - q.1) = 2 * i := a.2
    have b2 : q.2 / 2 ^ (n - q.1) = 2 * i + 1 := b.2
    omega
theorem liesB_trans {p q r : Nat × Nat} (h : liesB p q = true) (k : liesB q r = true) : liesB p r = true := by
  rw [liesB_iff] at *
  refine ⟨Nat.le_trans h.1 k.1, ?_⟩
  rw [← k.2, ← h.2, Nat.div_div_eq_div_mul, ← Nat.pow_add]
  congr 2
  have := h.1; have := k.1
  omega
def alone (K : List (Nat × Nat)) (q p : Nat × Nat) : Bool := K.all fun m => decide (m = q) || !(liesB q m && liesB m p)
theorem alone_iff {K : List (Nat × Nat)} {q p : Nat × Nat} : alone K q p = true ↔ ∀ m ∈ K, m ≠ q → liesB q m = true → liesB m p = true → False := by
  unfold alone
  rw [List.all_eq_true]
  constructor
  · intro h m hm hne h1 h2
    have := h m hm
    simp [hne, h1, h2] at this
  · intro h m hm
    by_cases hne : m = q
    · simp [hne]
    · have := h m hm hne
      cases h1 : liesB q m <;> cases h2 : liesB m p <;> simp_all
def sTerm (pt : Nat → Nat → Int) (K : List (Nat × Nat)) (p q : Nat × Nat) : Int := if liesB q p && alone K q p then pt q.1 q.2 else 0
def sAl (pt : Nat → Nat → Int) (K : List (Nat × Nat)) (p : Nat × Nat) : Int := (K.map (sTerm pt K p)).sum
theorem sum_add {β : Type} (l : List β) (f g h : β → Int) (e : ∀ x ∈ l, f x = g x + h x) : (l.map f).sum = (l.map g).sum + (l.map h).sum := by
  induction l with
  | nil => rfl
  | cons a l ih =>
    have h1 := e a (List.mem_cons_self ..)
    have h2 := ih (fun x hx => e x (List.mem_cons_of_mem _ hx))
    simp only [List.map_cons, List.sum_cons]
    omega
theorem sum_none {β : Type} (l : List β) (f : β → Int) (e : ∀ x ∈ l, f x = 0) : (l.map f).sum = 0 := by
  induction l with
  | nil => rfl
  | cons a l ih =>
    have h1 := e a (List.mem_cons_self ..)
    have h2 := ih (fun x hx => e x (List.mem_cons_of_mem _ hx))
    simp only [List.map_cons, List.sum_cons]
    omega
theorem sum_one {β : Type} [DecidableEq β] (l : List β) (hn : l.Nodup) (p : β) (hp : p ∈ l) (f : β → Int) (e : ∀ x ∈ l, x ≠ p → f x = 0) : (l.map f).sum = f p := by
  induction l with
  | nil => simp at hp
  | cons a l ih =>
    rw [List.nodup_cons] at hn
    simp only [List.map_cons, List.sum_cons]
    by_cases ha : a = p
    · subst ha
      rw [sum_none l f (fun x hx => e x (List.mem_cons_of_mem _ hx) (fun h => hn.1 (h ▸ hx)))]
      omega
    · rw [e a (List.mem_cons_self ..) ha, ih hn.2 (by simpa [Ne.symm ha] using hp) (fun x hx => e x (List.mem_cons_of_mem _ hx))]
      omega
theorem sAl_eq (pt : Nat → Nat → Int) (K : List (Nat × Nat)) (hK : K.Nodup) : ∀ n i : Nat, sAl pt K (n, i) = wI pt K n i := by
 have hin : ∀ p, p ∈ K → sAl pt K p = pt p.1 p.2 := fun p hp => by
  unfold sAl
  rw [sum_one K hK p hp]
  ·unfold sTerm
   rw [if_pos]
   rw [Bool.and_eq_true]
   refine ⟨liesB_refl _, alone_iff.2 (fun m hm hne h1 h2 => hne ?_)⟩
   exact (liesB_same h2 (liesB_iff.1 h1).1)
  ·intro q hq hne
   unfold sTerm
   rw [if_neg]
   rw [Bool.and_eq_true]
   rintro ⟨h1, h2⟩
   exact alone_iff.1 h2 p hp (Ne.symm hne) h1 (liesB_refl _)
 intro n
 induction n with
 | zero =>
  intro i
  unfold wI
  by_cases h : (0, i) ∈ K
  ·rw [if_pos h]; exact hin _ h
  ·rw [if_neg h]
   refine sum_none _ _ (fun q hq => ?_)
   unfold sTerm
   rw [if_neg]
   rw [Bool.and_eq_true]
   rintro ⟨h1, -⟩
   exact h ((liesB_same h1 (Nat.zero_le _)) ▸ hq)
 | succ n ih =>
  intro i
  unfold wI
  by_cases h : (n + 1, i) ∈ K
  ·rw [if_pos h]; exact hin _ h
  ·rw [if_neg h, ← ih, ← ih]
   refine sum_add _ _ _ _ (fun q hq => ?_)
   have hne : q ≠ (n + 1, i) := fun e => h (e ▸ hq)
   have hlt : liesB q (n + 1, i) = true → q.1 ≤ n := fun h1 => by
    have h2 := (liesB_iff.1 h1).1
    rcases Nat.lt_or_ge q.1 (n + 1) with h3 | h3
    ·omega
    ·exact absurd (liesB_same h1 h3) hne
   have half : ∀ j, j / 2 = i → liesB q (n, j) = true → alone K q (n, j) = alone K q (n + 1, i) := fun j hj h1 => by
    rw [Bool.eq_iff_iff, alone_iff, alone_iff]
    constructor
    ·intro ha m hm hmq k1 k2
     have hmn : m.1 ≤ n := by
      rcases Nat.lt_or_ge m.1 (n + 1) with h3 | h3
      ·omega
      ·exact absurd ((liesB_same k2 h3) ▸ hm) h
     obtain ⟨d1, -⟩ := liesB_down k2 hmn
     have hj2 : j = 2 * i ∨ j = 2 * i + 1 := by omega
     obtain ⟨-, d4⟩ := liesB_down (liesB_trans k1 k2) (Nat.le_trans (liesB_iff.1 k1).1 hmn)
     refine ha m hm hmq k1 ?_
     rcases d1 with d1 | d1 <;> rcases hj2 with e | e
     ·rw [e]; exact d1
     ·exact absurd ⟨liesB_trans k1 d1, e ▸ h1⟩ d4
     ·exact absurd ⟨e ▸ h1, liesB_trans k1 d1⟩ d4
     ·rw [e]; exact d1
    ·intro ha m hm hmq k1 k2
     have := liesB_up k2
     rw [hj] at this
     exact ha m hm hmq k1 this
   unfold sTerm
   by_cases h1 : liesB q (n + 1, i) = true
   ·obtain ⟨d1, d2⟩ := liesB_down h1 (hlt h1)
    by_cases d3 : liesB q (n, 2 * i) = true
    ·have d4 : liesB q (n, 2 * i + 1) = false := by
      cases e : liesB q (n, 2 * i + 1) with
      | false => rfl
      | true => exact absurd ⟨d3, e⟩ d2
     rw [d3, d4, h1, half (2 * i) (by omega) d3]
     simp
    ·have d4 : liesB q (n, 2 * i + 1) = true := by
      rcases d1 with d1 | d1
      ·exact absurd d1 d3
      ·exact d1
     rw [Bool.not_eq_true] at d3
     rw [d3, d4, h1, half (2 * i + 1) (by omega) d4]
     simp
   ·have d3 : liesB q (n, 2 * i) = false := by
     cases e : liesB q (n, 2 * i) with
     | false => rfl
     | true => have := liesB_up e; rw [show 2 * i / 2 = i by omega] at this; exact absurd this h1
    have d4 : liesB q (n, 2 * i + 1) = false := by
     cases e : liesB q (n, 2 * i + 1) with
     | false => rfl
     | true => have := liesB_up e; rw [show (2 * i + 1) / 2 = i by omega] at this; exact absurd this h1
    rw [Bool.not_eq_true] at h1
    rw [d3, d4, h1]
    simp
theorem wI_none (pt : Nat → Nat → Int) (K : List (Nat × Nat)) : ∀ n i : Nat, (∀ q ∈ K, liesB q (n, i) = false) → wI pt K n i = 0
  | 0, i, h => by
    unfold wI
    rw [if_neg]
    intro hm
    have := h _ hm
    rw [liesB_refl] at this
    cases this
  | n + 1, i, h => by
    unfold wI
    rw [if_neg, wI_none pt K n (2 * i), wI_none pt K n (2 * i + 1)]
    · rfl
    · intro q hq
      cases e : liesB q (n, 2 * i + 1) with
      | false => rfl
      | true => have := liesB_up e; rw [show (2 * i + 1) / 2 = i by omega, h q hq] at this; cases this
    · intro q hq
      cases e : liesB q (n, 2 * i) with
      | false => rfl
      | true => have := liesB_up e; rw [show 2 * i / 2 = i by omega, h q hq] at this; cases this
    · intro hm
      have := h _ hm
      rw [liesB_refl] at this
      cases this
theorem wI_bd (pt : Nat → Nat → Int) (K : List (Nat × Nat)) (hp : ∀ n i, -9223372036854775808 ≤ pt n i ∧ pt n i ≤ 9223372036854775807) : ∀ n i : Nat, -(9223372036854775808 * 2 ^ n) ≤ wI pt K n i ∧ wI pt K n i ≤ 9223372036854775808 * 2 ^ n
  | 0, i => by
    unfold wI
    have := hp 0 i
    split <;> omega
  | n + 1, i => by
    unfold wI
    have h1 := hp (n + 1) i
    have h2 := wI_bd pt K hp n (2 * i)
    have h3 := wI_bd pt K hp n (2 * i + 1)
    have h4 : (1 : Int) ≤ 2 ^ n := by
      have := Nat.two_pow_pos n
      have e : (2 : Int) ^ n = ((2 ^ n : Nat) : Int) := by simp
      omega
    have h5 : (2 : Int) ^ (n + 1) = 2 * 2 ^ n := by rw [Int.pow_succ]; omega
    split <;> omega
def rest (pt : Nat → Nat → Int) (K : List (Nat × Nat)) (p : Nat × Nat) : Int := pt p.1 p.2 - wI pt K p.1 p.2
def fits (x : Int) : Bool := decide (-9223372036854775808 ≤ x) && decide (x ≤ 9223372036854775807)
theorem fits_iff {x : Int} : fits x = true ↔ -9223372036854775808 ≤ x ∧ x ≤ 9223372036854775807 := by unfold fits; simp
def keptAt (pt : Nat → Nat → Int) (least : Int) (T : List (Nat × Nat)) : Nat → Option (List (Nat × Nat × Int))
  | 0 => some []
  | j + 1 => match keptAt pt least T j, T[j]? with
    | some out, some p =>
      let x := rest pt (out.map fun q => (q.1, q.2.1)) p
      if fits x then some (if least ≤ x then out ++ [(p.1, p.2, x)] else out) else none
    | _, _ => none
theorem keptAt_next {pt : Nat → Nat → Int} {least : Int} {T : List (Nat × Nat)} {j : Nat} {out : List (Nat × Nat × Int)} {p : Nat × Nat} (h : keptAt pt least T j = some out) (hp : T[j]? = some p) :
    keptAt pt least T (j + 1) = if fits (rest pt (out.map fun q => (q.1, q.2.1)) p) then some (if least ≤ rest pt (out.map fun q => (q.1, q.2.1)) p then out ++ [(p.1, p.2, rest pt (out.map fun q => (q.1, q.2.1)) p)] else out) else none := by
  unfold keptAt
  rw [h, hp]
theorem keptAt_none {pt : Nat → Nat → Int} {least : Int} {T : List (Nat × Nat)} {j k : Nat} (hjk : j ≤ k) (h : keptAt pt least T j = none) : keptAt pt least T k = none := by
  induction hjk with
  | refl => exact h
  | step _ ih => unfold keptAt; rw [ih]
theorem keptAt_sub {pt : Nat → Nat → Int} {least : Int} {T : List (Nat × Nat)} : ∀ {j : Nat} {out : List (Nat × Nat × Int)}, keptAt pt least T j = some out → ((out.map fun q => (q.1, q.2.1)).Sublist (T.take j)) ∧ j ≤ T.length ∧ ∀ q ∈ out, least ≤ q.2.2 ∧ -9223372036854775808 ≤ q.2.2 ∧ q.2.2 ≤ 9223372036854775807
 | 0, out, h => by
  simp only [keptAt, Option.some.injEq] at h
  subst h
  simp
 | j + 1, out, h => by
  cases h1 : keptAt pt least T j with
  | none => unfold keptAt at h; rw [h1] at h; cases h
  | some o =>
   cases h2 : T[j]? with
   | none => unfold keptAt at h; rw [h1, h2] at h; cases h
   | some p =>
    rw [keptAt_next h1 h2] at h
    obtain ⟨i1, i2, i3⟩ := keptAt_sub h1
    have hl : j < T.length := (List.getElem?_eq_some_iff.1 h2).1
    have ht : T.take (j + 1) = T.take j ++ [p] := by rw [List.take_add_one, h2]; rfl
    split at h
    ·rename_i hf
     rw [Option.some.injEq] at h
     subst h
     rw [ht]
     split
     ·rename_i hx
      refine ⟨?_, hl, fun q hq => ?_⟩
      ·rw [List.map_append]
       exact i1.append (List.Sublist.refl _)
      ·rw [List.mem_append] at hq
       rcases hq with hq | hq
       ·exact i3 q hq
       ·simp only [List.mem_singleton] at hq
        subst hq
        exact ⟨hx, fits_iff.1 hf⟩
     ·exact ⟨i1.trans (List.sublist_append_left _ _), hl, i3⟩
    ·cases h
end Go.Proofs.YthbkljeibmkimaaGreat


namespace Go.Proofs.YthbkljeibmkimaaGreat
open Go
set_option linter.unusedVariables false
set_option linter.unusedSimpArgs false
section
variable {P : Program} {ops : Array Oper} {md : Region.Mode} {w : World}
def sinkS (md : Region.Mode) (ops : Array Oper) (skip : List Nat) (n : Nat) : Bool :=
  (List.range n).all fun i => skip.contains i || (List.range (n + 1)).any fun j => decide (i < j) && Region.waitsFor md ops j i
theorem tail_waits_s {skip : List Nat} {n : Nat} {listed : Array Bool} (hs : sinkS md ops skip n = true) (hc : Region.chainB md ops n = true) (hn : n < ops.size) (inv : HeadInv md ops n listed) (hk : ∀ i ∈ skip, listed.getD i true ≠ false) :
  ∀ (d i : Nat), n - i = d → i < n → listed.getD i true = false → ∀ t, n ≤ t → t ∉ Region.ready md ops listed := by
 intro d
 induction d using Nat.strongRecOn with
 | _ d ih =>
  intro i hd hi hun t ht hr
  obtain ⟨_, ot, hot, hall⟩ := mem_ready.1 hr
  have htlt : t < ops.size := (Array.getElem?_eq_some_iff.1 hot).1
  by_cases htn : t = n
  ·subst htn
   have h0 := List.all_eq_true.1 hs i (List.mem_range.2 hi)
   rw [Bool.or_eq_true] at h0
   have h1 : (List.range (t + 1)).any (fun j => decide (i < j) && Region.waitsFor md ops j i) = true := by
    rcases h0 with h0 | h0
    ·exact absurd hun (hk i (by simpa using h0))
    ·exact h0
   obtain ⟨j, hj, hj2⟩ := List.any_eq_true.1 h1
   simp only [Bool.and_eq_true, decide_eq_true_eq] at hj2
   obtain ⟨oj, hoj, e, he, hb, hon⟩ := Region.waitsFor_spec hj2.2
   have hjle : j ≤ t := by have := List.mem_range.1 hj; omega
   by_cases hjt : j = t
   ·subst hjt
    have : oj = ot := Option.some.inj (hoj.symm.trans hot)
    subst this
    have h2 := hall e he hb
    rw [hon, getD_both hun] at h2
    cases h2
   ·cases hl : listed.getD j false with
    | true =>
     have h2 := inv.closed j oj hoj hl e he hb
     rw [hon, getD_both hun] at h2
     cases h2
    | false =>
     have hjs : j < listed.size := by rw [inv.size]; omega
     exact ih (t - j) (by omega) j rfl (by omega) (getD_in hjs hl) t (Nat.le_refl _) hr
  ·have h1 := List.all_eq_true.1 hc t (List.mem_range.2 htlt)
   simp only [Bool.or_eq_true, decide_eq_true_eq] at h1
   rcases h1 with h1 | h1
   ·omega
   ·obtain ⟨o', ho', e, he, hb, hon⟩ := Region.waitsFor_spec h1
    have : o' = ot := Option.some.inj (ho'.symm.trans hot)
    subst this
    have h2 := hall e he hb
    rw [hon, getD_both (inv.tail (t - 1) (by omega) (by omega))] at h2
    cases h2
theorem skip_set {skip : List Nat} {listed : Array Bool} (hk : ∀ i ∈ skip, listed.getD i true ≠ false) (j : Nat) : ∀ i ∈ skip, (listed.setIfInBounds j true).getD i true ≠ false := fun i hi => by
  by_cases h : j = i
  · subst h
    intro h2
    rcases Nat.lt_or_ge j listed.size with h3 | h3
    · simp [h3] at h2
    · simp [Array.getElem?_eq_none h3] at h2
  · rw [getD_set_ne true h]; exact hk i hi
theorem wpAnyL_first_s {skip : List Nat} {n i : Nat} {oi : Oper} {v : Value} {L : Array Bool → Act → Prop} (hi : ops[i]? = some oi) (hsel : ∀ (j : Nat) (o : Oper) cs b, ops[j]? = some o → o.op ≠ .select cs b)
  (hs : sinkS md ops skip n = true) (hc : Region.chainB md ops n = true) (hn : n < ops.size) (hin : i < n)
  (hdone : ∀ listed a, L listed a → ∀ j ∈ Region.ready md ops listed, n ≤ j) :
  ∀ (f : Nat) (listed : Array Bool) (a : Act), HeadInv md ops n listed → (∀ i ∈ skip, listed.getD i true ≠ false) →
   (∀ j oj, ops[j]? = some oj → j ≠ i → listed.getD j true = false → (∀ e ∈ oj.after, Region.binds md e = true → e.on ≠ i) → oi.apart ops oj = true) →
   i ∈ Region.ready md ops listed → YieldsAt P ops w oi v a →
   wpAnyL P md ops w n L f (listed.setIfInBounds i true) (a.put oi.dst v) → wpAnyL P md ops w n L (f + 1) listed a := by
 intro f
 induction f with
 | zero =>
  intro listed a inv hk _ hr hy H
  have hun := (mem_ready.1 hr).1
  refine ⟨fun h => (by rw [h] at hr; cases hr), fun j hj => ?_⟩
  have hjn : j < n := by
   rcases Nat.lt_or_ge j n with h | h
   ·exact h
   ·exact absurd hj (tail_waits_s hs hc hn inv hk _ i rfl hin hun j h)
  refine ⟨hjn, ?_⟩
  by_cases hji : j = i
  ·subst hji; exact hy.stOp hi H
  ·have := hdone _ _ H j (ready_mono hj hji)
   omega
 | succ f ih =>
  intro listed a inv hk hfree hr hy H
  have hun := (mem_ready.1 hr).1
  refine ⟨fun h => (by rw [h] at hr; cases hr), fun j hj => ?_⟩
  have hjn : j < n := by
   rcases Nat.lt_or_ge j n with h | h
   ·exact h
   ·exact absurd hj (tail_waits_s hs hc hn inv hk _ i rfl hin hun j h)
  refine ⟨hjn, ?_⟩
  by_cases hji : j = i
  ·subst hji; exact hy.stOp hi H
  ·have h1 := (H.2 j (ready_mono hj hji)).2
   obtain ⟨hjun, oj, hoj, hall⟩ := mem_ready.1 hj
   have hnot : ∀ e ∈ oj.after, Region.binds md e = true → e.on ≠ i := fun e he hb heq => by
    have h1 := hall e he hb
    rw [heq, getD_both hun] at h1
    cases h1
   have h2 := stOp_put hoj (hfree j oj hoj hji hjun hnot) (fun cs b => hsel i oi cs b hi) (fun cs b => hsel j oj cs b hoj) hy h1
   have hfree' : ∀ k ok, ops[k]? = some ok → k ≠ i → (listed.setIfInBounds j true).getD k true = false →
     (∀ e ∈ ok.after, Region.binds md e = true → e.on ≠ i) → oi.apart ops ok = true := fun k ok hk hki hun hno => by
    refine hfree k ok hk hki ?_ hno
    by_cases hjk : j = k
    ·subst hjk; exact hjun
    ·rw [getD_set_ne true hjk] at hun; exact hun
   refine stOp_mono (fun a' h3 => ih (listed.setIfInBounds j true) a' (inv.set hj hjn) (skip_set hk j) hfree' (ready_mono hr (Ne.symm hji)) h3.1 ?_) h2
   rw [Array.setIfInBounds_comm _ _ hji]
   exact h3.2
def lexHeadM (md : Region.Mode) (ops : Array Oper) (g : Nat) : List Bool → Nat → Array Bool → Bool
  | [], k, listed => Region.seqB md ops g k listed
  | true :: m, k, listed => (Region.ready md ops listed).contains k && Region.free md ops listed k && lexHeadM md ops g m (k + 1) (listed.setIfInBounds k true)
  | false :: m, k, listed => lexHeadM md ops g m (k + 1) listed
def dropAt {α : Type} : List Bool → List α → List α
  | true :: m, x :: l => x :: dropAt m l
  | false :: m, _ :: l => dropAt m l
  | _, _ => []
def cntM : List Bool → Nat
  | [] => 0
  | true :: m => cntM m + 1
  | false :: m => cntM m
theorem wpAnyL_lexM {skip : List Nat} {n g : Nat} {Lq : Act → Prop} (hsel : Region.noSelect ops = true) (hs : sinkS md ops skip n = true) (hc : Region.chainB md ops n = true) (hn : n < ops.size) :
  ∀ (m : List Bool) (l : List Oper) (k : Nat) (listed : Array Bool) (a : Act), (∀ j, j < m.length → l[j]? = ops[k + j]?) → m.length ≤ l.length → k + m.length = n → HeadInv md ops n listed → (∀ i ∈ skip, listed.getD i true ≠ false) →
  lexHeadM md ops g m k listed = true → wpStill P ops w Lq (dropAt m l) a →
  wpAnyL P md ops w n (fun listed' a' => Region.seqB md ops g n listed' = true ∧ Lq a') (cntM m) listed a
 | [], l, k, listed, a, _, _, hk, _, _, hB, h => by
  have : k = n := by simpa using hk
  subst this
  exact ⟨by simpa [lexHeadM] using hB, by cases l <;> exact h⟩
 | _ :: _, [], k, listed, a, _, hl, _, _, _, _, _ => by simp at hl
 | true :: m, o :: l, k, listed, a, hl, hml, hk, inv, hsk, hB, h => by
  have h0 : ops[k]? = some o := by simpa using (hl 0 (by simp)).symm
  simp only [lexHeadM, Bool.and_eq_true] at hB
  obtain ⟨⟨hr, hf⟩, hB'⟩ := hB
  have hkn : k < n := by simp only [List.length_cons] at hk; omega
  have hr' : k ∈ Region.ready md ops listed := by simpa using hr
  have hst : stOp P ops w k (wpStill P ops w Lq (dropAt m l)) a := by unfold stOp; simp only [h0]; exact h
  obtain ⟨v, hy, hK⟩ := yieldsAt_of_stOp h0 hst
  exact wpAnyL_first_s h0 (Region.noSelect_spec hsel) hs hc hn hkn (fun listed' a' hL => seqB_ready hL.1) (cntM m) listed a inv hsk (Region.free_spec h0 hf) hr' hy
   (wpAnyL_lexM hsel hs hc hn m l (k + 1) _ _ (fun j hj => by have := hl (j + 1) (by simp; omega); simpa [Nat.add_assoc, Nat.add_comm 1 j] using this) (by simpa using hml) (by simp only [List.length_cons] at hk; omega) (inv.set hr' hkn) (skip_set hsk k) hB' hK)
 | false :: m, o :: l, k, listed, a, hl, hml, hk, inv, hsk, hB, h => by
  exact wpAnyL_lexM hsel hs hc hn m l (k + 1) listed a (fun j hj => by have := hl (j + 1) (by simp; omega); simpa [Nat.add_assoc, Nat.add_comm 1 j] using this) (by simpa using hml) (by simp only [List.length_cons] at hk; omega) inv hsk hB h
def closedB (md : Region.Mode) (ops : Array Oper) (listed : Array Bool) : Bool :=
  (List.range ops.size).all fun j => !(listed.getD j false) || match ops[j]? with
    | some oj => oj.after.all fun e => !(Region.binds md e) || listed.getD e.on false
    | none => true
def stillB (md : Region.Mode) (ops : Array Oper) (m : List Bool) (skip : List Nat) (listed : Array Bool) : Bool :=
  Region.noSelect ops && decide (m.length < ops.size) && sinkS md ops skip m.length && Region.chainB md ops m.length && decide (listed.size = ops.size) && closedB md ops listed &&
    ((List.range ops.size).all fun t => decide (t < m.length) || !(listed.getD t true)) && (skip.all fun i => listed.getD i true) && lexHeadM md ops (ops.size - m.length) m 0 listed
theorem wpAny_still_tail {Q : Exit → Act → World → Prop} {a : Act} {l : List Oper} {listed : Array Bool} (m : List Bool) (skip : List Nat) (f : Nat) (hf : f = cntM m + (l.toArray.size - m.length)) (hB : stillB .any l.toArray m skip listed = true)
  (h : wpStill P l.toArray w (fun a' => wpList P l.toArray Q (l.drop m.length) a' w) (dropAt m l) a) : wpAny P .any l.toArray Q f listed a w := by
 simp only [stillB, Bool.and_eq_true, decide_eq_true_eq] at hB
 obtain ⟨⟨⟨⟨⟨⟨⟨⟨hsel, hn⟩, hs⟩, hc⟩, hsz⟩, hcl⟩, htl⟩, hsk⟩, hlex⟩ := hB
 have inv0 : HeadInv .any l.toArray m.length listed := by
  refine ⟨hsz, fun j oj hj hl e he hb => ?_, fun t ht ht' => ?_⟩
  ·have h1 := List.all_eq_true.1 hcl j (List.mem_range.2 (Array.getElem?_eq_some_iff.1 hj).1)
   rw [hl, hj] at h1
   simp only [Bool.not_true, Bool.false_or] at h1
   have h2 := Array.all_eq_true'.1 h1 e he
   rw [hb] at h2
   simpa using h2
  ·have h1 := List.all_eq_true.1 htl t (List.mem_range.2 ht')
   have h2 : ¬ t < m.length := by omega
   simpa [h2] using h1
 have hsk' : ∀ i ∈ skip, listed.getD i true ≠ false := fun i hi => by
  have := List.all_eq_true.1 hsk i hi
  rw [this]; decide
 have H := wpAnyL_lexM (md := .any) (g := l.toArray.size - m.length) hsel hs hc hn m l 0 listed a (fun j hj => by simp) (by simp at hn; omega) (by simp) inv0 hsk' hlex h
 have hdl : (l.drop m.length).length = l.toArray.size - m.length := by simp
 have := wpAny_of_head (Q' := Q) (g := l.toArray.size - m.length) (fun listed a' hL => by
  have := wpAny_of_seq (md := .any) (Q' := Q) (l.drop m.length) m.length listed a' w (fun j => by simp [List.getElem?_drop]) (by rw [hdl]; exact hL.1) hL.2
  rwa [hdl] at this) (cntM m) listed a H
 rw [hf]
 exact this
end
section
variable {P : Program}
theorem still_load_mid {op : Oper} {a : Act} {w : World} {K : Act → Prop} (ty : TypeId) (x : Operand) (ho : op.op = .load ty x)
    (b o : Nat) (hx : a.eval x = .pointer (some ⟨b, o, none⟩)) (cs : List Value) (d : TypeDesc) (hc : w.rangeAt b o cs)
    (hu : P.underlying ty = some d) (hd : d.isRow = true) (hi : (P.info? ty).map (·.size) = some cs.length)
    (h : K (a.put op.dst (.agg cs.toArray))) : op.still P a w K := by
  unfold Oper.still execOp
  simp only [ho, hx, Instr.loadAt, Instr.sureAddr, Sem.run_bind, Sem.run_pure, Result.andThen_ok, run_loadVar_mid w b o ty cs d hc hu hd hi, Oper.stillUpon]
  exact ⟨trivial, h⟩
theorem wpStill_load_mid {ops : Array Oper} {rest : List Oper} {op : Oper} {a : Act} {w : World} {Q : Act → Prop} (hw : Region.wanted op (yielded ops a.tmps) = true) (ty : TypeId) (x : Operand) (ho : op.op = .load ty x)
    (b o : Nat) (hx : a.eval x = .pointer (some ⟨b, o, none⟩)) (cs : List Value) (d : TypeDesc) (hc : w.rangeAt b o cs)
    (hu : P.underlying ty = some d) (hd : d.isRow = true) (hi : (P.info? ty).map (·.size) = some cs.length)
    (h : wpStill P ops w Q rest (a.put op.dst (.agg cs.toArray))) : wpStill P ops w Q (op :: rest) a := by
  refine wpStill_step (fun K hK => ?_)
  rw [if_pos hw]
  exact still_load_mid ty x ho b o hx cs d hc hu hd hi (hK _ h)
end
end Go.Proofs.YthbkljeibmkimaaGreat


namespace Go.Proofs.YthbkljeibmkimaaGreat
open Go.RowKit
set_option linter.unusedVariables false
set_option linter.unusedSimpArgs false

def fd3 (pt : Nat → Nat → Int) (p : Nat × Nat) : List Value := [.int .i64 (p.1 : Int), .int .u64 (p.2 : Int), .int .i64 (pt p.1 p.2)]
structure FdAt (w : World) (g : Nat) (pt : Nat → Nat → Int) (l : List (Nat × Nat)) : Prop where
  lt : g < w.heap.size
  nofr : ∀ o, w.frozen? ⟨g, o, none⟩ = false
  rng : ∀ t p, l[t]? = some p → w.rangeAt g (t * 3) (fd3 pt p)
theorem range_block {w w' : World} {g o : Nat} {cs : List Value} (h : w.rangeAt g o cs) (e : w'.heap[g]? = w.heap[g]?) : w'.rangeAt g o cs := fun j v hv => by
  rw [World.cell?_of_block (by exact e)]
  exact h j v hv
theorem FdAt.of_block {w w' : World} {g : Nat} {pt : Nat → Nat → Int} {l : List (Nat × Nat)} (h : FdAt w g pt l) (e : w'.heap[g]? = w.heap[g]?) : FdAt w' g pt l := by
  refine ⟨?_, fun o => ?_, fun t p hp => range_block (h.rng t p hp) e⟩
  · have h1 := h.lt
    rcases Nat.lt_or_ge g w'.heap.size with h2 | h2
    · exact h2
    · rw [Array.getElem?_eq_none h2, Array.getElem?_eq_getElem h1] at e
      cases e
  · rw [World.frozen?_of_block (by exact e)]
    exact h.nofr o
theorem FdAt.kept {w w' : World} {g : Nat} {pt : Nat → Nat → Int} {l : List (Nat × Nat)} (h : FdAt w g pt l) (hb : Below w.heap.size w w') : FdAt w' g pt l := h.of_block (hb.block g h.lt)
theorem FdAt.there {w : World} {g : Nat} {pt : Nat → Nat → Int} {l : List (Nat × Nat)} (h : FdAt w g pt l) {t : Nat} (ht : t < l.length) : w.there g (t * 3) 3 := fun j hj =>
  ⟨(h.rng t _ (List.getElem?_eq_getElem ht)).isSome j (by simpa [fd3] using hj), h.nofr _⟩
theorem size_setC (g : Nat) : ∀ (vs : List Value) (o : Nat) (w : World), (w.setCells g o vs).heap.size = w.heap.size
  | [], _, _ => rfl
  | v :: vs, o, w => by
    show ((w.setCell ⟨g, o, none⟩ v).setCells g (o + 1) vs).heap.size = _
    rw [size_setC g vs]
    simp [World.setCell]
theorem FdAt.set {w : World} {g : Nat} {pt : Nat → Nat → Int} {l : List (Nat × Nat)} (h : FdAt w g pt l) {i : Nat} (hi : i < l.length) (p : Nat × Nat) : FdAt (w.setCells g (i * 3) (fd3 pt p)) g pt (l.set i p) := by
  refine ⟨by rw [size_setC]; exact h.lt, fun o => by rw [World.frozen?_setCells]; exact h.nofr o, fun t q hq => ?_⟩
  rw [List.getElem?_set] at hq
  by_cases e : i = t
  · subst e
    rw [if_pos rfl, if_pos hi] at hq
    cases hq
    exact World.rangeAt_setCells_same _ _ _ _ (h.there hi)
  · rw [if_neg e] at hq
    exact World.rangeAt_setCells_apart (h.rng t q hq) _ _ _ (.inr (by simp [fd3]; omega))
theorem grown_setCells (w : World) (g : Nat) : ∀ (vs : List Value) (o : Nat) (w1 : World), w.grownBy w1 (some g) → w.grownBy (w1.setCells g o vs) (some g)
  | [], _, _, h => h
  | v :: vs, o, w1, h => grown_setCells w g vs (o + 1) _ ⟨h.os, h.tape, h.output, by have := h.size; simpa [World.setCell] using this, fun k hk hne => by
    rw [show (w1.setCell ⟨g, o, none⟩ v).heap[k]? = w1.heap[k]? from Below.heap_setCell _ _ _ _ (by intro e; exact hne (by rw [e]))]
    exact h.block k hk hne⟩
theorem gr_refl (w : World) (r : Option Nat) : w.grownBy w r := ⟨rfl, rfl, rfl, Nat.le_refl _, fun _ _ _ => rfl⟩
theorem gr_below {w w1 w2 : World} {r : Option Nat} (h : w.grownBy w1 r) (hb : Below w1.heap.size w1 w2) : w.grownBy w2 r :=
  ⟨hb.os.trans h.os, hb.tape.trans h.tape, hb.output.trans h.output, Nat.le_trans h.size hb.size, fun k hk hne => (hb.block k (Nat.lt_of_lt_of_le hk h.size)).trans (h.block k hk hne)⟩
theorem gr_drew {w w1 : World} {r : Option Nat} (h : w.grownBy w1 r) : w.grownBy { heap := w1.heap, tape := w1.tape, drawn := w1.drawn + 1, os := w1.os, output := w1.output } r := ⟨h.os, h.tape, h.output, h.size, h.block⟩
theorem FdAt.drew {w1 : World} {g : Nat} {pt : Nat → Nat → Int} {l : List (Nat × Nat)} (h : FdAt w1 g pt l) : FdAt { heap := w1.heap, tape := w1.tape, drawn := w1.drawn + 1, os := w1.os, output := w1.output } g pt l := h.of_block rfl
def SortRes (w : World) (g : Nat) (pt : Nat → Nat → Int) (R : List (Nat × Nat) → Prop) (e : Ending) (w' : World) : Prop :=
  e = .returned (.tuple #[]) ∧ ∃ y, FdAt w' g pt y ∧ w.grownBy w' (some g) ∧ R y
def Small (l : List (Nat × Nat)) : Prop := ∀ p ∈ l, p.1 ≤ 59 ∧ p.2 < 18446744073709551616
theorem Small.get {l : List (Nat × Nat)} (h : Small l) {t : Nat} {p : Nat × Nat} (hp : l[t]? = some p) : p.1 ≤ 59 ∧ p.2 < 18446744073709551616 := h p (List.mem_of_getElem? hp)
theorem fd3_info (pt : Nat → Nat → Int) (p : Nat × Nat) : (Tryz.prog.info? 66).map (·.size) = some (fd3 pt p).toArray.size := by
  show _ = some 3
  kernel_rfl
theorem fd3_one (pt : Nat → Nat → Int) (p : Nat × Nat) : (fd3 pt p).toArray.all (·.oneCell') = true := by simp [fd3, Value.oneCell']
end Go.Proofs.YthbkljeibmkimaaGreat


namespace Go.Proofs.YthbkljeibmkimaaGreat
open Go.RowKit
set_option linter.unusedVariables false
set_option linter.unusedSimpArgs false

set_option maxRecDepth 100000 in
set_option maxHeartbeats 4000000 in
theorem cmp_any (pt : Nat → Nat → Int) (p q : Nat × Nat) (hp : p.1 ≤ 59) (hq : q.1 ≤ 59) (w : World) :
  Calls Tryz.prog 37 #[.agg (fd3 pt p).toArray, .agg (fd3 pt q).toArray] w fun e w' => e = .returned (.int .i64 ((p.1 : Int) - (q.1 : Int))) ∧ Below w.heap.size w w' := by
 unfold fd3
 obtain ⟨a, ha⟩ : ∃ a, a = p.1 := ⟨_, rfl⟩
 obtain ⟨b, hb⟩ : ∃ b, b = q.1 := ⟨_, rfl⟩
 rw [← ha] at hp ⊢
 rw [← hb] at hq ⊢
 generalize pt a p.2 = x
 generalize pt b q.2 = y
 generalize p.2 = i
 generalize q.2 = j
 clear ha hb p q
 obtain ⟨g1, g2, hb1', hsz1⟩ := news2 w (.cells #[.int .i64 (a : Int), .int .u64 (i : Int), .int .i64 x] 66) (.cells #[.int .i64 (b : Int), .int .u64 (j : Int), .int .i64 y] 66)
 have HX1 : Hid (Blk _ w.heap.size 66 #[.int .i64 (a : Int), .int .u64 (i : Int), .int .i64 x]) := Lib.hid g1
 have HX2 : Hid (Blk _ (w.heap.size + 1) 66 #[.int .i64 (b : Int), .int .u64 (j : Int), .int .i64 y]) := Lib.hid g2
 have q0 := HX1.out.cell 0
 have q1 := HX2.out.cell 0
 simp at q0 q1
 have HB := Lib.hid hb1'
 clear g1 g2 hb1' hsz1
 go_enter Tryz.func37, Tryz.ntmps37
 go_wp2
 go_ret
 exact ⟨by first | rfl | (congr 2; omega), HB.out⟩
set_option maxRecDepth 100000 in
set_option maxHeartbeats 8000000 in
theorem swrange (pt : Nat → Nat → Int) (F : Value) (g cap : Nat) (l : List (Nat × Nat)) (a b n : Nat) (hd : a + n ≤ b ∨ b + n ≤ a) (ha : a + n ≤ l.length) (hb : b + n ≤ l.length) (hlen : l.length ≤ 100000) (hc : l.length ≤ cap) (w : World) (h : FdAt w g pt l) :
  Calls Tryz.prog 87 #[.slice (some ⟨g, 0, none⟩) l.length cap, .int .i64 (a : Int), .int .i64 (b : Int), .int .i64 (n : Int), F] w (SortRes w g pt fun y => IsSw l y a b n) := by
 obtain ⟨L, hL⟩ : ∃ L, L = l.length := ⟨_, rfl⟩
 have HL := Lib.hid hL
 rw [← hL] at ha hb hlen hc ⊢
 have HF := Lib.hid h
 have HD := Lib.hid hd
 clear h hd hL
 go_enter Tryz.func87, Tryz.ntmps87
 go_wp2_with fail
 go_loopw [10] (fun i wr => ∃ (k : Nat) (y : List (Nat × Nat)), i = .int .i64 (k : Int) ∧ k ≤ n ∧ FdAt wr g pt y ∧ w.grownBy wr (some g) ∧ IsSw l y a b k) (fun i _ => n - (intOf i).toNat)
 case atStart => exact ⟨0, l, rfl, Nat.zero_le _, HF.out, gr_refl _ _, IsSw.zero _ _ _⟩
 case round =>
  obtain ⟨k, y, rfl, hk, hf, hg, hs⟩ := hrel
  have HFY := Lib.hid hf
  have HG := Lib.hid hg
  have HS := Lib.hid hs
  clear hf hg hs
  by_cases hkn : k < n
  ·have hkz : (k : Int) < (n : Int) := by omega
   obtain ⟨p, hp⟩ : ∃ p, p = a + k := ⟨_, rfl⟩
   obtain ⟨q, hq⟩ : ∃ q, q = b + k := ⟨_, rfl⟩
   have hpz : (a : Int) + (k : Int) = (p : Int) := by omega
   have hqz : (b : Int) + (k : Int) = (q : Int) := by omega
   have hpL : p < L := by omega
   have hqL : q < L := by omega
   have hpw : IntKind.i64.wrap (p : Int) = (p : Int) := wrapI_of _ (by omega) (by omega)
   have hqw : IntKind.i64.wrap (q : Int) = (q : Int) := wrapI_of _ (by omega) (by omega)
   have hpl : (p : Int) < (L : Int) := by omega
   have hql : (q : Int) < (L : Int) := by omega
   have hyl : y.length = L := by rw [HS.out.1, HL.out]
   obtain ⟨u, hu⟩ : ∃ u, y[p]? = some u := ⟨_, List.getElem?_eq_getElem (by omega)⟩
   obtain ⟨v, hv⟩ : ∃ v, y[q]? = some v := ⟨_, List.getElem?_eq_getElem (by omega)⟩
   have HPQ : Hid (p = a + k ∧ q = b + k ∧ y.length = L ∧ y[p]? = some u ∧ y[q]? = some v) := Lib.hid ⟨hp, hq, hyl, hu, hv⟩
   clear hp hq hyl hu hv
   go_wp2_with fail
   have HFD := Lib.hid HFY.out.drew
   have HGD := Lib.hid (gr_drew HG.out)
   refine wp_region_any (by kernel_rfl) ?_
   generalize ({ heap := wr.heap, tape := wr.tape, drawn := wr.drawn + 1, os := wr.os, output := wr.output } : World) = wd at *
   have hlp := HFD.out.rng p u HPQ.out.2.2.2.1
   have hlq := HFD.out.rng q v HPQ.out.2.2.2.2
   refine tkA (i := 4) (v := ?_) rfl (by kernel_rfl) (fun _ _ _ h => h) (Or.inl ⟨by rfl, ?_⟩) ?_
   rotate_left
   ·intro w
    go_simp
    try with_reducible rfl
   simp only [Act.put, z1, z2, z3, z4, z5, z6]
   refine tkA (i := 5) (v := ?_) rfl (by kernel_rfl) (fun _ _ _ h => h) (Or.inl ⟨by rfl, ?_⟩) ?_
   rotate_left
   ·intro w
    go_simp
    try with_reducible rfl
   simp only [Act.put, z1, z2, z3, z4, z5, z6]
   refine tkA (i := 6) (v := ?_) rfl (by kernel_rfl) (fun _ _ _ h => h) (Or.inl ⟨by rfl, ?_⟩) ?_
   rotate_left
   ·intro w
    go_simp
    try with_reducible rfl
   simp only [Act.put, z1, z2, z3, z4, z5, z6]
   refine tkA (i := 7) (v := ?_) rfl (by kernel_rfl) (fun _ _ _ h => h) (Or.inl ⟨by rfl, ?_⟩) ?_
   rotate_left
   ·intro w
    go_simp
    try with_reducible rfl
   simp only [Act.put, z1, z2, z3, z4, z5, z6]
   refine wpAny_still_tail [true, true, true, true, false, false, false, false, true, true, true, true, true, true, true, true, true, true, true, true] [4, 5, 6, 7] _ (by kernel_rfl) (by kernel_rfl) ?_
   simp only [dropAt, List.length_cons, List.length_nil, List.drop_succ_cons, List.drop_zero]
   repeat (first | refine wpStill_load_mid (by rfl) 66 _ rfl g (p * 3) rfl (fd3 pt u) _ hlp Tryz.underlying66 rfl (by kernel_rfl) ?_ | refine wpStill_load_mid (by rfl) 66 _ rfl g (q * 3) rfl (fd3 pt v) _ hlq Tryz.underlying66 rfl (by kernel_rfl) ?_ | still_step)
   refine wpStill_nil ?_
   simp only [Act.put, z1, z2, z3, z4, z5, z6]
   have ht1 := HFD.out.there (t := p) (by have := HPQ.out.2.2.1; omega)
   have hf2 := HFD.out.set (i := p) (by have := HPQ.out.2.2.1; omega) v
   have ht2 := hf2.there (t := q) (by have := HPQ.out.2.2.1; simp; omega)
   have HF3 : Hid (FdAt ((wd.setCells g (p * 3) (fd3 pt v).toArray.toList).setCells g (q * 3) (fd3 pt u).toArray.toList) g pt ((y.set p v).set q u)) := Lib.hid (hf2.set (i := q) (by have := HPQ.out.2.2.1; simp; omega) u)
   have HG3 : Hid (w.grownBy ((wd.setCells g (p * 3) (fd3 pt v).toArray.toList).setCells g (q * 3) (fd3 pt u).toArray.toList) (some g)) := Lib.hid (grown_setCells w g (fd3 pt u) (q * 3) _ (grown_setCells w g (fd3 pt v) (p * 3) _ HGD.out))
   have HS3 : Hid (IsSw l ((y.set p v).set q u) a b (k + 1)) := Lib.hid (HS.out.next (by have := HD.out; have h1 := HPQ.out.1; omega) (by
    have := isSw_set HPQ.out.2.2.2.1 HPQ.out.2.2.2.2
    rwa [HPQ.out.1, HPQ.out.2.1] at this ⊢))
   have HT1 := Lib.hid ht1
   have HT2 := Lib.hid ht2
   clear hf2 hlp hlq ht1 ht2
   iterate 3 go_step
   refine wpList_store_mid rfl 66 _ _ rfl g (p * 3) (fd3 pt v).toArray rfl (by rfl) HT1.out (fd3_info pt v) (fd3_one pt v) ?_
   iterate 3 go_step
   refine wpList_store_mid rfl 66 _ _ rfl g (q * 3) (fd3 pt u).toArray rfl (by rfl) HT2.out (fd3_info pt u) (fd3_one pt u) ?_
   generalize ((wd.setCells g (p * 3) (fd3 pt v).toArray.toList).setCells g (q * 3) (fd3 pt u).toArray.toList) = w3 at *
   go_wp2_with fail
   go_roundw
   case rel => exact ⟨k + 1, _, by go_num, by omega, HF3.out, HG3.out, HS3.out⟩
   case measure => simp [intOf]; omega
  ·have hkz : ¬ (k : Int) < (n : Int) := by omega
   have HR : Hid (SortRes w g pt (fun y => IsSw l y a b n) (.returned (.tuple #[])) wr) := Lib.hid ⟨rfl, y, HFY.out, HG.out, by rw [show n = k by omega]; exact HS.out⟩
   go_wp2
   go_end0
   exact HR.out
end Go.Proofs.YthbkljeibmkimaaGreat


namespace Go.Proofs.YthbkljeibmkimaaGreat
open Go.RowKit
set_option linter.unusedVariables false
set_option linter.unusedSimpArgs false

def lvK (p : Nat × Nat) : Int := (p.1 : Int)
theorem Stp.sub {α : Type} {key : α → Int} {a b : Nat} {x y : List α} (h : Stp key a b x y) : ∀ e ∈ y, e ∈ x := fun e he => by
  have h1 := h.flt (key e)
  have : e ∈ y.filter fun u => decide (key u = key e) := List.mem_filter.2 ⟨he, by simp⟩
  rw [h1] at this
  exact (List.mem_filter.1 this).1
theorem Stp.small {a b : Nat} {x y : List (Nat × Nat)} (h : Stp lvK a b x y) (hs : Small x) : Small y := fun p hp => hs p (h.sub p hp)
set_option maxRecDepth 100000 in
set_option maxHeartbeats 8000000 in
theorem srins (pt : Nat → Nat → Int) (g cap : Nat) (l : List (Nat × Nat)) (a b : Nat) (hab : a ≤ b) (hb : b ≤ l.length) (hlen : l.length ≤ 100000) (hc : l.length ≤ cap) (sm : Small l) (w : World) (h : FdAt w g pt l) :
  Calls Tryz.prog 74 #[.slice (some ⟨g, 0, none⟩) l.length cap, .int .i64 (a : Int), .int .i64 (b : Int), (.func (.func 37) #[] #[])] w (SortRes w g pt fun y => Stp lvK a b l y ∧ Srt lvK a b y) := by
 obtain ⟨L, hL⟩ : ∃ L, L = l.length := ⟨_, rfl⟩
 have HL := Lib.hid hL
 rw [← hL] at hb hlen hc ⊢
 have HF := Lib.hid h
 have HSL := Lib.hid sm
 clear h hL sm
 go_enter Tryz.func74, Tryz.ntmps74
 go_wp2_with fail
 go_loopw [8] (fun vi wr => ∃ (i : Nat) (y : List (Nat × Nat)), vi = .int .i64 (i : Int) ∧ a + 1 ≤ i ∧ (i ≤ b ∨ i = a + 1) ∧ FdAt wr g pt y ∧ w.grownBy wr (some g) ∧ Stp lvK a b l y ∧ Srt lvK a i y) (fun i _ => b + 1 - (intOf i).toNat)
 case atStart => exact ⟨a + 1, l, by go_num, Nat.le_refl _, .inr rfl, HF.out, gr_refl _ _, Stp.refl _ _ _, fun i j h1 h2 h3 => by rw [show i = j by omega]; exact Int.le_refl _⟩
 case round =>
  obtain ⟨i, y, rfl, hi1, hi2, hf, hg, hs, ho⟩ := hrel
  have HFY := Lib.hid hf
  have HG := Lib.hid hg
  have HS := Lib.hid hs
  have HO := Lib.hid ho
  clear hf hg hs ho
  by_cases hib : i < b
  ·have hiz : (i : Int) < (b : Int) := by omega
   generalize wr = wo at *
   go_wp2_with fail
   go_loopw [9] (fun vj wr => ∃ (j : Nat) (z : List (Nat × Nat)), vj = .int .i64 (j : Int) ∧ a ≤ j ∧ j ≤ i ∧ FdAt wr g pt z ∧ w.grownBy wr (some g) ∧ Stp lvK a b l z ∧ InsInv lvK a i j z) (fun j _ => (intOf j).toNat)
   case atStart => exact ⟨i, y, rfl, by omega, Nat.le_refl _, HFY.out, HG.out, HS.out, ins_start HO.out⟩
   case round =>
    obtain ⟨j, z, rfl, hj1, hj2, hf, hg, hs, ho⟩ := hrel
    have HFZ := Lib.hid hf
    have HGZ := Lib.hid hg
    have HSZ := Lib.hid hs
    have HOZ := Lib.hid ho
    have HYL : Hid (z.length = L) := Lib.hid (by rw [hs.len, HL.out])
    have HSM : Hid (Small z) := Lib.hid (hs.small HSL.out)
    clear hf hg hs ho
    by_cases hja : a < j
    ·obtain ⟨jp, hjp⟩ : ∃ jp, j = jp + 1 := ⟨j - 1, by omega⟩
     have hjaz : (a : Int) < (j : Int) := by omega
     have hjz : (j : Int) - 1 = (jp : Int) := by omega
     have hjw : IntKind.i64.wrap (jp : Int) = (jp : Int) := wrapI_of _ (by omega) (by omega)
     have hjL : (j : Int) < (L : Int) := by omega
     have hpL : (jp : Int) < (L : Int) := by omega
     have hj0 : (0 : Int) ≤ (jp : Int) := by omega
     obtain ⟨u, hu⟩ : ∃ u, z[j]? = some u := ⟨_, List.getElem?_eq_getElem (by have := HYL.out; omega)⟩
     obtain ⟨v, hv⟩ : ∃ v, z[jp]? = some v := ⟨_, List.getElem?_eq_getElem (by have := HYL.out; omega)⟩
     have HU := Lib.hid hu
     have HV := Lib.hid hv
     have HKU : Hid (kf lvK z j = (u.1 : Int)) := Lib.hid (kf_get hu)
     have HKV : Hid (kf lvK z jp = (v.1 : Int)) := Lib.hid (kf_get hv)
     have HJP := Lib.hid hjp
     have HUB := Lib.hid (HSM.out.get hu).1
     have HVB := Lib.hid (HSM.out.get hv).1
     clear hu hv hjp
     go_wp2_with fail
     have PC := Lib.hid (fun w => cmp_any pt u v (HSM.out.get HU.out).1 (HSM.out.get HV.out).1 w)
     have HFD := Lib.hid HFZ.out.drew
     have HGD := Lib.hid (gr_drew HGZ.out)
     refine wp_region_any (by kernel_rfl) ?_
     generalize ({ heap := wr.heap, tape := wr.tape, drawn := wr.drawn + 1, os := wr.os, output := wr.output } : World) = wd at *
     have hlp := HFD.out.rng j u HU.out
     have hlq := HFD.out.rng jp v HV.out
     refine wpAny_still_tail [true, true, true, true, true, true, true, true, true, true, true, true, true, true] [] _ (by kernel_rfl) (by kernel_rfl) ?_
     simp only [dropAt, List.length_cons, List.length_nil, List.drop_succ_cons, List.drop_zero]
     repeat (first | refine wpStill_load_mid (by rfl) 66 _ rfl g (j * 3) rfl (fd3 pt u) _ hlp Tryz.underlying66 rfl (by kernel_rfl) ?_ | refine wpStill_load_mid (by rfl) 66 _ rfl g (jp * 3) rfl (fd3 pt v) _ hlq Tryz.underlying66 rfl (by kernel_rfl) ?_ | still_step)
     refine wpStill_nil ?_
     simp only [Act.put, z1, z2, z3, z4, z5, z6]
     clear hlp hlq
     go_wp2_with fail
     with_reducible refine (PC.out _).mono ?_
     rintro e w3 ⟨rfl, hb⟩
     have HF3 := Lib.hid (HFD.out.kept hb)
     have HG3 := Lib.hid (gr_below HGD.out hb)
     clear hb
     have hub := HUB.out
     have hvb := HVB.out
     have hdw : IntKind.i64.wrap ((u.1 : Int) - (v.1 : Int)) = (u.1 : Int) - (v.1 : Int) := wrapI_of _ (by omega) (by omega)
     by_cases hlt : (u.1 : Int) - (v.1 : Int) < 0
     ·go_wp2_with fail
      clear HFD HGD
      have HF4 := HF3
      have HG4 := HG3
      clear HF3 HG3
      have HFD := Lib.hid HF4.out.drew
      have HGD := Lib.hid (gr_drew HG4.out)
      refine wp_region_any (by kernel_rfl) ?_
      generalize ({ heap := w3.heap, tape := w3.tape, drawn := w3.drawn + 1, os := w3.os, output := w3.output } : World) = wd at *
      have hlp := HFD.out.rng j u HU.out
      have hlq := HFD.out.rng jp v HV.out
      refine tkA (i := 2) (v := ?_) rfl (by kernel_rfl) (fun _ _ _ h => h) (Or.inl ⟨by rfl, ?_⟩) ?_
      rotate_left
      ·intro w
       go_simp
       try with_reducible rfl
      simp only [Act.put, z1, z2, z3, z4, z5, z6]
      refine tkA (i := 3) (v := ?_) rfl (by kernel_rfl) (fun _ _ _ h => h) (Or.inl ⟨by rfl, ?_⟩) ?_
      rotate_left
      ·intro w
       go_simp
       try with_reducible rfl
      simp only [Act.put, z1, z2, z3, z4, z5, z6]
      refine tkA (i := 4) (v := ?_) rfl (by kernel_rfl) (fun _ _ _ h => h) (Or.inl ⟨by rfl, ?_⟩) ?_
      rotate_left
      ·intro w
       go_simp
       try with_reducible rfl
      simp only [Act.put, z1, z2, z3, z4, z5, z6]
      refine wpAny_still_tail [true, true, false, false, false, true, true, true, true, true, true, true, true, true] [2, 3, 4] _ (by kernel_rfl) (by kernel_rfl) ?_
      simp only [dropAt, List.length_cons, List.length_nil, List.drop_succ_cons, List.drop_zero]
      repeat (first | refine wpStill_load_mid (by rfl) 66 _ rfl g (j * 3) rfl (fd3 pt u) _ hlp Tryz.underlying66 rfl (by kernel_rfl) ?_ | refine wpStill_load_mid (by rfl) 66 _ rfl g (jp * 3) rfl (fd3 pt v) _ hlq Tryz.underlying66 rfl (by kernel_rfl) ?_ | still_step)
      refine wpStill_nil ?_
      simp only [Act.put, z1, z2, z3, z4, z5, z6]
      clear hlp hlq
      have ht1 := HFD.out.there (t := j) (by have := HYL.out; omega)
      have hf2 := HFD.out.set (i := j) (by have := HYL.out; omega) v
      have ht2 := hf2.there (t := jp) (by have := HYL.out; simp; omega)
      have HF3 : Hid (FdAt ((wd.setCells g (j * 3) (fd3 pt v).toArray.toList).setCells g (jp * 3) (fd3 pt u).toArray.toList) g pt ((z.set j v).set jp u)) := Lib.hid (hf2.set (i := jp) (by have := HYL.out; simp; omega) u)
      have HG3 : Hid (w.grownBy ((wd.setCells g (j * 3) (fd3 pt v).toArray.toList).setCells g (jp * 3) (fd3 pt u).toArray.toList) (some g)) := Lib.hid (grown_setCells w g (fd3 pt u) (jp * 3) _ (grown_setCells w g (fd3 pt v) (j * 3) _ HGD.out))
      have HSW : Hid (IsSw z ((z.set j v).set jp u) j jp 1) := Lib.hid (isSw_set HU.out HV.out)
      have HT1 := Lib.hid ht1
      have HT2 := Lib.hid ht2
      clear hf2 ht1 ht2
      iterate 3 go_step
      refine wpList_store_mid rfl 66 _ _ rfl g (j * 3) (fd3 pt v).toArray rfl (by rfl) HT1.out (fd3_info pt v) (fd3_one pt v) ?_
      iterate 3 go_step
      refine wpList_store_mid rfl 66 _ _ rfl g (jp * 3) (fd3 pt u).toArray rfl (by rfl) HT2.out (fd3_info pt u) (fd3_one pt u) ?_
      generalize ((wd.setCells g (j * 3) (fd3 pt v).toArray.toList).setCells g (jp * 3) (fd3 pt u).toArray.toList) = w3 at *
      have HS3 : Hid (Stp lvK a b l ((z.set j v).set jp u) ∧ InsInv lvK a i jp ((z.set j v).set jp u)) := Lib.hid (by
       have e := HJP.out
       have h1 := HSW.out.symm1
       rw [e] at h1
       have hk : kf lvK z (jp + 1) < kf lvK z jp := by rw [← e, HKU.out, HKV.out]; omega
       refine ⟨HSZ.out.trans ?_, ?_⟩
       ·rw [e]
        exact (stp_swap (by have := HYL.out; omega) h1 hk).mono (by omega) (by omega)
       ·have h2 := HOZ.out
        rw [e] at h2 ⊢
        exact ins_next (by omega) (by omega) h2 h1 hk)
      go_wp2_with fail
      go_roundw
      case rel => exact ⟨jp, _, by go_num, by have := HJP.out; omega, by have := HJP.out; omega, HF3.out, HG3.out, HS3.out.1, HS3.out.2⟩
      case measure => simp [intOf]; have := HJP.out; omega
     ·have HR : Hid (Srt lvK a (i + 1) z) := Lib.hid (ins_done (by omega) hj2 HOZ.out (.inr (by rw [HKU.out, show j - 1 = jp by have := HJP.out; omega, HKV.out]; omega)))
      go_wp2_with fail
      go_roundw
      case rel => exact ⟨i + 1, z, by go_num, by omega, by omega, HF3.out, HG3.out, HSZ.out, HR.out⟩
      case measure => simp [intOf]; omega
    ·have hjaz : ¬ (a : Int) < (j : Int) := by omega
     have hjad : decide ((a : Int) < (j : Int)) = false := decide_eq_false hjaz
     have HR : Hid (Srt lvK a (i + 1) z) := Lib.hid (ins_done (by omega) hj2 HOZ.out (.inl (by omega)))
     have HFD := Lib.hid HFZ.out.drew
     have HGD := Lib.hid (gr_drew HGZ.out)
     go_wp2_with fail
     go_big_region
     all_goals go_wp2
     go_roundw
     case rel => exact ⟨i + 1, z, by go_num, by omega, by omega, HFD.out, HGD.out, HSZ.out, HR.out⟩
     case measure => simp [intOf]; omega
  ·have hiz : ¬ (i : Int) < (b : Int) := by omega
   have HR : Hid (SortRes w g pt (fun y => Stp lvK a b l y ∧ Srt lvK a b y) (.returned (.tuple #[])) wr) := Lib.hid ⟨rfl, y, HFY.out, HG.out, HS.out, fun p q h1 h2 h3 => HO.out p q h1 h2 (by omega)⟩
   go_wp2
   go_end0
   exact HR.out
end Go.Proofs.YthbkljeibmkimaaGreat


namespace Go.Proofs.YthbkljeibmkimaaGreat
open Go.RowKit
set_option linter.unusedVariables false
set_option linter.unusedSimpArgs false

set_option maxRecDepth 100000 in
set_option maxHeartbeats 8000000 in
theorem srrot (pt : Nat → Nat → Int) (F : Value) (g cap : Nat) (l : List (Nat × Nat)) (a m b : Nat) (ham : a < m) (hmb : m < b) (hb : b ≤ l.length) (hlen : l.length ≤ 100000) (hc : l.length ≤ cap) (w : World) (h : FdAt w g pt l) :
  Calls Tryz.prog 81 #[.slice (some ⟨g, 0, none⟩) l.length cap, .int .i64 (a : Int), .int .i64 (m : Int), .int .i64 (b : Int), F] w (SortRes w g pt fun y => IsRot l y a m b) := by
 obtain ⟨L, hL⟩ : ∃ L, L = l.length := ⟨_, rfl⟩
 have HL := Lib.hid hL
 have PS := Lib.hid (fun (z : List (Nat × Nat)) (x y n : Nat) h1 h2 h3 (h4 : z.length = L) => swrange pt F g cap z x y n h1 h2 h3 (by rw [h4, HL.out]; exact hlen) (by rw [h4, HL.out]; exact hc))
 rw [← hL] at hb hlen hc ⊢
 have HF := Lib.hid h
 clear h hL
 go_enter Tryz.func81, Tryz.ntmps81
 go_wp2_with fail
 go_loopw [10, 11] (fun vi vj wr => ∃ (i j : Nat) (y : List (Nat × Nat)), vi = .int .i64 (i : Int) ∧ vj = .int .i64 (j : Int) ∧ 0 < i ∧ 0 < j ∧ a + i ≤ m ∧ m + j ≤ b ∧ FdAt wr g pt y ∧ w.grownBy wr (some g) ∧ y.length = l.length ∧ ∀ z, IsRot y z (m - i) m (m + j) → IsRot l z a m b) (fun i j _ => (intOf i).toNat + (intOf j).toNat)
 case atStart => exact ⟨m - a, b - m, l, by go_num, by go_num, by omega, by omega, by omega, by omega, HF.out, gr_refl _ _, rfl, fun z hz => by rwa [show m - (m - a) = a by omega, show m + (b - m) = b by omega] at hz⟩
 case round =>
  obtain ⟨i, j, y, rfl, rfl, hi, hj, hai, hmj, hf, hg, hyl, hro⟩ := hrel
  have HFY := Lib.hid hf
  have HG := Lib.hid hg
  have HYL : Hid (y.length = L) := Lib.hid (by rw [hyl, HL.out])
  have HRO := Lib.hid hro
  clear hf hg hyl hro
  have hmi : (m : Int) - (i : Int) = ((m - i : Nat) : Int) := by omega
  by_cases hij : i = j
  ·subst hij
   have PW := Lib.hid (PS.out y (m - i) m i (by omega) (by have := HYL.out; omega) (by have := HYL.out; omega) HYL.out wr HFY.out)
   rw [HYL.out] at PW
   obtain ⟨p, hp⟩ : ∃ p, p = m - i := ⟨_, rfl⟩
   rw [← hp] at PW hmi
   have HP := Lib.hid hp
   have hpw : IntKind.i64.wrap (p : Int) = (p : Int) := wrapI_of _ (by omega) (by omega)
   have HR : Hid (∀ w' z, FdAt w' g pt z → wr.grownBy w' (some g) → IsSw y z p m i → SortRes w g pt (fun y => IsRot l y a m b) (.returned (.tuple #[])) w') := Lib.hid (fun w' z h1 h2 h3 => ⟨rfl, z, h1, HG.out.trans h2, HRO.out z (by rw [HP.out] at h3; exact IsRot.of_sw (by omega) h3)⟩)
   clear hp
   go_wp2_with fail
   with_reducible refine PW.out.mono ?_
   rintro e w3 ⟨rfl, z, h1, h2, h3⟩
   have HQ := Lib.hid (HR.out _ _ h1 h2 h3)
   clear h1 h2 h3
   go_wp2
   go_end0
   exact HQ.out
  ·have hijz : ¬ (i : Int) = (j : Int) := by omega
   have hijb : ((i : Int) != (j : Int)) = true := by simp; omega
   by_cases hlt : j < i
   ·have hjz : (j : Int) < (i : Int) := by omega
    have PW := Lib.hid (PS.out y (m - i) m j (by omega) (by have := HYL.out; omega) (by have := HYL.out; omega) HYL.out wr HFY.out)
    rw [HYL.out] at PW
    obtain ⟨p, hp⟩ : ∃ p, p = m - i := ⟨_, rfl⟩
    rw [← hp] at PW hmi
    have HP := Lib.hid hp
    have hpw : IntKind.i64.wrap (p : Int) = (p : Int) := wrapI_of _ (by omega) (by omega)
    clear hp
    go_wp2_with fail
    with_reducible refine PW.out.mono ?_
    rintro e w3 ⟨rfl, z, h1, h2, h3⟩
    have HF3 := Lib.hid h1
    have HG3 := Lib.hid (HG.out.trans h2)
    have HZL : Hid (z.length = l.length) := Lib.hid (by rw [h3.1, HYL.out, HL.out])
    have HRZ : Hid (∀ x, IsRot z x (m - (i - j)) m (m + j) → IsRot l x a m b) := Lib.hid (fun x hx => HRO.out x (rot_left (by omega) hlt (by rw [HP.out] at h3; exact h3) hx))
    clear h1 h2 h3
    go_wp2_with fail
    go_roundw
    case rel => exact ⟨i - j, j, z, by go_num, rfl, by omega, hj, by omega, hmj, HF3.out, HG3.out, HZL.out, HRZ.out⟩
    case measure => simp [intOf]; omega
   ·have hjz : ¬ (j : Int) < (i : Int) := by omega
    have PW := Lib.hid (PS.out y (m - i) (m + j - i) i (by omega) (by have := HYL.out; omega) (by have := HYL.out; omega) HYL.out wr HFY.out)
    rw [HYL.out] at PW
    obtain ⟨p, hp⟩ : ∃ p, p = m - i := ⟨_, rfl⟩
    obtain ⟨q, hq⟩ : ∃ q, q = m + j - i := ⟨_, rfl⟩
    have hqz : (m : Int) + (j : Int) - (i : Int) = (q : Int) := by omega
    rw [← hp, ← hq] at PW
    rw [← hp] at hmi
    have HP := Lib.hid hp
    have HQQ := Lib.hid hq
    have hpw : IntKind.i64.wrap (p : Int) = (p : Int) := wrapI_of _ (by omega) (by omega)
    have hqw : IntKind.i64.wrap (q : Int) = (q : Int) := wrapI_of _ (by omega) (by omega)
    clear hp hq
    go_wp2_with fail
    with_reducible refine PW.out.mono ?_
    rintro e w3 ⟨rfl, z, h1, h2, h3⟩
    have HF3 := Lib.hid h1
    have HG3 := Lib.hid (HG.out.trans h2)
    have HZL : Hid (z.length = l.length) := Lib.hid (by rw [h3.1, HYL.out, HL.out])
    have HRZ : Hid (∀ x, IsRot z x (m - i) m (m + (j - i)) → IsRot l x a m b) := Lib.hid (fun x hx => HRO.out x (rot_right (by omega) (by omega) (by rw [HP.out, HQQ.out] at h3; exact h3) hx))
    clear h1 h2 h3
    go_wp2_with fail
    go_roundw
    case rel => exact ⟨i, j - i, z, rfl, by go_num, hi, by omega, hai, by omega, HF3.out, HG3.out, HZL.out, HRZ.out⟩
    case measure => simp [intOf]; omega
end Go.Proofs.YthbkljeibmkimaaGreat


namespace Go.Proofs.YthbkljeibmkimaaGreat
set_option linter.unusedVariables false
set_option linter.unusedSimpArgs false

variable {α : Type} {key : α → Int}
def Bnd (a m b mid lo hi : Nat) : Prop := (mid < m ∧ lo + b = mid + m ∧ hi = mid) ∨ (m ≤ mid ∧ lo = a ∧ hi = m)
theorem Bnd.facts {a m b mid lo hi : Nat} (h : Bnd a m b mid lo hi) (hmid : mid = (a + b) / 2) (ham : a < m) (hmb : m < b) : a ≤ lo ∧ lo ≤ hi ∧ hi ≤ m ∧ hi ≤ mid ∧ mid + m ≤ b + lo ∧ m ≤ mid + m - hi ∧ mid < b ∧ a ≤ mid := by
  rcases h with ⟨h1, h2, h3⟩ | ⟨h1, h2, h3⟩ <;> omega
def Low (key : α → Int) (x : List α) (q lo s : Nat) : Prop := ∀ c, lo ≤ c → c < s → kf key x c ≤ kf key x (q - 1 - c)
def High (key : α → Int) (x : List α) (q r hi : Nat) : Prop := ∀ c, r ≤ c → c < hi → kf key x (q - 1 - c) < kf key x c
theorem low_next {x : List α} {a m b mid lo hi s c : Nat} (hB : Bnd a m b mid lo hi) (hmid : mid = (a + b) / 2) (ham : a < m) (hmb : m < b) (h1 : Srt key a m x) (h2 : Srt key m b x) (hc : lo ≤ c) (hc2 : c < hi) (h : ¬ kf key x (mid + m - 1 - c) < kf key x c) : Low key x (mid + m) lo (c + 1) := by
  obtain ⟨f1, f2, f3, f4, f5, f6, f7, f8⟩ := hB.facts hmid ham hmb
  intro d d1 d2
  have k1 := h1 d c (by omega) (by omega) (by omega)
  have k2 := h2 (mid + m - 1 - c) (mid + m - 1 - d) (by omega) (by omega) (by omega)
  omega
theorem high_next {x : List α} {a m b mid lo hi s c : Nat} (hB : Bnd a m b mid lo hi) (hmid : mid = (a + b) / 2) (ham : a < m) (hmb : m < b) (h1 : Srt key a m x) (h2 : Srt key m b x) (hc : lo ≤ c) (hc2 : c < hi) (h : kf key x (mid + m - 1 - c) < kf key x c) : High key x (mid + m) c hi := by
  obtain ⟨f1, f2, f3, f4, f5, f6, f7, f8⟩ := hB.facts hmid ham hmb
  intro d d1 d2
  have k1 := h1 c d (by omega) (by omega) (by omega)
  have k2 := h2 (mid + m - 1 - d) (mid + m - 1 - c) (by omega) (by omega) (by omega)
  omega
theorem symcut_of {x : List α} {a m b mid lo hi s : Nat} (hB : Bnd a m b mid lo hi) (hmid : mid = (a + b) / 2) (ham : a < m) (hmb : m < b) (h1 : lo ≤ s) (h2 : s ≤ hi) (hl : Low key x (mid + m) lo s) (hh : High key x (mid + m) s hi) : SymCut key x a m b mid s (mid + m - s) := by
  obtain ⟨f1, f2, f3, f4, f5, f6, f7, f8⟩ := hB.facts hmid ham hmb
  refine ⟨by omega, by omega, by omega, by omega, by omega, by omega, fun g1 g2 => ?_, fun g1 g2 => ?_⟩
  · have := hl (s - 1) (by rcases hB with hB | hB <;> omega) (by omega)
    rwa [show mid + m - 1 - (s - 1) = mid + m - s by omega] at this
  · have := hh s (Nat.le_refl _) (by rcases hB with hB | hB <;> omega)
    rwa [show mid + m - 1 - s = mid + m - s - 1 by omega] at this
end Go.Proofs.YthbkljeibmkimaaGreat

