import Derived.Test.YtfeficdndjiijaaGreatDoorQzd
import Derived.Test.YtfeficdndjiijaaGreatDoorQza
import Derived.Deep.QuietTactic
import Derived.BigQuiet
/-
  Contracts of the functions that TopWindow reaches, and the plain laws that it leans on. Conditions: none beyond those stated at each theorem.
-/
namespace Go.Proofs.YtfeficdndjiijaaGreatDoor
open Go.RowKit
set_option linter.unusedVariables false
set_option linter.unusedSimpArgs false

theorem two_lt {n : Nat} (h : n ≤ 59) : (1 : Int) ≤ 2 ^ n ∧ (2 : Int) ^ n ≤ 576460752303423488 := by
  have h1 : (2 : Nat) ^ n ≤ 2 ^ 59 := Nat.pow_le_pow_right (by decide) h
  have h2 : 0 < (2 : Nat) ^ n := Nat.two_pow_pos n
  have e : (2 : Int) ^ n = ((2 ^ n : Nat) : Int) := by simp
  have e2 : (2 : Nat) ^ 59 = 576460752303423488 := by decide
  omega
set_option maxRecDepth 100000 in
set_option maxHeartbeats 4000000 in
theorem pcis (b n i : Nat) (hb1 : 1 ≤ b) (hb : b ≤ 59) (hn : n ≤ b) (hi : i < 2 ^ (b - n)) (w : World) :
  Calls Tryz.prog 182 #[.int .i64 (b : Int), .agg #[.int .i64 (n : Int), .int .u64 (i : Int)]] w fun e w' => e = .returned (.bool true) ∧ Below w.heap.size w w' := by
 obtain ⟨g1, hb1', hsz1⟩ := news1 w (.cells #[.int .i64 (n : Int), .int .u64 (i : Int)] 155)
 have HX1 : Hid (Blk _ w.heap.size 155 #[.int .i64 (n : Int), .int .u64 (i : Int)]) := Lib.hid g1
 have HB1 := Lib.hid hb1'
 obtain ⟨t, ht⟩ : ∃ t, t = b - n := ⟨_, rfl⟩
 have hti : (b : Int) - (n : Int) = (t : Int) := by omega
 have h2 := two_lt (n := t) (by omega)
 have e2 : ((2 ^ t : Nat) : Int) = (2 : Int) ^ t := by simp
 rw [← ht] at hi
 have hii : (i : Int) < (2 : Int) ^ t := by omega
 have HD : Hid (decide ((i : Int) < IntKind.u64.wrap (2 ^ (b - n))) = true) := Lib.hid (decide_eq_true (by
  rw [← ht, wrapU_mod]
  omega))
 clear g1 hb1' hsz1 e2 ht hti h2 hii
 go_enter Tryz.func182, Tryz.ntmps182
 go_wp2_with fail
 generalize w.alloc (.cells #[.int .i64 (n : Int), .int .u64 (i : Int)] 155) = w1 at *
 have q0 := HX1.out.cell 0
 have q1 := HX1.out.cell 1
 simp at q0 q1
 have d1 : (1 : Int) ≤ (b : Int) := by omega
 have d2 : (b : Int) ≤ 59 := by omega
 have d3 : (0 : Int) ≤ (n : Int) := by omega
 have d4 : (n : Int) ≤ (b : Int) := by omega
 go_quiet (fail)
 go_wp2
 go_ret
 exact ⟨ret_bool HD.out, below_drewN HB1.out nq⟩
theorem Blk.rowFar {w : World} {g g' : Nat} {t : TypeId} {cs cs' : Array Value} (h : Blk w g t cs) (hne : g ≠ g') : Blk (w.setRow g' cs') g t cs := (setRow_other w g' g cs' hne).trans h
theorem Blk.rowNew {w : World} {g : Nat} {t : TypeId} {cs cs' : Array Value} (h : Blk w g t cs) : Blk (w.setRow g cs') g t cs' := setRow_heap w g cs cs' t (0, 0) h
set_option maxRecDepth 100000 in
set_option maxHeartbeats 4000000 in
theorem halves_no (b i : Nat) (hb1 : 1 ≤ b) (hb : b ≤ 59) (hi : i < 2 ^ b) (w : World) :
  Calls Tryz.prog 138 #[.int .i64 (b : Int), .agg #[.int .i64 0, .int .u64 (i : Int)]] w fun e w' => e = .returned (.tuple #[.agg #[.int .i64 0, .int .u64 0], .agg #[.int .i64 0, .int .u64 0], .bool false]) ∧ Below w.heap.size w w' := by
 have PI : Hid (∀ w, Calls Tryz.prog 182 #[.int .i64 (b : Int), .agg #[.int .i64 0, .int .u64 (i : Int)]] w fun e w' => e = .returned (.bool true) ∧ Below w.heap.size w w') := Lib.hid (fun w => pcis b 0 i hb1 hb (Nat.zero_le _) (by simpa using hi) w)
 obtain ⟨g1, g2, g3, hb1', hsz1⟩ := news3 w (.cells #[.int .i64 0, .int .u64 (i : Int)] 155) (.cells #[.int .i64 0, .int .u64 0] 155) (.cells #[.int .i64 0, .int .u64 0] 155)
 have HX1 : Hid (Blk _ w.heap.size 155 #[.int .i64 0, .int .u64 (i : Int)]) := Lib.hid g1
 have HY1 : Hid (Blk _ (w.heap.size + 1) 155 #[.int .i64 0, .int .u64 0]) := Lib.hid g2
 have HZ1 : Hid (Blk _ (w.heap.size + 1 + 1) 155 #[.int .i64 0, .int .u64 0]) := Lib.hid g3
 have HB1 := Lib.hid hb1'
 clear g1 g2 g3 hb1' hsz1
 go_enter Tryz.func138, Tryz.ntmps138
 go_wp2_with fail
 generalize (((w.alloc (.cells #[.int .i64 0, .int .u64 (i : Int)] 155)).alloc (.cells #[.int .i64 0, .int .u64 0] 155)).alloc (.cells #[.int .i64 0, .int .u64 0] 155)) = w1 at *
 have q := HX1.out
 go_wp2_with (first | refine wpList_load_row rfl 155 _ rfl w.heap.size rfl 155 _ (0, 0) _ q Tryz.underlying155 rfl (by kernel_rfl) ?_)
 with_reducible refine (PI.out w1).mono ?_
 rintro e w2 ⟨rfl, hb⟩
 have HX2 := Lib.hid (HX1.out.kept hb)
 have HY2 := Lib.hid (HY1.out.kept hb)
 have HZ2 := Lib.hid (HZ1.out.kept hb)
 have HB2 := Lib.hid (btr HB1.out hb)
 have q0 := HX2.out.cell 0
 simp at q0
 have yf2 := HY2.out
 have zf2 := HZ2.out
 clear hb q
 go_wp2_with (first | ((refine wpList_store_row rfl 155 _ _ rfl (w.heap.size + 1) #[.int .i64 0, .int .u64 0] rfl rfl 155 _ yf2 (by kernel_rfl) rfl (by simp [Value.oneCell']) ?_); rw [Blk.setRow_same yf2]) | (refine wpList_store_row rfl 155 _ _ rfl (w.heap.size + 1 + 1) #[.int .i64 0, .int .u64 0] rfl rfl 155 _ zf2 (by kernel_rfl) rfl (by simp [Value.oneCell']) ?_; rw [Blk.setRow_same zf2]))
 refine bodyPost_ret (results_row2_tmp rfl _ _ (w.heap.size + 1) (w.heap.size + 1 + 1) 155 155 _ _ (0, 0) (0, 0) _ rfl rfl HY2.out HZ2.out Tryz.underlying155 rfl (by kernel_rfl) (by kernel_rfl)) rfl ?_
 exact ⟨rfl, HB2.out⟩
set_option maxRecDepth 100000 in
set_option maxHeartbeats 40000000 in
theorem halves_yes (b n i : Nat) (hb1 : 1 ≤ b) (hb : b ≤ 59) (hn : n + 1 ≤ b) (hi : i < 2 ^ (b - (n + 1))) (w : World) :
  Calls Tryz.prog 138 #[.int .i64 (b : Int), .agg #[.int .i64 ((n + 1 : Nat) : Int), .int .u64 (i : Int)]] w fun e w' => e = .returned (.tuple #[.agg #[.int .i64 (n : Int), .int .u64 ((2 * i : Nat) : Int)], .agg #[.int .i64 (n : Int), .int .u64 ((2 * i + 1 : Nat) : Int)], .bool true]) ∧ Below w.heap.size w w' := by
 have PI := Lib.hid (fun w => pcis b (n + 1) i hb1 hb hn hi w)
 have h2 := two_lt (n := b - (n + 1)) (by omega)
 have e2 : ((2 ^ (b - (n + 1)) : Nat) : Int) = (2 : Int) ^ (b - (n + 1)) := by simp
 have hi2 : (i : Int) < 576460752303423488 := by omega
 have hx : ((n + 1 : Nat) : Int) ≠ 0 := by omega
 obtain ⟨m, hm⟩ : ∃ m, m = n + 1 := ⟨_, rfl⟩
 rw [← hm] at hx PI hn ⊢
 have HM1 : Hid (IntKind.i64.wrap ((m : Int) - 1) = (n : Int) ∧ (m : Int) - 1 = (n : Int)) := Lib.hid ⟨by rw [show (m : Int) - 1 = (n : Int) by omega]; exact wrapI_of _ (by omega) (by omega), by omega⟩
 have d0 : ((m : Int) == 0) = false := by simp; omega
 have HI2 : Hid (IntKind.u64.wrap (2 * (i : Int)) = ((2 * i : Nat) : Int) ∧ IntKind.u64.wrap (((2 * i : Nat) : Int) + 1) = ((2 * i + 1 : Nat) : Int)) := Lib.hid ⟨by rw [wrapU_mod]; omega, by rw [wrapU_mod]; omega⟩
 have HX := Lib.hid hx
 clear hm h2 e2 hi hx
 obtain ⟨g1, g2, g3, hb1', hsz1⟩ := news3 w (.cells #[.int .i64 (m : Int), .int .u64 (i : Int)] 155) (.cells #[.int .i64 0, .int .u64 0] 155) (.cells #[.int .i64 0, .int .u64 0] 155)
 have HX1 : Hid (Blk _ w.heap.size 155 #[.int .i64 (m : Int), .int .u64 (i : Int)]) := Lib.hid g1
 have HY1 : Hid (Blk _ (w.heap.size + 1) 155 #[.int .i64 0, .int .u64 0]) := Lib.hid g2
 have HZ1 : Hid (Blk _ (w.heap.size + 1 + 1) 155 #[.int .i64 0, .int .u64 0]) := Lib.hid g3
 have HB1 := Lib.hid hb1'
 clear g1 g2 g3 hb1' hsz1
 go_enter Tryz.func138, Tryz.ntmps138
 go_wp2_with fail
 generalize (((w.alloc (.cells #[.int .i64 (m : Int), .int .u64 (i : Int)] 155)).alloc (.cells #[.int .i64 0, .int .u64 0] 155)).alloc (.cells #[.int .i64 0, .int .u64 0] 155)) = w1 at *
 have q := HX1.out
 go_wp2_with (first | refine wpList_load_row rfl 155 _ rfl w.heap.size rfl 155 _ (0, 0) _ q Tryz.underlying155 rfl (by kernel_rfl) ?_)
 with_reducible refine (PI.out w1).mono ?_
 rintro e w2 ⟨rfl, hb⟩
 have HX2 := Lib.hid (HX1.out.kept hb)
 have HY2 := Lib.hid (HY1.out.kept hb)
 have HZ2 := Lib.hid (HZ1.out.kept hb)
 have HB2 := Lib.hid (btr HB1.out hb)
 have q0 := HX2.out.cell 0
 simp at q0
 clear hb q
 go_wp2_with fail
 clear q0
 have hy3 := HY2.out.kept (below_drewN (Below.refl _ _) 1)
 have hz3 := HZ2.out.kept (below_drewN (Below.refl _ _) 1)
 have zf4 := hz3.rowFar (g' := w.heap.size + 1) (cs' := #[.int .i64 (IntKind.i64.wrap ((m : Int) - 1)), .int .u64 (IntKind.u64.wrap (2 * (i : Int)))]) (by omega)
 have HY4 := Lib.hid (hy3.rowNew (cs' := #[.int .i64 (IntKind.i64.wrap ((m : Int) - 1)), .int .u64 (IntKind.u64.wrap (2 * (i : Int)))]))
 have HZ5 := Lib.hid (zf4.rowNew (cs' := #[.int .i64 (IntKind.i64.wrap ((m : Int) - 1)), .int .u64 (IntKind.u64.wrap (IntKind.u64.wrap (2 * (i : Int)) + 1))]))
 have HY5 := Lib.hid (HY4.out.rowFar (g' := w.heap.size + 1 + 1) (cs' := #[.int .i64 (IntKind.i64.wrap ((m : Int) - 1)), .int .u64 (IntKind.u64.wrap (IntKind.u64.wrap (2 * (i : Int)) + 1))]) (by omega))
 refine wp_region_held_drew (S := fun w' => Blk w' w.heap.size 155 #[.int .i64 (m : Int), .int .u64 (i : Int)] ∧ Below w.heap.size w w') (by kernel_rfl) (by exact ⟨HX2.out.kept (below_drewN (Below.refl _ _) 1), below_drewN HB2.out 1⟩) (fun hHeld => ?_)
 refine tkH (i := 0) (v := ?_) rfl (by kernel_rfl) (fun _ _ _ h => h) (Or.inl ⟨by rfl, ?_⟩) (by assumption) ?_
 rotate_left
 ·intro w hSw
  try dsimp only at hSw
  go_simp
  try with_reducible rfl
 simp only [Act.put, z1, z2, z3, z4, z5, z6]
 refine tkH (i := 1) (v := ?_) rfl (by kernel_rfl) (fun _ _ _ h => h) (Or.inl ⟨by rfl, ?_⟩) (by assumption) ?_
 rotate_left
 ·intro w hSw
  have q0 := hSw.1.cell 0
  have q1 := hSw.1.cell 1
  simp at q0 q1
  go_simp
  try with_reducible rfl
 simp only [Act.put, z1, z2, z3, z4, z5, z6]
 refine tkH (i := 2) (v := ?_) rfl (by kernel_rfl) (fun _ _ _ h => h) (Or.inl ⟨by rfl, ?_⟩) (by assumption) ?_
 rotate_left
 ·intro w hSw
  try dsimp only at hSw
  go_simp
  try with_reducible rfl
 simp only [Act.put, z1, z2, z3, z4, z5, z6]
 refine tkH (i := 3) (v := ?_) rfl (by kernel_rfl) (fun _ _ _ h => h) (Or.inl ⟨by rfl, ?_⟩) (by assumption) ?_
 rotate_left
 ·intro w hSw
  try dsimp only at hSw
  go_simp
  try with_reducible rfl
 simp only [Act.put, z1, z2, z3, z4, z5, z6]
 refine tkH (i := 4) (v := ?_) rfl (by kernel_rfl) (fun _ _ _ h => h) (Or.inl ⟨by rfl, ?_⟩) (by assumption) ?_
 rotate_left
 ·intro w hSw
  have q0 := hSw.1.cell 0
  have q1 := hSw.1.cell 1
  simp at q0 q1
  go_simp
  try with_reducible rfl
 simp only [Act.put, z1, z2, z3, z4, z5, z6]
 refine tkH (i := 5) (v := ?_) rfl (by kernel_rfl) (fun _ _ _ h => h) (Or.inl ⟨by rfl, ?_⟩) (by assumption) ?_
 rotate_left
 ·intro w hSw
  try dsimp only at hSw
  go_simp
  try with_reducible rfl
 simp only [Act.put, z1, z2, z3, z4, z5, z6]
 refine tkH (i := 6) (v := ?_) rfl (by kernel_rfl) (fun _ _ _ h => h) (Or.inl ⟨by rfl, ?_⟩) (by assumption) ?_
 rotate_left
 ·intro w hSw
  try dsimp only at hSw
  go_simp
  try with_reducible rfl
 simp only [Act.put, z1, z2, z3, z4, z5, z6]
 refine tkH (i := 7) (v := ?_) rfl (by kernel_rfl) (fun _ _ _ h => h) (Or.inl ⟨by rfl, ?_⟩) (by assumption) ?_
 rotate_left
 ·intro w hSw
  try dsimp only at hSw
  go_simp
  try with_reducible rfl
 simp only [Act.put, z1, z2, z3, z4, z5, z6]
 refine tkH (i := 8) (v := ?_) rfl (by kernel_rfl) (fun _ _ _ h => h) (Or.inl ⟨by rfl, ?_⟩) (by assumption) ?_
 rotate_left
 ·intro w hSw
  have q0 := hSw.1.cell 0
  have q1 := hSw.1.cell 1
  simp at q0 q1
  go_simp
  try with_reducible rfl
 simp only [Act.put, z1, z2, z3, z4, z5, z6]
 refine tkH (i := 9) (v := ?_) rfl (by kernel_rfl) (fun _ _ _ h => h) (Or.inl ⟨by rfl, ?_⟩) (by assumption) ?_
 rotate_left
 ·intro w hSw
  try dsimp only at hSw
  go_simp
  try with_reducible rfl
 simp only [Act.put, z1, z2, z3, z4, z5, z6]
 refine tkH (i := 10) (v := ?_) rfl (by kernel_rfl) (fun _ _ _ h => h) (Or.inl ⟨by rfl, ?_⟩) (by assumption) ?_
 rotate_left
 ·intro w hSw
  try dsimp only at hSw
  go_simp
  try with_reducible rfl
 simp only [Act.put, z1, z2, z3, z4, z5, z6]
 refine tkH (i := 11) (v := ?_) rfl (by kernel_rfl) (fun _ _ _ h => h) (Or.inl ⟨by rfl, ?_⟩) (by assumption) ?_
 rotate_left
 ·intro w hSw
  have q0 := hSw.1.cell 0
  have q1 := hSw.1.cell 1
  simp at q0 q1
  go_simp
  try with_reducible rfl
 simp only [Act.put, z1, z2, z3, z4, z5, z6]
 refine tkH (i := 12) (v := ?_) rfl (by kernel_rfl) (fun _ _ _ h => h) (Or.inl ⟨by rfl, ?_⟩) (by assumption) ?_
 rotate_left
 ·intro w hSw
  try dsimp only at hSw
  go_simp
  try with_reducible rfl
 simp only [Act.put, z1, z2, z3, z4, z5, z6]
 refine tkH (i := 13) (v := ?_) rfl (by kernel_rfl) (fun _ _ _ h => h) (Or.inl ⟨by rfl, ?_⟩) (by assumption) ?_
 rotate_left
 ·intro w hSw
  try dsimp only at hSw
  go_simp
  try with_reducible rfl
 simp only [Act.put, z1, z2, z3, z4, z5, z6]
 refine tkH (i := 14) (v := ?_) rfl (by kernel_rfl) (fun _ _ _ h => h) (Or.inl ⟨by rfl, ?_⟩) (by assumption) ?_
 rotate_left
 ·intro w hSw
  try dsimp only at hSw
  go_simp
  try with_reducible rfl
 simp only [Act.put, z1, z2, z3, z4, z5, z6]
 refine wpAnyH_ready (rs := [15]) (by kernel_rfl) (by simp) ?_
 refine AllReadyH.cons rfl (fun Kc hKc => ?_) AllReadyH.nil
 first | refine wp_store_row 155 _ _ rfl (w.heap.size + 1) #[.int .i64 (IntKind.i64.wrap ((m : Int) - 1)), .int .u64 (IntKind.u64.wrap (2 * (i : Int)))] rfl rfl 155 _ hy3 (by kernel_rfl) rfl (by simp [Value.oneCell']) ?_ | refine wp_store_row 155 _ _ rfl (w.heap.size + 1 + 1) #[.int .i64 (IntKind.i64.wrap ((m : Int) - 1)), .int .u64 (IntKind.u64.wrap (IntKind.u64.wrap (2 * (i : Int)) + 1))] rfl rfl 155 _ zf4 (by kernel_rfl) rfl (by simp [Value.oneCell']) ?_
 refine hKc.out _ _ ?_ (fun hHeld => ?_)
 ·first | exact hHeld | exact ⟨hHeld.1.rowFar (by omega), below_setRow hHeld.2 (by omega) _⟩
 clear hKc Kc
 refine wpAnyH_ready (rs := [16]) (by kernel_rfl) (by simp) ?_
 refine AllReadyH.cons rfl (fun Kc hKc => ?_) AllReadyH.nil
 first | refine wp_store_row 155 _ _ rfl (w.heap.size + 1) #[.int .i64 (IntKind.i64.wrap ((m : Int) - 1)), .int .u64 (IntKind.u64.wrap (2 * (i : Int)))] rfl rfl 155 _ hy3 (by kernel_rfl) rfl (by simp [Value.oneCell']) ?_ | refine wp_store_row 155 _ _ rfl (w.heap.size + 1 + 1) #[.int .i64 (IntKind.i64.wrap ((m : Int) - 1)), .int .u64 (IntKind.u64.wrap (IntKind.u64.wrap (2 * (i : Int)) + 1))] rfl rfl 155 _ zf4 (by kernel_rfl) rfl (by simp [Value.oneCell']) ?_
 refine hKc.out _ _ ?_ (fun hHeld => ?_)
 ·first | exact hHeld | exact ⟨hHeld.1.rowFar (by omega), below_setRow hHeld.2 (by omega) _⟩
 clear hKc Kc
 refine tkH (i := 17) (v := ?_) rfl (by kernel_rfl) (fun _ _ _ h => h) (Or.inl ⟨by rfl, ?_⟩) (by assumption) ?_
 rotate_left
 ·intro w hSw
  try dsimp only at hSw
  go_simp
  try with_reducible rfl
 simp only [Act.put, z1, z2, z3, z4, z5, z6]
 refine wpAnyH_done (by kernel_rfl) ?_ _
 have HB5 := Lib.hid hHeld.2
 clear hHeld hy3 hz3 zf4
 go_wp2_with fail
 refine bodyPost_ret (results_row2_tmp rfl _ _ (w.heap.size + 1) (w.heap.size + 1 + 1) 155 155 _ _ (0, 0) (0, 0) _ rfl rfl HY5.out HZ5.out Tryz.underlying155 rfl (by kernel_rfl) (by kernel_rfl)) rfl ?_
 exact ⟨by rw [HM1.out.1, HI2.out.1, HI2.out.2]; rfl, HB5.out⟩
end Go.Proofs.YtfeficdndjiijaaGreatDoor

