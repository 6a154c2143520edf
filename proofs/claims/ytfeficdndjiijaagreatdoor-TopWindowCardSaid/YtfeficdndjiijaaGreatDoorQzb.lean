import Derived.Test.YtfeficdndjiijaaGreatDoorQza
import Derived.Test.YtfeficdndjiijaaGreatDoorProg
import Derived.Outline
import Derived.WalkSmall
import Derived.Deep.RegionHeld3
import Derived.Deep.OwnRows
import Derived.OwnWalk
import Derived.Laws.Externs
import Derived.Shelf.Spec.BitsCarry
import Derived.IntWalk
import Derived.RegionCalls
import Derived.Laws.CopyOwn
import Derived.Deep.QuietTactic
import Derived.BigQuiet
import Derived.WalkKit
import Derived.ProofKit
import Derived.OpenShut
import Derived.ChangeOld
import Derived.Below
import Derived.Deep.Slices
/-
  Contracts of the functions that TopWindow reaches, and the plain laws that it leans on. Conditions: none beyond those stated at each theorem.
-/
namespace Go.Proofs.YtfeficdndjiijaaGreatDoor
open Go.RowKit
set_option linter.unusedVariables false
set_option linter.unusedSimpArgs false

def bor64 (x y : Int) : Int := if x < y then 1 else 0
theorem bor64_bd (x y : Int) : 0 ≤ bor64 x y ∧ bor64 x y ≤ 1 := by unfold bor64; split <;> omega
theorem wrapU_eq (x : Int) : IntKind.u64.wrap x = x % 18446744073709551616 := by simp [IntKind.wrap, IntKind.bits, IntKind.signed]
theorem wrapI_bd (x : Int) : -9223372036854775808 ≤ IntKind.i64.wrap x ∧ IntKind.i64.wrap x ≤ 9223372036854775807 := by
  simp [IntKind.wrap, IntKind.bits, IntKind.signed]; split <;> omega

theorem add64c (x y c : Int) (hx : 0 ≤ x) (hy : 0 ≤ y) (hc0 : 0 ≤ c) (hc : c ≤ 1) (w : World) : (callFunc 214 #[.int .u64 x, .int .u64 y, .int .u64 c]).run Tryz.prog w =
    .ok (.value (.tuple #[.int .u64 ((x + y + c) % 18446744073709551616), .int .u64 ((x + y + c) / 18446744073709551616)])) w := by
  rw [run_callFunc_extern Tryz.func214 (by kernel_rfl) (by kernel_rfl) (by kernel_rfl) (e := add64Entry) (by kernel_rfl), run_add64 x y c (by omega) (by omega) (by omega) (by omega)]
  rfl
theorem add64c0 (x y : Int) (hx : 0 ≤ x) (hy : 0 ≤ y) (w : World) : (callFunc 214 #[.int .u64 x, .int .u64 y, .int .u64 0]).run Tryz.prog w =
    .ok (.value (.tuple #[.int .u64 ((x + y) % 18446744073709551616), .int .u64 ((x + y) / 18446744073709551616)])) w := by
  simpa using add64c x y 0 hx hy (Int.le_refl 0) (by decide) w
theorem sub64c (x y b : Int) (hx : 0 ≤ x) (hy : 0 ≤ y) (hy' : y < 18446744073709551616) (hb0 : 0 ≤ b) (hb : b ≤ 1) (w : World) : (callFunc 236 #[.int .u64 x, .int .u64 y, .int .u64 b]).run Tryz.prog w =
    .ok (.value (.tuple #[.int .u64 ((x - y - b) % 18446744073709551616), .int .u64 (bor64 x (y + b))])) w := by
  obtain ⟨x, rfl⟩ := Int.eq_ofNat_of_zero_le hx
  obtain ⟨y, rfl⟩ := Int.eq_ofNat_of_zero_le hy
  obtain ⟨b, rfl⟩ := Int.eq_ofNat_of_zero_le hb0
  have e1 : (((x + 18446744073709551616 - y - b) % 18446744073709551616 : Nat) : Int) = ((x : Int) - y - b) % 18446744073709551616 := by omega
  have e2 : ((if x < y + b then 1 else 0 : Nat) : Int) = bor64 x ((y : Int) + b) := by unfold bor64; split <;> split <;> omega
  rw [← e1, ← e2]
  rw [run_callFunc_extern Tryz.func236 (by kernel_rfl) (by kernel_rfl) (by kernel_rfl) (e := sub64Entry) (by kernel_rfl), run_sub64 x y b (by omega)]
  rfl
theorem sub64c0 (x y : Int) (hx : 0 ≤ x) (hy : 0 ≤ y) (hy' : y < 18446744073709551616) (w : World) : (callFunc 236 #[.int .u64 x, .int .u64 y, .int .u64 0]).run Tryz.prog w =
    .ok (.value (.tuple #[.int .u64 ((x - y) % 18446744073709551616), .int .u64 (bor64 x y)])) w := by
  simpa using sub64c x y 0 hx hy hy' (Int.le_refl 0) (by decide) w

theorem of_any (n : Int) (n0 : -9223372036854775808 ≤ n) (n1 : n ≤ 9223372036854775807) (w : World) :
    Calls Tryz.prog 178 #[.int .i64 n] w fun e w' => e = .returned (.agg #[.int .i64 (n / 9223372036854775808), .int .u64 (IntKind.u64.wrap n)]) ∧ Below w.heap.size w w' := by
  go_enter Tryz.func178, Tryz.ntmps178
  go_wp2
  refine bodyPost_ret (results_cell_row rfl _ _ w.heap.size 143 #[.int .i64 (n / 9223372036854775808), .int .u64 (IntKind.u64.wrap n)] (0, 0) _ rfl (Blk.new w _ _) Tryz.underlying143 rfl (by kernel_rfl)) rfl ?_
  exact ⟨rfl, (Below.refl _ _).alloc (Nat.le_refl _) _⟩

set_option maxRecDepth 100000 in
theorem int_yes (hi lo x : Int) (hx : wrap64 lo = x) (x0 : -9223372036854775808 ≤ x) (x1 : x ≤ 9223372036854775807) (hhi : x / 9223372036854775808 = hi) (hlo : IntKind.u64.wrap x = lo) (w : World) :
  Calls Tryz.prog 179 #[.agg #[.int .i64 hi, .int .u64 lo]] w fun e w' => e = .returned (.tuple #[.int .i64 x, .bool true]) ∧ Below w.heap.size w w' := by
 have hb0 := Blk.new w 143 #[.int .i64 hi, .int .u64 lo]
 have hbel : Below w.heap.size w (w.alloc (.cells #[.int .i64 hi, .int .u64 lo] 143)) := (Below.refl _ _).alloc (Nat.le_refl _) _
 go_enter Tryz.func179, Tryz.ntmps179
 go_wp2_with fail
 refine wp_region_held_drew (S := fun w' => Blk w' w.heap.size 143 #[.int .i64 hi, .int .u64 lo] ∧ Below w.heap.size w w') (by kernel_rfl) (by exact ⟨hb0.drew, hbel.drew⟩) (fun hHeld => ?_)
 refine tkH (i := 0) (v := ?_) rfl (by kernel_rfl) (fun _ _ _ h => h) (Or.inl ⟨by rfl, ?_⟩) (by assumption) ?_
 rotate_left
 ·intro w hSw
  try dsimp only at hSw
  go_simp
  try with_reducible rfl
 simp only [Act.put, z1, z2, z3, z4, z5, z6]
 refine tkH (i := 2) (v := ?_) rfl (by kernel_rfl) (fun _ _ _ h => h) (Or.inl ⟨by rfl, ?_⟩) (by assumption) ?_
 rotate_left
 ·intro w hSw
  have q0 := hSw.1.cell 0
  have q1 := hSw.1.cell 1
  simp at q0 q1
  go_simp
  try with_reducible rfl
 simp only [Act.put, z1, z2, z3, z4, z5, z6]
 refine wpAnyH_ready (rs := [1]) (by kernel_rfl) (by simp) ?_
 refine AllReadyH.cons rfl (fun Kc hKc => ?_) AllReadyH.nil
 go_simp
 go_wp2_with (go_at_call 178; refine (of_any _ (by omega) (by omega) _).mono ?_; rintro e w' ⟨rfl, hb'⟩)
 refine hKc.out _ _ ?_ (fun hHeld => ?_)
 ·first | assumption | exact ⟨hHeld.1.kept hb', btr hHeld.2 hb'⟩
 clear hKc Kc
 refine tkH (i := 3) (v := ?_) rfl (by kernel_rfl) (fun _ _ _ h => h) (Or.inl ⟨by rfl, ?_⟩) (by assumption) ?_
 rotate_left
 ·intro w hSw
  try dsimp only at hSw
  go_simp
  try with_reducible rfl
 simp only [Act.put, z1, z2, z3, z4, z5, z6]
 refine wpAnyH_done (by kernel_rfl) ?_ _
 obtain ⟨_, hb9⟩ := hHeld
 have HB := Lib.hid hb9
 clear hb9
 go_wp2
 go_ret2
 exact ⟨rfl, HB.out⟩

set_option maxRecDepth 100000 in
theorem int_no (hi lo x : Int) (hx : wrap64 lo = x) (x0 : -9223372036854775808 ≤ x) (x1 : x ≤ 9223372036854775807) (hhi : ¬ x / 9223372036854775808 = hi) (w : World) :
  Calls Tryz.prog 179 #[.agg #[.int .i64 hi, .int .u64 lo]] w fun e w' => e = .returned (.tuple #[.int .i64 0, .bool false]) ∧ Below w.heap.size w w' := by
 have hb0 := Blk.new w 143 #[.int .i64 hi, .int .u64 lo]
 have hbel : Below w.heap.size w (w.alloc (.cells #[.int .i64 hi, .int .u64 lo] 143)) := (Below.refl _ _).alloc (Nat.le_refl _) _
 go_enter Tryz.func179, Tryz.ntmps179
 go_wp2_with fail
 refine wp_region_held_drew (S := fun w' => Blk w' w.heap.size 143 #[.int .i64 hi, .int .u64 lo] ∧ Below w.heap.size w w') (by kernel_rfl) (by exact ⟨hb0.drew, hbel.drew⟩) (fun hHeld => ?_)
 refine tkH (i := 0) (v := ?_) rfl (by kernel_rfl) (fun _ _ _ h => h) (Or.inl ⟨by rfl, ?_⟩) (by assumption) ?_
 rotate_left
 ·intro w hSw
  try dsimp only at hSw
  go_simp
  try with_reducible rfl
 simp only [Act.put, z1, z2, z3, z4, z5, z6]
 refine tkH (i := 2) (v := ?_) rfl (by kernel_rfl) (fun _ _ _ h => h) (Or.inl ⟨by rfl, ?_⟩) (by assumption) ?_
 rotate_left
 ·intro w hSw
  have q0 := hSw.1.cell 0
  have q1 := hSw.1.cell 1
  simp at q0 q1
  go_simp
  try with_reducible rfl
 simp only [Act.put, z1, z2, z3, z4, z5, z6]
 refine wpAnyH_ready (rs := [1]) (by kernel_rfl) (by simp) ?_
 refine AllReadyH.cons rfl (fun Kc hKc => ?_) AllReadyH.nil
 go_simp
 go_wp2_with (go_at_call 178; refine (of_any _ (by omega) (by omega) _).mono ?_; rintro e w' ⟨rfl, hb'⟩)
 refine hKc.out _ _ ?_ (fun hHeld => ?_)
 ·first | assumption | exact ⟨hHeld.1.kept hb', btr hHeld.2 hb'⟩
 clear hKc Kc
 refine tkH (i := 3) (v := ?_) rfl (by kernel_rfl) (fun _ _ _ h => h) (Or.inl ⟨by rfl, ?_⟩) (by assumption) ?_
 rotate_left
 ·intro w hSw
  try dsimp only at hSw
  go_simp
  try with_reducible rfl
 simp only [Act.put, z1, z2, z3, z4, z5, z6]
 refine wpAnyH_done (by kernel_rfl) ?_ _
 obtain ⟨_, hb9⟩ := hHeld
 have HB := Lib.hid hb9
 clear hb9
 go_wp2
 go_ret2
 exact ⟨rfl, HB.out⟩


end Go.Proofs.YtfeficdndjiijaaGreatDoor


namespace Go.Proofs.YtfeficdndjiijaaGreatDoor
open Go.RowKit
set_option linter.unusedVariables false
set_option linter.unusedSimpArgs false

theorem wrap64_of_mod (x : Int) (x0 : -9223372036854775808 ≤ x) (x1 : x ≤ 9223372036854775807) : wrap64 (x % 18446744073709551616) = x := by
  unfold wrap64; omega

set_option maxRecDepth 100000 in
set_option maxHeartbeats 4000000 in
theorem wadd_any (ah al bh bl s l : Int) (a0 : -9223372036854775808 ≤ ah) (a1 : ah ≤ 9223372036854775807) (b0 : -9223372036854775808 ≤ bh) (b1 : bh ≤ 9223372036854775807)
  (al0 : 0 ≤ al) (al1 : al ≤ 18446744073709551615) (bl0 : 0 ≤ bl) (bl1 : bl ≤ 18446744073709551615) (hs : s = ah + bh + (al + bl) / 18446744073709551616) (hl : l = (al + bl) % 18446744073709551616) (s0 : -9223372036854775808 ≤ s) (s1 : s ≤ 9223372036854775807) (w : World) :
  Calls Tryz.prog 177 #[.agg #[.int .i64 ah, .int .u64 al], .agg #[.int .i64 bh, .int .u64 bl]] w fun e w' => e = .returned (.tuple #[.agg #[.int .i64 s, .int .u64 l], .bool true]) ∧ Below w.heap.size w w' := by
 have k0 : 0 ≤ ((al + bl) / 18446744073709551616) ∧ ((al + bl) / 18446744073709551616) ≤ 1 := by omega
 obtain ⟨k0, k1⟩ := k0
 have A0 := fun w => add64c0 al bl al0 bl0 w
 have U1 : 0 ≤ IntKind.u64.wrap ah ∧ IntKind.u64.wrap ah ≤ 18446744073709551615 := by rw [wrapU_eq]; omega
 have U2 : 0 ≤ IntKind.u64.wrap bh ∧ IntKind.u64.wrap bh ≤ 18446744073709551615 := by rw [wrapU_eq]; omega
 have U3 : IntKind.u64.wrap ah = ah % 18446744073709551616 := wrapU_eq ah
 have U4 : IntKind.u64.wrap bh = bh % 18446744073709551616 := wrapU_eq bh
 rw [← hl] at A0
 generalize ((al + bl) / 18446744073709551616) = c at *
 have A1 := fun w => add64c (IntKind.u64.wrap ah) (IntKind.u64.wrap bh) c U1.1 U2.1 k0 k1 w
 have hq : wrap64 ((IntKind.u64.wrap ah + IntKind.u64.wrap bh + c) % 18446744073709551616) = s := by
  have e : ((IntKind.u64.wrap ah + IntKind.u64.wrap bh + c) % 18446744073709551616) = s % 18446744073709551616 := by rw [U3, U4, hs]; omega
  rw [e]; exact wrap64_of_mod s s0 s1
 generalize ((IntKind.u64.wrap ah + IntKind.u64.wrap bh + c) % 18446744073709551616) = q at *
 generalize (IntKind.u64.wrap ah + IntKind.u64.wrap bh + c) / 18446744073709551616 = q2 at *
 have hsum : (0 ≤ ah → 0 ≤ bh → 0 ≤ s) ∧ (ah < 0 → bh < 0 → s < 0) := ⟨by omega, by omega⟩
 clear al0 al1 bl0 bl1 hl U1 U2 U3 U4 k0 k1 hs
 have key : ∀ (p q r : Bool), decide (ah < 0) = p → decide (bh < 0) = q → decide (s < 0) = r → (p = q → r = p) → Calls Tryz.prog 177 #[.agg #[.int .i64 ah, .int .u64 al], .agg #[.int .i64 bh, .int .u64 bl]] w fun e w' => e = .returned (.tuple #[.agg #[.int .i64 s, .int .u64 l], .bool true]) ∧ Below w.heap.size w w' := by
  intro p q r D1 D2 D3 hk
  clear a0 a1 b0 b1 s0 s1
  cases p <;> cases q <;> cases r <;> (first | (exfalso; revert hk; decide) | skip) <;> clear hk
  all_goals
   go_enter Tryz.func177, Tryz.ntmps177
   go_wp2_with (first | simp only [A0] | simp only [A1])
  all_goals
   refine bodyPost_ret (v := .tuple #[.agg #[.int .i64 s, .int .u64 l], .bool true]) (by simp [results, Tryz.results177, go_sem]) rfl ⟨rfl, ?_⟩
   exact ((((Below.refl _ _).alloc (Nat.le_refl _) _).alloc (by simp) _).alloc (by simp; omega) _).alloc (by simp; omega) _
 exact key _ _ _ rfl rfl rfl (by by_cases h1 : ah < 0 <;> by_cases h2 : bh < 0 <;> by_cases h3 : s < 0 <;> simp [h1, h2, h3] <;> omega)

set_option maxRecDepth 100000 in
set_option maxHeartbeats 4000000 in
theorem wsub_any (ah al bh bl s l : Int) (a0 : -9223372036854775808 ≤ ah) (a1 : ah ≤ 9223372036854775807) (b0 : -9223372036854775808 ≤ bh) (b1 : bh ≤ 9223372036854775807)
  (al0 : 0 ≤ al) (al1 : al ≤ 18446744073709551615) (bl0 : 0 ≤ bl) (bl1 : bl ≤ 18446744073709551615) (hs : s = ah - bh - bor64 al bl) (hl : l = (al - bl) % 18446744073709551616) (s0 : -9223372036854775808 ≤ s) (s1 : s ≤ 9223372036854775807) (w : World) :
  Calls Tryz.prog 215 #[.agg #[.int .i64 ah, .int .u64 al], .agg #[.int .i64 bh, .int .u64 bl]] w fun e w' => e = .returned (.tuple #[.agg #[.int .i64 s, .int .u64 l], .bool true]) ∧ Below w.heap.size w w' := by
 have k0 : 0 ≤ (bor64 al bl) ∧ (bor64 al bl) ≤ 1 := by exact bor64_bd al bl
 obtain ⟨k0, k1⟩ := k0
 have A0 := fun w => sub64c0 al bl al0 bl0 (by omega) w
 have U1 : 0 ≤ IntKind.u64.wrap ah ∧ IntKind.u64.wrap ah ≤ 18446744073709551615 := by rw [wrapU_eq]; omega
 have U2 : 0 ≤ IntKind.u64.wrap bh ∧ IntKind.u64.wrap bh ≤ 18446744073709551615 := by rw [wrapU_eq]; omega
 have U3 : IntKind.u64.wrap ah = ah % 18446744073709551616 := wrapU_eq ah
 have U4 : IntKind.u64.wrap bh = bh % 18446744073709551616 := wrapU_eq bh
 rw [← hl] at A0
 generalize (bor64 al bl) = c at *
 have A1 := fun w => sub64c (IntKind.u64.wrap ah) (IntKind.u64.wrap bh) c U1.1 U2.1 (by omega) k0 k1 w
 have hq : wrap64 ((IntKind.u64.wrap ah - IntKind.u64.wrap bh - c) % 18446744073709551616) = s := by
  have e : ((IntKind.u64.wrap ah - IntKind.u64.wrap bh - c) % 18446744073709551616) = s % 18446744073709551616 := by rw [U3, U4, hs]; omega
  rw [e]; exact wrap64_of_mod s s0 s1
 generalize ((IntKind.u64.wrap ah - IntKind.u64.wrap bh - c) % 18446744073709551616) = q at *
 generalize bor64 (IntKind.u64.wrap ah) (IntKind.u64.wrap bh + c) = q2 at *
 have hsum : (0 ≤ ah → bh < 0 → 0 ≤ s) ∧ (ah < 0 → 0 ≤ bh → s < 0) := ⟨by omega, by omega⟩
 clear al0 al1 bl0 bl1 hl U1 U2 U3 U4 k0 k1 hs
 have key : ∀ (p q r : Bool), decide (ah < 0) = p → decide (bh < 0) = q → decide (s < 0) = r → (p = !q → r = p) → Calls Tryz.prog 215 #[.agg #[.int .i64 ah, .int .u64 al], .agg #[.int .i64 bh, .int .u64 bl]] w fun e w' => e = .returned (.tuple #[.agg #[.int .i64 s, .int .u64 l], .bool true]) ∧ Below w.heap.size w w' := by
  intro p q r D1 D2 D3 hk
  clear a0 a1 b0 b1 s0 s1
  cases p <;> cases q <;> cases r <;> (first | (exfalso; revert hk; decide) | skip) <;> clear hk
  all_goals
   go_enter Tryz.func215, Tryz.ntmps215
   go_wp2_with (first | simp only [A0] | simp only [A1])
  all_goals
   refine bodyPost_ret (v := .tuple #[.agg #[.int .i64 s, .int .u64 l], .bool true]) (by simp [results, Tryz.results215, go_sem]) rfl ⟨rfl, ?_⟩
   exact ((((Below.refl _ _).alloc (Nat.le_refl _) _).alloc (by simp) _).alloc (by simp; omega) _).alloc (by simp; omega) _
 exact key _ _ _ rfl rfl rfl (by by_cases h1 : ah < 0 <;> by_cases h2 : bh < 0 <;> by_cases h3 : s < 0 <;> simp [h1, h2, h3] <;> omega)

end Go.Proofs.YtfeficdndjiijaaGreatDoor


namespace Go.Proofs.YtfeficdndjiijaaGreatDoor
open Go.RowKit
set_option linter.unusedVariables false
set_option linter.unusedSimpArgs false

def sumL (zs : List Int) : Int := zs.foldl (· + ·) 0
theorem foldl_start (zs : List Int) (a : Int) : zs.foldl (· + ·) a = a + zs.foldl (· + ·) 0 := by
  induction zs generalizing a with
  | nil => simp
  | cons x l ih => rw [List.foldl_cons, List.foldl_cons, ih (a + x), ih (0 + x)]; omega
theorem sumL_cons (z : Int) (zs : List Int) : sumL (z :: zs) = z + sumL zs := by
  unfold sumL
  rw [List.foldl_cons, foldl_start]; omega
theorem sumL_bd (zs : List Int) (h : ∀ x ∈ zs, -9223372036854775808 ≤ x ∧ x ≤ 9223372036854775807) : -9223372036854775808 * (zs.length : Int) ≤ sumL zs ∧ sumL zs ≤ 9223372036854775807 * (zs.length : Int) := by
  induction zs with
  | nil => simp [sumL]
  | cons x l ih =>
    rw [sumL_cons]
    have h1 := ih (fun y hy => h y (by simp [hy]))
    have h2 := h x (by simp)
    simp only [List.length_cons]
    omega
def wHi (x : Int) : Int := x / 18446744073709551616
def wLo (x : Int) : Int := x % 18446744073709551616
theorem sumL_take (zs : List Int) (j : Nat) (x : Int) (h : zs[j]? = some x) : sumL (zs.take (j + 1)) = sumL (zs.take j) + x := by
  rw [List.take_add_one, h]; simp [sumL]

set_option maxRecDepth 100000 in
set_option maxHeartbeats 4000000 in
theorem sum_yes (zs : List Int) (C cap : Nat) (hn : zs.length ≤ 1000) (hz : ∀ x ∈ zs, -9223372036854775808 ≤ x ∧ x ≤ 9223372036854775807) (w : World)
  (hC : ∀ i u, zs[i]? = some u → w.cell? ⟨C, i, none⟩ = some (.int .i64 u)) (hCw : C < w.heap.size) (x : Int) (hx : x = sumL zs) (x0 : -9223372036854775808 ≤ x) (x1 : x ≤ 9223372036854775807) :
  Calls Tryz.prog 136 #[.slice (some ⟨C, 0, none⟩) zs.length cap] w fun e w' => e = .returned (.tuple #[.int .i64 x, .bool true]) ∧ Below w.heap.size w w' := by
 have HC := Lib.hid hC
 have HZ := Lib.hid hz
 have HX := Lib.hid hx
 clear hC hz hx
 go_enter Tryz.func136, Tryz.ntmps136
 go_wp2
 have hO := Blk.new w 143 #[.int .i64 0, .int .u64 0]
 have hbel : Below w.heap.size w (w.alloc (.cells #[.int .i64 0, .int .u64 0] 143)) := (Below.refl _ _).alloc (Nat.le_refl _) _
 have HO := Lib.hid hO
 have HBL := Lib.hid hbel
 clear hO hbel
 generalize hA : w.heap.size = A at *
 have HA := Lib.hid hA
 clear hA
 go_loopw [9] (fun i wr => ∃ j : Nat, j ≤ zs.length ∧ i = .int .i64 (j : Int) ∧ Blk wr A 143 #[.int .i64 (wHi (sumL (zs.take j))), .int .u64 (wLo (sumL (zs.take j)))] ∧ Below A w wr) (fun i _ => zs.length - (intOf i).toNat)
 case atStart => exact ⟨0, by omega, rfl, HO.out, HBL.out⟩
 case round =>
  obtain ⟨j, hj, rfl, hO, hbel⟩ := hrel
  clear HO HBL
  have HBL := Lib.hid hbel
  have HO := Lib.hid hO
  clear hbel
  by_cases hlt : j < zs.length
  ·have hzj : zs[j]? = some zs[j] := List.getElem?_eq_getElem hlt
   have hcj : wr.cell? ⟨C, j, none⟩ = some (.int .i64 zs[j]) := (HBL.out.cell (p := ⟨C, j, none⟩) hCw).trans (HC.out j _ hzj)
   have hb := HZ.out zs[j] (List.getElem_mem hlt)
   have hs := sumL_take zs j _ hzj
   obtain ⟨T, hT⟩ : ∃ T, T = sumL (zs.take (j + 1)) := ⟨_, rfl⟩
   have HT : Hid (sumL (zs.take (j + 1)) = T) := hT.symm
   rw [← hT] at hs
   clear hT
   have hbd := sumL_bd (zs.take j) (fun x hx => HZ.out x (List.mem_of_mem_take hx))
   have hl : (zs.take j).length ≤ 1000 := by simp; omega
   generalize sumL (zs.take j) = U at *
   generalize zs[j] = z at *
   have q0 := hO.cell 0
   have q1 := hO.cell 1
   simp at q0 q1
   go_wp2_with fail
   have W0 : -9223372036854775808 ≤ wHi U ∧ wHi U ≤ 9223372036854775807 := by unfold wHi; omega
   have W1 : 0 ≤ wLo U ∧ wLo U ≤ 18446744073709551615 := by unfold wLo; omega
   have W2 : 0 ≤ IntKind.u64.wrap z ∧ IntKind.u64.wrap z ≤ 18446744073709551615 := by rw [wrapU_eq]; omega
   have W3 : wHi T = wHi U + z / 9223372036854775808 + (wLo U + IntKind.u64.wrap z) / 18446744073709551616 := by rw [wrapU_eq, hs]; unfold wHi wLo; omega
   have W4 : wLo T = (wLo U + IntKind.u64.wrap z) % 18446744073709551616 := by rw [wrapU_eq, hs]; unfold wLo; omega
   have W5 : -9223372036854775808 ≤ wHi T ∧ wHi T ≤ 9223372036854775807 := by unfold wHi; omega
   have HADD : ∀ w, Calls Tryz.prog 177 #[.agg #[.int .i64 (wHi U), .int .u64 (wLo U)], .agg #[.int .i64 (z / 9223372036854775808), .int .u64 (IntKind.u64.wrap z)]] w fun e w' => e = .returned (.tuple #[.agg #[.int .i64 (wHi T), .int .u64 (wLo T)], .bool true]) ∧ Below w.heap.size w w' :=
    fun w => wadd_any _ _ _ _ _ _ W0.1 W0.2 (by omega) (by omega) W1.1 W1.2 W2.1 W2.2 W3 W4 W5.1 W5.2 w
   have HOF := fun w => of_any z hb.1 hb.2 w
   clear W0 W1 W2 W3 W4 W5 hs hbd hzj
   go_region_with (first | (go_at_call 178; refine (HOF _).mono ?_; rintro e w1 ⟨rfl, hb1⟩; have o1 := HO.out.drew.kept hb1; have q2 := o1.cell 0; have q3 := o1.cell 1; simp at q2 q3) | (go_at_call 177; refine (HADD _).mono ?_; rintro e w2 ⟨rfl, hb2⟩; have o2 := o1.kept hb2; have q4 := o2.cell 0; have q5 := o2.cell 1; have q6 := o2.frozen 0; have q7 := o2.frozen 1; simp at q4 q5))
   all_goals
    have HB9 : Hid (Below A w w2) := Lib.hid ((HBL.out.drew.trans (hb1.mono (by simp; have := HBL.out.size; have := HO.out.lt; omega))).trans (hb2.mono (by have := o1.lt; omega)))
    have HO9 := Lib.hid o2
    clear o1 o2 hb1 hb2 q0 q1 q2 q3 q4 q5 q6 q7
    go_wp2
    go_roundw
    case rel =>
     refine ⟨j + 1, by omega, by go_num, ?_, ?_⟩
     ·have := (HO9.out.set_ 0 (.int .i64 (wHi T))).set_ 1 (.int .u64 (wLo T))
      rw [HT.out]
      simpa using this
     ·exact (HB9.out.setCell (by simp) _).setCell (by simp) _
    case measure => simp [intOf]; omega
  ·obtain rfl : j = zs.length := by omega
   have e : sumL (zs.take zs.length) = x := by rw [List.take_length, HX.out]
   rw [e] at hO HO
   have q0 := hO.cell 0
   have q1 := hO.cell 1
   simp at q0 q1
   have hx1 : wrap64 (wLo x) = x := wrap64_of_mod x x0 x1
   have hx2 : x / 9223372036854775808 = wHi x := by unfold wHi; omega
   have hx3 : IntKind.u64.wrap x = wLo x := wrapU_eq x
   have HI : ∀ w, Calls Tryz.prog 179 #[.agg #[.int .i64 (wHi x), .int .u64 (wLo x)]] w fun e w' => e = .returned (.tuple #[.int .i64 x, .bool true]) ∧ Below w.heap.size w w' :=
    fun w => int_yes _ _ x hx1 x0 x1 hx2 hx3 w
   clear hx1 hx2 hx3 e
   go_wp2_with (go_at_call 179; refine (HI _).mono ?_; rintro e w1 ⟨rfl, hb1⟩)
   go_ret2
   exact ⟨rfl, by rw [HA.out]; exact HBL.out.trans (hb1.mono (by have := HO.out.lt; omega))⟩
set_option maxRecDepth 100000 in
set_option maxHeartbeats 4000000 in
theorem sum_no (zs : List Int) (C cap : Nat) (hn : zs.length ≤ 1000) (hz : ∀ x ∈ zs, -9223372036854775808 ≤ x ∧ x ≤ 9223372036854775807) (w : World)
  (hC : ∀ i u, zs[i]? = some u → w.cell? ⟨C, i, none⟩ = some (.int .i64 u)) (hCw : C < w.heap.size) (x : Int) (hx : x = sumL zs) (xn : ¬ (-9223372036854775808 ≤ x ∧ x ≤ 9223372036854775807)) :
  Calls Tryz.prog 136 #[.slice (some ⟨C, 0, none⟩) zs.length cap] w fun e w' => e = .returned (.tuple #[.int .i64 0, .bool false]) ∧ Below w.heap.size w w' := by
 have HC := Lib.hid hC
 have HZ := Lib.hid hz
 have HX := Lib.hid hx
 clear hC hz hx
 go_enter Tryz.func136, Tryz.ntmps136
 go_wp2
 have hO := Blk.new w 143 #[.int .i64 0, .int .u64 0]
 have hbel : Below w.heap.size w (w.alloc (.cells #[.int .i64 0, .int .u64 0] 143)) := (Below.refl _ _).alloc (Nat.le_refl _) _
 have HO := Lib.hid hO
 have HBL := Lib.hid hbel
 clear hO hbel
 generalize hA : w.heap.size = A at *
 have HA := Lib.hid hA
 clear hA
 go_loopw [9] (fun i wr => ∃ j : Nat, j ≤ zs.length ∧ i = .int .i64 (j : Int) ∧ Blk wr A 143 #[.int .i64 (wHi (sumL (zs.take j))), .int .u64 (wLo (sumL (zs.take j)))] ∧ Below A w wr) (fun i _ => zs.length - (intOf i).toNat)
 case atStart => exact ⟨0, by omega, rfl, HO.out, HBL.out⟩
 case round =>
  obtain ⟨j, hj, rfl, hO, hbel⟩ := hrel
  clear HO HBL
  have HBL := Lib.hid hbel
  have HO := Lib.hid hO
  clear hbel
  by_cases hlt : j < zs.length
  ·have hzj : zs[j]? = some zs[j] := List.getElem?_eq_getElem hlt
   have hcj : wr.cell? ⟨C, j, none⟩ = some (.int .i64 zs[j]) := (HBL.out.cell (p := ⟨C, j, none⟩) hCw).trans (HC.out j _ hzj)
   have hb := HZ.out zs[j] (List.getElem_mem hlt)
   have hs := sumL_take zs j _ hzj
   obtain ⟨T, hT⟩ : ∃ T, T = sumL (zs.take (j + 1)) := ⟨_, rfl⟩
   have HT : Hid (sumL (zs.take (j + 1)) = T) := hT.symm
   rw [← hT] at hs
   clear hT
   have hbd := sumL_bd (zs.take j) (fun x hx => HZ.out x (List.mem_of_mem_take hx))
   have hl : (zs.take j).length ≤ 1000 := by simp; omega
   generalize sumL (zs.take j) = U at *
   generalize zs[j] = z at *
   have q0 := hO.cell 0
   have q1 := hO.cell 1
   simp at q0 q1
   go_wp2_with fail
   have W0 : -9223372036854775808 ≤ wHi U ∧ wHi U ≤ 9223372036854775807 := by unfold wHi; omega
   have W1 : 0 ≤ wLo U ∧ wLo U ≤ 18446744073709551615 := by unfold wLo; omega
   have W2 : 0 ≤ IntKind.u64.wrap z ∧ IntKind.u64.wrap z ≤ 18446744073709551615 := by rw [wrapU_eq]; omega
   have W3 : wHi T = wHi U + z / 9223372036854775808 + (wLo U + IntKind.u64.wrap z) / 18446744073709551616 := by rw [wrapU_eq, hs]; unfold wHi wLo; omega
   have W4 : wLo T = (wLo U + IntKind.u64.wrap z) % 18446744073709551616 := by rw [wrapU_eq, hs]; unfold wLo; omega
   have W5 : -9223372036854775808 ≤ wHi T ∧ wHi T ≤ 9223372036854775807 := by unfold wHi; omega
   have HADD : ∀ w, Calls Tryz.prog 177 #[.agg #[.int .i64 (wHi U), .int .u64 (wLo U)], .agg #[.int .i64 (z / 9223372036854775808), .int .u64 (IntKind.u64.wrap z)]] w fun e w' => e = .returned (.tuple #[.agg #[.int .i64 (wHi T), .int .u64 (wLo T)], .bool true]) ∧ Below w.heap.size w w' :=
    fun w => wadd_any _ _ _ _ _ _ W0.1 W0.2 (by omega) (by omega) W1.1 W1.2 W2.1 W2.2 W3 W4 W5.1 W5.2 w
   have HOF := fun w => of_any z hb.1 hb.2 w
   clear W0 W1 W2 W3 W4 W5 hs hbd hzj
   go_region_with (first | (go_at_call 178; refine (HOF _).mono ?_; rintro e w1 ⟨rfl, hb1⟩; have o1 := HO.out.drew.kept hb1; have q2 := o1.cell 0; have q3 := o1.cell 1; simp at q2 q3) | (go_at_call 177; refine (HADD _).mono ?_; rintro e w2 ⟨rfl, hb2⟩; have o2 := o1.kept hb2; have q4 := o2.cell 0; have q5 := o2.cell 1; have q6 := o2.frozen 0; have q7 := o2.frozen 1; simp at q4 q5))
   all_goals
    have HB9 : Hid (Below A w w2) := Lib.hid ((HBL.out.drew.trans (hb1.mono (by simp; have := HBL.out.size; have := HO.out.lt; omega))).trans (hb2.mono (by have := o1.lt; omega)))
    have HO9 := Lib.hid o2
    clear o1 o2 hb1 hb2 q0 q1 q2 q3 q4 q5 q6 q7
    go_wp2
    go_roundw
    case rel =>
     refine ⟨j + 1, by omega, by go_num, ?_, ?_⟩
     ·have := (HO9.out.set_ 0 (.int .i64 (wHi T))).set_ 1 (.int .u64 (wLo T))
      rw [HT.out]
      simpa using this
     ·exact (HB9.out.setCell (by simp) _).setCell (by simp) _
    case measure => simp [intOf]; omega
  ·obtain rfl : j = zs.length := by omega
   have e : sumL (zs.take zs.length) = x := by rw [List.take_length, HX.out]
   rw [e] at hO HO
   have q0 := hO.cell 0
   have q1 := hO.cell 1
   simp at q0 q1
   have hbd := sumL_bd zs HZ.out
   have hxx := HX.out
   obtain ⟨y, hy⟩ : ∃ y, wrap64 (wLo x) = y := ⟨_, rfl⟩
   have hy0 : -9223372036854775808 ≤ y ∧ y ≤ 9223372036854775807 := by rw [← hy]; unfold wrap64; omega
   have hx2 : ¬ y / 9223372036854775808 = wHi x := by
    rw [← hy]; unfold wrap64 wHi wLo; omega
   have HI : ∀ w, Calls Tryz.prog 179 #[.agg #[.int .i64 (wHi x), .int .u64 (wLo x)]] w fun e w' => e = .returned (.tuple #[.int .i64 0, .bool false]) ∧ Below w.heap.size w w' :=
    fun w => int_no _ _ y hy hy0.1 hy0.2 hx2 w
   clear hy hx2 e hbd hxx
   go_wp2_with (go_at_call 179; refine (HI _).mono ?_; rintro e w1 ⟨rfl, hb1⟩)
   go_ret2
   exact ⟨rfl, by rw [HA.out]; exact HBL.out.trans (hb1.mono (by have := HO.out.lt; omega))⟩

def TwoPost (w : World) (x : Int) (b : Bool) (e : Ending) (w' : World) : Prop := e = .returned (.tuple #[.int .i64 x, .bool b]) ∧ Below w.heap.size w w'
theorem two_cells (w : World) (a b : Int) (t : TypeId) : ∀ i u, ([a, b] : List Int)[i]? = some u → (w.alloc (.cells #[.int .i64 a, .int .i64 b] t)).cell? ⟨w.heap.size, i, none⟩ = some (.int .i64 u) := by
  intro i u hu
  have h := (Blk.new w t #[.int .i64 a, .int .i64 b]).cell i
  rw [h]
  match i with
  | 0 => simp at hu; simp [hu]
  | 1 => simp at hu; simp [hu]
  | n + 2 => simp at hu
theorem plus_yes (a b : Int) (a0 : -9223372036854775808 ≤ a) (a1 : a ≤ 9223372036854775807) (b0 : -9223372036854775808 ≤ b) (b1 : b ≤ 9223372036854775807) (s0 : -9223372036854775808 ≤ a + b) (s1 : a + b ≤ 9223372036854775807) (w : World) :
    Calls Tryz.prog 238 #[.int .i64 a, .int .i64 b] w (TwoPost w (a + b) true) := by
  have HS := sum_yes [a, b] w.heap.size 2 (by simp) (by intro x hx; simp at hx; omega) (w.alloc (.cells #[.int .i64 a, .int .i64 b] 2)) (two_cells w a b _) (by simp) (a + b) (by simp [sumL]) s0 s1
  simp only [List.length_cons, List.length_nil, Nat.zero_add, Nat.reduceAdd] at HS
  generalize a + b = x at *
  go_enter Tryz.func238, Tryz.ntmps238
  go_wp2_with (go_at_call 136; refine HS.mono ?_; rintro e w1 ⟨rfl, hb1⟩)
  go_ret2
  exact ⟨rfl, ((Below.refl _ _).alloc (Nat.le_refl _) _).trans (hb1.mono (by simp))⟩
theorem plus_no (a b : Int) (a0 : -9223372036854775808 ≤ a) (a1 : a ≤ 9223372036854775807) (b0 : -9223372036854775808 ≤ b) (b1 : b ≤ 9223372036854775807) (sn : ¬ (-9223372036854775808 ≤ a + b ∧ a + b ≤ 9223372036854775807)) (w : World) :
    Calls Tryz.prog 238 #[.int .i64 a, .int .i64 b] w (TwoPost w 0 false) := by
  have HS := sum_no [a, b] w.heap.size 2 (by simp) (by intro x hx; simp at hx; omega) (w.alloc (.cells #[.int .i64 a, .int .i64 b] 2)) (two_cells w a b _) (by simp) (a + b) (by simp [sumL]) sn
  simp only [List.length_cons, List.length_nil, Nat.zero_add, Nat.reduceAdd] at HS
  clear sn
  go_enter Tryz.func238, Tryz.ntmps238
  go_wp2_with (go_at_call 136; refine HS.mono ?_; rintro e w1 ⟨rfl, hb1⟩)
  go_ret2
  exact ⟨rfl, ((Below.refl _ _).alloc (Nat.le_refl _) _).trans (hb1.mono (by simp))⟩


theorem minus_yes (a b : Int) (a0 : -9223372036854775808 ≤ a) (a1 : a ≤ 9223372036854775807) (b0 : -9223372036854775808 ≤ b) (b1 : b ≤ 9223372036854775807) (s0 : -9223372036854775808 ≤ a - b) (s1 : a - b ≤ 9223372036854775807) (w : World) :
  Calls Tryz.prog 180 #[.int .i64 a, .int .i64 b] w (TwoPost w (a - b) true) := by
 have HOA := fun w => of_any a a0 a1 w
 have HOB := fun w => of_any b b0 b1 w
 have W0 : 0 ≤ IntKind.u64.wrap a ∧ IntKind.u64.wrap a ≤ 18446744073709551615 := by rw [wrapU_eq]; omega
 have W2 : 0 ≤ IntKind.u64.wrap b ∧ IntKind.u64.wrap b ≤ 18446744073709551615 := by rw [wrapU_eq]; omega
 have W3 : wHi (a - b) = a / 9223372036854775808 - b / 9223372036854775808 - bor64 (IntKind.u64.wrap a) (IntKind.u64.wrap b) := by rw [wrapU_eq, wrapU_eq]; unfold wHi bor64; split <;> omega
 have W4 : wLo (a - b) = (IntKind.u64.wrap a - IntKind.u64.wrap b) % 18446744073709551616 := by rw [wrapU_eq, wrapU_eq]; unfold wLo; omega
 have W5 : -9223372036854775808 ≤ wHi (a - b) ∧ wHi (a - b) ≤ 9223372036854775807 := by unfold wHi; omega
 have HSUB := fun w => wsub_any (a / 9223372036854775808) (IntKind.u64.wrap a) (b / 9223372036854775808) (IntKind.u64.wrap b) _ _ (by omega) (by omega) (by omega) (by omega) W0.1 W0.2 W2.1 W2.2 W3 W4 W5.1 W5.2 w
 have HI : ∀ w, Calls Tryz.prog 179 #[.agg #[.int .i64 (wHi (a - b)), .int .u64 (wLo (a - b))]] w fun e w' => e = .returned (.tuple #[.int .i64 (a - b), .bool true]) ∧ Below w.heap.size w w' :=
  fun w => int_yes _ _ (a - b) (wrap64_of_mod _ s0 s1) s0 s1 (by unfold wHi; omega) (wrapU_eq _) w
 generalize wHi (a - b) = H at *
 generalize wLo (a - b) = L at *
 generalize a - b = D at *
 clear W0 W2 W3 W4 W5 a0 a1 b0 b1
 go_enter Tryz.func180, Tryz.ntmps180
 go_wp2_with fail
 refine (HOA _).mono ?_; rintro e w1 ⟨rfl, hb1⟩
 go_wp2_with fail
 refine (HOB _).mono ?_; rintro e w2 ⟨rfl, hb2⟩
 go_wp2_with fail
 refine (HSUB _).mono ?_; rintro e w3 ⟨rfl, hb3⟩
 go_wp2_with fail
 refine (HI _).mono ?_; rintro e w4 ⟨rfl, hb4⟩
 go_wp2
 go_ret2
 exact ⟨rfl, (((hb1.trans (hb2.mono hb1.size)).trans (hb3.mono (Nat.le_trans hb1.size hb2.size))).alloc (Nat.le_trans hb1.size (Nat.le_trans hb2.size hb3.size)) _).trans (hb4.mono (by simp; have := hb1.size; have := hb2.size; have := hb3.size; omega))⟩

theorem minus_no (a b : Int) (a0 : -9223372036854775808 ≤ a) (a1 : a ≤ 9223372036854775807) (b0 : -9223372036854775808 ≤ b) (b1 : b ≤ 9223372036854775807) (sn : ¬ (-9223372036854775808 ≤ a - b ∧ a - b ≤ 9223372036854775807)) (w : World) :
  Calls Tryz.prog 180 #[.int .i64 a, .int .i64 b] w (TwoPost w 0 false) := by
 have HOA := fun w => of_any a a0 a1 w
 have HOB := fun w => of_any b b0 b1 w
 have W0 : 0 ≤ IntKind.u64.wrap a ∧ IntKind.u64.wrap a ≤ 18446744073709551615 := by rw [wrapU_eq]; omega
 have W2 : 0 ≤ IntKind.u64.wrap b ∧ IntKind.u64.wrap b ≤ 18446744073709551615 := by rw [wrapU_eq]; omega
 have W3 : wHi (a - b) = a / 9223372036854775808 - b / 9223372036854775808 - bor64 (IntKind.u64.wrap a) (IntKind.u64.wrap b) := by rw [wrapU_eq, wrapU_eq]; unfold wHi bor64; split <;> omega
 have W4 : wLo (a - b) = (IntKind.u64.wrap a - IntKind.u64.wrap b) % 18446744073709551616 := by rw [wrapU_eq, wrapU_eq]; unfold wLo; omega
 have W5 : -9223372036854775808 ≤ wHi (a - b) ∧ wHi (a - b) ≤ 9223372036854775807 := by unfold wHi; omega
 have HSUB := fun w => wsub_any (a / 9223372036854775808) (IntKind.u64.wrap a) (b / 9223372036854775808) (IntKind.u64.wrap b) _ _ (by omega) (by omega) (by omega) (by omega) W0.1 W0.2 W2.1 W2.2 W3 W4 W5.1 W5.2 w
 obtain ⟨y, hy⟩ : ∃ y, wrap64 (wLo (a - b)) = y := ⟨_, rfl⟩
 have hy0 : -9223372036854775808 ≤ y ∧ y ≤ 9223372036854775807 := by rw [← hy]; unfold wrap64; omega
 have hx2 : ¬ y / 9223372036854775808 = wHi (a - b) := by
  rw [← hy]; unfold wrap64 wHi wLo; omega
 have HI : ∀ w, Calls Tryz.prog 179 #[.agg #[.int .i64 (wHi (a - b)), .int .u64 (wLo (a - b))]] w fun e w' => e = .returned (.tuple #[.int .i64 0, .bool false]) ∧ Below w.heap.size w w' :=
  fun w => int_no _ _ y hy hy0.1 hy0.2 hx2 w
 clear hy hy0 hx2 sn
 generalize wHi (a - b) = H at *
 generalize wLo (a - b) = L at *
 clear W0 W2 W3 W4 W5 a0 a1 b0 b1
 go_enter Tryz.func180, Tryz.ntmps180
 go_wp2_with fail
 refine (HOA _).mono ?_; rintro e w1 ⟨rfl, hb1⟩
 go_wp2_with fail
 refine (HOB _).mono ?_; rintro e w2 ⟨rfl, hb2⟩
 go_wp2_with fail
 refine (HSUB _).mono ?_; rintro e w3 ⟨rfl, hb3⟩
 go_wp2_with fail
 refine (HI _).mono ?_; rintro e w4 ⟨rfl, hb4⟩
 go_wp2
 go_ret2
 exact ⟨rfl, (((hb1.trans (hb2.mono hb1.size)).trans (hb3.mono (Nat.le_trans hb1.size hb2.size))).alloc (Nat.le_trans hb1.size (Nat.le_trans hb2.size hb3.size)) _).trans (hb4.mono (by simp; have := hb1.size; have := hb2.size; have := hb3.size; omega))⟩
end Go.Proofs.YtfeficdndjiijaaGreatDoor


namespace Go.Proofs.YtfeficdndjiijaaGreatDoor
open Go.RowKit
set_option linter.unusedVariables false
set_option linter.unusedSimpArgs false

def OpOK (F : Nat) (f : Int → Int → Int) : Prop := ∀ (a b : Int) (w : World), In64 a → In64 b →
  (In64 (f a b) → Calls Tryz.prog F #[.int .i64 a, .int .i64 b] w (TwoPost w (f a b) true)) ∧ (¬ In64 (f a b) → Calls Tryz.prog F #[.int .i64 a, .int .i64 b] w (TwoPost w 0 false))
theorem opok_plus : OpOK 238 (fun a b => a + b) := fun a b w ha hb =>
  ⟨fun h => plus_yes a b ha.1 ha.2 hb.1 hb.2 h.1 h.2 w, fun h => plus_no a b ha.1 ha.2 hb.1 hb.2 h w⟩
theorem opok_minus : OpOK 180 (fun a b => a - b) := fun a b w ha hb =>
  ⟨fun h => minus_yes a b ha.1 ha.2 hb.1 hb.2 h.1 h.2 w, fun h => minus_no a b ha.1 ha.2 hb.1 hb.2 h w⟩

def AllYes (w : World) (G C R W : Nat) (zs : List Int) (e : Ending) (w' : World) : Prop := e = .returned (.int .i64 0) ∧ GridIs w' G C R W zs ∧ w.grownBy w' (some C)
theorem zip_at {f : Int → Int → Int} {zs hs : List Int} {j : Nat} {z h : Int} (h1 : zs[j]? = some z) (h2 : hs[j]? = some h) : (List.zipWith f zs hs)[j]? = some (f z h) := by
  simp [List.getElem?_zipWith, h1, h2]

set_option maxRecDepth 100000 in
set_option maxHeartbeats 4000000 in
theorem all_yes_minus (f : Int → Int → Int) (hop : OpOK 180 f) (w : World) (G C H D R W : Nat) (zs hs : List Int) (hg : GridIs w G C R W zs) (hh : GridIs w H D R W hs) (hfit : Fit (List.zipWith f zs hs)) :
  Calls Tryz.prog 239 #[.agg #[.pointer (some ⟨G, 0, none⟩), .func (Fn.func 180) #[] #[]], .pointer (some ⟨H, 0, none⟩)] w (AllYes w G C R W (List.zipWith f zs hs)) := by
 obtain ⟨Z, hZ⟩ : ∃ Z, List.zipWith f zs hs = Z := ⟨_, rfl⟩
 rw [hZ] at hfit ⊢
 have HZ := Lib.hid hZ
 clear hZ
 obtain ⟨cg, hgb, hgc⟩ := hg.fields
 obtain ⟨ch, hhb, hhc⟩ := hh.fields
 have HG := Lib.hid hg
 have HH := Lib.hid hh
 have HF := Lib.hid hfit
 have HOP := Lib.hid hop
 have hn1024 : R * W ≤ 1024 := Nat.mul_le_mul hg.rows hg.width
 clear hg hh hfit hop
 generalize hn : R * W = n at *
 have HN := Lib.hid hn
 clear hn
 have HGB := Lib.hid hgb
 have HHB := Lib.hid hhb
 go_enter Tryz.func239, Tryz.ntmps239
 go_wp2_with fail
 obtain ⟨ga, hbel, hsz⟩ := news1 w (.cells #[.pointer (some ⟨G, 0, none⟩), .func (Fn.func 180) #[] #[]] 371)
 have hj : Blk _ w.heap.size 371 #[.pointer (some ⟨G, 0, none⟩), .func (Fn.func 180) #[] #[]] := ga
 have hg1 := HGB.out.kept hbel
 have hh1 := HHB.out.kept hbel
 clear ga hgb hhb
 generalize (w.alloc (.cells #[.pointer (some ⟨G, 0, none⟩), .func (Fn.func 180) #[] #[]] 371)) = wz at *
 have j0 := hj.cell 0
 have j1 := hj.cell 1
 have g0 := hg1.cell 0
 have g1 := hg1.cell 1
 have h0 := hh1.cell 0
 have h1 := hh1.cell 1
 have g2 := hg1.cell 2
 have h2 := hh1.cell 2
 simp at j0 j1 g0 g1 h0 h1 g2 h2
 have HJ := Lib.hid hj
 have HB := Lib.hid hbel
 clear hj hbel hg1 hh1
 generalize hA : w.heap.size = A at *
 have HA := Lib.hid hA
 clear hA
 have hH1 : H < A + 1 := by have := HH.out.ltG; have := HA.out; omega
 have hmk := fun W => run_make_row' (P := Tryz.prog) 93 2 (.int .i64 0) 8 Tryz.underlying93 Tryz.info64 rfl .i64 .i64 n (by omega) (by omega) W
 go_quiet (fail)
 go_wp2_with fail
 have hrow := World.rowIs_made (wz.drewN nq) (.int .i64 0) n 2
 simp only [show (wz.drewN nq).heap.size = A + 1 from hsz] at hrow
 have hrow2 := RowUpTo.zeros hrow (fun k => f (cellD zs k) (cellD hs k))
 have HJ2 := Lib.hid ((HJ.out.drewN nq).alloc (.cells (madeCells #[.int .i64 0] n) 2))
 have HB2 : Hid (Below A w ((wz.drewN nq).alloc (.cells (madeCells #[.int .i64 0] n) 2))) := Lib.hid ((below_drewN HB.out nq).alloc (by simp; omega) _)
 clear hrow HJ HB hmk g0 g1 g2 h0 h1 h2 j0 j1
 generalize ((wz.drewN nq).alloc (.cells (madeCells #[.int .i64 0] n) 2)) = wy at *
 have HR2 := Lib.hid hrow2
 clear hrow2
 have hGA : G < A := by have := HG.out.ltG; have := HA.out; omega
 have hHA : H < A := by have := HH.out.ltG; have := HA.out; omega
 have hCA : C < A := by have := HG.out.ltC; have := HA.out; omega
 have hDA : D < A := by have := HH.out.ltC; have := HA.out; omega
 go_loopw [48] (fun i wr => ∃ j : Nat, j ≤ n ∧ i = .int .i64 (j : Int) ∧ Blk wr A 371 #[.pointer (some ⟨G, 0, none⟩), .func (Fn.func 180) #[] #[]] ∧ RowUpTo wr (A + 1) 2 n (fun k => f (cellD zs k) (cellD hs k)) j ∧ Below A w wr) (fun i _ => n - (intOf i).toNat)
 case atStart => exact ⟨0, by omega, rfl, HJ2.out, HR2.out, HB2.out⟩
 case round =>
  obtain ⟨j, hj, rfl, hjb, hrow, hbel⟩ := hrel
  clear HJ2 HR2 HB2
  have HJ := Lib.hid hjb
  have HR := Lib.hid hrow
  have HB := Lib.hid hbel
  clear hjb hrow hbel
  have HG1 := Lib.hid (HG.out.below HB.out hGA hCA)
  have HH1 := Lib.hid (HH.out.below HB.out hHA hDA)
  have gb := HGB.out.below HB.out hGA
  have hb := HHB.out.below HB.out hHA
  have HGB1 := Lib.hid gb
  have j0 := HJ.out.cell 0
  have j1 := HJ.out.cell 1
  have g2 := gb.cell 2
  simp at j0 j1 g2
  clear gb hb
  by_cases hlt : j < n
  ·obtain ⟨curG, hcG, hcurG⟩ := HG1.out.cells
   obtain ⟨curH, hcH, hcurH⟩ := HH1.out.cells
   have hzj : zs[j]? = some (cellD zs j) := by
    have : j < zs.length := by rw [HG.out.len, HN.out]; exact hlt
    simp [cellD, this]
   have hhj : hs[j]? = some (cellD hs j) := by
    have : j < hs.length := by rw [HH.out.len, HN.out]; exact hlt
    simp [cellD, this]
   have cz := (hcG.cell j).trans (hcurG j _ hzj)
   have ch := (hcH.cell j).trans (hcurH j _ hhj)
   have hfj := HF.out.get (by rw [← HZ.out]; exact zip_at (f := f) hzj hhj)
   have HCALL := fun w => (HOP.out (cellD zs j) (cellD hs j) w (HG.out.fit.get hzj) (HH.out.fit.get hhj)).1 hfj
   have HE : Hid ((fun k => f (cellD zs k) (cellD hs k)) j = f (cellD zs j) (cellD hs j)) := rfl
   clear hcG hcurG hcH hcurH hfj hzj hhj
   generalize f (cellD zs j) (cellD hs j) = v at *
   generalize cellD zs j = z at *
   generalize cellD hs j = h at *
   have HCZ := Lib.hid cz
   clear cz
   have i0 : (0 : Int) ≤ (j : Int) := by omega
   have i1 : (j : Int) < (n : Int) := by omega
   go_wp2_with fail
   refine wp_region_held_drew (S := fun w' => Blk w' A 371 #[.pointer (some ⟨G, 0, none⟩), .func (Fn.func 180) #[] #[]] ∧ Blk w' G 337 #[.int .i64 (R : Int), .int .i64 (W : Int), .slice (some ⟨C, 0, none⟩) n cg] ∧ w'.cell? ⟨C, j, none⟩ = some (.int .i64 z) ∧ RowUpTo w' (A + 1) 2 n (fun k => f (cellD zs k) (cellD hs k)) j ∧ Below A w w') (by kernel_rfl) (by exact ⟨HJ.out.drew, HGB1.out.drew, HCZ.out, HR.out.drewN 1, HB.out.drew⟩) (fun hHeld => ?_)
   refine tkH (i := 0) (v := ?_) rfl (by kernel_rfl) (fun _ _ _ h => h) (Or.inl ⟨by rfl, ?_⟩) (by assumption) ?_
   rotate_left
   ·intro w hSw
    try dsimp only at hSw
    go_simp
    try with_reducible rfl
   simp only [Act.put, z1, z2, z3, z4, z5, z6]
   refine tkH (i := 1) (v := ?_) rfl (by kernel_rfl) (fun _ _ _ h => h) (Or.inl ⟨by rfl, ?_⟩) (by assumption) ?_
   rotate_left
   ·intro w hSw
    have q0 := hSw.1.cell 0
    have q1 := hSw.1.cell 1
    have q2 := hSw.2.1.cell 2
    have q3 := hSw.2.2.1
    simp at q0 q1 q2
    go_simp
    try with_reducible rfl
   simp only [Act.put, z1, z2, z3, z4, z5, z6]
   refine tkH (i := 2) (v := ?_) rfl (by kernel_rfl) (fun _ _ _ h => h) (Or.inl ⟨by rfl, ?_⟩) (by assumption) ?_
   rotate_left
   ·intro w hSw
    try dsimp only at hSw
    go_simp
    try with_reducible rfl
   simp only [Act.put, z1, z2, z3, z4, z5, z6]
   refine tkH (i := 3) (v := ?_) rfl (by kernel_rfl) (fun _ _ _ h => h) (Or.inl ⟨by rfl, ?_⟩) (by assumption) ?_
   rotate_left
   ·intro w hSw
    have q0 := hSw.1.cell 0
    have q1 := hSw.1.cell 1
    have q2 := hSw.2.1.cell 2
    have q3 := hSw.2.2.1
    simp at q0 q1 q2
    go_simp
    try with_reducible rfl
   simp only [Act.put, z1, z2, z3, z4, z5, z6]
   refine tkH (i := 4) (v := ?_) rfl (by kernel_rfl) (fun _ _ _ h => h) (Or.inl ⟨by rfl, ?_⟩) (by assumption) ?_
   rotate_left
   ·intro w hSw
    try dsimp only at hSw
    go_simp
    try with_reducible rfl
   simp only [Act.put, z1, z2, z3, z4, z5, z6]
   refine tkH (i := 5) (v := ?_) rfl (by kernel_rfl) (fun _ _ _ h => h) (Or.inl ⟨by rfl, ?_⟩) (by assumption) ?_
   rotate_left
   ·intro w hSw
    try dsimp only at hSw
    go_simp
    try with_reducible rfl
   simp only [Act.put, z1, z2, z3, z4, z5, z6]
   refine tkH (i := 6) (v := ?_) rfl (by kernel_rfl) (fun _ _ _ h => h) (Or.inl ⟨by rfl, ?_⟩) (by assumption) ?_
   rotate_left
   ·intro w hSw
    have q0 := hSw.1.cell 0
    have q1 := hSw.1.cell 1
    have q2 := hSw.2.1.cell 2
    have q3 := hSw.2.2.1
    simp at q0 q1 q2
    go_simp
    try with_reducible rfl
   simp only [Act.put, z1, z2, z3, z4, z5, z6]
   refine tkH (i := 7) (v := ?_) rfl (by kernel_rfl) (fun _ _ _ h => h) (Or.inl ⟨by rfl, ?_⟩) (by assumption) ?_
   rotate_left
   ·intro w hSw
    try dsimp only at hSw
    go_simp
    try with_reducible rfl
   simp only [Act.put, z1, z2, z3, z4, z5, z6]
   refine tkH (i := 8) (v := ?_) rfl (by kernel_rfl) (fun _ _ _ h => h) (Or.inl ⟨by rfl, ?_⟩) (by assumption) ?_
   rotate_left
   ·intro w hSw
    try dsimp only at hSw
    go_simp
    try with_reducible rfl
   simp only [Act.put, z1, z2, z3, z4, z5, z6]
   refine tkH (i := 9) (v := ?_) rfl (by kernel_rfl) (fun _ _ _ h => h) (Or.inl ⟨by rfl, ?_⟩) (by assumption) ?_
   rotate_left
   ·intro w hSw
    have q0 := hSw.1.cell 0
    have q1 := hSw.1.cell 1
    have q2 := hSw.2.1.cell 2
    have q3 := hSw.2.2.1
    simp at q0 q1 q2
    go_simp
    try with_reducible rfl
   simp only [Act.put, z1, z2, z3, z4, z5, z6]
   refine tkH (i := 10) (v := ?_) rfl (by kernel_rfl) (fun _ _ _ h => h) (Or.inl ⟨by rfl, ?_⟩) (by assumption) ?_
   rotate_left
   ·intro w hSw
    try dsimp only at hSw
    go_simp
    try with_reducible rfl
   simp only [Act.put, z1, z2, z3, z4, z5, z6]
   refine wpAnyH_ready (rs := [11]) (by kernel_rfl) (by simp) ?_
   refine AllReadyH.cons rfl (fun Kc hKc => ?_) AllReadyH.nil
   go_simp
   go_wp2_with (refine (HCALL _).mono ?_; rintro e w' ⟨rfl, hb'⟩)
   refine hKc.out _ _ ?_ (fun hHeld => ?_)
   ·first | assumption | exact ⟨hHeld.1.kept hb', hHeld.2.1.kept hb', (hb'.cell (p := ⟨C, j, none⟩) (by have := hHeld.1.lt; show C < _; omega)).trans hHeld.2.2.1, hHeld.2.2.2.1.kept hb', hHeld.2.2.2.2.trans (hb'.mono (by have := hHeld.1.lt; omega))⟩
   clear hKc Kc
   refine tkH (i := 12) (v := ?_) rfl (by kernel_rfl) (fun _ _ _ h => h) (Or.inl ⟨by rfl, ?_⟩) (by assumption) ?_
   rotate_left
   ·intro w hSw
    try dsimp only at hSw
    go_simp
    try with_reducible rfl
   simp only [Act.put, z1, z2, z3, z4, z5, z6]
   refine tkH (i := 13) (v := ?_) rfl (by kernel_rfl) (fun _ _ _ h => h) (Or.inl ⟨by rfl, ?_⟩) (by assumption) ?_
   rotate_left
   ·intro w hSw
    try dsimp only at hSw
    go_simp
    try with_reducible rfl
   simp only [Act.put, z1, z2, z3, z4, z5, z6]
   refine tkH (i := 14) (v := ?_) rfl (by kernel_rfl) (fun _ _ _ h => h) (Or.inl ⟨by rfl, ?_⟩) (by assumption) ?_
   rotate_left
   ·intro w hSw
    try dsimp only at hSw
    go_simp
    try with_reducible rfl
   simp only [Act.put, z1, z2, z3, z4, z5, z6]
   refine tkH (i := 15) (v := ?_) rfl (by kernel_rfl) (fun _ _ _ h => h) (Or.inl ⟨by rfl, ?_⟩) (by assumption) ?_
   rotate_left
   ·intro w hSw
    try dsimp only at hSw
    go_simp
    try with_reducible rfl
   simp only [Act.put, z1, z2, z3, z4, z5, z6]
   refine tkH (i := 16) (v := ?_) rfl (by kernel_rfl) (fun _ _ _ h => h) (Or.inl ⟨by rfl, ?_⟩) (by assumption) ?_
   rotate_left
   ·intro w hSw
    try dsimp only at hSw
    go_simp
    try with_reducible rfl
   simp only [Act.put, z1, z2, z3, z4, z5, z6]
   refine wpAnyH_done (by kernel_rfl) ?_ _
   obtain ⟨k1, k2, k3, k4, k5⟩ := hHeld
   obtain ⟨v0, hc⟩ := k4.cell hlt
   have hf := k4.frozen j
   have K1 := Lib.hid k1
   have K4 := Lib.hid k4
   have K5 := Lib.hid k5
   have hAn : A ≠ A + 1 := by omega
   clear k1 k2 k3 k4 k5 hb' ch g2 j0 j1
   go_wp2
   go_roundw
   case rel => exact ⟨j + 1, by omega, by go_num, K1.out.far hAn _, K4.out.put HE.out.symm, K5.out.setCell (by simp) _⟩
   case measure => simp [intOf]; omega
  ·obtain rfl : j = n := by omega
   have hfull := HR.out.full
   obtain ⟨curO, hcO, hszO, hO⟩ := hfull
   obtain ⟨curG, hcG, hcurG⟩ := HG1.out.cells
   have hlz : zs.length = j := by rw [HG.out.len, HN.out]
   have hlh : hs.length = j := by rw [HH.out.len, HN.out]
   have hlen : Z.length = j := by rw [← HZ.out, List.length_zipWith]; omega
   obtain ⟨X, hX⟩ : ∃ X, Z.map (Value.int .i64) = X := ⟨_, rfl⟩
   have hXl : X.length = j := by rw [← hX, List.length_map, hlen]
   have hsrc : ∀ i v, X[i]? = some v → wr.cell? ((⟨A + 1, 0, none⟩ : Addr).add i) = some v := by
    intro i v hv
    have hi : i < j := by
     have := (List.getElem?_eq_some_iff.1 hv).1
     omega
    have e1 : zs[i]? = some (cellD zs i) := by
     have : i < zs.length := by omega
     simp [cellD, this]
    have e2 : hs[i]? = some (cellD hs i) := by
     have : i < hs.length := by omega
     simp [cellD, this]
    rw [← hX, ← HZ.out, List.getElem?_map, zip_at e1 e2] at hv
    have e3 : (⟨A + 1, 0, none⟩ : Addr).add i = ⟨A + 1, i, none⟩ := by unfold Addr.add; split <;> simp_all
    rw [e3, cell_of_row wr (A + 1) i curO _ _ hcO, hO i hi]
    simpa using hv
   have hfitC : 0 + X.length ≤ curG.size := by
    rw [hXl]
    by_cases h0 : j = 0
    ·omega
    ·have e1 : zs[j - 1]? = some (cellD zs (j - 1)) := by
      have : j - 1 < zs.length := by omega
      simp [cellD, this]
     have := (Array.getElem?_eq_some_iff.1 (hcurG _ _ e1)).1
     omega
   have HSRC := Lib.hid hsrc
   have HFITC := Lib.hid hfitC
   have HHG := Lib.hid hcG
   have HONE : Hid (∀ v ∈ X, v.oneCell' = true) := Lib.hid (by
    intro v hv
    rw [← hX] at hv
    obtain ⟨a, _, rfl⟩ := List.mem_map.1 hv
    rfl)
   have HLN : Hid (X.length = Nat.min j j) := Lib.hid (by rw [hXl]; exact (Nat.min_self j).symm)
   have HLZ := Lib.hid hlen
   have HXX := Lib.hid hX
   clear hcO hszO hO hcG hcurG hlz hlh hlen hsrc hfitC hX hXl
   go_wp2_with (refine wpList_copy_own rfl (.tmp 79) (.tmp 80) 93 93 rfl 2 Tryz.underlying93 (by kernel_rfl) C 0 j cg ⟨A + 1, 0, none⟩ j j rfl rfl curG 2 HHG.out X HLN.out HSRC.out HFITC.out HONE.out ?_; generalize hcn : (curG.toList.take 0 ++ (X ++ curG.toList.drop (0 + X.length))).toArray = cn; have HCN := Lib.hid hcn; clear hcn)
   go_ret
   have hgrow : wr.grownBy (wr.setRow C cn) (some C) :=
    ⟨rfl, rfl, rfl, by simp, fun k hk hne => setRow_other wr C k _ (by simpa using hne)⟩
   refine ⟨rfl, ⟨⟨cg, by rw [HN.out]; exact HGB1.out.grown hgrow (by have := HG1.out.ne; simpa using this), by rw [HN.out]; exact hgc⟩, by rw [HLZ.out, HN.out], ⟨_, setRow_heap wr C _ _ _ _ HHG.out, fun i u hu => ?_⟩, HG.out.rows, HG.out.width, HF.out⟩, ?_⟩
   ·have hi : i < X.length := by rw [← HXX.out, List.length_map]; exact (List.getElem?_eq_some_iff.1 hu).1
    rw [← HCN.out]
    simp only [List.take_zero, List.nil_append, List.getElem?_toArray]
    rw [List.getElem?_append_left hi, ← HXX.out, List.getElem?_map, hu]
    rfl
   ·have hb := HB.out
    exact ⟨(hgrow.os.trans hb.os), hgrow.tape.trans hb.tape, hgrow.output.trans hb.output, Nat.le_trans hb.size hgrow.size, fun k hk hne => (hgrow.block k (Nat.lt_of_lt_of_le hk hb.size) hne).trans (hb.block k (by rw [← HA.out]; exact hk))⟩

end Go.Proofs.YtfeficdndjiijaaGreatDoor


namespace Go.Proofs.YtfeficdndjiijaaGreatDoor
open Go.RowKit
set_option linter.unusedVariables false
set_option linter.unusedSimpArgs false

def meetB (R W : Nat) (cs : List Int) : Bool := decide (0 < R) && (decide (cs.length = R) && cs.all fun c => decide (0 ≤ c) && decide (c < (W : Int)))
def colN (cs : List Int) (r : Nat) : Nat := (cellD cs r).toNat
def readZ (W : Nat) (zs cs : List Int) : List Int := (List.range cs.length).map fun r => cellD zs (r * W + colN cs r)
theorem meetB_of {R W : Nat} {cs : List Int} (h : meetB R W cs = true) : 0 < R ∧ cs.length = R ∧ ∀ r, r < R → cs[r]? = some (colN cs r : Int) ∧ colN cs r < W := by
  simp only [meetB, Bool.and_eq_true, decide_eq_true_eq, List.all_eq_true] at h
  obtain ⟨h0, h1, h2⟩ := h
  refine ⟨h0, h1, fun r hr => ?_⟩
  have hl : r < cs.length := by omega
  have e : cellD cs r = cs[r] := by simp [cellD, hl]
  have := h2 cs[r] (List.getElem_mem hl)
  unfold colN
  rw [e, List.getElem?_eq_getElem hl]
  exact ⟨by rw [Int.toNat_of_nonneg (by omega)], by omega⟩
theorem meetB_zero {W : Nat} {cs : List Int} : meetB 0 W cs = false := by simp [meetB]
theorem meetB_len {R W : Nat} {cs : List Int} (h : cs.length ≠ R) : meetB R W cs = false := by simp [meetB, h]
theorem meetB_bad {R W : Nat} {cs : List Int} {j : Nat} {c : Int} (hc : cs[j]? = some c) (h : c < 0 ∨ (W : Int) ≤ c) : meetB R W cs = false := by
  cases hm : meetB R W cs with
  | false => rfl
  | true =>
    simp only [meetB, Bool.and_eq_true, decide_eq_true_eq, List.all_eq_true] at hm
    have := hm.2.2 c (List.mem_of_getElem? hc)
    omega
theorem meetB_all {R W : Nat} {cs : List Int} (h0 : 0 < R) (h1 : cs.length = R) (h2 : ∀ (j : Nat) (c : Int), cs[j]? = some c → 0 ≤ c ∧ c < (W : Int)) : meetB R W cs = true := by
  simp only [meetB, Bool.and_eq_true, decide_eq_true_eq, List.all_eq_true]
  refine ⟨h0, h1, fun c hc => ?_⟩
  obtain ⟨j, hj⟩ := List.getElem?_of_mem hc
  exact h2 j c hj

set_option maxRecDepth 100000 in
set_option maxHeartbeats 4000000 in
theorem meet_any (w : World) (G C R W : Nat) (zs cs : List Int) (v : Value) (h : GridIs w G C R W zs) (hv : IntsAt w v cs) (hl : cs.length ≤ 100000) :
  Calls Tryz.prog 297 #[.pointer (some ⟨G, 0, none⟩), v] w fun e w' => e = .returned (.bool (meetB R W cs)) ∧ w = w' := by
 have P1 := rows_any w G C R W zs h
 have P2 := width_any w G C R W zs h
 clear h
 obtain ⟨ao, cap, rfl, hcap, hcells⟩ := hv
 have HC := Lib.hid hcells
 clear hcells
 obtain ⟨n, hlen⟩ : ∃ n, n = cs.length := ⟨_, rfl⟩
 rw [← hlen] at hcap hl ⊢
 have HLEN := Lib.hid hlen
 clear hlen
 by_cases hR : R = 0
 ·have HM : Hid (meetB R W cs = false) := Lib.hid (by rw [hR]; exact meetB_zero)
  have d0 : decide ((R : Int) < 1) = true := decide_eq_true (by omega)
  have d0' : decide (R < 1) = true := decide_eq_true (by omega)
  clear hR
  go_enter Tryz.func297, Tryz.ntmps297
  go_wp2_with (go_at_call 304; refine P1.mono ?_; rintro e w' ⟨rfl, rfl⟩)
  go_ret
  exact ⟨ret_boolq HM.out.symm, rfl⟩
 have d0 : decide ((R : Int) < 1) = false := decide_eq_false (by omega)
 have d0' : decide (R < 1) = false := decide_eq_false (by omega)
 by_cases hn : n = R
 ·have HN := Lib.hid hn
  have d1 : ((n : Int) != (R : Int)) = false := by simp [hn]
  have d1' : (n != R) = false := by simp [hn]
  have h0R : 0 < R := by omega
  clear hn hR
  go_enter Tryz.func297, Tryz.ntmps297
  go_wp2_with (go_at_call 304; refine P1.mono ?_; rintro e w' ⟨rfl, rfl⟩)
  go_loop [23] (fun i => ∃ j : Nat, j ≤ n ∧ i = .int .i64 (j : Int) ∧ ∀ k c, k < j → cs[k]? = some c → 0 ≤ c ∧ c < (W : Int)) (fun i => n - (intOf i).toNat)
  case atStart => exact ⟨0, by omega, rfl, fun k c hk => by omega⟩
  case round =>
   obtain ⟨j, hj, rfl, hok⟩ := hrel
   have HOK := Lib.hid hok
   clear hok
   by_cases hlt : j < n
   ·obtain ⟨g, rfl, hg, hc⟩ := HC.out (by have := HLEN.out; omega)
    have hcj : cs[j]? = some (cellD cs j) := by
     have : j < cs.length := by have := HLEN.out; omega
     simp [cellD, this]
    have cx := hc j _ hcj
    have HCJ := Lib.hid hcj
    clear hc hcj
    generalize cellD cs j = x at *
    by_cases h1 : x < 0
    ·have HM : Hid (meetB R W cs = false) := Lib.hid (meetB_bad HCJ.out (.inl h1))
     have e1 : decide (x < 0) = true := decide_eq_true h1
     clear h1
     go_wp2_with (go_at_call 280; refine P2.mono ?_; rintro e w' ⟨rfl, rfl⟩)
     go_ret
     exact ⟨ret_boolq HM.out.symm, rfl⟩
    by_cases h2 : (W : Int) ≤ x
    ·have HM : Hid (meetB R W cs = false) := Lib.hid (meetB_bad HCJ.out (.inr h2))
     have e1 : decide (x < 0) = false := decide_eq_false h1
     have e2 : decide ((W : Int) ≤ x) = true := decide_eq_true h2
     clear h1 h2
     go_wp2_with (go_at_call 280; refine P2.mono ?_; rintro e w' ⟨rfl, rfl⟩)
     go_ret
     exact ⟨ret_boolq HM.out.symm, rfl⟩
    have HX : Hid (∀ k c, k < j + 1 → cs[k]? = some c → 0 ≤ c ∧ c < (W : Int)) := Lib.hid (fun k c hk hc => by
     by_cases e : k = j
     ·subst e; rw [HCJ.out] at hc; have := Option.some.inj hc; omega
     ·exact HOK.out k c (by omega) hc)
    have e1 : decide (x < 0) = false := decide_eq_false h1
    have e2 : decide ((W : Int) ≤ x) = false := decide_eq_false h2
    clear h1 h2
    go_wp2_with (go_at_call 280; refine P2.mono ?_; rintro e w' ⟨rfl, rfl⟩)
    go_round
    case rel => exact ⟨j + 1, by omega, by go_num, HX.out⟩
    case measure => simp [intOf]; omega
   ·obtain rfl : j = n := by omega
    have HM : Hid (meetB R W cs = true) := Lib.hid (meetB_all h0R (by rw [← HLEN.out, HN.out]) (fun k c hc => HOK.out k c (by
     have := (List.getElem?_eq_some_iff.1 hc).1
     have := HLEN.out
     omega) hc))
    go_wp2
    go_ret
    exact ⟨ret_boolq HM.out.symm, rfl⟩
 ·have HM : Hid (meetB R W cs = false) := Lib.hid (meetB_len (by have := HLEN.out; omega))
  have d1 : ((n : Int) != (R : Int)) = true := by simp; omega
  have d1' : (n != R) = true := by simp; omega
  clear hn hR
  go_enter Tryz.func297, Tryz.ntmps297
  go_wp2_with (go_at_call 304; refine P1.mono ?_; rintro e w' ⟨rfl, rfl⟩)
  go_ret
  exact ⟨ret_boolq HM.out.symm, rfl⟩

def ReadPost (w : World) (W : Nat) (zs cs : List Int) (e : Ending) (w' : World) : Prop :=
  ∃ g, e = .returned (.tuple #[.slice (some ⟨g, 0, none⟩) cs.length cs.length, .int .i64 0]) ∧ w.heap.size ≤ g ∧ w'.rowIs g 2 cs.length (fun r => .int .i64 (cellD zs (r * W + colN cs r))) ∧ Below w.heap.size w w'

set_option maxRecDepth 100000 in
set_option maxHeartbeats 4000000 in
theorem read_yes (w : World) (G C R W : Nat) (zs cs : List Int) (v : Value) (h : GridIs w G C R W zs) (hv : IntsAt w v cs) (hm : meetB R W cs = true) :
  Calls Tryz.prog 289 #[.pointer (some ⟨G, 0, none⟩), v] w (ReadPost w W zs cs) := by
 have hRle := h.rows
 have P1 := fun hl => meet_any w G C R W zs cs v h hv hl
 obtain ⟨h0R, hlR, hcol⟩ := meetB_of hm
 rw [hm] at P1
 have HG := Lib.hid h
 have HV := Lib.hid hv
 have HCOL := Lib.hid hcol
 clear h hcol hm
 have P2 := P1 (by omega)
 clear P1
 obtain ⟨ao, cap, rfl, hcap, hcells⟩ := hv
 obtain ⟨g, rfl, hg, hc⟩ := hcells (by omega)
 have HC := Lib.hid hc
 clear hcells hc
 obtain ⟨n, hlen⟩ : ∃ n, n = cs.length := ⟨_, rfl⟩
 rw [← hlen] at hcap P2
 unfold ReadPost
 simp only [← hlen]
 have HLEN := Lib.hid hlen
 have hn8 : n ≤ 8 := by omega
 have hnR : Hid (n = R) := by show _ = _; omega
 clear hlen hlR hRle
 have hmk := fun W => run_make_row' (P := Tryz.prog) 93 2 (.int .i64 0) 8 Tryz.underlying93 Tryz.info64 rfl .i64 .i64 n (by omega) (by omega) W
 go_enter Tryz.func289, Tryz.ntmps289
 go_wp2_with (go_at_call 297; refine P2.mono ?_; rintro e w' ⟨rfl, hw'⟩; subst hw')
 obtain ⟨f, hf⟩ : ∃ f : Nat → Int, f = fun r => cellD zs (r * W + colN cs r) := ⟨_, rfl⟩
 have HF := Lib.hid hf
 clear hf
 have hrow := RowUpTo.zeros (f := f) (World.rowIs_made w (.int .i64 0) n 2)
 have hbel : Below w.heap.size w (w.alloc (.cells (madeCells #[.int .i64 0] n) 2)) := (Below.refl _ _).alloc (Nat.le_refl _) _
 have hszg : w.heap.size < (w.alloc (.cells (madeCells #[.int .i64 0] n) 2)).heap.size := by simp
 generalize (w.alloc (.cells (madeCells #[.int .i64 0] n) 2)) = wz at *
 have HRW := Lib.hid hrow
 have HB := Lib.hid hbel
 clear hrow hbel hmk
 generalize hA : w.heap.size = A at *
 have HA := Lib.hid hA
 clear hA
 go_loopw [18] (fun i wr => ∃ j : Nat, j ≤ n ∧ i = .int .i64 (j : Int) ∧ RowUpTo wr A 2 n f j ∧ Below A w wr) (fun i _ => n - (intOf i).toNat)
 case atStart => exact ⟨0, by omega, rfl, HRW.out, HB.out⟩
 case round =>
  obtain ⟨j, hj, rfl, hrow, hbel⟩ := hrel
  clear HRW HB
  have HRW := Lib.hid hrow
  have HB := Lib.hid hbel
  by_cases hlt : j < n
  ·obtain ⟨hcj, hcw⟩ := HCOL.out j (by have := hnR.out; omega)
   have cx := (hbel.cell (p := ⟨g, j, none⟩) hg).trans (HC.out j _ hcj)
   have hG := HG.out
   have hgk : GridIs wr G C R W zs := hG.below hbel (by have := hG.ltG; have := HA.out; omega) (by have := hG.ltC; have := HA.out; omega)
   have P3 := at_in wr G C R W j (colN cs j) zs hgk (by have := hnR.out; omega) hcw
   have HFJ : Hid (cellD zs (j * W + colN cs j) = f j) := Lib.hid (by rw [HF.out])
   obtain ⟨ov, hov⟩ := hrow.cell hlt
   have hfr := hrow.frozen j
   clear hG hgk hcj hcw hrow hbel
   generalize cellD zs (j * W + colN cs j) = x at *
   generalize colN cs j = y at *
   have i0 : (0 : Int) ≤ (j : Int) := by omega
   have i1 : (j : Int) < (n : Int) := by omega
   go_wp2_with (go_at_call 281; refine P3.mono ?_; rintro e w' ⟨rfl, hw'⟩; subst hw')
   go_roundw
   case rel => exact ⟨j + 1, by omega, by go_num, HRW.out.put HFJ.out, HB.out.setCell (Nat.le_refl _) _⟩
   case measure => simp [intOf]; omega
  ·obtain rfl : j = n := by omega
   have HFU : Hid (wr.rowIs A 2 j (fun r => .int .i64 (cellD zs (r * W + colN cs r)))) := Lib.hid (by have := HRW.out.full; rw [HF.out] at this; exact this)
   clear hrow hbel
   go_wp2
   go_ret2
   exact ⟨A, rfl, Nat.le_of_eq HA.out, HFU.out, by rw [HA.out]; exact HB.out⟩
end Go.Proofs.YtfeficdndjiijaaGreatDoor


namespace Go.Proofs.YtfeficdndjiijaaGreatDoor
open Go.RowKit
set_option linter.unusedVariables false
set_option linter.unusedSimpArgs false

theorem place_eq {W a c b d : Nat} (hc : c < W) (hd : d < W) (h : a * W + c = b * W + d) : a = b ∧ c = d := by
  have h1 : (a * W + c) / W = a := by rw [Nat.mul_comm, Nat.mul_add_div (by omega), Nat.div_eq_of_lt hc]; rfl
  have h2 : (b * W + d) / W = b := by rw [Nat.mul_comm, Nat.mul_add_div (by omega), Nat.div_eq_of_lt hd]; rfl
  have h3 : a = b := by rw [← h1, ← h2, h]
  subst h3
  exact ⟨rfl, by omega⟩
end Go.Proofs.YtfeficdndjiijaaGreatDoor


namespace Go.Proofs.YtfeficdndjiijaaGreatDoor
open Go.RowKit
set_option linter.unusedVariables false
set_option linter.unusedSimpArgs false

def setsZ (W : Nat) (zs : List Int) (cf : Nat → Nat) (vf : Nat → Int) : Nat → List Int
  | 0 => zs
  | k + 1 => (setsZ W zs cf vf k).set (k * W + cf k) (vf k)
theorem setsZ_len {W : Nat} {zs : List Int} {cf : Nat → Nat} {vf : Nat → Int} (k : Nat) : (setsZ W zs cf vf k).length = zs.length := by
  induction k with
  | zero => rfl
  | succ k ih => rw [setsZ, List.length_set, ih]
theorem setsZ_get {R W : Nat} {zs : List Int} {cf : Nat → Nat} {vf : Nat → Int} (hl : zs.length = R * W) (hcf : ∀ r, r < R → cf r < W) (k : Nat) (hk : k ≤ R) (r c : Nat) (hr : r < R) (hc : c < W) :
    cellD (setsZ W zs cf vf k) (r * W + c) = if r < k ∧ c = cf r then vf r else cellD zs (r * W + c) := by
  induction k with
  | zero => simp [setsZ]
  | succ k ih =>
    have hlt : k * W + cf k < (setsZ W zs cf vf k).length := by
      rw [setsZ_len, hl]
      have h1 : (k + 1) * W ≤ R * W := Nat.mul_le_mul_right W hk
      rw [Nat.add_mul] at h1
      have := hcf k (by omega)
      omega
    have ih := ih (by omega)
    unfold cellD at ih ⊢
    rw [setsZ, List.getElem?_set]
    by_cases e : k * W + cf k = r * W + c
    · obtain ⟨rfl, rfl⟩ := place_eq (hcf k (by omega)) hc e
      simp [hlt]
    · rw [if_neg e, ih]
      by_cases hrk : r = k
      · subst hrk
        have : ¬ c = cf r := fun h => e (by rw [h])
        simp [this]
      · have : (r < k + 1 ∧ c = cf r) ↔ (r < k ∧ c = cf r) := by omega
        simp only [this]
def changeZ (W : Nat) (zs cs : List Int) (d : Int) : List Int := setsZ W zs (colN cs) (fun r => cellD zs (r * W + colN cs r) + d) cs.length
def changeFits (W : Nat) (zs cs : List Int) (d : Int) : Prop := ∀ r, r < cs.length → In64 (cellD zs (r * W + colN cs r) + d)
def ChangeYes (w : World) (G C R W : Nat) (zs cs : List Int) (d : Int) (e : Ending) (w' : World) : Prop :=
  e = .returned (.int .i64 0) ∧ GridIs w' G C R W (changeZ W zs cs d) ∧ w.grownBy w' (some C)
def ChangePost (w : World) (G C R W : Nat) (zs cs : List Int) (d : Int) (e : Ending) (w' : World) : Prop :=
  (changeFits W zs cs d ∧ ChangeYes w G C R W zs cs d e w') ∨ (¬ changeFits W zs cs d ∧ e = .returned (.int .i64 4) ∧ Below w.heap.size w w')
theorem below_grown {w w' : World} {row : Option Nat} (h : Below w.heap.size w w') : w.grownBy w' row := ⟨h.os, h.tape, h.output, h.size, fun k hk _ => h.block k hk⟩
theorem grown_trans {w w1 w2 : World} {row : Option Nat} (h : w.grownBy w1 row) (k : w1.grownBy w2 row) : w.grownBy w2 row :=
  ⟨k.os.trans h.os, k.tape.trans h.tape, k.output.trans h.output, Nat.le_trans h.size k.size, fun j hj hne => (k.block j (Nat.lt_of_lt_of_le hj h.size) hne).trans (h.block j hj hne)⟩
theorem cell_fit {zs : List Int} (h : Fit zs) (i : Nat) : In64 (cellD zs i) := by
  unfold cellD
  cases hz : zs[i]? with
  | none => exact ⟨by simp, by simp⟩
  | some x => exact h.get hz

set_option maxRecDepth 100000 in
set_option maxHeartbeats 4000000 in
theorem change_yes (w : World) (G C R W : Nat) (zs cs : List Int) (d : Int) (v : Value) (h : GridIs w G C R W zs) (hv : IntsAt w v cs) (hm : meetB R W cs = true) (hd : In64 d) (hvc : v.ownBlock ≠ some C) :
  Calls Tryz.prog 293 #[.pointer (some ⟨G, 0, none⟩), v, .int .i64 d] w (ChangePost w G C R W zs cs d) := by
 have hR8 := h.rows
 have hfit := h.fit
 obtain ⟨h0R, hlR, hcol⟩ := meetB_of hm
 have P1 := read_yes w G C R W zs cs v h hv hm
 have HG := Lib.hid h
 have HV := Lib.hid hv
 have HCOL := Lib.hid hcol
 have HFIT := Lib.hid hfit
 clear h hcol hm hfit
 obtain ⟨ao, cap, rfl, hcap, hcells⟩ := hv
 obtain ⟨g, rfl, hg, hc⟩ := hcells (by omega)
 have HC := Lib.hid hc
 have hgC : g ≠ C := fun e => hvc (by simp [Value.ownBlock, e])
 clear hcells hc hvc
 obtain ⟨n, hlen⟩ : ∃ n, n = cs.length := ⟨_, rfl⟩
 unfold ReadPost at P1
 have hCP : ChangePost w G C R W zs cs d = fun e w' => (changeFits W zs cs d ∧ (e = .returned (.int .i64 0) ∧ GridIs w' G C R W (setsZ W zs (colN cs) (fun r => cellD zs (r * W + colN cs r) + d) n) ∧ w.grownBy w' (some C))) ∨ (¬ changeFits W zs cs d ∧ e = .returned (.int .i64 4) ∧ Below w.heap.size w w') := by
  funext e w'; rw [hlen]; rfl
 rw [hCP]
 have HFITS : Hid (changeFits W zs cs d ↔ ∀ r, r < n → In64 (cellD zs (r * W + colN cs r) + d)) := Lib.hid (by rw [hlen]; exact Iff.rfl)
 clear hCP
 rw [← hlen] at hcap
 simp only [← hlen] at P1 ⊢
 have hn8 : n ≤ 8 := by omega
 have hnR : Hid (n = R) := by show _ = _; omega
 have HLEN := Lib.hid hlen
 clear hlen hlR hR8
 generalize changeFits W zs cs d = FITS at *
 obtain ⟨f, hf⟩ : ∃ f : Nat → Int, f = fun r => cellD zs (r * W + colN cs r) := ⟨_, rfl⟩
 have HF64 : Hid (∀ r, In64 (f r)) := Lib.hid (fun r => by rw [hf]; exact cell_fit HFIT.out _)
 rw [show (fun r => Value.int .i64 (cellD zs (r * W + colN cs r))) = fun r => Value.int .i64 (f r) by rw [hf]] at P1
 rw [show (fun r => cellD zs (r * W + colN cs r) + d) = fun r => f r + d by rw [hf]]
 have HFITS : Hid (FITS ↔ ∀ r, r < n → In64 (f r + d)) := Lib.hid (by rw [HFITS.out, hf])
 clear hf
 go_enter Tryz.func293, Tryz.ntmps293
 go_wp2_with (go_at_call 289; refine P1.mono ?_; rintro e w2 ⟨b, rfl, hb0, hrow, hb⟩; have HB0 := Lib.hid hb0; have HROW := Lib.hid hrow; have HB := Lib.hid hb; clear hrow hb hb0)
 go_loopw [26] (fun i wr => ∃ j : Nat, j ≤ n ∧ i = .int .i64 (j : Int) ∧ wr.rowIs b 2 n (fun k => .int .i64 (if k < j then f k + d else f k)) ∧ (∀ k, k < j → In64 (f k + d)) ∧ Below w.heap.size w wr) (fun i _ => n - (intOf i).toNat)
 case atStart => exact ⟨0, by omega, rfl, HROW.out.congr (fun k _ => by simp), fun k hk => by omega, HB.out⟩
 case round =>
  obtain ⟨j, hj, rfl, hrow, hok, hbel⟩ := hrel
  clear HROW HB
  have HROW := Lib.hid hrow
  have HB := Lib.hid hbel
  have HOK := Lib.hid hok
  by_cases hlt : j < n
  ·have cx := hrow.cell hlt
   simp only [Nat.lt_irrefl, if_false] at cx
   have i0 : (0 : Int) ≤ (j : Int) := by omega
   have i1 : (j : Int) < (n : Int) := by omega
   clear hrow hbel hok
   have h64 := HF64.out j
   by_cases hj64 : In64 (f j + d)
   ·have P2 := (opok_plus (f j) d wr h64 hd).1 hj64
    have HOK2 : Hid (∀ k, k < j + 1 → In64 (f k + d)) := Lib.hid (fun k hk => by
     by_cases e : k = j
     ·subst e; exact hj64
     ·exact HOK.out k (by omega))
    have HE : Hid (∀ k, (if k = j then f j + d else if k < j then f k + d else f k) = if k < j + 1 then f k + d else f k) := Lib.hid (fun k => by
     by_cases e : k = j
     ·subst e; simp
     ·have : k < j + 1 ↔ k < j := by omega
      simp [e, this])
    unfold TwoPost at P2
    generalize f j + d = x at *
    clear h64 hj64
    go_wp2_with (go_at_call 238; refine P2.mono ?_; rintro e w3 ⟨rfl, hb⟩; have hr3 := HROW.out.of_block (hb.block b HROW.out.lt); have HR3 := Lib.hid hr3; have HB3 := Lib.hid (btr HB.out hb); obtain ⟨ov, hov⟩ : ∃ ov, w3.cell? ⟨b, j, none⟩ = some ov := ⟨_, hr3.cell hlt⟩; have hfr := hr3.frozen j; clear hr3 hb)
    go_roundw
    case rel => exact ⟨j + 1, by omega, by go_num, (HR3.out.set j _).congr (fun k _ => by have := HE.out k; by_cases e : k = j <;> simp [e] at this ⊢ <;> simp [this]), HOK2.out, HB3.out.setCell HB0.out _⟩
    case measure => simp [intOf]; omega
   ·have P2 := (opok_plus (f j) d wr h64 hd).2 hj64
    have HNF : Hid (¬ FITS) := Lib.hid (fun h => hj64 (HFITS.out.1 h j hlt))
    unfold TwoPost at P2
    clear h64 hj64
    go_wp2_with (go_at_call 238; refine P2.mono ?_; rintro e w3 ⟨rfl, hb⟩; have HB3 := Lib.hid (btr HB.out hb); clear hb)
    go_ret
    exact .inr ⟨HNF.out, rfl, HB3.out⟩
  ·obtain rfl : j = n := by omega
   have hrow2 : wr.rowIs b 2 j (fun k => .int .i64 (f k + d)) := hrow.congr (fun k hk => by rw [if_pos hk])
   have HYES : Hid FITS := HFITS.out.2 hok
   have HROW := Lib.hid hrow2
   have HGR := Lib.hid (HG.out.kept hbel)
   have HGB := Lib.hid (below_grown (row := some C) hbel)
   have hbC : b ≠ C := by have := HG.out.ltC; have := HB0.out; omega
   have hgk : g < wr.heap.size := by have := hbel.size; omega
   clear hrow hrow2 hbel hok
   go_wp2_with fail
   go_loopw [46] (fun i ws => ∃ k : Nat, k ≤ j ∧ i = .int .i64 (k : Int) ∧ GridIs ws G C R W (setsZ W zs (colN cs) (fun r => f r + d) k) ∧ w.grownBy ws (some C) ∧ wr.grownBy ws (some C)) (fun i _ => j - (intOf i).toNat)
   case atStart => exact ⟨0, by omega, rfl, HGR.out, HGB.out, ⟨rfl, rfl, rfl, Nat.le_refl _, fun _ _ _ => rfl⟩⟩
   case round =>
    obtain ⟨k, hk, rfl, hgs, hgr, hgr2⟩ := hrel
    have HGS := Lib.hid hgs
    have HG1 := Lib.hid hgr
    have HG2 := Lib.hid hgr2
    by_cases hlk : k < j
    ·have cx := hgr2.cell (HROW.out.cell hlk) (by simpa using hbC)
     obtain ⟨hck, hcw⟩ := HCOL.out k (by have := hnR.out; omega)
     have cc := hgr.cell (HC.out k _ hck) (by simpa using hgC)
     have P3 := put_in _ G C R W k (colN cs k) (f k + d) _ hgs (by have := hnR.out; omega) hcw
     have i0 : (0 : Int) ≤ (k : Int) := by omega
     have i1 : (k : Int) < (j : Int) := by omega
     have HX : Hid (In64 (f k + d)) := HOK.out k hlk
     have HST : Hid (setsZ W zs (colN cs) (fun r => f r + d) (k + 1) = (setsZ W zs (colN cs) (fun r => f r + d) k).set (k * W + colN cs k) (f k + d)) := rfl
     clear hgs hgr hgr2 hck hcw
     generalize f k + d = x at *
     generalize hy : colN cs k = y at *
     have HY := Lib.hid hy
     clear hy
     go_wp2_with (go_at_call 282; refine P3.mono ?_; rintro e w3 ⟨rfl, hw3⟩; have HW3 := Lib.hid hw3; clear hw3)
     go_roundw
     case rel => exact ⟨k + 1, by omega, by go_num, by rw [HST.out, HW3.out]; exact HGS.out.set _ _ HX.out.1 HX.out.2, by rw [HW3.out]; exact grown_trans HG1.out (grown_set _ _ _ _), by rw [HW3.out]; exact grown_trans HG2.out (grown_set _ _ _ _)⟩
     case measure => simp [intOf]; omega
    ·obtain rfl : k = j := by omega
     clear hgs hgr hgr2
     go_wp2
     go_ret
     exact .inl ⟨HYES.out, rfl, HGS.out, HG1.out⟩
end Go.Proofs.YtfeficdndjiijaaGreatDoor


namespace Go.Proofs.YtfeficdndjiijaaGreatDoor
open Go.RowKit
set_option linter.unusedVariables false
set_option linter.unusedSimpArgs false

def TellPost (w : World) (W : Nat) (zs cs : List Int) (k : Nat) (e : Ending) (w' : World) : Prop :=
  ∃ u, e = .returned (.tuple #[.int .i64 u, .int .i64 0]) ∧ IsKth (readZ W zs cs) k u ∧ Below w.heap.size w w'

set_option maxRecDepth 100000 in
theorem of_least (w : World) (G C R W : Nat) (zs cs : List Int) (v : Value) (h : GridIs w G C R W zs) (hv : IntsAt w v cs) (hm : meetB R W cs = true) :
  Calls Tryz.prog 299 #[.agg #[.func (Fn.func 298) #[] #[]], .pointer (some ⟨G, 0, none⟩), v] w (TellPost w W zs cs 0) := by
 obtain ⟨h0R, hlR, hcol⟩ := meetB_of hm
 have hR8 := h.rows
 have HK := Lib.hid (box_kept (w := w) (cs := #[.func (Fn.func 298) #[] #[]]) (t := 403) (Below.refl _ _))
 have P1 := read_yes _ G C R W zs cs v (h.kept HK.out.2) (hv.kept HK.out.2) hm
 obtain ⟨ao, cap, rfl, hcap, hcells⟩ := hv
 clear hcells hcol h
 obtain ⟨n, hlen⟩ : ∃ n, n = cs.length := ⟨_, rfl⟩
 unfold ReadPost at P1
 rw [← hlen] at hcap hlR
 simp only [← hlen] at P1 ⊢
 have HLEN := Lib.hid hlen
 have h0n : 0 < n := by omega
 have hn8 : n ≤ 8 := by omega
 clear hlen hlR
 go_enter Tryz.func299, Tryz.ntmps299
 go_wp2_with (go_at_call 289; refine P1.mono ?_; rintro e w2 ⟨g, rfl, hg, hrow, hb⟩; have HROW := Lib.hid hrow; have HB := Lib.hid (HK.out.2.trans (hb.mono HK.out.2.size)); have hbx := HK.out.1.kept hb; have hbc := hbx.cell 0; simp at hbc; clear hrow hb hbx)
 have hints : IntsAt w2 (.slice (some ⟨g, 0, none⟩) n n) (readZ W zs cs) := by have := IntsAt.of_row HROW.out; rw [HLEN.out] at this ⊢; exact this
 have hrl : (readZ W zs cs).length = n := by rw [readZ, List.length_map, List.length_range, HLEN.out]
 have P2 := min_any _ _ w2 hints (by omega) (by omega)
 have HRL := Lib.hid hrl
 clear hrl hints
 go_wp2_with (go_at_call 298; refine P2.mono ?_; rintro e w3 ⟨u, rfl, hu, hb⟩; have HU := Lib.hid hu; have HB3 := Lib.hid (btr HB.out hb); clear hu hb)
 go_ret2
 exact ⟨u, rfl, by have := HU.out; first | exact this | (rw [HRL.out] at this; exact this), HB3.out⟩
theorem least_yes (w : World) (G C R W : Nat) (zs cs : List Int) (v : Value) (h : GridIs w G C R W zs) (hv : IntsAt w v cs) (hm : meetB R W cs = true) :
    Calls Tryz.prog 290 #[.pointer (some ⟨G, 0, none⟩), v] w (TellPost w W zs cs 0) := by
  have P1 := of_least w G C R W zs cs v h hv hm
  obtain ⟨ao, cap, rfl, hcap, hcells⟩ := hv
  clear hcells h
  go_enter Tryz.func290, Tryz.ntmps290
  go_wp2_with (go_at_call 299; refine P1.mono ?_; rintro e w2 ⟨u, rfl, hu, hb⟩; have HP : Hid (TellPost w W zs cs 0 (.returned (.tuple #[.int .i64 u, .int .i64 0])) w2) := ⟨u, rfl, hu, hb⟩; clear hu hb)
  go_ret2
  exact HP.out
set_option maxRecDepth 100000 in
theorem of_middle (w : World) (G C R W : Nat) (zs cs : List Int) (v : Value) (h : GridIs w G C R W zs) (hv : IntsAt w v cs) (hm : meetB R W cs = true) :
  Calls Tryz.prog 299 #[.agg #[.func (Fn.func 300) #[] #[]], .pointer (some ⟨G, 0, none⟩), v] w (TellPost w W zs cs ((cs.length - 1) / 2)) := by
 obtain ⟨h0R, hlR, hcol⟩ := meetB_of hm
 have hR8 := h.rows
 have HK := Lib.hid (box_kept (w := w) (cs := #[.func (Fn.func 300) #[] #[]]) (t := 403) (Below.refl _ _))
 have P1 := read_yes _ G C R W zs cs v (h.kept HK.out.2) (hv.kept HK.out.2) hm
 obtain ⟨ao, cap, rfl, hcap, hcells⟩ := hv
 clear hcells hcol h
 obtain ⟨n, hlen⟩ : ∃ n, n = cs.length := ⟨_, rfl⟩
 unfold ReadPost at P1
 rw [← hlen] at hcap hlR
 simp only [← hlen] at P1 ⊢
 have HLEN := Lib.hid hlen
 have h0n : 0 < n := by omega
 have hn8 : n ≤ 8 := by omega
 clear hlen hlR
 go_enter Tryz.func299, Tryz.ntmps299
 go_wp2_with (go_at_call 289; refine P1.mono ?_; rintro e w2 ⟨g, rfl, hg, hrow, hb⟩; have HROW := Lib.hid hrow; have HB := Lib.hid (HK.out.2.trans (hb.mono HK.out.2.size)); have hbx := HK.out.1.kept hb; have hbc := hbx.cell 0; simp at hbc; clear hrow hb hbx)
 have hints : IntsAt w2 (.slice (some ⟨g, 0, none⟩) n n) (readZ W zs cs) := by have := IntsAt.of_row HROW.out; rw [HLEN.out] at this ⊢; exact this
 have hrl : (readZ W zs cs).length = n := by rw [readZ, List.length_map, List.length_range, HLEN.out]
 have P2 := median_any _ _ w2 hints (by omega) (by omega)
 have HRL := Lib.hid hrl
 clear hrl hints
 go_wp2_with (go_at_call 300; refine P2.mono ?_; rintro e w3 ⟨u, rfl, hu, hb⟩; have HU := Lib.hid hu; have HB3 := Lib.hid (btr HB.out hb); clear hu hb)
 go_ret2
 exact ⟨u, rfl, by have := HU.out; first | exact this | (rw [HRL.out] at this; exact this), HB3.out⟩
theorem middle_yes (w : World) (G C R W : Nat) (zs cs : List Int) (v : Value) (h : GridIs w G C R W zs) (hv : IntsAt w v cs) (hm : meetB R W cs = true) :
    Calls Tryz.prog 291 #[.pointer (some ⟨G, 0, none⟩), v] w (TellPost w W zs cs ((cs.length - 1) / 2)) := by
  have P1 := of_middle w G C R W zs cs v h hv hm
  obtain ⟨ao, cap, rfl, hcap, hcells⟩ := hv
  clear hcells h
  go_enter Tryz.func291, Tryz.ntmps291
  go_wp2_with (go_at_call 299; refine P1.mono ?_; rintro e w2 ⟨u, rfl, hu, hb⟩; have HP : Hid (TellPost w W zs cs ((cs.length - 1) / 2) (.returned (.tuple #[.int .i64 u, .int .i64 0])) w2) := ⟨u, rfl, hu, hb⟩; clear hu hb)
  go_ret2
  exact HP.out
end Go.Proofs.YtfeficdndjiijaaGreatDoor


namespace Go.Proofs.YtfeficdndjiijaaGreatDoor
open Go.RowKit
set_option linter.unusedVariables false

inductive Sh where
  | int (k : IntKind)
  | bool
  | slice (e : Sh)
  | unit
  | cons (a b : Sh)
  | agg (s : Sh)

def Sh.size : Sh → Nat
  | .int _ => 1
  | .bool => 1
  | .slice _ => 1
  | .unit => 0
  | .cons a b => a.size + b.size
  | .agg s => s.size

def Sh.chk (P : Program) : Sh → (TypeId → Bool) × (List (Nat × TypeId) → Nat → Bool)
  | .int k => (fun t => match P.underlying t with | some (.int k') => decide (k' = k) | _ => false, fun _ _ => false)
  | .bool => (fun t => match P.underlying t with | some .bool => true | _ => false, fun _ _ => false)
  | .slice e => (fun t => match P.underlying t with | some (.slice te) => decide (P.cellsOf te = e.size) && (decide (0 < e.size) && (e.chk P).1 te) | _ => false, fun _ _ => false)
  | .unit => (fun _ => false, fun l _ => l.isEmpty)
  | .cons a b => (fun _ => false, fun l off => match l with | (o, t) :: l => decide (o = off) && decide (P.cellsOf t = a.size) && (a.chk P).1 t && (b.chk P).2 l (off + a.size) | [] => false)
  | .agg s => (fun t => decide (P.cellsOf t = s.size) && match P.underlying t with
      | some (.struct fs) => (s.chk P).2 (fs.toList.map fun f => (f.offset, f.type)) 0
      | some (.array n te) => (s.chk P).2 ((List.range n).map fun i => (i * P.cellsOf te, te)) 0
      | _ => false, fun _ _ => false)

def Sh.reads (w : World) : Sh → List Value → Prop
  | .int k, cs => ∃ n, cs = [.int k n] ∧ (Lit.int k n).wf = true
  | .bool, cs => ∃ b, cs = [.bool b]
  | .slice e, cs => ∃ (ao : Option Addr) (len cap : Nat), cs = [.slice ao len cap] ∧ len ≤ cap ∧ cap ≤ maxLen ∧
      (0 < len → ∃ b off, ao = some ⟨b, off, none⟩ ∧ b < w.heap.size ∧
        ∀ i, i < len → ∃ cs', cs'.length = e.size ∧ (∀ j, j < e.size → w.cell? ⟨b, off + (i * e.size + j), none⟩ = cs'[j]?) ∧ e.reads w cs')
  | .unit, cs => cs = []
  | .cons a b, cs => ∃ c d, cs = c ++ d ∧ a.reads w c ∧ b.reads w d
  | .agg s, cs => s.reads w cs

def Sh.Val (w : World) (sh : Sh) (v : Value) : Prop :=
  match sh with
  | .agg s => ∃ cs : Array Value, v = .agg cs ∧ s.reads w cs.toList
  | sh => sh.reads w [v]

section
variable {H : Type} {enc : TypeId × Value → H} {P : Program} {w : World} {spare : Nat → Bool} {held : Bool}

theorem cell_block {w : World} {a : Addr} {v : Value} (h : w.cell? a = some v) : a.block < w.heap.size := by
  rcases Nat.lt_or_ge a.block w.heap.size with h' | h'
  · exact h'
  · unfold World.cell? at h
    rw [Array.getElem?_eq_none h'] at h
    cases h

theorem addr_add (b off n : Nat) : (Addr.mk b off none).add n = ⟨b, off + n, none⟩ := by
  unfold Addr.add
  split <;> simp_all

theorem reads_of_trod : ∀ (sh : Sh),
  (∀ (t : TypeId) (fuel : Nat) (cs : List Value) (x : DataW H × List MemPlace), (sh.chk P).1 t = true → DataW.trod enc P w 0 spare held fuel t cs = some x → sh.reads w cs) ∧
  (∀ (l : List (Nat × TypeId)) (off fuel : Nat) (cs : List Value), (sh.chk P).2 l off = true → off + sh.size ≤ cs.length →
   (∀ q, q ∈ l → ∃ x, DataW.trod enc P w 0 spare held fuel q.2 ((cs.drop q.1).take (P.cellsOf q.2)) = some x) → sh.reads w ((cs.drop off).take sh.size)) := by
 intro sh
 induction sh with
 | int k =>
  refine ⟨fun t fuel cs x hc h => ?_, fun l off fuel cs hc => by simp [Sh.chk] at hc⟩
  cases hu : P.underlying t with
  | none => simp [Sh.chk, hu] at hc
  | some u =>
   simp only [Sh.chk, hu] at hc
   cases u <;> simp at hc
   subst hc
   obtain ⟨n, h1, _, h3⟩ := DataW.trod_int hu h
   exact ⟨n, h1, h3⟩
 | bool =>
  refine ⟨fun t fuel cs x hc h => ?_, fun l off fuel cs hc => by simp [Sh.chk] at hc⟩
  cases hu : P.underlying t with
  | none => simp [Sh.chk, hu] at hc
  | some u =>
   simp only [Sh.chk, hu] at hc
   cases u <;> simp at hc
   cases fuel with
   | zero => simp [DataW.trod] at h
   | succ n =>
    unfold DataW.trod at h
    rw [hu] at h
    split at h <;> simp_all
    exact ⟨_, rfl⟩
 | slice e ih =>
  refine ⟨fun t fuel cs x hc h => ?_, fun l off fuel cs hc => by simp [Sh.chk] at hc⟩
  cases hu : P.underlying t with
  | none => simp [Sh.chk, hu] at hc
  | some u =>
   simp only [Sh.chk, hu] at hc
   cases u <;> simp at hc
   rename_i te
   obtain ⟨hsz, hpos, hce⟩ := hc
   rcases Go.Deep.open_slice hu h with ⟨h1, _⟩ | ⟨a, len, cap, m, n, D, Pl, h1, _, hl, hm, hmm, _, hx⟩
   ·exact ⟨none, 0, 0, h1, by omega, by unfold maxLen; omega, fun h => by omega⟩
   ·have hlm : len ≤ m := by rw [hmm]; split <;> omega
    refine ⟨some a, len, cap, h1, hl, hm, fun h0 => ?_⟩
    obtain ⟨b, off, s⟩ := a
    obtain ⟨c0, g1, _⟩ := hx 0 (by omega)
    obtain ⟨_, g2, g3⟩ := World.cells?_some g1
    have g4 := g3 0 (by omega)
    have g5 : c0[0]? = some c0[0] := List.getElem?_eq_getElem (by omega)
    rw [g5] at g4
    have hb : b < w.heap.size := by
     have := cell_block g4
     simpa [Addr.add] using this
    have hs : s = none := by
     have := World.cell?_spot g4
     simpa [Addr.add] using this
    subst hs
    refine ⟨b, off, rfl, hb, fun i hi => ?_⟩
    obtain ⟨ci, k1, k2⟩ := hx i (by omega)
    obtain ⟨_, k3, k4⟩ := World.cells?_some k1
    refine ⟨ci, by rw [k3, hsz], fun j hj => ?_, ih.1 te n ci _ hce k2⟩
    have := k4 j (by omega)
    rw [addr_add, addr_add, hsz] at this
    rw [← this]
    congr 2
    omega
 | unit =>
  refine ⟨fun t fuel cs x hc => by simp [Sh.chk] at hc, fun l off fuel cs hc hl h => ?_⟩
  simp [Sh.reads, Sh.size]
 | cons a b iha ihb =>
  refine ⟨fun t fuel cs x hc => by simp [Sh.chk] at hc, fun l off fuel cs hc hl h => ?_⟩
  match l with
  | [] => simp [Sh.chk] at hc
  | (o, t) :: l =>
   simp [Sh.chk] at hc
   obtain ⟨⟨⟨rfl, h2⟩, h3⟩, h4⟩ := hc
   simp only [Sh.size] at hl ⊢
   obtain ⟨x, hx⟩ := h (o, t) (by simp)
   have r1 := iha.1 t fuel _ x h3 hx
   have r2 := ihb.2 l (o + a.size) fuel cs h4 (by omega) (fun q hq => h q (by simp [hq]))
   rw [h2] at r1
   refine ⟨_, _, ?_, r1, r2⟩
   rw [List.take_add, List.drop_drop, Nat.add_comm]
 | agg s ih =>
  refine ⟨fun t fuel cs x hc h => ?_, fun l off fuel cs hc => by simp [Sh.chk] at hc⟩
  cases hu : P.underlying t with
  | none => simp [Sh.chk, hu] at hc
  | some u =>
   simp only [Sh.chk, hu] at hc
   cases u <;> simp at hc
   ·rename_i n te
    obtain ⟨hsz, hce⟩ := hc
    obtain ⟨xs, m, _, _, hl, hxs, hf⟩ := DataW.trod_array hu h
    have := ih.2 _ 0 m cs hce (by omega) (by
     intro q hq
     simp at hq
     obtain ⟨i, hi, rfl⟩ := hq
     have := hf i hi
     refine ⟨xs[i], ?_⟩
     rw [this]
     simp [hxs, hi])
    simp [← hsz, ← hl] at this
    exact this
   ·rename_i fs
    obtain ⟨hsz, hce⟩ := hc
    obtain ⟨xs, n, _, _, hl, hxs, hf⟩ := DataW.trod_struct hu h
    have := ih.2 _ 0 n cs hce (by omega) (by
     intro q hq
     simp at hq
     obtain ⟨f, hf1, rfl⟩ := hq
     obtain ⟨i, hi', rfl⟩ := Array.getElem_of_mem hf1
     have := hf i fs[i] (by simp [hi'])
     refine ⟨xs[i], ?_⟩
     simp at this ⊢
     rw [this]
     simp [hxs, hi'])
    simp [← hsz, ← hl] at this
    exact this

theorem arg_val {sh : Sh} {r : Reach} {base : Nat} {t : TypeId} {v : Value} {d : DataW H} {p : List MemPlace} (hc : (sh.chk P).1 t = true)
  (hv : Value.okWide P w r base t v) (h : DataW.Trod enc P w 0 spare held t v d p) : sh.Val w v := by
 obtain ⟨fuel, hf⟩ := h
 have hr := (reads_of_trod sh).1 t fuel _ _ hc hf
 cases sh with
 | int k =>
  obtain ⟨n, h1, h2⟩ := hr
  cases hu : P.underlying t with
  | none => simp [Sh.chk, hu] at hc
  | some u =>
   simp only [Sh.chk, hu] at hc
   cases u <;> simp at hc
   subst hc
   obtain ⟨m, rfl⟩ := WideShapes.okWide_int hu hv
   exact ⟨n, by simpa [Value.cells] using h1, h2⟩
 | bool =>
  obtain ⟨n, h1⟩ := hr
  cases hu : P.underlying t with
  | none => simp [Sh.chk, hu] at hc
  | some u =>
   simp only [Sh.chk, hu] at hc
   cases u <;> simp at hc
   obtain ⟨m, rfl⟩ := WideShapes.okWide_bool hu hv
   exact ⟨n, by simpa [Value.cells] using h1⟩
 | slice e =>
  cases hu : P.underlying t with
  | none => simp [Sh.chk, hu] at hc
  | some u =>
   simp only [Sh.chk, hu] at hc
   cases u <;> simp at hc
   obtain ⟨a, l, c, rfl⟩ := WideShapes.okWide_slice hu hv
   exact hr
 | unit => simp [Sh.chk] at hc
 | cons a b => simp [Sh.chk] at hc
 | agg s =>
  cases hu : P.underlying t with
  | none => simp [Sh.chk, hu] at hc
  | some u =>
   simp only [Sh.chk, hu] at hc
   cases u <;> simp at hc
   all_goals
    simp only [Value.okWide, hu] at hv
    obtain ⟨cs, rfl, _⟩ := hv
    exact ⟨cs, rfl, hr⟩
end

theorem Sh.reads_int {w : World} {k : IntKind} {s : Sh} {cs : List Value} (h : (Sh.cons (.int k) s).reads w cs) : ∃ n d, cs = .int k n :: d ∧ (Lit.int k n).wf = true ∧ s.reads w d := by
  obtain ⟨c, d, h1, ⟨n, h2, h3⟩, h4⟩ := h
  exact ⟨n, d, by rw [h1, h2]; rfl, h3, h4⟩
theorem Sh.reads_unit {w : World} {cs : List Value} (h : Sh.unit.reads w cs) : cs = [] := h
theorem agg_of_list {cs : Array Value} {l : List Value} (h : cs.toList = l) : cs = l.toArray := by rw [← h]
end Go.Proofs.YtfeficdndjiijaaGreatDoor


namespace Go.Proofs.YtfeficdndjiijaaGreatDoor
open Go.RowKit
set_option linter.unusedVariables false
set_option linter.unusedSimpArgs false

theorem own_ne {w : World} {base : Nat} {e t : TypeId} {v : Value} {n : Nat} {xs : List Value} {b : Nat} {cs : Array Value} (h : w.ownsRow base e 1 v n xs) (hb : Blk w b t cs) (hne : e ≠ t) : v.ownBlock ≠ some b := by
  rcases h.2 with ⟨rfl, _⟩ | ⟨g, cap, cur, rfl, _, hg, _⟩
  · simp [Value.ownBlock]
  · simp only [Value.ownBlock]
    intro e2
    have e2 : g = b := Option.some.inj e2
    exact Blk.ne_ (w := w) (g := g) (g' := b) hg hb hne e2
end Go.Proofs.YtfeficdndjiijaaGreatDoor


namespace Go.Proofs.YtfeficdndjiijaaGreatDoor
open Go.RowKit
set_option linter.unusedVariables false
set_option linter.unusedSimpArgs false

end Go.Proofs.YtfeficdndjiijaaGreatDoor


namespace Go.Proofs.YtfeficdndjiijaaGreatDoor
open Go.RowKit
set_option linter.unusedVariables false
set_option linter.unusedSimpArgs false

def ColsAt (w : World) (v : Value) (cs : List Int) : Prop :=
  ∃ (ao : Option Addr) (cap : Nat), v = .slice ao cs.length cap ∧ cs.length ≤ cap ∧ cap ≤ maxLen ∧ (0 < cs.length → ∃ b off, ao = some ⟨b, off, none⟩ ∧ b < w.heap.size ∧ ∀ i u, cs[i]? = some u → w.cell? ⟨b, off + i, none⟩ = some (.int .i64 u))
theorem ColsAt.kept {w w' : World} {v : Value} {cs : List Int} (h : ColsAt w v cs) (hb : Below w.heap.size w w') : ColsAt w' v cs := by
  obtain ⟨ao, cap, e, hc, hm, h⟩ := h
  refine ⟨ao, cap, e, hc, hm, fun h0 => ?_⟩
  obtain ⟨b, off, e2, hg, hc⟩ := h h0
  exact ⟨b, off, e2, Nat.lt_of_lt_of_le hg hb.size, fun i u hu => (hb.cell (p := ⟨b, off + i, none⟩) hg).trans (hc i u hu)⟩
def RowI (w : World) (v : Value) (cs : List Int) : Prop :=
  ∃ (g cap : Nat) (cur : Array Value), v = .slice (some ⟨g, 0, none⟩) cs.length cap ∧ cs.length ≤ cap ∧ Blk w g 3 cur ∧ ∀ (i : Nat) (u : Int), cs[i]? = some u → cur[i]? = some (Value.int .i64 u)
theorem RowI.ints {w : World} {v : Value} {cs : List Int} (h : RowI w v cs) : IntsAt w v cs := by
  obtain ⟨g, cap, cur, rfl, hc, hb, hx⟩ := h
  exact ⟨_, _, rfl, hc, fun _ => ⟨g, rfl, hb.lt, fun i u hu => (hb.cell i).trans (hx i u hu)⟩⟩
theorem RowI.kept {w w' : World} {v : Value} {cs : List Int} (h : RowI w v cs) (hb : Below w.heap.size w w') : RowI w' v cs := by
  obtain ⟨g, cap, cur, rfl, hc, hg, hx⟩ := h
  exact ⟨g, cap, cur, rfl, hc, hg.kept hb, hx⟩
theorem RowI.grown {w w' : World} {v : Value} {cs : List Int} {row : Option Nat} (h : RowI w v cs) (hb : w.grownBy w' row) (hne : v.ownBlock ≠ row) : RowI w' v cs := by
  obtain ⟨g, cap, cur, rfl, hc, hg, hx⟩ := h
  exact ⟨g, cap, cur, rfl, hc, hg.grown hb hne, hx⟩
theorem RowI.far {w w' : World} {v : Value} {cs : List Int} {C : Nat} {t : TypeId} {cur : Array Value} (h : RowI w v cs) (hb : w.grownBy w' (some C)) (hC : Blk w C t cur) (ht : 3 ≠ t) : RowI w' v cs := by
  refine h.grown hb ?_
  obtain ⟨g, cap, cur', rfl, hc, hg, hx⟩ := h
  exact fun e => hg.ne_ hC ht (Option.some.inj e)
theorem RowI.own {w : World} {v : Value} {cs : List Int} (h : RowI w v cs) : ∃ k, v.ownBlock = some k ∧ k < w.heap.size := by
  obtain ⟨g, cap, cur, rfl, hc, hg, hx⟩ := h
  exact ⟨g, rfl, hg.lt⟩
end Go.Proofs.YtfeficdndjiijaaGreatDoor


namespace Go.Proofs.YtfeficdndjiijaaGreatDoor
open Go.RowKit
set_option linter.unusedVariables false
set_option linter.unusedSimpArgs false

theorem below_alloc1 (w : World) (o : Obj) : Below w.heap.size w (w.alloc o) := (Below.refl _ _).alloc (Nat.le_refl _) _
def riseV (W : Nat) (zs cs : List Int) (n : Int) (r : Nat) : Int := if cellD zs (r * W + colN cs r) < n then n else cellD zs (r * W + colN cs r)
def raiseZ (W : Nat) (zs cs : List Int) (n : Int) : List Int := setsZ W zs (colN cs) (riseV W zs cs n) cs.length
def RaisePost (w : World) (G C R W : Nat) (zs cs : List Int) (d : Int) (e : Ending) (w' : World) : Prop :=
  ∃ u, IsKth (readZ W zs cs) 0 u ∧ ((d < 0 ∧ e = .returned (.int .i64 3) ∧ Below w.heap.size w w') ∨ (0 ≤ d ∧ ¬ In64 (u + d) ∧ e = .returned (.int .i64 4) ∧ Below w.heap.size w w') ∨
    (0 ≤ d ∧ In64 (u + d) ∧ e = .returned (.int .i64 0) ∧ GridIs w' G C R W (raiseZ W zs cs (u + d)) ∧ w.grownBy w' (some C)))

theorem set_same {zs : List Int} {i : Nat} (h : i < zs.length) : zs.set i (cellD zs i) = zs := by
  apply List.ext_getElem?
  intro k
  rw [List.getElem?_set]
  by_cases e : i = k
  · subst e; simp [h, cellD]
  · rw [if_neg e]
def RisePost (w : World) (G C R W r c : Nat) (zs : List Int) (nn : Int) (e : Ending) (w' : World) : Prop :=
  (∃ v, e = .returned v) ∧ GridIs w' G C R W (zs.set (r * W + c) (if cellD zs (r * W + c) < nn then nn else cellD zs (r * W + c))) ∧ w.grownBy w' (some C)
set_option maxRecDepth 100000 in
set_option maxHeartbeats 4000000 in
theorem rise_any (w : World) (A NB G C R W r c : Nat) (zs : List Int) (nn : Int) (h : GridIs w G C R W zs) (hr : r < R) (hc : c < W) (hn : In64 nn) (hA : Blk w A 281 #[.pointer (some ⟨G, 0, none⟩)]) (hN : Blk w NB 2 #[.int .i64 nn]) :
  Calls Tryz.prog 301 #[.int .i64 (r : Int), .int .i64 (c : Int), .pointer (some ⟨A, 0, none⟩), .pointer (some ⟨NB, 0, none⟩)] w (RisePost w G C R W r c zs nn) := by
 obtain ⟨b1, b2, b3⟩ := placeBd hr hc h.rows h.width
 have hlen : r * W + c < zs.length := by rw [h.len]; omega
 have PA := Lib.hid (at_in (w.drewN 1) G C R W r c zs (h.drewN 1) hr hc)
 have PP := Lib.hid (put_in (w.drewN 1) G C R W r c nn zs (h.drewN 1) hr hc)
 have HG := Lib.hid (h.drewN 1)
 have HA := Lib.hid (hA.drewN 1)
 have HN := Lib.hid (hN.drewN 1)
 have HSAME := Lib.hid (set_same hlen)
 have hgr0 : Hid (w.grownBy (w.drewN 1) (some C)) := Lib.hid (below_grown (below_drewN (Below.refl _ _) 1))
 have a0 := (hA.drewN 1).cell 0
 have n0 := (hN.drewN 1).cell 0
 simp at a0 n0
 unfold RisePost
 clear hlen h b1 b2 b3 hA hN
 generalize cellD zs (r * W + c) = x at *
 go_enter Tryz.func301, Tryz.ntmps301
 go_wp2_with fail
 refine wp_region_held_drew (S := fun w' => Blk w' A 281 #[.pointer (some ⟨G, 0, none⟩)] ∧ Blk w' NB 2 #[.int .i64 nn]) (by kernel_rfl) (by exact ⟨HA.out, HN.out⟩) (fun hHeld => ?_)
 refine tkH (i := 0) (v := ?_) rfl (by kernel_rfl) (fun _ _ _ h => h) (Or.inl ⟨by rfl, ?_⟩) (by assumption) ?_
 rotate_left
 ·intro w hSw
  have c1 := hSw.1.cell 0
  have c2 := hSw.2.cell 0
  simp at c1 c2
  go_simp
  try with_reducible rfl
 simp only [Act.put, z1, z2, z3, z4, z5, z6]
 refine tkH (i := 1) (v := ?_) rfl (by kernel_rfl) (fun _ _ _ h => h) (Or.inl ⟨by rfl, ?_⟩) (by assumption) ?_
 rotate_left
 ·intro w hSw
  try dsimp only at hSw
  go_simp
  try with_reducible rfl
 simp only [Act.put, z1, z2, z3, z4, z5, z6]
 refine tkH (i := 2) (v := ?_) rfl (by kernel_rfl) (fun _ _ _ h => h) (Or.inl ⟨by rfl, ?_⟩) (by assumption) ?_
 rotate_left
 ·intro w hSw
  try dsimp only at hSw
  go_simp
  try with_reducible rfl
 simp only [Act.put, z1, z2, z3, z4, z5, z6]
 refine tkH (i := 4) (v := ?_) rfl (by kernel_rfl) (fun _ _ _ h => h) (Or.inl ⟨by rfl, ?_⟩) (by assumption) ?_
 rotate_left
 ·intro w hSw
  have c1 := hSw.1.cell 0
  have c2 := hSw.2.cell 0
  simp at c1 c2
  go_simp
  try with_reducible rfl
 simp only [Act.put, z1, z2, z3, z4, z5, z6]
 refine wpAnyH_ready (rs := [3]) (by kernel_rfl) (by simp) ?_
 refine AllReadyH.cons rfl (fun Kc hKc => ?_) AllReadyH.nil
 go_simp
 go_wp2_with (go_at_call 281; refine PA.out.mono ?_; rintro e w' ⟨rfl, hw'⟩; subst hw')
 refine hKc.out _ _ ?_ (fun hHeld => ?_)
 ·assumption
 clear hKc Kc
 refine tkH (i := 5) (v := ?_) rfl (by kernel_rfl) (fun _ _ _ h => h) (Or.inl ⟨by rfl, ?_⟩) (by assumption) ?_
 rotate_left
 ·intro w hSw
  try dsimp only at hSw
  go_simp
  try with_reducible rfl
 simp only [Act.put, z1, z2, z3, z4, z5, z6]
 refine wpAnyH_done (by kernel_rfl) ?_ _
 clear hHeld
 by_cases hlt : x < nn
 ·have e1 : decide (x < nn) = true := decide_eq_true hlt
  have a1 : w.drew.cell? ⟨A, 0, none⟩ = some (.pointer (some ⟨G, 0, none⟩)) := a0
  have n1 : w.drew.cell? ⟨NB, 0, none⟩ = some (.int .i64 nn) := n0
  go_wp2_with fail
  refine PP.out.mono ?_; rintro e w' ⟨rfl, hw'⟩
  have HW := Lib.hid hw'
  clear hw'
  go_wp2
  (try simp only [Exit.inBlock, Exit.then])
  refine bodyPost_end (results_none rfl _ _ _) rfl ?_
  refine ⟨⟨_, rfl⟩, ?_, ?_⟩
  ·rw [HW.out]; first | exact HG.out.set _ _ hn.1 hn.2 | (rw [if_pos (by omega)]; exact HG.out.set _ _ hn.1 hn.2)
  ·rw [HW.out]; exact grown_trans hgr0.out (grown_set _ _ _ _)
 ·have e1 : decide (x < nn) = false := decide_eq_false hlt
  go_wp2
  (try simp only [Exit.inBlock, Exit.then])
  refine bodyPost_end (results_none rfl _ _ _) rfl ?_
  exact ⟨⟨_, rfl⟩, by first | (rw [HSAME.out]; exact HG.out) | (rw [if_neg (by omega), HSAME.out]; exact HG.out), hgr0.out⟩

set_option maxRecDepth 100000 in
set_option maxHeartbeats 4000000 in
theorem raise_yes (w : World) (G C R W : Nat) (zs cs : List Int) (d : Int) (v : Value) (h : GridIs w G C R W zs) (hv : IntsAt w v cs) (hm : meetB R W cs = true) (hd : In64 d) (hvc : v.ownBlock ≠ some C) :
  Calls Tryz.prog 292 #[.pointer (some ⟨G, 0, none⟩), v, .int .i64 d] w (RaisePost w G C R W zs cs d) := by
 have hR8 := h.rows
 have hfit := h.fit
 obtain ⟨h0R, hlR, hcol⟩ := meetB_of hm
 have HK := Lib.hid (box_kept (w := w) (cs := #[.pointer (some ⟨G, 0, none⟩)]) (t := 281) (Below.refl _ _))
 have P1 := least_yes _ G C R W zs cs v (h.kept HK.out.2) (hv.kept HK.out.2) hm
 unfold TellPost at P1
 have HG := Lib.hid h
 have HCOL := Lib.hid hcol
 have HFIT := Lib.hid hfit
 have HV := Lib.hid hv
 clear h hcol hm hfit
 obtain ⟨ao, cap, rfl, hcap, hcells⟩ := hv
 obtain ⟨g, rfl, hg, hc⟩ := hcells (by omega)
 have HC := Lib.hid hc
 have hgC : g ≠ C := fun e => hvc (by simp [Value.ownBlock, e])
 clear hcells hc hvc
 obtain ⟨n, hlen⟩ : ∃ n, n = cs.length := ⟨_, rfl⟩
 rw [← hlen] at hcap P1 ⊢
 have HLEN := Lib.hid hlen
 have hn8 : n ≤ 8 := by omega
 have hnR : Hid (n = R) := by show _ = _; omega
 clear hlen hlR
 have hbx := HK.out.1
 have q0 := hbx.cell 0
 simp at q0
 go_enter Tryz.func292, Tryz.ntmps292
 go_wp2_with fail
 refine P1.mono ?_; clear P1; rintro e w2 ⟨u, rfl, hu, hb⟩
 have HU := Lib.hid hu
 have HX2 := Lib.hid (hbx.kept hb)
 have HB2 := Lib.hid (HK.out.2.trans (hb.mono HK.out.2.size))
 have hu64 : In64 u := by
  have := (kth_zero hu).1
  simp only [readZ, List.mem_map] at this
  obtain ⟨r, _, rfl⟩ := this
  exact cell_fit HFIT.out _
 clear hu hb q0
 by_cases hneg : d < 0
 ·have e1 : decide (d < 0) = true := decide_eq_true hneg
  go_wp2
  go_ret
  exact ⟨u, HU.out, .inl ⟨hneg, rfl, HB2.out⟩⟩
 ·have e1 : decide (d < 0) = false := decide_eq_false hneg
  by_cases hs64 : In64 (u + d)
  ·have P2 := (opok_plus u d w2 hu64 hd).1 hs64
   unfold TwoPost at P2
   go_wp2_with fail
   refine P2.mono ?_; clear P2; rintro e w3 ⟨rfl, hb⟩
   have HX3 := Lib.hid (HX2.out.kept hb)
   have HB3 := Lib.hid (btr HB2.out hb)
   have hA3 := HX3.out.lt
   clear hb
   go_wp2_with fail
   obtain ⟨nn, hnn⟩ : ∃ nn, nn = u + d := ⟨_, rfl⟩
   rw [← hnn]
   have hn64 : In64 nn := by rw [hnn]; exact hs64
   have HNN := Lib.hid hnn
   have hnb := Blk.new w3 2 #[.int .i64 nn]
   have HX4 := Lib.hid (HX3.out.alloc (.cells #[.int .i64 nn] 2))
   have hb4 : Below w.heap.size w (w3.alloc (.cells #[.int .i64 nn] 2)) := btr HB3.out (below_alloc1 _ _)
   have HG4 := Lib.hid (HG.out.kept hb4)
   have HGR4 := Lib.hid (below_grown (row := some C) hb4)
   have HNB := Lib.hid hnb
   have hne1 : w3.heap.size ≠ C := by have := HG.out.ltC; have := HB3.out.size; omega
   have hne2 : w.heap.size ≠ C := by have := HG.out.ltC; omega
   clear hnn hs64 hnb hb4
   generalize (w3.alloc (.cells #[.int .i64 nn] 2)) = w5 at *
   generalize hNB : w3.heap.size = NB at *
   clear hNB
   go_loopw [36] (fun i wr => ∃ j : Nat, j ≤ n ∧ i = .int .i64 (j : Int) ∧ GridIs wr G C R W (setsZ W zs (colN cs) (riseV W zs cs nn) j) ∧ Blk wr w.heap.size 281 #[.pointer (some ⟨G, 0, none⟩)] ∧ Blk wr NB 2 #[.int .i64 nn] ∧ w.grownBy wr (some C)) (fun i _ => n - (intOf i).toNat)
   case atStart => exact ⟨0, by omega, rfl, HG4.out, HX4.out, HNB.out, HGR4.out⟩
   case round =>
    obtain ⟨j, hj, rfl, hg', hx', hnb', hgr'⟩ := hrel
    clear HG4 HX4 HNB HGR4
    have HG5 := Lib.hid hg'
    have HX5 := Lib.hid hx'
    have HN5 := Lib.hid hnb'
    have HGR := Lib.hid hgr'
    by_cases hlt : j < n
    ·obtain ⟨hcj, hcw⟩ := HCOL.out j (by have := hnR.out; omega)
     have cx := hgr'.cell (HC.out j _ hcj) (by simpa using hgC)
     have i0 : (0 : Int) ≤ (j : Int) := by omega
     have i1 : (j : Int) < (n : Int) := by omega
     have PR := Lib.hid (rise_any wr w.heap.size NB G C R W j (colN cs j) _ nn hg' (by have := hnR.out; omega) hcw hn64 hx' hnb')
     have HST : Hid ((setsZ W zs (colN cs) (riseV W zs cs nn) j).set (j * W + colN cs j) (if cellD (setsZ W zs (colN cs) (riseV W zs cs nn) j) (j * W + colN cs j) < nn then nn else cellD (setsZ W zs (colN cs) (riseV W zs cs nn) j) (j * W + colN cs j)) = setsZ W zs (colN cs) (riseV W zs cs nn) (j + 1)) := Lib.hid (by
      have e := setsZ_get (cf := colN cs) (vf := riseV W zs cs nn) HG.out.len (fun r hr => (HCOL.out r hr).2) j (by have := hnR.out; omega) j (colN cs j) (by have := hnR.out; omega) hcw
      rw [if_neg (by omega)] at e
      rw [e]; rfl)
     unfold RisePost at PR
     clear hg' hx' hnb' hgr' hcj hcw
     rw [HST.out] at PR
     generalize hy : colN cs j = y at *
     clear hy HST
     go_wp2_with fail
     refine PR.out.mono ?_; rintro e w6 ⟨⟨v, rfl⟩, hg6, hgr6⟩
     have HG6 := Lib.hid hg6
     have HX6 := Lib.hid (HX5.out.grown hgr6 (by simpa using hne2))
     have HN6 := Lib.hid (HN5.out.grown hgr6 (by simpa using hne1))
     have HGR6 := Lib.hid (grown_trans HGR.out hgr6)
     clear hg6 hgr6
     go_wp2
     go_roundw
     case rel => exact ⟨j + 1, by omega, by go_num, HG6.out, HX6.out, HN6.out, HGR6.out⟩
     case measure => simp [intOf]; omega
    ·obtain rfl : j = n := by omega
     have HP : Hid (RaisePost w G C R W zs cs d (.returned (.int .i64 0)) wr) := ⟨u, HU.out, .inr (.inr ⟨by omega, by rw [← HNN.out]; exact hn64, rfl, by rw [← HNN.out, raiseZ, ← HLEN.out]; exact HG5.out, HGR.out⟩)⟩
     clear hg' hx' hnb' hgr'
     go_wp2
     go_ret
     exact HP.out
  ·have P2 := (opok_plus u d w2 hu64 hd).2 hs64
   unfold TwoPost at P2
   go_wp2_with fail
   refine P2.mono ?_; clear P2; rintro e w3 ⟨rfl, hb⟩
   have HB3 := Lib.hid (btr HB2.out hb)
   have HB4 : Hid (Below w.heap.size w (w3.alloc (.cells #[.int .i64 0] 2))) := Lib.hid (btr HB3.out (below_alloc1 _ _))
   clear hb
   go_wp2
   go_ret
   exact ⟨u, HU.out, .inr (.inl ⟨by omega, hs64, rfl, HB4.out⟩)⟩
end Go.Proofs.YtfeficdndjiijaaGreatDoor


namespace Go.Proofs.YtfeficdndjiijaaGreatDoor

def PN : Nat := 2305843009213693951
end Go.Proofs.YtfeficdndjiijaaGreatDoor

