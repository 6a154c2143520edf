import Derived.Test.YtfeficdndjiijaaGreatDoorQzc
import Derived.Shelf.Bits.Mul64
import Derived.Test.YtfeficdndjiijaaGreatDoorProg
import Derived.WalkKit
import Derived.ProofKit
import Derived.Lib.Hide
import Derived.Outline
import Derived.Below
import Derived.WalkSmall
import Derived.Deep.QuietTactic
import Derived.BigQuiet
import Derived.LoopN
import Derived.Deep.OwnRows
import Derived.OwnWalk
import Derived.Deep.RegionHeld3
import Derived.Test.YtfeficdndjiijaaGreatDoorQzb
/-
  Contracts of the functions that TopWindow reaches, and the plain laws that it leans on. Conditions: none beyond those stated at each theorem.
-/
namespace Go.Proofs.YtfeficdndjiijaaGreatDoor
open Go.RowKit
set_option linter.unusedVariables false
set_option linter.unusedSimpArgs false

def cellsN (b r d m l : Int) : Nat := if exactB b r d m l = true then (keysI b r d m l).toNat else r.toNat * d.toNat
def LevIs (w : World) (x : Value) (A G C : Nat) (b r d m s l : Int) (zs : List Int) : Prop :=
  (exactB b r d m l = true ∧ x = .iface 232 (.pointer (some ⟨A, 0, none⟩)) ∧ ArrIs w A G C b r d m s l (keysI b r d m l).toNat zs) ∨
  (exactB b r d m l = false ∧ x = .iface 235 (.pointer (some ⟨A, 0, none⟩)) ∧ SkIs w A G C b r d m s l zs)
theorem LevIs.kept {w w' : World} {x : Value} {A G C : Nat} {b r d m s l : Int} {zs : List Int} (h : LevIs w x A G C b r d m s l zs) (hb : Below w.heap.size w w') : LevIs w' x A G C b r d m s l zs := by
  rcases h with ⟨h1, h2, h3⟩ | ⟨h1, h2, h3⟩
  · exact .inl ⟨h1, h2, h3.kept hb⟩
  · exact .inr ⟨h1, h2, h3.kept hb⟩
theorem LevIs.len {w : World} {x : Value} {A G C : Nat} {b r d m s l : Int} {zs : List Int} (h : LevIs w x A G C b r d m s l zs) : zs.length = cellsN b r d m l := by
  unfold cellsN
  rcases h with ⟨h1, h2, h3⟩ | ⟨h1, h2, h3⟩
  · rw [if_pos h1, h3.2.len, Nat.one_mul]
  · rw [h1]; simpa using h3.grid.len
theorem LevIs.fit {w : World} {x : Value} {A G C : Nat} {b r d m s l : Int} {zs : List Int} (h : LevIs w x A G C b r d m s l zs) : Fit zs := by
  rcases h with ⟨h1, h2, h3⟩ | ⟨h1, h2, h3⟩
  · exact h3.2.fit
  · exact h3.grid.fit
theorem LevIs.le {w : World} {x : Value} {A G C : Nat} {b r d m s l : Int} {zs : List Int} (h : LevIs w x A G C b r d m s l zs) : zs.length ≤ 1024 := by
  rcases h with ⟨h1, h2, h3⟩ | ⟨h1, h2, h3⟩
  · rw [h3.2.len]; exact Nat.mul_le_mul h3.2.rows h3.2.width
  · rw [h3.grid.len]; exact Nat.mul_le_mul h3.grid.rows h3.grid.width
theorem LevIs.cells {w : World} {x : Value} {A G C : Nat} {b r d m s l : Int} {zs : List Int} (h : LevIs w x A G C b r d m s l zs) : ∃ cur, Blk w C 2 cur := by
  rcases h with ⟨h1, h2, h3⟩ | ⟨h1, h2, h3⟩
  · obtain ⟨cur, hc, -⟩ := h3.2.cells; exact ⟨cur, hc⟩
  · obtain ⟨cur, hc, -⟩ := h3.grid.cells; exact ⟨cur, hc⟩
theorem LevIs.other {w w' : World} {x : Value} {A G C D : Nat} {b r d m s l : Int} {zs : List Int} {cur : Array Value} (h : LevIs w x A G C b r d m s l zs) (hg : w.grownBy w' (some D)) (hD : Blk w D 2 cur) (hne : C ≠ D) : LevIs w' x A G C b r d m s l zs := by
  rcases h with ⟨h1, h2, h3⟩ | ⟨h1, h2, h3⟩
  · obtain ⟨cap, hG, -⟩ := h3.2.fields
    exact .inl ⟨h1, h2, h3.grown hg (by simpa using h3.1.ne_ hD (by decide)) (by simpa using hG.ne_ hD (by decide)) (by simpa using hne)⟩
  · obtain ⟨cap, hG, -⟩ := h3.grid.fields
    exact .inr ⟨h1, h2, h3.grown hg (by simpa using h3.box.ne_ hD (by decide)) (by simpa using hG.ne_ hD (by decide)) (by simpa using hne)⟩
theorem keysI_pos {b r d m l : Int} (hr : rightB b r d m = true) (h0 : 0 ≤ l) (h1 : l ≤ b) : 0 < keysI b r d m l := by
  have hR := right_of hr
  rw [keysI_yes hr h0 h1]
  have := pow_le (b - l).toNat (by omega)
  omega
theorem cellsN_pos {b r d m l : Int} (hr : rightB b r d m = true) (h0 : 0 ≤ l) (h1 : l ≤ b) : 0 < cellsN b r d m l := by
  have hR := right_of hr
  have := keysI_pos hr h0 h1
  unfold cellsN
  split
  · omega
  · exact Nat.mul_pos (by omega) (by omega)
theorem cellsN_le {b r d m l : Int} (hr : rightB b r d m = true) : cellsN b r d m l ≤ 1024 := by
  have hR := right_of hr
  unfold cellsN
  split
  · rename_i h
    have := of_decide_eq_true h
    omega
  · exact Nat.mul_le_mul (show r.toNat ≤ 8 by omega) (show d.toNat ≤ 128 by omega)
def LvNewPost (w : World) (b r d m s l : Int) (e : Ending) (w' : World) : Prop :=
  ∃ x A G C, e = .returned (.tuple #[x, .int .i64 0]) ∧ w.heap.size ≤ C ∧ LevIs w' x A G C b r d m s l (List.replicate (cellsN b r d m l) 0) ∧ Below w.heap.size w w'
set_option maxRecDepth 100000 in
set_option maxHeartbeats 4000000 in
theorem lvnew_yes (b r d m s l : Int) (hr : rightB b r d m = true) (h0 : 0 ≤ l) (h1 : l ≤ b) (w : World) :
  Calls Tryz.prog 68 #[.agg #[.int .i64 b, .int .i64 r, .int .i64 d, .int .i64 m, .int .u64 s], .int .i64 l] w (LvNewPost w b r d m s l) := by
 have PE := fun w => exact_any b r d m s l w
 obtain ⟨g1, hb1, hsz1⟩ := news1 w (.cells #[.int .i64 b, .int .i64 r, .int .i64 d, .int .i64 m, .int .u64 s] 24)
 have hx1 : Blk _ w.heap.size 24 #[.int .i64 b, .int .i64 r, .int .i64 d, .int .i64 m, .int .u64 s] := g1
 have HB1 := Lib.hid hb1
 have HX1 := Lib.hid hx1
 clear g1 hb1 hsz1
 cases he : exactB b r d m l
 ·rw [he] at PE
  have PE := Lib.hid PE
  have PS := Lib.hid (fun w => sknew_yes b r d m s l hr h0 h1 w)
  have HEX := Lib.hid he
  have HCN : Hid (cellsN b r d m l = r.toNat * d.toNat) := Lib.hid (by unfold cellsN; rw [he]; simp)
  clear he hr h0 h1
  go_enter Tryz.func68, Tryz.ntmps68
  go_wp2_with (refine wpList_load_row rfl 24 _ rfl w.heap.size rfl 24 _ (0, 0) _ hx1 Tryz.underlying24 rfl (by kernel_rfl) ?_)
  with_reducible refine (PE.out _).mono ?_
  rintro e w2 ⟨rfl, hb⟩
  have HB2 := Lib.hid (btr HB1.out hb)
  have HX2 := Lib.hid (HX1.out.kept hb)
  clear hb hx1
  go_wp2_with (refine wpList_load_row rfl 24 _ rfl w.heap.size rfl 24 _ (0, 0) _ HX2.out Tryz.underlying24 rfl (by kernel_rfl) ?_)
  with_reducible refine (PS.out _).mono ?_
  rintro e w3 ⟨A, G, C, rfl, hA, hG, hC, hsk, hb⟩
  have HB3 := Lib.hid (btr HB2.out hb)
  have HSK := Lib.hid hsk
  have HC3 : Hid (w.heap.size ≤ C) := Lib.hid (Nat.le_trans HB2.out.size hC)
  clear hb hsk hA hG hC
  go_wp2
  go_ret2
  exact ⟨_, A, G, C, rfl, HC3.out, .inr ⟨HEX.out, rfl, by rw [HCN.out]; exact HSK.out⟩, HB3.out⟩
 ·rw [he] at PE
  have PE := Lib.hid PE
  have PS := Lib.hid (fun w => exnew_yes b r d m s l he w)
  have HEX := Lib.hid he
  have HCN : Hid (cellsN b r d m l = 1 * (keysI b r d m l).toNat) := Lib.hid (by unfold cellsN; rw [he]; simp)
  clear he hr h0 h1
  go_enter Tryz.func68, Tryz.ntmps68
  go_wp2_with (refine wpList_load_row rfl 24 _ rfl w.heap.size rfl 24 _ (0, 0) _ hx1 Tryz.underlying24 rfl (by kernel_rfl) ?_)
  with_reducible refine (PE.out _).mono ?_
  rintro e w2 ⟨rfl, hb⟩
  have HB2 := Lib.hid (btr HB1.out hb)
  have HX2 := Lib.hid (HX1.out.kept hb)
  clear hb hx1
  go_wp2_with (refine wpList_load_row rfl 24 _ rfl w.heap.size rfl 24 _ (0, 0) _ HX2.out Tryz.underlying24 rfl (by kernel_rfl) ?_)
  with_reducible refine (PS.out _).mono ?_
  rintro e w3 ⟨A, G, C, rfl, hA, hG, hC, hsk, hb⟩
  have HB3 := Lib.hid (btr HB2.out hb)
  have HSK := Lib.hid hsk
  have HC3 : Hid (w.heap.size ≤ C) := Lib.hid (Nat.le_trans HB2.out.size hC)
  clear hb hsk hA hG hC
  go_wp2
  go_ret2
  exact ⟨_, A, G, C, rfl, HC3.out, .inl ⟨HEX.out, rfl, by rw [HCN.out]; exact HSK.out⟩, HB3.out⟩
end Go.Proofs.YtfeficdndjiijaaGreatDoor


namespace Go.Proofs
open Go.Shelf
def Tryz.lays264_ren : Go.Shelf.Ren := ⟨fun | 264 => 204 | n => n, fun | 53 => 22 | 46 => 160 | n => n, fun | n => n⟩
theorem Tryz.lays264 : Go.Proofs.Lays.n264 Tryz.prog Tryz.lays264_ren := {
  mixed := by kernel_rfl
  f264 := Tryz.func204.trans (congrArg some (by kernel_rfl))
  t46 := Tryz.underlying160
  a46 := Tryz.isAgg160
  z46 := Tryz.sizeOf160
  v46 := Tryz.zeroValue160
  t53 := Tryz.underlying22
  a53 := Tryz.isAgg22
  z53 := Tryz.sizeOf22
  v53 := Tryz.zeroValue22 }
open Go.RowKit Go.Lib in
theorem Tryz.bits_Mul64 (x y : Nat) (hx : x < 18446744073709551616) (hy : y < 18446744073709551616) (w : World) :
    Calls Tryz.prog 204 #[.int .u64 x, .int .u64 y] w fun e w' => e = .returned (.tuple #[.int .u64 ((x * y / 18446744073709551616 : Nat) : Int), .int .u64 ((x * y % 18446744073709551616 : Nat) : Int)]) ∧ w' = w := Any.bits_Mul64 Tryz.lays264 x y hx hy w
end Go.Proofs
namespace Go.Proofs.YtfeficdndjiijaaGreatDoor
open Go.RowKit

theorem ret_u64 {a b : Int} (h : a = b) : Ending.returned (.int .u64 a) = .returned (.int .u64 b) := by rw [h]

theorem fold_any (a : Int) (h0 : 0 ≤ a) (h1 : a ≤ 18446744073709551615) (w : World) :
    Calls Tryz.prog 203 #[.int .u64 a] w fun e w' => e = .returned (.int .u64 (ffold a)) ∧ w = w' := by
  obtain ⟨hs1, hs2⟩ := fold_step a h0 h1
  have e1 := and_P a h0 h1
  by_cases c : 2305843009213693951 ≤ a % 2305843009213693952 + a / 2305843009213693952
  · have H := Lib.hid (hs1 c)
    clear hs1 hs2
    go_enter Tryz.func203, Tryz.ntmps203
    go_wp2
    go_ret
    exact ⟨ret_u64 H.out, rfl⟩
  · have H := Lib.hid (hs2 (by omega))
    clear hs1 hs2
    go_enter Tryz.func203, Tryz.ntmps203
    go_wp2
    go_ret
    exact ⟨ret_u64 H.out, rfl⟩

theorem add_any (a b : Int) (h0 : 0 ≤ a) (h1 : a ≤ 18446744073709551615) (g0 : 0 ≤ b) (g1 : b ≤ 18446744073709551615) (w : World) :
    Calls Tryz.prog 162 #[.int .u64 a, .int .u64 b] w fun e w' => e = .returned (.int .u64 (fadd a b)) ∧ w = w' := by
  obtain ⟨b1, b2⟩ := ffold_bd a
  obtain ⟨b3, b4⟩ := ffold_bd b
  go_enter Tryz.func162, Tryz.ntmps162
  go_wp2_with (go_at_call 203; refine (fold_any _ (by omega) (by omega) _).mono ?_; rintro e w' ⟨rfl, rfl⟩)
  go_ret
  exact ⟨ret_u64 (fadd_of a b), rfl⟩

theorem mul_any (a b : Int) (h0 : 0 ≤ a) (h1 : a ≤ 18446744073709551615) (g0 : 0 ≤ b) (g1 : b ≤ 18446744073709551615) (w : World) :
  Calls Tryz.prog 163 #[.int .u64 a, .int .u64 b] w fun e w' => e = .returned (.int .u64 (fmul a b)) ∧ w = w' := by
 obtain ⟨b1, b2⟩ := ffold_bd a
 obtain ⟨b3, b4⟩ := ffold_bd b
 obtain ⟨x, hx⟩ := Int.eq_ofNat_of_zero_le b1
 obtain ⟨y, hy⟩ := Int.eq_ofNat_of_zero_le b3
 have hh := hi_bd x y a b hx.symm hy.symm
 have hl : x * y % 18446744073709551616 < 18446744073709551616 := Nat.mod_lt _ (by omega)
 have H := Lib.hid (fmul_of x y a b hx.symm hy.symm)
 have Ho := or_shift (x * y / 18446744073709551616) (x * y % 18446744073709551616) hh hl
 have Ha := and_P ((x * y % 18446744073709551616 : Nat) : Int) (by omega) (by omega)
 have HX := Lib.hid hx
 have HY := Lib.hid hy
 clear hx hy
 go_enter Tryz.func163, Tryz.ntmps163
 go_wp2_with fail
 refine (fold_any a h0 h1 _).mono ?_; rintro e w' ⟨rfl, rfl⟩
 go_wp2_with fail
 refine (fold_any b g0 g1 _).mono ?_; rintro e w' ⟨rfl, rfl⟩
 go_wp2_with fail
 rw [HX.out, HY.out]
 refine (Tryz.bits_Mul64 x y (by have := HX.out; omega) (by have := HY.out; omega) _).mono ?_
 rintro e w' ⟨rfl, rfl⟩
 generalize x * y / 18446744073709551616 = h at *
 generalize x * y % 18446744073709551616 = l at *
 go_wp2_with fail
 refine (add_any _ _ (by omega) (by omega) (by omega) (by omega) _).mono ?_; rintro e w' ⟨rfl, rfl⟩
 go_wp2_with fail
 go_ret
 exact ⟨ret_u64 H.out, rfl⟩
end Go.Proofs.YtfeficdndjiijaaGreatDoor


namespace Go.Proofs.YtfeficdndjiijaaGreatDoor
open Go.RowKit
set_option linter.unusedVariables false

end Go.Proofs.YtfeficdndjiijaaGreatDoor


namespace Go.Proofs.YtfeficdndjiijaaGreatDoor
open Go.RowKit
set_option linter.unusedVariables false
set_option linter.unusedSimpArgs false

theorem ret_i64 {a b : Int} (h : a = b) : Ending.returned (.int .i64 a) = .returned (.int .i64 b) := by rw [h]

theorem at_any (a b x : Int) (h0 : 0 ≤ a) (h1 : a ≤ 18446744073709551615) (g0 : 0 ≤ b) (g1 : b ≤ 18446744073709551615) (k0 : 0 ≤ x) (k1 : x ≤ 18446744073709551615) (w : World) :
    Calls Tryz.prog 303 #[.agg #[.int .u64 a, .int .u64 b], .int .u64 x] w fun e w' => e = .returned (.int .u64 (lineI a b x)) ∧ Below w.heap.size w w' := by
  have b1 := fmul_bd a x
  go_enter Tryz.func303, Tryz.ntmps303
  go_wp2_with fail
  go_quiet ((first
    | (go_at_call 163; exact Calls.quiet_of_same ((mul_any _ _ (by omega) (by omega) (by omega) (by omega) _).mono fun e w' ⟨p, q⟩ => ⟨p, q.symm⟩))
    | (go_at_call 162; exact Calls.quiet_of_same ((add_any _ _ (by omega) (by omega) (by omega) (by omega) _).mono fun e w' ⟨p, q⟩ => ⟨p, q.symm⟩))))
  go_wp2
  go_ret
  exact ⟨ret_u64 rfl, below_drewN ((Below.refl _ _).alloc (Nat.le_refl _) _) _⟩


theorem bucket_any (a b x n : Int) (h0 : 0 ≤ a) (h1 : a ≤ 18446744073709551615) (g0 : 0 ≤ b) (g1 : b ≤ 18446744073709551615) (k0 : 0 ≤ x) (k1 : x ≤ 18446744073709551615) (n0 : 1 ≤ n) (n1 : n ≤ 9223372036854775807) (w : World) :
    Calls Tryz.prog 296 #[.int .u64 a, .int .u64 b, .int .u64 x, .int .i64 n] w fun e w' => e = .returned (.int .i64 (lineI a b x % n)) ∧ Below w.heap.size w w' := by
  have b1 := lineI_bd a b x
  have m0 : 0 ≤ lineI a b x % n := Int.emod_nonneg _ (by omega)
  have m1 : lineI a b x % n < n := Int.emod_lt_of_pos _ (by omega)
  go_enter Tryz.func296, Tryz.ntmps296
  go_wp2_with (go_at_call 303; refine (at_any a b x h0 h1 g0 g1 k0 k1 _).mono ?_; rintro e w' ⟨rfl, hb⟩)
  go_ret
  exact ⟨ret_i64 rfl, hb⟩
end Go.Proofs.YtfeficdndjiijaaGreatDoor


namespace Go.Proofs.YtfeficdndjiijaaGreatDoor
open Go.RowKit
set_option linter.unusedVariables false
set_option linter.unusedSimpArgs false

theorem ret_u64s {a b : Int} (h : a = b) : Ending.returned (.int .u64 a) = .returned (.int .u64 b) := by rw [h]
theorem bel_trans {w w1 w2 : World} (h : Below w.heap.size w w1) (k : Below w1.heap.size w1 w2) : Below w.heap.size w w2 := h.trans (k.mono h.size)

theorem steps_any (w : World) :
    Calls Tryz.prog 308 #[] w fun e w' => e = .returned (.agg #[.int .u64 30, .int .u64 13787848793156543929, .int .u64 27, .int .u64 10723151780598845931, .int .u64 31, .int .u64 1]) ∧ Below w.heap.size w w' := by
  go_enter Tryz.func308, Tryz.ntmps308
  go_wp2
  exact bodyPost_ret (v := .agg #[.int .u64 30, .int .u64 13787848793156543929, .int .u64 27, .int .u64 10723151780598845931, .int .u64 31, .int .u64 1]) (by simp [results, Tryz.results308, go_sem]) rfl ⟨rfl, (Below.refl _ _).alloc (Nat.le_refl _) _⟩
theorem idx0 : ∀ w, (Instr.index 413 (.agg #[.int .u64 30, .int .u64 13787848793156543929, .int .u64 27, .int .u64 10723151780598845931, .int .u64 31, .int .u64 1]) (.int .i64 0)).run Tryz.prog w = .ok (.agg #[.int .u64 30, .int .u64 13787848793156543929]) w := fun _ => by kernel_rfl
theorem idx1 : ∀ w, (Instr.index 413 (.agg #[.int .u64 30, .int .u64 13787848793156543929, .int .u64 27, .int .u64 10723151780598845931, .int .u64 31, .int .u64 1]) (.int .i64 1)).run Tryz.prog w = .ok (.agg #[.int .u64 27, .int .u64 10723151780598845931]) w := fun _ => by kernel_rfl
theorem idx2 : ∀ w, (Instr.index 413 (.agg #[.int .u64 30, .int .u64 13787848793156543929, .int .u64 27, .int .u64 10723151780598845931, .int .u64 31, .int .u64 1]) (.int .i64 2)).run Tryz.prog w = .ok (.agg #[.int .u64 31, .int .u64 1]) w := fun _ => by kernel_rfl

theorem mix_any (a : Int) (h0 : 0 ≤ a) (h1 : a ≤ 18446744073709551615) (w : World) :
    Calls Tryz.prog 306 #[.int .u64 a] w fun e w' => e = .returned (.int .u64 (mixI a)) ∧ Below w.heap.size w w' := by
  have H := Lib.hid (mix_walk a h0 h1)
  have i0 := idx0
  have i1 := idx1
  have i2 := idx2
  go_enter Tryz.func306, Tryz.ntmps306
  go_wp2_with (go_at_call 308; refine (steps_any _).mono ?_; rintro e w' ⟨rfl, hb⟩)
  refine wp_loop_rounds 4 ?_
  rw [rounds_succ]
  go_wp2
  rw [rounds_succ]
  go_wp2
  rw [rounds_succ]
  go_wp2
  rw [rounds_succ]
  go_wp2
  go_ret
  refine ⟨ret_u64s H.out, ?_⟩
  have hs := hb.size
  exact ((hb.alloc (by omega) _).alloc (by simp; omega) _).alloc (by simp; omega) _

theorem draw_any (s i : Int) (h0 : 0 ≤ s) (h1 : s ≤ 18446744073709551615) (g0 : 0 ≤ i) (g1 : i ≤ 18446744073709551615) (w : World) :
    Calls Tryz.prog 302 #[.int .u64 s, .int .u64 i] w fun e w' => e = .returned (.int .u64 (drawI s i)) ∧ Below w.heap.size w w' := by
  have HE : Hid (mixI (IntKind.u64.wrap (s + IntKind.u64.wrap (IntKind.u64.wrap (i + 1) * 11400714819323198485))) = drawI s i) := Lib.hid (by
    unfold mixI drawI drawB; rw [bv_wrap, bv_add, bv_wrap, bv_mul, bv_wrap, bv_add]; rfl)
  have hw : 0 ≤ IntKind.u64.wrap (s + IntKind.u64.wrap (IntKind.u64.wrap (i + 1) * 11400714819323198485)) ∧ IntKind.u64.wrap (s + IntKind.u64.wrap (IntKind.u64.wrap (i + 1) * 11400714819323198485)) ≤ 18446744073709551615 := by rw [wrap_bv]; exact nv_bd _
  have HW := Lib.hid hw
  clear hw
  go_enter Tryz.func302, Tryz.ntmps302
  go_wp2_with fail
  refine (mix_any _ HW.out.1 HW.out.2 _).mono ?_
  rintro e w' ⟨rfl, hb⟩
  go_wp2_with fail
  go_ret
  exact ⟨ret_u64s HE.out, hb⟩

theorem ret_u64s2 {a b c d : Int} (h : a = b) (k : c = d) : Ending.returned (.tuple #[.int .u64 a, .int .u64 c]) = .returned (.tuple #[.int .u64 b, .int .u64 d]) := by rw [h, k]

theorem pair_any (s l r : Int) (h0 : 0 ≤ s) (h1 : s ≤ 18446744073709551615) (l0 : 0 ≤ l) (l1 : l ≤ 59) (r0 : 0 ≤ r) (r1 : r ≤ 7) (w : World) :
    Calls Tryz.prog 295 #[.int .u64 s, .int .i64 l, .int .i64 r] w fun e w' => e = .returned (.tuple #[.int .u64 (pairA s l r), .int .u64 (pairB s l r)]) ∧ Below w.heap.size w w' := by
  have b1 := drawI_bd s (2 * (l * 8 + r))
  have b2 := drawI_bd s (2 * (l * 8 + r) + 1)
  have e1 : Hid (2 * (l * 8 + r) = pairN l r) := Lib.hid (by unfold pairN; omega)
  go_enter Tryz.func295, Tryz.ntmps295
  go_wp2_with fail
  refine (draw_any _ _ h0 h1 (by omega) (by omega) _).mono ?_
  rintro e w' ⟨rfl, hb⟩
  go_wp2_with fail
  refine (draw_any _ _ h0 h1 (by omega) (by omega) _).mono ?_
  rintro e w2 ⟨rfl, hb2⟩
  go_wp2_with fail
  go_ret2
  refine ⟨ret_u64s2 ?_ ?_, bel_trans hb hb2⟩
  · rw [e1.out]; rfl
  · rw [e1.out]; rfl

end Go.Proofs.YtfeficdndjiijaaGreatDoor


namespace Go.Proofs.YtfeficdndjiijaaGreatDoor
open Go.RowKit
set_option linter.unusedVariables false
set_option linter.unusedSimpArgs false

theorem rowKept {w w' : World} {b : Nat} {t : TypeId} {n : Nat} {f : Nat → Value} (h : w.rowIs b t n f) (hb : Below w.heap.size w w') : w'.rowIs b t n f := h.of_block (hb.block b h.lt)
theorem ret_i64c {a b : Int} (h : a = b) : Ending.returned (.int .i64 a) = .returned (.int .i64 b) := by rw [h]

structure Caps (w : World) (A B C : Nat) (b r d m s l k : Int) : Prop where
  cfg : Blk w A 24 #[.int .i64 b, .int .i64 r, .int .i64 d, .int .i64 m, .int .u64 s]
  lev : Blk w B 3 #[.int .i64 l]
  key : Blk w C 22 #[.int .u64 k]
theorem Caps.kept {w w' : World} {A B C : Nat} {b r d m s l k : Int} (h : Caps w A B C b r d m s l k) (hb : Below w.heap.size w w') : Caps w' A B C b r d m s l k :=
  ⟨h.cfg.kept hb, h.lev.kept hb, h.key.kept hb⟩

theorem Caps.cells {w : World} {A B C : Nat} {b r d m s l k : Int} (h : Caps w A B C b r d m s l k) :
    (w.cell? ⟨A, 0, none⟩ = some (.int .i64 b) ∧ w.cell? ⟨A, 1, none⟩ = some (.int .i64 r) ∧ w.cell? ⟨A, 2, none⟩ = some (.int .i64 d) ∧ w.cell? ⟨A, 3, none⟩ = some (.int .i64 m) ∧ w.cell? ⟨A, 4, none⟩ = some (.int .u64 s)) ∧
    w.cell? ⟨B, 0, none⟩ = some (.int .i64 l) ∧ w.cell? ⟨C, 0, none⟩ = some (.int .u64 k) := ⟨box_cells h.cfg, h.lev.cell 0, h.key.cell 0⟩
theorem Caps.drew {w : World} {A B C : Nat} {b r d m s l k : Int} (h : Caps w A B C b r d m s l k) : Caps w.drew A B C b r d m s l k := ⟨h.cfg, h.lev, h.key⟩
theorem col1_any (A B C : Nat) (b r d m s l k i : Int) (s0 : 0 ≤ s) (s1 : s ≤ 18446744073709551615) (k0 : 0 ≤ k) (k1 : k ≤ 18446744073709551615) (l0 : 0 ≤ l) (l1 : l ≤ 59) (i0 : 0 ≤ i) (i1 : i ≤ 7) (d0 : 1 ≤ d) (d1 : d ≤ 9223372036854775807) (w : World)
    (hC : Caps w A B C b r d m s l k) :
    Calls Tryz.prog 294 #[.int .i64 i, .pointer (some ⟨A, 0, none⟩), .pointer (some ⟨B, 0, none⟩), .pointer (some ⟨C, 0, none⟩)] w fun e w' => e = .returned (.int .i64 (colI d s l k i)) ∧ Below w.heap.size w w' := by
  have a2 := hC.cfg.cell 2
  have a4 := hC.cfg.cell 4
  have bl := hC.lev.cell 0
  have ck := hC.key.cell 0
  simp at a2 a4 bl ck
  have HC := Lib.hid hC
  clear hC
  obtain ⟨p0, p1⟩ := pairA_bd s l i
  obtain ⟨q0, q1⟩ := pairB_bd s l i
  go_enter Tryz.func294, Tryz.ntmps294
  go_wp2_with fail
  refine (pair_any s l i s0 s1 l0 l1 i0 i1 _).mono ?_; rintro e w1 ⟨rfl, hb⟩
  have hC1 := HC.out.kept hb
  have c2 := hC1.cfg.cell 2
  have ck1 := hC1.key.cell 0
  simp at c2 ck1
  go_wp2_with fail
  refine (bucket_any _ _ k d (by omega) (by omega) (by omega) (by omega) k0 k1 d0 d1 _).mono ?_; rintro e w2 ⟨rfl, hb2⟩
  go_wp2
  go_ret
  exact ⟨ret_i64c rfl, btr hb hb2⟩

def ColsPost (w : World) (R : Nat) (d s l k : Int) (e : Ending) (w' : World) : Prop :=
  ∃ g, e = .returned (.slice (some ⟨g, 0, none⟩) R R) ∧ w.heap.size ≤ g ∧ w'.rowIs g 3 R (fun i => .int .i64 (colI d s l k (i : Int))) ∧ Below w.heap.size w w'

theorem Tryz.infoInt : (Tryz.prog.info? 3).map (fun i => (i.zero, i.size, i.bytes)) = some (some (.int .i64 0), 1, 8) := by kernel_rfl

theorem cols_any (b d m s l k : Int) (R : Nat) (s0 : 0 ≤ s) (s1 : s ≤ 18446744073709551615) (k0 : 0 ≤ k) (k1 : k ≤ 18446744073709551615) (hk : k < keysI b (R : Int) d m l) (w : World) :
  Calls Tryz.prog 288 #[.agg #[.int .i64 b, .int .i64 (R : Int), .int .i64 d, .int .i64 m, .int .u64 s], .int .i64 l, .int .u64 k] w (ColsPost w R d s l k) := by
 obtain ⟨j0, j1⟩ := keysI_bd b (R : Int) d m l
 have HR := keys_right (b := b) (r := (R : Int)) (d := d) (m := m) (l := l) (by omega)
 obtain ⟨d0, d1, b0, b1, l0, l1, r0, r1, _⟩ := HR
 have e1 : decide (keysI b (R : Int) d m l ≤ k) = false := decide_eq_false (by omega)
 have hnew0 := Blk.new w 24 #[.int .i64 b, .int .i64 (R : Int), .int .i64 d, .int .i64 m, .int .u64 s]
 go_enter Tryz.func288, Tryz.ntmps288
 go_wp2_with fail
 have hcap : Caps (((w.alloc (.cells #[.int .i64 b, .int .i64 (R : Int), .int .i64 d, .int .i64 m, .int .u64 s] 24)).alloc (.cells #[.int .i64 l] 3)).alloc (.cells #[.int .u64 k] 22)) w.heap.size (w.heap.size + 1) (w.heap.size + 1 + 1) b (R : Int) d m s l k := by
  refine ⟨((Blk.new _ _ _).alloc _).alloc _, Blk.alloc (by have := Blk.new (w.alloc (.cells #[.int .i64 b, .int .i64 (R : Int), .int .i64 d, .int .i64 m, .int .u64 s] 24)) 3 #[.int .i64 l]; simpa using this) _, ?_⟩
  have := Blk.new ((w.alloc (.cells #[.int .i64 b, .int .i64 (R : Int), .int .i64 d, .int .i64 m, .int .u64 s] 24)).alloc (.cells #[.int .i64 l] 3)) 22 #[.int .u64 k]
  simpa using this
 have hbel : Below w.heap.size w (((w.alloc (.cells #[.int .i64 b, .int .i64 (R : Int), .int .i64 d, .int .i64 m, .int .u64 s] 24)).alloc (.cells #[.int .i64 l] 3)).alloc (.cells #[.int .u64 k] 22)) :=
  (((Below.refl _ _).alloc (Nat.le_refl _) _).alloc (by simp) _).alloc (by simp; omega) _
 generalize (((w.alloc (.cells #[.int .i64 b, .int .i64 (R : Int), .int .i64 d, .int .i64 m, .int .u64 s] 24)).alloc (.cells #[.int .i64 l] 3)).alloc (.cells #[.int .u64 k] 22)) = wz at *
 have hsz := hbel.size
 generalize hA : w.heap.size = A at *
 generalize hB : A + 1 = B at *
 generalize hC : B + 1 = C at *
 obtain ⟨n, hn⟩ : ∃ n, n = A := ⟨_, rfl⟩
 have hbel : Below n w wz := by rw [hn]; exact hbel
 have HN := Lib.hid (hn.trans hA.symm)
 have hnw : n ≤ w.heap.size := by omega
 clear hA hB hC hn
 have HE := Lib.hid e1
 refine wp_region_held_drew (S := fun w' => Caps w' A B C b (R : Int) d m s l k ∧ Below n w w') (by kernel_rfl) (by exact ⟨hcap.drew, hbel.drew⟩) (fun hHeld => ?_)
 refine tkH (i := 0) (v := ?_) rfl (by kernel_rfl) (fun _ _ _ h => h) (Or.inl ⟨by rfl, ?_⟩) (by assumption) ?_
 rotate_left
 ·intro w hSw
  obtain ⟨⟨q0, q1, q2, q3, q4⟩, qb, qk⟩ := Caps.cells hSw.1
  go_simp
  try with_reducible rfl
 simp only [Act.put, z1, z2, z3, z4, z5, z6]
 refine tkH (i := 1) (v := ?_) rfl (by kernel_rfl) (fun _ _ _ h => h) (Or.inl ⟨by rfl, ?_⟩) (by assumption) ?_
 rotate_left
 ·intro w hSw
  obtain ⟨⟨q0, q1, q2, q3, q4⟩, qb, qk⟩ := Caps.cells hSw.1
  go_simp
  try with_reducible rfl
 simp only [Act.put, z1, z2, z3, z4, z5, z6]
 refine tkH (i := 2) (v := ?_) rfl (by kernel_rfl) (fun _ _ _ h => h) (Or.inl ⟨by rfl, ?_⟩) (by assumption) ?_
 rotate_left
 ·intro w hSw
  obtain ⟨⟨q0, q1, q2, q3, q4⟩, qb, qk⟩ := Caps.cells hSw.1
  go_simp
  try with_reducible rfl
 simp only [Act.put, z1, z2, z3, z4, z5, z6]
 refine wpAnyH_ready (rs := [3]) (by kernel_rfl) (by simp) ?_
 refine AllReadyH.cons rfl (fun K hK => ?_) AllReadyH.nil
 go_simp
 go_wp2_with ((go_at_call 72; refine (keys_any _ _ _ _ _ _ _).mono ?_; rintro e w' ⟨rfl, hb'⟩))
 refine hK.out _ _ ?_ (fun hHeld => ?_)
 ·first | assumption | exact ⟨hHeld.1.kept hb', hHeld.2.trans (hb'.mono (by have := hHeld.2.size; omega))⟩
 clear hK K
 refine tkH (i := 4) (v := ?_) rfl (by kernel_rfl) (fun _ _ _ h => h) (Or.inl ⟨by rfl, ?_⟩) (by assumption) ?_
 rotate_left
 ·intro w hSw
  skip
  go_simp
  try with_reducible rfl
 simp only [Act.put, z1, z2, z3, z4, z5, z6]
 refine wpAnyH_done (by kernel_rfl) ?_ _
 clear hnew0 hbel hsz hcap hb'
 obtain ⟨hcap, hbel⟩ := hHeld
 obtain ⟨⟨q0, q1, q2, q3, q4⟩, qb, qk⟩ := hcap.cells
 have hmk := fun W => run_make_row' (P := Tryz.prog) 45 3 (.int .i64 0) 8 Tryz.underlying45 Tryz.infoInt rfl .i64 .i64 R (by omega) (by omega) W
 go_wp2_with fail
 have hrow := World.rowIs_made w' (.int .i64 0) R 3
 have hcap2 : Caps (w'.alloc (.cells (madeCells #[.int .i64 0] R) 3)) A B C b (R : Int) d m s l k := ⟨hcap.cfg.alloc _, hcap.lev.alloc _, hcap.key.alloc _⟩
 have hbel2 : Below n w (w'.alloc (.cells (madeCells #[.int .i64 0] R) 3)) := hbel.alloc (by have := hbel.size; omega) _
 have hGA : A ≠ w'.heap.size := Nat.ne_of_lt hcap.cfg.lt
 have hGB : B ≠ w'.heap.size := Nat.ne_of_lt hcap.lev.lt
 have hGC : C ≠ w'.heap.size := Nat.ne_of_lt hcap.key.lt
 have hGn : n ≤ w'.heap.size := by have := hbel.size; omega
 clear hmk q0 q1 q2 q3 q4 qb qk
 clear hcap hbel
 generalize (w'.alloc (.cells (madeCells #[.int .i64 0] R) 3)) = wq at *
 generalize w'.heap.size = G at *
 go_loopw [21] (fun i wr => ∃ j : Nat, j ≤ R ∧ i = .int .i64 (j : Int) ∧ wr.rowIs G 3 R (fun x => .int .i64 (if x < j then colI d s l k (x : Int) else 0)) ∧ Caps wr A B C b (R : Int) d m s l k ∧ Below n w wr) (fun i _ => R - (intOf i).toNat)
 case atStart => exact ⟨0, by omega, rfl, hrow.congr (fun x _ => by simp), hcap2, hbel2⟩
 case round =>
  obtain ⟨j, hj, rfl, hrow, hcap, hbel⟩ := hrel
  clear hcap2 hbel2
  have HR := Lib.hid hrow
  have HC := Lib.hid hcap
  have HB := Lib.hid hbel
  clear hrow hcap hbel
  by_cases hlt : j < R
  ·go_wp2_with fail
   refine (col1_any A B C b (R : Int) d m s l k (j : Int) s0 s1 k0 k1 l0 (by omega) (by omega) (by omega) d0 (by omega) _ HC.out).mono ?_
   rintro e w2 ⟨rfl, hb2⟩
   have hr2 := rowKept HR.out hb2
   have hcell := hr2.cell hlt
   have hfrz := hr2.frozen j
   have HR2 := Lib.hid (hr2.set j (.int .i64 (colI d s l k (j : Int))))
   have HC2 := Lib.hid (HC.out.kept hb2)
   have HB2 : Hid (Below n w w2) := Lib.hid (HB.out.trans (hb2.mono (by have := HB.out.size; omega)))
   clear hr2 hb2
   go_wp2
   go_roundw
   case rel =>
    refine ⟨j + 1, by omega, by go_num, HR2.out.congr (fun x _ => ?_), ⟨HC2.out.cfg.far hGA _, HC2.out.lev.far hGB _, HC2.out.key.far hGC _⟩, HB2.out.setCell hGn _⟩
    by_cases e : x = j
    ·subst e; simp
    ·rw [if_neg e]
     by_cases e2 : x < j
     ·rw [if_pos e2, if_pos (by omega)]
     ·rw [if_neg e2, if_neg (by omega)]
   case measure => simp [intOf]; omega
  ·obtain rfl : j = R := by omega
   go_wp2
   go_ret
   exact ⟨G, rfl, by have := HN.out; omega, HR.out.congr (fun x hx => by rw [if_pos hx]), by rw [← HN.out]; exact HB.out⟩

theorem cols_none (b r d m s l k : Int) (hk : ¬ k < keysI b r d m l) (w : World) :
  Calls Tryz.prog 288 #[.agg #[.int .i64 b, .int .i64 r, .int .i64 d, .int .i64 m, .int .u64 s], .int .i64 l, .int .u64 k] w fun e w' => e = .returned (.slice none 0 0) ∧ Below w.heap.size w w' := by
 have e1 : decide (keysI b r d m l ≤ k) = true := decide_eq_true (by omega)
 go_enter Tryz.func288, Tryz.ntmps288
 go_wp2_with fail
 have hcap : Caps (((w.alloc (.cells #[.int .i64 b, .int .i64 r, .int .i64 d, .int .i64 m, .int .u64 s] 24)).alloc (.cells #[.int .i64 l] 3)).alloc (.cells #[.int .u64 k] 22)) w.heap.size (w.heap.size + 1) (w.heap.size + 1 + 1) b r d m s l k := by
  refine ⟨((Blk.new _ _ _).alloc _).alloc _, Blk.alloc (by have := Blk.new (w.alloc (.cells #[.int .i64 b, .int .i64 r, .int .i64 d, .int .i64 m, .int .u64 s] 24)) 3 #[.int .i64 l]; simpa using this) _, ?_⟩
  have := Blk.new ((w.alloc (.cells #[.int .i64 b, .int .i64 r, .int .i64 d, .int .i64 m, .int .u64 s] 24)).alloc (.cells #[.int .i64 l] 3)) 22 #[.int .u64 k]
  simpa using this
 have hbel : Below w.heap.size w (((w.alloc (.cells #[.int .i64 b, .int .i64 r, .int .i64 d, .int .i64 m, .int .u64 s] 24)).alloc (.cells #[.int .i64 l] 3)).alloc (.cells #[.int .u64 k] 22)) :=
  (((Below.refl _ _).alloc (Nat.le_refl _) _).alloc (by simp) _).alloc (by simp; omega) _
 generalize (((w.alloc (.cells #[.int .i64 b, .int .i64 r, .int .i64 d, .int .i64 m, .int .u64 s] 24)).alloc (.cells #[.int .i64 l] 3)).alloc (.cells #[.int .u64 k] 22)) = wz at *
 have hsz := hbel.size
 generalize hA : w.heap.size = A at *
 generalize hB : A + 1 = B at *
 generalize hC : B + 1 = C at *
 obtain ⟨n, hn⟩ : ∃ n, n = A := ⟨_, rfl⟩
 have hbel : Below n w wz := by rw [hn]; exact hbel
 have HN := Lib.hid (hn.trans hA.symm)
 have hnw : n ≤ w.heap.size := by omega
 clear hA hB hC hn
 refine wp_region_held_drew (S := fun w' => Caps w' A B C b r d m s l k ∧ Below n w w') (by kernel_rfl) (by exact ⟨hcap.drew, hbel.drew⟩) (fun hHeld => ?_)
 refine tkH (i := 0) (v := ?_) rfl (by kernel_rfl) (fun _ _ _ h => h) (Or.inl ⟨by rfl, ?_⟩) (by assumption) ?_
 rotate_left
 ·intro w hSw
  obtain ⟨⟨q0, q1, q2, q3, q4⟩, qb, qk⟩ := Caps.cells hSw.1
  go_simp
  try with_reducible rfl
 simp only [Act.put, z1, z2, z3, z4, z5, z6]
 refine tkH (i := 1) (v := ?_) rfl (by kernel_rfl) (fun _ _ _ h => h) (Or.inl ⟨by rfl, ?_⟩) (by assumption) ?_
 rotate_left
 ·intro w hSw
  obtain ⟨⟨q0, q1, q2, q3, q4⟩, qb, qk⟩ := Caps.cells hSw.1
  go_simp
  try with_reducible rfl
 simp only [Act.put, z1, z2, z3, z4, z5, z6]
 refine tkH (i := 2) (v := ?_) rfl (by kernel_rfl) (fun _ _ _ h => h) (Or.inl ⟨by rfl, ?_⟩) (by assumption) ?_
 rotate_left
 ·intro w hSw
  obtain ⟨⟨q0, q1, q2, q3, q4⟩, qb, qk⟩ := Caps.cells hSw.1
  go_simp
  try with_reducible rfl
 simp only [Act.put, z1, z2, z3, z4, z5, z6]
 refine wpAnyH_ready (rs := [3]) (by kernel_rfl) (by simp) ?_
 refine AllReadyH.cons rfl (fun K hK => ?_) AllReadyH.nil
 go_simp
 go_wp2_with ((go_at_call 72; refine (keys_any _ _ _ _ _ _ _).mono ?_; rintro e w' ⟨rfl, hb'⟩))
 refine hK.out _ _ ?_ (fun hHeld => ?_)
 ·first | assumption | exact ⟨hHeld.1.kept hb', hHeld.2.trans (hb'.mono (by have := hHeld.2.size; omega))⟩
 clear hK K
 refine tkH (i := 4) (v := ?_) rfl (by kernel_rfl) (fun _ _ _ h => h) (Or.inl ⟨by rfl, ?_⟩) (by assumption) ?_
 rotate_left
 ·intro w hSw
  skip
  go_simp
  try with_reducible rfl
 simp only [Act.put, z1, z2, z3, z4, z5, z6]
 refine wpAnyH_done (by kernel_rfl) ?_ _
 have HB := Lib.hid hHeld.2
 clear hbel hcap hHeld
 go_wp2
 go_ret
 exact ⟨rfl, by rw [← HN.out]; exact HB.out⟩
end Go.Proofs.YtfeficdndjiijaaGreatDoor


namespace Go.Proofs.YtfeficdndjiijaaGreatDoor
open Go.RowKit
set_option linter.unusedVariables false
set_option linter.unusedSimpArgs false

open Classical in
noncomputable def kthL (l : List Int) (k : Nat) : Int := if h : ∃ v, IsKth l k v then h.choose else 0
theorem kthL_of {l : List Int} {k : Nat} {v : Int} (h : IsKth l k v) : kthL l k = v := by
  have hx : ∃ v, IsKth l k v := ⟨v, h⟩
  unfold kthL
  rw [dif_pos hx]
  exact hx.choose_spec.unique h
def colsZ (d s l k : Int) (R : Nat) : List Int := (List.range R).map fun (i : Nat) => colI d s l k (i : Int)
theorem colsZ_len (d s l k : Int) (R : Nat) : (colsZ d s l k R).length = R := by simp [colsZ]
theorem colsZ_meet {d s l k : Int} {R : Nat} (hR : 0 < R) (hd : 1 ≤ d) : meetB R d.toNat (colsZ d s l k R) = true := by
  refine meetB_all hR (colsZ_len ..) (fun j c hc => ?_)
  unfold colsZ at hc
  rw [List.getElem?_map] at hc
  cases hj : (List.range R)[j]? with
  | none => rw [hj] at hc; simp at hc
  | some i =>
    rw [hj] at hc
    simp at hc
    subst hc
    unfold colI
    have h1 := Int.emod_nonneg (lineI (pairA s l (i : Int)) (pairB s l (i : Int)) k) (show d ≠ 0 by omega)
    have h2 := Int.emod_lt_of_pos (lineI (pairA s l (i : Int)) (pairB s l (i : Int)) k) (show 0 < d by omega)
    omega
open Classical in
noncomputable def skErr (b r d m s l : Int) (zs : List Int) (k : Int) (x : Int) : Int :=
  if keysI b r d m l ≤ k then 2
  else if m = 2 then (if x < 0 then 3 else if In64 (kthL (readZ d.toNat zs (colsZ d s l k r.toNat)) 0 + x) then 0 else 4)
  else if changeFits d.toNat zs (colsZ d s l k r.toNat) x then 0 else 4
open Classical in
noncomputable def skUpd (b r d m s l : Int) (zs : List Int) (k : Int) (x : Int) : List Int :=
  if skErr b r d m s l zs k x = 0 then
    (if m = 2 then raiseZ d.toNat zs (colsZ d s l k r.toNat) (kthL (readZ d.toNat zs (colsZ d s l k r.toNat)) 0 + x) else changeZ d.toNat zs (colsZ d s l k r.toNat) x)
  else zs
noncomputable def lvErr (b r d m s l : Int) (zs : List Int) (k : Nat) (x : Int) : Int :=
  if exactB b r d m l = true then chkI (keysI b r d m l).toNat m zs k x else skErr b r d m s l zs (k : Int) x
noncomputable def lvUpd (b r d m s l : Int) (zs : List Int) (k : Nat) (x : Int) : List Int :=
  if exactB b r d m l = true then updZ (keysI b r d m l).toNat m zs k x else skUpd b r d m s l zs (k : Int) x
theorem key_down {b r d m : Int} (hr : rightB b r d m = true) {k : Nat} (hk : (k : Int) < keysI b r d m 0) {n : Nat} (hn : n ≤ b.toNat) : ((k / 2 ^ n : Nat) : Int) < keysI b r d m (n : Int) := by
  have hR := right_of hr
  rw [keysI_yes hr (by omega) (by omega)] at hk ⊢
  obtain ⟨q, hq⟩ : ∃ q : Nat, b = (q : Int) := ⟨b.toNat, by omega⟩
  subst hq
  have e0 : ((q : Int) - 0).toNat = q := by omega
  have e1 : ((q : Int) - (n : Int)).toNat = q - n := by omega
  rw [e0] at hk
  rw [e1]
  have h2 : (k : Int) < ((2 ^ q : Nat) : Int) := by rw [Int.natCast_pow]; exact hk
  have h3 : k < 2 ^ q := by exact_mod_cast h2
  have h4 : k / 2 ^ n < 2 ^ (q - n) := by
    apply Nat.div_lt_of_lt_mul
    rw [← Nat.pow_add]
    have : n + (q - n) = q := by simp at hn; omega
    rw [this]
    exact h3
  have h5 : ((k / 2 ^ n : Nat) : Int) < ((2 ^ (q - n) : Nat) : Int) := by exact_mod_cast h4
  rw [Int.natCast_pow] at h5
  exact h5
theorem lvErr_in {b r d m s l : Int} {zs : List Int} {k : Nat} {x : Int} (hk : (k : Int) < keysI b r d m l) : (m = 2 ∧ x < 0 → lvErr b r d m s l zs k x = 3) ∧ (¬ (m = 2 ∧ x < 0) → lvErr b r d m s l zs k x = 0 ∨ lvErr b r d m s l zs k x = 4) := by
  unfold lvErr
  have hb := keysI_bd b r d m l
  split
  · unfold chkI
    rw [if_neg (by omega)]
    refine ⟨fun h => by rw [if_pos h], fun h => ?_⟩
    rw [if_neg h]
    split
    · exact .inl rfl
    · exact .inr rfl
  · unfold skErr
    rw [if_neg (by omega)]
    refine ⟨fun h => by rw [if_pos h.1, if_pos h.2], fun h => ?_⟩
    by_cases hm : m = 2
    · rw [if_pos hm, if_neg (by omega)]
      split
      · exact .inl rfl
      · exact .inr rfl
    · rw [if_neg hm]
      split
      · exact .inl rfl
      · exact .inr rfl
open Classical in
noncomputable def stErr (b r d m s : Int) (Z : Nat → List Int) (k : Nat) (x : Int) : Int :=
  if keysI b r d m 0 ≤ (k : Int) then 2 else if m = 2 ∧ x < 0 then 3 else if ∀ n : Nat, n ≤ b.toNat → lvErr b r d m s (n : Int) (Z n) (k / 2 ^ n) x = 0 then 0 else 4
noncomputable def stUpd (b r d m s : Int) (Z : Nat → List Int) (k : Nat) (x : Int) (n : Nat) : List Int :=
  if stErr b r d m s Z k x = 0 then lvUpd b r d m s (n : Int) (Z n) (k / 2 ^ n) x else Z n
noncomputable def lvPt (b r d m s l : Int) (zs : List Int) (k : Nat) : Int :=
  if exactB b r d m l = true then cellD zs k else kthL (readZ d.toNat zs (colsZ d s l (k : Int) r.toNat)) (if m = 3 then (r.toNat - 1) / 2 else 0)
def firstI (a c : Int) : Int := if a = 0 then c else a
theorem stErr_firsts {b r d m s : Int} (hr : rightB b r d m = true) {Z : Nat → List Int} {k : Nat} {x : Int} (hk : (k : Int) < keysI b r d m 0) :
  (List.range (b.toNat + 1)).foldl (fun a (n : Nat) => firstI a (lvErr b r d m s (n : Int) (Z n) (k / 2 ^ n) x)) 0 = stErr b r d m s Z k x := by
 have key : ∀ j : Nat, j ≤ b.toNat + 1 → (List.range j).foldl (fun a (n : Nat) => firstI a (lvErr b r d m s (n : Int) (Z n) (k / 2 ^ n) x)) 0 =
   (if m = 2 ∧ x < 0 then (if j = 0 then 0 else 3) else open Classical in if ∀ n : Nat, n < j → lvErr b r d m s (n : Int) (Z n) (k / 2 ^ n) x = 0 then 0 else 4) := by
  intro j
  induction j with
  | zero =>
   intro _
   simp
  | succ j ih =>
   intro hj
   rw [List.range_succ, List.foldl_append, ih (by omega)]
   simp only [List.foldl_cons, List.foldl_nil]
   obtain ⟨h3, h4⟩ := lvErr_in (s := s) (zs := Z j) (x := x) (key_down hr hk (show j ≤ b.toNat by omega))
   by_cases hm : m = 2 ∧ x < 0
   ·rw [if_pos hm, if_pos hm, h3 hm]
    unfold firstI
    by_cases e : j = 0 <;> simp [e]
   ·rw [if_neg hm, if_neg hm]
    by_cases ha : ∀ n : Nat, n < j → lvErr b r d m s (n : Int) (Z n) (k / 2 ^ n) x = 0
    ·rw [if_pos ha]
     unfold firstI
     rw [if_pos rfl]
     rcases h4 hm with e | e
     ·rw [e, if_pos]
      intro n hn
      by_cases en : n = j
      ·subst en; exact e
      ·exact ha n (by omega)
     ·rw [e, if_neg]
      intro h
      have := h j (by omega)
      rw [e] at this
      cases this
    ·rw [if_neg ha]
     unfold firstI
     rw [if_neg (by decide), if_neg]
     intro h
     exact ha (fun n hn => h n (by omega))
 rw [key _ (Nat.le_refl _)]
 unfold stErr
 have hnk : ¬ keysI b r d m 0 ≤ (k : Int) := by omega
 by_cases hm : m = 2 ∧ x < 0
 ·rw [if_pos hm, if_neg (show ¬ b.toNat + 1 = 0 by omega), if_neg hnk, if_pos hm]
 ·rw [if_neg hm, if_neg hnk, if_neg hm]
  have : (∀ n : Nat, n < b.toNat + 1 → lvErr b r d m s (n : Int) (Z n) (k / 2 ^ n) x = 0) ↔ (∀ n : Nat, n ≤ b.toNat → lvErr b r d m s (n : Int) (Z n) (k / 2 ^ n) x = 0) :=
   ⟨fun h n hn => h n (by omega), fun h n hn => h n (by omega)⟩
  simp only [this]
theorem stErr_ok {b r d m s : Int} {Z : Nat → List Int} {k : Nat} {x : Int} (h : stErr b r d m s Z k x = 0) : (k : Int) < keysI b r d m 0 ∧ ¬ (m = 2 ∧ x < 0) ∧ ∀ n : Nat, n ≤ b.toNat → lvErr b r d m s (n : Int) (Z n) (k / 2 ^ n) x = 0 := by
  unfold stErr at h
  split at h
  · cases h
  · split at h
    · cases h
    · split at h
      · rename_i h1 h2 h3
        exact ⟨by omega, h2, h3⟩
      · cases h
end Go.Proofs.YtfeficdndjiijaaGreatDoor


namespace Go.Proofs.YtfeficdndjiijaaGreatDoor
open Go.RowKit
set_option linter.unusedVariables false
set_option linter.unusedSimpArgs false

theorem Tryz.slI (w : World) (a : Option Addr) (n c : Nat) : Sem.run Tryz.prog (binOp .eql 45 (.slice a n c) (.slice none 0 0)) w = .ok (.bool a.isNone) w := Go.Lib.run_eql_slice_nil w 45 3 a n c 0 0 Tryz.underlying45
theorem ret_err {a b : Int} (h : a = b) : Ending.returned (.int .i64 a) = .returned (.int .i64 b) := by rw [h]
theorem ColsPost.ints {w w' : World} {R : Nat} {d s l k : Int} {e : Ending} (h : ColsPost w R d s l k e w') : ∃ g, e = .returned (.slice (some ⟨g, 0, none⟩) R R) ∧ w.heap.size ≤ g ∧ w'.rowIs g 3 R (fun i => .int .i64 (colI d s l k (i : Int))) ∧ IntsAt w' (.slice (some ⟨g, 0, none⟩) R R) (colsZ d s l k R) ∧ Below w.heap.size w w' := by
  obtain ⟨g, e, h1, h2, h3⟩ := h
  exact ⟨g, e, h1, h2, IntsAt.of_row h2, h3⟩
set_option maxRecDepth 100000 in
set_option maxHeartbeats 4000000 in
theorem skcheck_none (w : World) (A G C : Nat) (b r d m s l : Int) (zs : List Int) (h : SkIs w A G C b r d m s l zs) (k x : Int) (hk : keysI b r d m l ≤ k) :
  Calls Tryz.prog 284 #[.pointer (some ⟨A, 0, none⟩), .int .u64 k, .int .i64 x] w fun e w' => e = .returned (.int .i64 2) ∧ Below w.heap.size w w' := by
 have HA := Lib.hid h
 have PC := Lib.hid (fun w => cols_none b r d m s l k (by omega) w)
 clear h hk
 go_enter Tryz.func284, Tryz.ntmps284
 go_wp2_with fail
 refine wp_region_still_tail 9 (by kernel_rfl) (by kernel_rfl) ?_
 simp only [List.take_succ_cons, List.take_zero, List.drop_succ_cons, List.drop_zero]
 have HA2 : Hid (SkIs { heap := w.heap, tape := w.tape, drawn := w.drawn + 1, os := w.os, output := w.output } A G C b r d m s l zs) := Lib.hid (HA.out.kept (below_drewN (Below.refl _ _) 1))
 have HB2 : Hid (Below w.heap.size w { heap := w.heap, tape := w.tape, drawn := w.drawn + 1, os := w.os, output := w.output }) := Lib.hid (below_drewN (Below.refl _ _) 1)
 generalize ({ heap := w.heap, tape := w.tape, drawn := w.drawn + 1, os := w.os, output := w.output } : World) = wd at *
 have q1 := HA2.out.box.cell 1
 have q2 := HA2.out.box.cell 2
 have q3 := HA2.out.box.cell 3
 have q4 := HA2.out.box.cell 4
 have q5 := HA2.out.box.cell 5
 have q6 := HA2.out.box.cell 6
 simp at q1 q2 q3 q4 q5 q6
 repeat still_step
 refine wpStill_nil ?_
 go_wp2_with fail
 with_reducible refine (PC.out _).mono ?_
 rintro e w3 ⟨rfl, hb⟩
 have HB3 := Lib.hid (btr HB2.out hb)
 clear hb q1 q2 q3 q4 q5 q6
 have hn := Tryz.slI
 go_wp2
 go_ret
 exact ⟨rfl, HB3.out⟩
theorem sk_nat {w : World} {A G C : Nat} {b r d m s l : Int} {zs : List Int} (hr : rightB b r d m = true) : ∃ R W : Nat, r = (R : Int) ∧ d = (W : Int) ∧ 0 < R ∧ R ≤ 8 ∧ 0 < W ∧ W ≤ 128 := by
  have h := right_of hr
  exact ⟨r.toNat, d.toNat, by omega, by omega, by omega, by omega, by omega, by omega⟩
set_option maxRecDepth 100000 in
set_option maxHeartbeats 8000000 in
theorem skcheck_lin (w : World) (A G C : Nat) (b m s l : Int) (R W : Nat) (zs : List Int) (h : SkIs w A G C b R W m s l zs) (hR : 0 < R) (hR8 : R ≤ 8) (hW : 0 < W) (s0 : 0 ≤ s) (s1 : s ≤ 18446744073709551615) (k x : Int) (k0 : 0 ≤ k) (k1 : k ≤ 18446744073709551615) (hk : k < keysI b R W m l) (hm : m ≠ 2) (hx : In64 x) :
  Calls Tryz.prog 284 #[.pointer (some ⟨A, 0, none⟩), .int .u64 k, .int .i64 x] w fun e w' => e = .returned (.int .i64 (skErr b R W m s l zs k x)) ∧ Below w.heap.size w w' := by
 have HA := Lib.hid h
 have PC := Lib.hid (fun w => cols_any b W m s l k R s0 s1 k0 k1 hk w)
 have HM : Hid (meetB R W (colsZ W s l k R) = true) := Lib.hid (by have := colsZ_meet (d := (W : Int)) (s := s) (l := l) (k := k) hR (by omega); simpa using this)
 have HLC := Lib.hid (colsZ_len (W : Int) s l k R)
 have hq : skErr b R W m s l zs k x = (open Classical in if changeFits W zs (colsZ W s l k R) x then 0 else 4) := by
  unfold skErr
  rw [if_neg (by omega), if_neg hm, Int.toNat_natCast, Int.toNat_natCast]
 obtain ⟨q, hqq⟩ : ∃ q, q = skErr b R W m s l zs k x := ⟨_, rfl⟩
 rw [← hqq] at hq ⊢
 obtain ⟨f, hf⟩ : ∃ f : Nat → Int, f = fun r => cellD zs (r * W + colN (colsZ W s l k R) r) := ⟨_, rfl⟩
 have HF := Lib.hid hf
 have HYES : Hid ((∀ r, r < R → In64 (f r + x)) → q = 0) := Lib.hid (fun hh => by
  rw [hq, if_pos]
  intro r hr
  rw [HLC.out] at hr
  have := hh r hr
  rw [hf] at this
  exact this)
 have HNO : Hid (∀ r, r < R → ¬ In64 (f r + x) → q = 4) := Lib.hid (fun r hr hn => by
  rw [hq, if_neg]
  intro hh
  apply hn
  have := hh r (by rw [HLC.out]; exact hr)
  rw [hf]
  exact this)
 have HFZ : Hid (∀ r, In64 (f r)) := Lib.hid (fun r => by rw [hf]; exact fitC h.grid.fit _)
 have em : (m == 2) = false := by simp [hm]
 have em' : decide (m = 2) = false := by simp [hm]
 clear h hk hq hqq hf
 go_enter Tryz.func284, Tryz.ntmps284
 go_wp2_with fail
 refine wp_region_still_tail 9 (by kernel_rfl) (by kernel_rfl) ?_
 simp only [List.take_succ_cons, List.take_zero, List.drop_succ_cons, List.drop_zero]
 have HA2 : Hid (SkIs { heap := w.heap, tape := w.tape, drawn := w.drawn + 1, os := w.os, output := w.output } A G C b R W m s l zs) := Lib.hid (HA.out.kept (below_drewN (Below.refl _ _) 1))
 have HB2 : Hid (Below w.heap.size w { heap := w.heap, tape := w.tape, drawn := w.drawn + 1, os := w.os, output := w.output }) := Lib.hid (below_drewN (Below.refl _ _) 1)
 generalize ({ heap := w.heap, tape := w.tape, drawn := w.drawn + 1, os := w.os, output := w.output } : World) = wd at *
 have q1 := HA2.out.box.cell 1
 have q2 := HA2.out.box.cell 2
 have q3 := HA2.out.box.cell 3
 have q4 := HA2.out.box.cell 4
 have q5 := HA2.out.box.cell 5
 have q6 := HA2.out.box.cell 6
 simp at q1 q2 q3 q4 q5 q6
 repeat still_step
 refine wpStill_nil ?_
 go_wp2_with fail
 with_reducible refine (PC.out _).mono ?_
 intro e w3 hpost
 obtain ⟨gc, rfl, -, -, hints, hb⟩ := hpost.ints
 have HA3 := Lib.hid (HA2.out.kept hb)
 have HB3 := Lib.hid (btr HB2.out hb)
 have PR : Calls Tryz.prog 289 #[.pointer (some ⟨G, 0, none⟩), .slice (some ⟨gc, 0, none⟩) R R] w3 (ReadPost w3 W zs (colsZ W s l k R)) := by
  have h1 := HA3.out.grid
  rw [Int.toNat_natCast, Int.toNat_natCast] at h1
  exact read_yes w3 G C R W zs (colsZ W s l k R) _ h1 hints HM.out
 have PR := Lib.hid PR
 clear hb hpost hints q1 q2 q3 q4 q5 q6
 have q0 := HA3.out.box.cell 0
 have q4 := HA3.out.box.cell 4
 simp at q0 q4
 have hn := Tryz.slI
 go_wp2_with fail
 with_reducible refine PR.out.mono ?_
 rintro e w4 ⟨g, rfl, -, hrow, hb⟩
 rw [HLC.out]
 have HROW : Hid (w4.rowIs g 2 R (fun r => .int .i64 (f r))) := Lib.hid (by rw [HF.out]; have h2 := hrow; rw [HLC.out] at h2; exact h2)
 have HA4 := Lib.hid (HA3.out.kept hb)
 have HB4 := Lib.hid (btr HB3.out hb)
 have HGL : Hid (g < w4.heap.size) := Lib.hid hrow.lt
 clear hb hrow q0 q4 hn
 have q4 := HA4.out.box.cell 4
 simp at q4
 go_wp2_with fail
 go_loopw [61] (fun i wr => ∃ j : Nat, j ≤ R ∧ i = .int .i64 (j : Int) ∧ (∀ r, r < j → In64 (f r + x)) ∧ Below w4.heap.size w4 wr) (fun i _ => R - (intOf i).toNat)
 case atStart => exact ⟨0, by omega, rfl, fun r hr => by omega, Below.refl _ _⟩
 case round =>
  obtain ⟨j, hj, rfl, hok, hbel⟩ := hrel
  have HOK := Lib.hid hok
  have HBR := Lib.hid hbel
  clear hok
  by_cases hlt : j < R
  ·have cx := (hbel.cell (p := ⟨g, j, none⟩) HGL.out).trans (HROW.out.cell hlt)
   have hfj := HFZ.out j
   have HOK2 : Hid (In64 (f j + x) → ∀ r, r < j + 1 → In64 (f r + x)) := Lib.hid (fun h1 r hr => by
    by_cases e : r = j
    ·subst e; exact h1
    ·exact HOK.out r (by omega))
   have HNJ : Hid (¬ In64 (f j + x) → q = 4) := Lib.hid (HNO.out j hlt)
   have P3 := fun wz => opok_plus (f j) x wz hfj hx
   have i0 : (0 : Int) ≤ (j : Int) := by omega
   have i1 : (j : Int) < (R : Int) := by omega
   clear hbel
   generalize f j = y at *
   by_cases h64 : In64 (y + x)
   ·have P3 := Lib.hid (fun wz => (P3 wz).1 h64)
    have HOK2 := Lib.hid (HOK2.out h64)
    clear h64 hfj HNJ
    unfold TwoPost at P3
    go_wp2_with fail
    with_reducible refine (P3.out _).mono ?_
    rintro e w5 ⟨rfl, hb⟩
    have HB5 := Lib.hid (btr HBR.out hb)
    clear hb cx
    go_wp2
    go_roundw
    case rel => exact ⟨j + 1, by omega, by go_num, HOK2.out, HB5.out⟩
    case measure => simp [intOf]; omega
   ·have P3 := Lib.hid (fun wz => (P3 wz).2 h64)
    have HQ := Lib.hid (HNJ.out h64)
    clear h64 hfj HNJ HOK2
    unfold TwoPost at P3
    go_wp2_with fail
    with_reducible refine (P3.out _).mono ?_
    rintro e w5 ⟨rfl, hb⟩
    have HB5 := Lib.hid (btr HB4.out (btr HBR.out hb))
    clear hb cx
    go_wp2
    go_ret
    exact ⟨ret_err HQ.out.symm, HB5.out⟩
  ·have HQ : Hid (q = 0) := Lib.hid (HYES.out (fun r hr => HOK.out r (by omega)))
   have hge : R ≤ j := by omega
   have HB5 := Lib.hid (btr HB4.out HBR.out)
   clear hbel
   go_wp2
   go_ret
   exact ⟨ret_err HQ.out.symm, HB5.out⟩
set_option maxRecDepth 100000 in
set_option maxHeartbeats 8000000 in
theorem skcheck_neg (w : World) (A G C : Nat) (b s l : Int) (R W : Nat) (zs : List Int) (h : SkIs w A G C b R W 2 s l zs) (hR : 0 < R) (hR8 : R ≤ 8) (hW : 0 < W) (s0 : 0 ≤ s) (s1 : s ≤ 18446744073709551615) (k x : Int) (k0 : 0 ≤ k) (k1 : k ≤ 18446744073709551615) (hk : k < keysI b R W 2 l) (hx : In64 x) (hx0 : x < 0) :
  Calls Tryz.prog 284 #[.pointer (some ⟨A, 0, none⟩), .int .u64 k, .int .i64 x] w fun e w' => e = .returned (.int .i64 (skErr b R W 2 s l zs k x)) ∧ Below w.heap.size w w' := by
 have HA := Lib.hid h
 have PC := Lib.hid (fun w => cols_any b W 2 s l k R s0 s1 k0 k1 hk w)
 have HM : Hid (meetB R W (colsZ W s l k R) = true) := Lib.hid (by have := colsZ_meet (d := (W : Int)) (s := s) (l := l) (k := k) hR (by omega); simpa using this)
 have HLC := Lib.hid (colsZ_len (W : Int) s l k R)
 have HQ : Hid (skErr b R W 2 s l zs k x = 3) := Lib.hid (by
  unfold skErr
  rw [if_neg (by omega), if_pos rfl, if_pos hx0])
 obtain ⟨q, hqq⟩ : ∃ q, q = skErr b R W 2 s l zs k x := ⟨_, rfl⟩
 rw [← hqq] at HQ ⊢
 have e1 : decide (x < 0) = true := decide_eq_true hx0
 clear hqq
 clear h hk
 go_enter Tryz.func284, Tryz.ntmps284
 go_wp2_with fail
 refine wp_region_still_tail 9 (by kernel_rfl) (by kernel_rfl) ?_
 simp only [List.take_succ_cons, List.take_zero, List.drop_succ_cons, List.drop_zero]
 have HA2 : Hid (SkIs { heap := w.heap, tape := w.tape, drawn := w.drawn + 1, os := w.os, output := w.output } A G C b R W 2 s l zs) := Lib.hid (HA.out.kept (below_drewN (Below.refl _ _) 1))
 have HB2 : Hid (Below w.heap.size w { heap := w.heap, tape := w.tape, drawn := w.drawn + 1, os := w.os, output := w.output }) := Lib.hid (below_drewN (Below.refl _ _) 1)
 generalize ({ heap := w.heap, tape := w.tape, drawn := w.drawn + 1, os := w.os, output := w.output } : World) = wd at *
 have q1 := HA2.out.box.cell 1
 have q2 := HA2.out.box.cell 2
 have q3 := HA2.out.box.cell 3
 have q4 := HA2.out.box.cell 4
 have q5 := HA2.out.box.cell 5
 have q6 := HA2.out.box.cell 6
 simp at q1 q2 q3 q4 q5 q6
 repeat still_step
 refine wpStill_nil ?_
 go_wp2_with fail
 with_reducible refine (PC.out _).mono ?_
 intro e w3 hpost
 obtain ⟨gc, rfl, -, -, hints, hb⟩ := hpost.ints
 have HA3 := Lib.hid (HA2.out.kept hb)
 have HB3 := Lib.hid (btr HB2.out hb)
 have HGR : Hid (GridIs w3 G C R W zs) := Lib.hid (by
  have h1 := HA3.out.grid
  rw [Int.toNat_natCast, Int.toNat_natCast] at h1
  exact h1)
 have PR : Calls Tryz.prog 289 #[.pointer (some ⟨G, 0, none⟩), .slice (some ⟨gc, 0, none⟩) R R] w3 (ReadPost w3 W zs (colsZ W s l k R)) :=
  read_yes w3 G C R W zs (colsZ W s l k R) _ HGR.out hints HM.out
 have PR := Lib.hid PR
 have HIN := Lib.hid hints
 clear hb hpost hints q1 q2 q3 q4 q5 q6
 have q0 := HA3.out.box.cell 0
 have q4 := HA3.out.box.cell 4
 simp at q0 q4
 have hn := Tryz.slI
 go_wp2_with fail
 with_reducible refine PR.out.mono ?_
 rintro e w4 ⟨g, rfl, -, hrow, hb⟩
 rw [HLC.out]
 have HA4 := Lib.hid (HA3.out.kept hb)
 have HB4 := Lib.hid (btr HB3.out hb)
 clear hb hrow q0 q4 hn
 have q4 := HA4.out.box.cell 4
 simp at q4
 go_wp2
 go_ret
 exact ⟨ret_err HQ.out.symm, HB4.out⟩
set_option maxRecDepth 100000 in
set_option maxHeartbeats 8000000 in
theorem skcheck_con (w : World) (A G C : Nat) (b s l : Int) (R W : Nat) (zs : List Int) (h : SkIs w A G C b R W 2 s l zs) (hR : 0 < R) (hR8 : R ≤ 8) (hW : 0 < W) (s0 : 0 ≤ s) (s1 : s ≤ 18446744073709551615) (k x : Int) (k0 : 0 ≤ k) (k1 : k ≤ 18446744073709551615) (hk : k < keysI b R W 2 l) (hx : In64 x) (hx0 : 0 ≤ x) :
  Calls Tryz.prog 284 #[.pointer (some ⟨A, 0, none⟩), .int .u64 k, .int .i64 x] w fun e w' => e = .returned (.int .i64 (skErr b R W 2 s l zs k x)) ∧ Below w.heap.size w w' := by
 have HA := Lib.hid h
 have PC := Lib.hid (fun w => cols_any b W 2 s l k R s0 s1 k0 k1 hk w)
 have HM : Hid (meetB R W (colsZ W s l k R) = true) := Lib.hid (by have := colsZ_meet (d := (W : Int)) (s := s) (l := l) (k := k) hR (by omega); simpa using this)
 have HLC := Lib.hid (colsZ_len (W : Int) s l k R)
 have hq : skErr b R W 2 s l zs k x = (if In64 (kthL (readZ W zs (colsZ W s l k R)) 0 + x) then 0 else 4) := by
  unfold skErr
  rw [if_neg (by omega), if_pos rfl, if_neg (by omega), Int.toNat_natCast, Int.toNat_natCast]
 obtain ⟨q, hqq⟩ : ∃ q, q = skErr b R W 2 s l zs k x := ⟨_, rfl⟩
 rw [← hqq] at hq ⊢
 have HQ := Lib.hid hq
 have e1 : decide (x < 0) = false := decide_eq_false (by omega)
 clear hqq hq
 clear h hk
 go_enter Tryz.func284, Tryz.ntmps284
 go_wp2_with fail
 refine wp_region_still_tail 9 (by kernel_rfl) (by kernel_rfl) ?_
 simp only [List.take_succ_cons, List.take_zero, List.drop_succ_cons, List.drop_zero]
 have HA2 : Hid (SkIs { heap := w.heap, tape := w.tape, drawn := w.drawn + 1, os := w.os, output := w.output } A G C b R W 2 s l zs) := Lib.hid (HA.out.kept (below_drewN (Below.refl _ _) 1))
 have HB2 : Hid (Below w.heap.size w { heap := w.heap, tape := w.tape, drawn := w.drawn + 1, os := w.os, output := w.output }) := Lib.hid (below_drewN (Below.refl _ _) 1)
 generalize ({ heap := w.heap, tape := w.tape, drawn := w.drawn + 1, os := w.os, output := w.output } : World) = wd at *
 have q1 := HA2.out.box.cell 1
 have q2 := HA2.out.box.cell 2
 have q3 := HA2.out.box.cell 3
 have q4 := HA2.out.box.cell 4
 have q5 := HA2.out.box.cell 5
 have q6 := HA2.out.box.cell 6
 simp at q1 q2 q3 q4 q5 q6
 repeat still_step
 refine wpStill_nil ?_
 go_wp2_with fail
 with_reducible refine (PC.out _).mono ?_
 intro e w3 hpost
 obtain ⟨gc, rfl, -, -, hints, hb⟩ := hpost.ints
 have HA3 := Lib.hid (HA2.out.kept hb)
 have HB3 := Lib.hid (btr HB2.out hb)
 have HGR : Hid (GridIs w3 G C R W zs) := Lib.hid (by
  have h1 := HA3.out.grid
  rw [Int.toNat_natCast, Int.toNat_natCast] at h1
  exact h1)
 have PR : Calls Tryz.prog 289 #[.pointer (some ⟨G, 0, none⟩), .slice (some ⟨gc, 0, none⟩) R R] w3 (ReadPost w3 W zs (colsZ W s l k R)) :=
  read_yes w3 G C R W zs (colsZ W s l k R) _ HGR.out hints HM.out
 have PR := Lib.hid PR
 have HIN := Lib.hid hints
 clear hb hpost hints q1 q2 q3 q4 q5 q6
 have q0 := HA3.out.box.cell 0
 have q4 := HA3.out.box.cell 4
 simp at q0 q4
 have hn := Tryz.slI
 go_wp2_with fail
 with_reducible refine PR.out.mono ?_
 rintro e w4 ⟨g, rfl, -, hrow, hb⟩
 rw [HLC.out]
 have HA4 := Lib.hid (HA3.out.kept hb)
 have HB4 := Lib.hid (btr HB3.out hb)
 have PL : Calls Tryz.prog 290 #[.pointer (some ⟨G, 0, none⟩), .slice (some ⟨gc, 0, none⟩) R R] w4 (TellPost w4 W zs (colsZ W s l k R) 0) :=
  least_yes w4 G C R W zs (colsZ W s l k R) _ (HGR.out.kept hb) (HIN.out.kept hb) HM.out
 have PL := Lib.hid PL
 clear hb hrow q0 q4 hn
 have q0 := HA4.out.box.cell 0
 have q4 := HA4.out.box.cell 4
 simp at q0 q4
 go_wp2_with fail
 with_reducible refine PL.out.mono ?_
 rintro e w5 ⟨u, rfl, hu, hb⟩
 have HU := Lib.hid (kthL_of hu)
 have HB5 := Lib.hid (btr HB4.out hb)
 have hu64 : In64 u := by
  have h1 := hu.1
  unfold readZ at h1
  obtain ⟨r, -, rfl⟩ := List.mem_map.1 h1
  exact fitC HGR.out.fit _
 have HB6 : Hid (Below w.heap.size w (w5.alloc (.cells #[.int .i64 u] 2))) := Lib.hid (HB5.out.alloc HB5.out.size _)
 have HBLK := Lib.hid (Blk.new w5 2 #[.int .i64 u])
 clear hb q0 q4 hu
 go_wp2_with fail
 generalize (w5.alloc (.cells #[.int .i64 u] 2)) = w6 at *
 have P3 := fun wz => opok_plus u x wz hu64 hx
 go_loopw [61] (fun i wr => ∃ j : Nat, j ≤ 1 ∧ i = .int .i64 (j : Int) ∧ (0 < j → In64 (u + x)) ∧ Below w6.heap.size w6 wr) (fun i _ => 1 - (intOf i).toNat)
 case atStart => exact ⟨0, by omega, rfl, fun h0 => by omega, Below.refl _ _⟩
 case round =>
  obtain ⟨j, hj, rfl, hok, hbel⟩ := hrel
  have HOK := Lib.hid hok
  have HBR := Lib.hid hbel
  clear hok
  by_cases hlt : j < 1
  ·obtain rfl : j = 0 := by omega
   have cx := (hbel.cell (p := ⟨w5.heap.size, 0, none⟩) HBLK.out.lt).trans (HBLK.out.cell 0)
   simp at cx
   clear hbel
   by_cases h64 : In64 (u + x)
   ·have P3 := Lib.hid (fun wz => (P3 wz).1 h64)
    have H64 := Lib.hid h64
    clear h64 hu64
    unfold TwoPost at P3
    go_wp2_with fail
    with_reducible refine (P3.out _).mono ?_
    rintro e w7 ⟨rfl, hb⟩
    have HB7 := Lib.hid (btr HBR.out hb)
    clear hb cx
    go_wp2
    go_roundw
    case rel => exact ⟨1, by omega, by go_num, fun _ => H64.out, HB7.out⟩
    case measure => simp [intOf]
   ·have P3 := Lib.hid (fun wz => (P3 wz).2 h64)
    have HQ4 : Hid (q = 4) := Lib.hid (by rw [HQ.out, HU.out, if_neg h64])
    clear h64 hu64
    unfold TwoPost at P3
    go_wp2_with fail
    with_reducible refine (P3.out _).mono ?_
    rintro e w7 ⟨rfl, hb⟩
    have HB7 := Lib.hid (btr HB6.out (btr HBR.out hb))
    clear hb cx
    go_wp2
    go_ret
    exact ⟨ret_err HQ4.out.symm, HB7.out⟩
  ·obtain rfl : j = 1 := by omega
   have HQ0 : Hid (q = 0) := Lib.hid (by rw [HQ.out, HU.out, if_pos (HOK.out (by omega))])
   have HB7 := Lib.hid (btr HB6.out HBR.out)
   clear hbel P3 hu64
   go_wp2
   go_ret
   exact ⟨ret_err HQ0.out.symm, HB7.out⟩
theorem skcheck (w : World) (A G C : Nat) (b r d m s l : Int) (zs : List Int) (h : SkIs w A G C b r d m s l zs) (hr : rightB b r d m = true) (s0 : 0 ≤ s) (s1 : s ≤ 18446744073709551615) (k x : Int) (k0 : 0 ≤ k) (k1 : k ≤ 18446744073709551615) (hx : In64 x) :
    Calls Tryz.prog 284 #[.pointer (some ⟨A, 0, none⟩), .int .u64 k, .int .i64 x] w fun e w' => e = .returned (.int .i64 (skErr b r d m s l zs k x)) ∧ Below w.heap.size w w' := by
  by_cases hk : keysI b r d m l ≤ k
  · have : skErr b r d m s l zs k x = 2 := by unfold skErr; rw [if_pos hk]
    rw [this]
    exact skcheck_none w A G C b r d m s l zs h k x hk
  · obtain ⟨R, W, rfl, rfl, h1, h2, h3, h4⟩ := sk_nat (w := w) (A := A) (G := G) (C := C) (s := s) (l := l) (zs := zs) hr
    by_cases hm : m = 2
    · subst hm
      by_cases h0 : x < 0
      · exact skcheck_neg w A G C b s l R W zs h h1 h2 h3 s0 s1 k x k0 k1 (by omega) hx h0
      · exact skcheck_con w A G C b s l R W zs h h1 h2 h3 s0 s1 k x k0 k1 (by omega) hx (by omega)
    · exact skcheck_lin w A G C b m s l R W zs h h1 h2 h3 s0 s1 k x k0 k1 (by omega) hm hx
end Go.Proofs.YtfeficdndjiijaaGreatDoor


namespace Go.Proofs.YtfeficdndjiijaaGreatDoor
open Go.RowKit
set_option linter.unusedVariables false
set_option linter.unusedSimpArgs false

theorem LevIs.own {w w' : World} {x v : Value} {A G C base k : Nat} {b r d m s l : Int} {zs : List Int} {xs : List Value} (h : LevIs w x A G C b r d m s l zs) (ho : w.ownsRow base 174 1 v k xs) (hg : w.grownBy w' v.ownBlock) : LevIs w' x A G C b r d m s l zs := by
  rcases h with ⟨h1, h2, h3⟩ | ⟨h1, h2, h3⟩
  · obtain ⟨cap, hG, -⟩ := h3.2.fields
    obtain ⟨cur, hc, -⟩ := h3.2.cells
    exact .inl ⟨h1, h2, h3.grown hg (Ne.symm (own_ne ho h3.1 (by decide))) (Ne.symm (own_ne ho hG (by decide))) (Ne.symm (own_ne ho hc (by decide)))⟩
  · obtain ⟨cap, hG, -⟩ := h3.grid.fields
    obtain ⟨cur, hc, -⟩ := h3.grid.cells
    exact .inr ⟨h1, h2, h3.grown hg (Ne.symm (own_ne ho h3.box (by decide))) (Ne.symm (own_ne ho hG (by decide))) (Ne.symm (own_ne ho hc (by decide)))⟩
theorem LevIs.far {w w' : World} {x : Value} {A G C g : Nat} {t : TypeId} {cs : Array Value} {b r d m s l : Int} {zs : List Int} (h : LevIs w x A G C b r d m s l zs) (hb : Blk w g t cs) (ht : 2 ≠ t ∧ 337 ≠ t ∧ 284 ≠ t ∧ 288 ≠ t) (hg : w.grownBy w' (some g)) : LevIs w' x A G C b r d m s l zs := by
  rcases h with ⟨h1, h2, h3⟩ | ⟨h1, h2, h3⟩
  · obtain ⟨cap, hG, -⟩ := h3.2.fields
    obtain ⟨cur, hc, -⟩ := h3.2.cells
    exact .inl ⟨h1, h2, h3.grown hg (by simpa using h3.1.ne_ hb ht.2.2.1) (by simpa using hG.ne_ hb ht.2.1) (by simpa using hc.ne_ hb ht.1)⟩
  · obtain ⟨cap, hG, -⟩ := h3.grid.fields
    obtain ⟨cur, hc, -⟩ := h3.grid.cells
    exact .inr ⟨h1, h2, h3.grown hg (by simpa using h3.box.ne_ hb ht.2.2.2) (by simpa using hG.ne_ hb ht.2.1) (by simpa using hc.ne_ hb ht.1)⟩
theorem LevIs.open_ {w : World} {x : Value} {A G C : Nat} {b r d m s l : Int} {zs : List Int} (h : LevIs w x A G C b r d m s l zs) : ∃ t, x = .iface t (.pointer (some ⟨A, 0, none⟩)) := by
  rcases h with ⟨h1, h2, h3⟩ | ⟨h1, h2, h3⟩
  · exact ⟨_, h2⟩
  · exact ⟨_, h2⟩
theorem LevIs.ltC {w : World} {x : Value} {A G C : Nat} {b r d m s l : Int} {zs : List Int} (h : LevIs w x A G C b r d m s l zs) : C < w.heap.size := by
  obtain ⟨cur, hc⟩ := h.cells
  exact hc.lt
def upN {α : Type} (f : Nat → α) (j : Nat) (x : α) : Nat → α := fun k => if k = j then x else f k
theorem upN_same {α : Type} (f : Nat → α) (j : Nat) (x : α) : upN f j x j = x := if_pos rfl
theorem upN_other {α : Type} (f : Nat → α) {j k : Nat} (x : α) (h : k ≠ j) : upN f j x k = f k := if_neg h
structure LevsB (w : World) (base : Nat) (v : Value) (b r d m s : Int) (X : Nat → Value) (A G C : Nat → Nat) (Z : Nat → List Int) (j : Nat) : Prop where
  own : w.ownsRow base 174 1 v j ((List.range j).map X)
  lev : ∀ n, n < j → LevIs w (X n) (A n) (G n) (C n) b r d m s n (Z n)
  apart : ∀ n k, n < j → k < j → n ≠ k → C n ≠ C k
  low : ∀ n, n < j → base ≤ C n
theorem LevsB.kept {w w' : World} {base : Nat} {v : Value} {b r d m s : Int} {X : Nat → Value} {A G C : Nat → Nat} {Z : Nat → List Int} {j : Nat} (h : LevsB w base v b r d m s X A G C Z j) (hb : Below w.heap.size w w') : LevsB w' base v b r d m s X A G C Z j :=
  ⟨World.ownsRow.kept h.own (below_gr (row := none) hb) (by cases v.ownBlock <;> simp), fun n hn => (h.lev n hn).kept hb, h.apart, h.low⟩
theorem LevsB.zero (w : World) (base : Nat) (b r d m s : Int) (X : Nat → Value) (A G C : Nat → Nat) (Z : Nat → List Int) : LevsB w base (.slice none 0 0) b r d m s X A G C Z 0 :=
  ⟨World.ownsRow_nil _ _ _ _, fun n hn => by omega, fun n k hn => by omega, fun n hn => by omega⟩
theorem LevsB.push {w w' : World} {base : Nat} {v v' x : Value} {b r d m s : Int} {X : Nat → Value} {A G C : Nat → Nat} {Z : Nat → List Int} {j a g c : Nat} {zs : List Int} (h : LevsB w base v b r d m s X A G C Z j)
  (hl : LevIs w x a g c b r d m s j zs) (hc : base ≤ c) (hne : ∀ n, n < j → C n ≠ c) (hg : w.grownBy w' v.ownBlock) (ho : w'.ownsRow base 174 1 v' (j + 1) ((List.range j).map X ++ [x])) :
  LevsB w' base v' b r d m s (upN X j x) (upN A j a) (upN G j g) (upN C j c) (upN Z j zs) (j + 1) := by
 refine ⟨?_, fun n hn => ?_, fun n k hn hk e => ?_, fun n hn => ?_⟩
 ·have e : (List.range (j + 1)).map (upN X j x) = (List.range j).map X ++ [x] := by
   rw [List.range_succ, List.map_append]
   congr 1
   ·exact List.map_congr_left fun k hk => upN_other _ _ (by have := List.mem_range.1 hk; omega)
   ·simp [upN]
  rw [e]; exact ho
 ·by_cases e : n = j
  ·subst e; rw [upN_same, upN_same, upN_same, upN_same, upN_same]; exact hl.own h.own hg
  ·rw [upN_other _ _ e, upN_other _ _ e, upN_other _ _ e, upN_other _ _ e, upN_other _ _ e]; exact (h.lev n (by omega)).own h.own hg
 ·by_cases e1 : n = j
  ·subst e1; rw [upN_same, upN_other _ _ (Ne.symm e)]; exact Ne.symm (hne k (by omega))
  ·by_cases e2 : k = j
   ·subst e2; rw [upN_same, upN_other _ _ e1]; exact hne n (by omega)
   ·rw [upN_other _ _ e1, upN_other _ _ e2]; exact h.apart n k (by omega) (by omega) e
 ·by_cases e : n = j
  ·subst e; rw [upN_same]; exact hc
  ·rw [upN_other _ _ e]; exact h.low n (by omega)
structure StIs (w : World) (base S L : Nat) (b r d m s : Int) (X : Nat → Value) (A G C : Nat → Nat) (Z : Nat → List Int) : Prop where
  box : ∃ cap : Nat, Blk w S 172 #[.int .i64 b, .int .i64 r, .int .i64 d, .int .i64 m, .int .u64 s, .slice (some ⟨L, 0, none⟩) (b.toNat + 1) cap] ∧ b.toNat + 1 ≤ cap
  right : rightB b r d m = true
  row : ∃ cur : Array Value, Blk w L 174 cur ∧ ∀ n, n ≤ b.toNat → cur[n]? = some (X n)
  lev : ∀ n, n ≤ b.toNat → LevIs w (X n) (A n) (G n) (C n) b r d m s n (Z n)
  apart : ∀ n k, n ≤ b.toNat → k ≤ b.toNat → n ≠ k → C n ≠ C k
  low : ∀ n, n ≤ b.toNat → base ≤ C n
theorem StIs.kept {w w' : World} {base S L : Nat} {b r d m s : Int} {X : Nat → Value} {A G C : Nat → Nat} {Z : Nat → List Int} (h : StIs w base S L b r d m s X A G C Z) (hb : Below w.heap.size w w') : StIs w' base S L b r d m s X A G C Z := by
  obtain ⟨cap, h1, h2⟩ := h.box
  obtain ⟨cur, h3, h4⟩ := h.row
  exact ⟨⟨cap, h1.kept hb, h2⟩, h.right, ⟨cur, h3.kept hb, h4⟩, fun n hn => (h.lev n hn).kept hb, h.apart, h.low⟩
theorem StIs.put {w w' : World} {base S L : Nat} {b r d m s : Int} {X : Nat → Value} {A G C : Nat → Nat} {Z : Nat → List Int} (h : StIs w base S L b r d m s X A G C Z) {n : Nat} (hn : n ≤ b.toNat) (hg : w.grownBy w' (some (C n))) {zs : List Int}
    (hl : LevIs w' (X n) (A n) (G n) (C n) b r d m s n zs) : StIs w' base S L b r d m s X A G C (upN Z n zs) := by
  obtain ⟨cap, h1, h2⟩ := h.box
  obtain ⟨cur, h3, h4⟩ := h.row
  obtain ⟨cn, hc⟩ := (h.lev n hn).cells
  refine ⟨⟨cap, h1.grown hg (by simpa using h1.ne_ hc (by decide)), h2⟩, h.right, ⟨cur, h3.grown hg (by simpa using h3.ne_ hc (by decide)), h4⟩, fun k hk => ?_, h.apart, h.low⟩
  by_cases e : k = n
  · subst e; rw [upN_same]; exact hl
  · rw [upN_other _ _ e]; exact (h.lev k hk).other hg hc (h.apart k n hk hn e)
theorem StIs.setC {w : World} {base S L : Nat} {b r d m s : Int} {X : Nat → Value} {A G C : Nat → Nat} {Z Z' : Nat → List Int} (h : StIs w base S L b r d m s X A G C Z) (e : ∀ n, n ≤ b.toNat → Z n = Z' n) : StIs w base S L b r d m s X A G C Z' :=
  ⟨h.box, h.right, h.row, fun n hn => by rw [← e n hn]; exact h.lev n hn, h.apart, h.low⟩
theorem LevsB.row {w : World} {base : Nat} {v : Value} {b r d m s : Int} {X : Nat → Value} {A G C : Nat → Nat} {Z : Nat → List Int} {j : Nat} (h : LevsB w base v b r d m s X A G C Z j) (hj : 0 < j) : ∃ (L cap : Nat) (cur : Array Value), v = .slice (some ⟨L, 0, none⟩) j cap ∧ j ≤ cap ∧ base ≤ L ∧ Blk w L 174 cur ∧ ∀ n, n < j → cur[n]? = some (X n) := by
  rcases h.own.2 with ⟨rfl, h0⟩ | ⟨g, cap, cur, rfl, hb, hg, hnc, hcm, hsz, htake⟩
  · omega
  · refine ⟨g, cap, cur, rfl, hnc, hb, hg, fun n hn => ?_⟩
    have h2 : (cur.toList.take (j * 1))[n]? = ((List.range j).map X)[n]? := by rw [htake]
    rw [List.getElem?_take, if_pos (by omega)] at h2
    simpa [hn] using h2
theorem LevsB.stack {w : World} {base S : Nat} {v : Value} {r d m s : Int} {X : Nat → Value} {A G C : Nat → Nat} {Z : Nat → List Int} {n : Nat} (h : LevsB w base v (n : Int) r d m s X A G C Z (n + 1)) (hr : rightB (n : Int) r d m = true)
    (hs : Blk w S 172 #[.int .i64 (n : Int), .int .i64 r, .int .i64 d, .int .i64 m, .int .u64 s, .slice none 0 0]) : ∃ L, StIs (w.setCell ⟨S, 5, none⟩ v) base S L (n : Int) r d m s X A G C Z := by
  obtain ⟨L, cap, cur, rfl, hcap, hL, hrow, hcur⟩ := h.row (by omega)
  have hg := grown_set w S 5 (.slice (some ⟨L, 0, none⟩) (n + 1) cap)
  refine ⟨L, ⟨cap, by simpa using hs.set_ 5 (.slice (some ⟨L, 0, none⟩) (n + 1) cap), by simpa using hcap⟩, hr, ⟨cur, hrow.grown hg (by simpa using hrow.ne_ hs (by decide)), fun k hk => hcur k (by simp at hk; omega)⟩, fun k hk => (h.lev k (by simp at hk; omega)).far hs (by decide) hg, fun k q hk hq e => h.apart k q (by simp at hk; omega) (by simp at hq; omega) e, fun k hk => h.low k (by simp at hk; omega)⟩
def zeroZ (b r d m : Int) (n : Nat) : List Int := List.replicate (cellsN b r d m (n : Int)) 0
def StNewPost (w : World) (b r d m s : Int) (e : Ending) (w' : World) : Prop :=
  ∃ S L X A G C, e = .returned (.tuple #[.pointer (some ⟨S, 0, none⟩), .int .i64 0]) ∧ w.heap.size ≤ S ∧ StIs w' w.heap.size S L b r d m s X A G C (zeroZ b r d m) ∧ Below w.heap.size w w'
theorem Tryz.infoLv : (Tryz.prog.info? 174).map (fun i => (i.zero, i.size, i.bytes)) = some (some .nilIface, 1, 16) := by kernel_rfl
set_option maxRecDepth 100000 in
set_option maxHeartbeats 4000000 in
theorem stnew_yes (b r d m s : Int) (hr : rightB b r d m = true) (w : World) :
  Calls Tryz.prog 36 #[.agg #[.int .i64 b, .int .i64 r, .int .i64 d, .int .i64 m, .int .u64 s]] w (StNewPost w b r d m s) := by
 obtain ⟨i0', hi, hz0, hz1, hz2⟩ := info_parts Tryz.infoLv
 have PR := fun w => right_any b r d m s w
 rw [hr] at PR
 have PR := Lib.hid PR
 have HR := Lib.hid hr
 have hb59 := right_of hr
 obtain ⟨n, hn⟩ : ∃ n : Nat, b = (n : Int) := ⟨b.toNat, by omega⟩
 subst hn
 have hn59 : n ≤ 59 := by omega
 have PN := Lib.hid (fun (j : Nat) (hj : j ≤ n) w => lvnew_yes (n : Int) r d m s (j : Int) hr (by omega) (by omega) w)
 clear hb59 hr
 obtain ⟨g1, hb1, hsz1⟩ := news1 w (.cells #[.int .i64 (n : Int), .int .i64 r, .int .i64 d, .int .i64 m, .int .u64 s] 24)
 have hx1 : Blk _ w.heap.size 24 #[.int .i64 (n : Int), .int .i64 r, .int .i64 d, .int .i64 m, .int .u64 s] := g1
 have HB1 := Lib.hid hb1
 have HX1 := Lib.hid hx1
 clear g1 hb1 hsz1
 go_enter Tryz.func36, Tryz.ntmps36
 go_wp2_with (refine wpList_load_row rfl 24 _ rfl w.heap.size rfl 24 _ (0, 0) _ hx1 Tryz.underlying24 rfl (by kernel_rfl) ?_)
 with_reducible refine (PR.out _).mono ?_
 rintro e w2 ⟨rfl, hb⟩
 have HB2 := Lib.hid (btr HB1.out hb)
 have HX2 := Lib.hid (HX1.out.kept hb)
 clear hb hx1
 have q0 := HX2.out.cell 0
 simp at q0
 go_upto_region 5 with (refine wpList_load_row rfl 24 _ rfl w.heap.size rfl 24 _ (0, 0) _ HX2.out Tryz.underlying24 rfl (by kernel_rfl) ?_)
 have HSB := Lib.hid (Blk.new w2 172 #[.int .i64 (n : Int), .int .i64 r, .int .i64 d, .int .i64 m, .int .u64 s, .slice none 0 0])
 have HX3 := Lib.hid (HX2.out.alloc (.cells #[.int .i64 (n : Int), .int .i64 r, .int .i64 d, .int .i64 m, .int .u64 s, .slice none 0 0] 172))
 have HB3 := Lib.hid (HB2.out.alloc HB2.out.size (.cells #[.int .i64 (n : Int), .int .i64 r, .int .i64 d, .int .i64 m, .int .u64 s, .slice none 0 0] 172))
 have HSL : Hid (w.heap.size ≤ w2.heap.size) := Lib.hid HB2.out.size
 clear HX2 HB2 q0 HX1 HB1
 generalize w2.alloc (.cells #[.int .i64 (n : Int), .int .i64 r, .int .i64 d, .int .i64 m, .int .u64 s, .slice none 0 0] 172) = w3 at *
 generalize w2.heap.size = SB at *
 have q0 := HX3.out.cell 0
 simp at q0
 go_wp2_with fail
 clear q0
 go_loopw [5, 18] (fun v i wr => ∃ (j : Nat) (X : Nat → Value) (A G C : Nat → Nat), j ≤ n + 1 ∧ i = .int .i64 (j : Int) ∧ LevsB wr w.heap.size v (n : Int) r d m s X A G C (zeroZ (n : Int) r d m) j ∧ Blk wr w.heap.size 24 #[.int .i64 (n : Int), .int .i64 r, .int .i64 d, .int .i64 m, .int .u64 s] ∧ Blk wr SB 172 #[.int .i64 (n : Int), .int .i64 r, .int .i64 d, .int .i64 m, .int .u64 s, .slice none 0 0] ∧ Below w.heap.size w wr) (fun _ i _ => n + 1 - (intOf i).toNat)
 case atStart => exact ⟨0, fun _ => .nilIface, fun _ => 0, fun _ => 0, fun _ => 0, by omega, rfl, LevsB.zero _ _ _ _ _ _ _ _ _ _ _ _, HX3.out, HSB.out, HB3.out⟩
 case round =>
  obtain ⟨j, X, A, G, C, hj, rfl, hlv, hx, hs, hbel⟩ := hrel
  have HLV := Lib.hid hlv
  have HX := Lib.hid hx
  have HS := Lib.hid hs
  have HBL := Lib.hid hbel
  clear hlv hx hs hbel HX3 HSB HB3
  by_cases hlt : j < n + 1
  ·have i0 : (0 : Int) ≤ (j : Int) := by omega
   have i1 : (j : Int) < (n : Int) + 1 := by omega
   have PL := Lib.hid (PN.out j (by omega))
   go_wp2_with (refine wpList_load_row rfl 24 _ rfl w.heap.size rfl 24 _ (0, 0) _ HX.out Tryz.underlying24 rfl (by kernel_rfl) ?_)
   with_reducible refine (PL.out _).mono ?_
   rintro e w4 ⟨x, A4, G4, C4, rfl, hC4, hl4, hb4⟩
   obtain ⟨tx, rfl⟩ := hl4.open_
   have HL4 := Lib.hid hl4
   have HC4 := Lib.hid hC4
   have HLV4 := Lib.hid (HLV.out.kept hb4)
   have HX4 := Lib.hid (HX.out.kept hb4)
   have HS4 := Lib.hid (HS.out.kept hb4)
   have HB4 := Lib.hid (btr HBL.out hb4)
   have hs4 := HB4.out.size
   have HLN : Hid (((List.range j).map X).length = j) := Lib.hid (by simp)
   have HCN : Hid (∀ k, k < j → C k ≠ C4) := Lib.hid (fun k hk => by have := (HLV.out.lev k hk).ltC; omega)
   have hc1 : j + 1 ≤ maxLen := by unfold maxLen; omega
   have hc4 : (j + 1) * 16 ≤ 140737488355328 := by omega
   clear hl4 hC4 hb4 PL
   go_wp2_with (at_builtin; refine wpList_append_own_at _ rfl _ _ 170 rfl w.heap.size 174 i0' .nilIface 1 16 Tryz.underlying170 hi hz0 hz1 hz2 rfl (by decide) _ j _ rfl (World.ownsRow.alloc HLV4.out.own _) ⟨w4.heap.size, 0, none⟩ 1 1 [.iface tx (.pointer (some ⟨A4, 0, none⟩))] rfl rfl (cell_one_new _ _ _) ?c2 hc1 hc4 ?c5 ?_)
   case c2 => simp [Value.oneCell']
   case c5 => simp; omega
   intro v8 w8 hown' hgrow hnil' hq9
   have HAL : Hid (Below w4.heap.size w4 (w4.alloc (.cells #[.iface tx (.pointer (some ⟨A4, 0, none⟩))] 174))) := Lib.hid ((Below.refl _ _).alloc (Nat.le_refl _) _)
   have HLV8 := Lib.hid ((HLV4.out.kept HAL.out).push (HL4.out.kept HAL.out) (Nat.le_trans HBL.out.size HC4.out) HCN.out hgrow hown')
   have HX8 : Hid (Blk w8 w.heap.size 24 #[.int .i64 (n : Int), .int .i64 r, .int .i64 d, .int .i64 m, .int .u64 s]) := Lib.hid ((HX4.out.kept HAL.out).grown hgrow (Ne.symm (own_ne (HLV4.out.kept HAL.out).own (HX4.out.kept HAL.out) (by decide))))
   have HS8 : Hid (Blk w8 SB 172 #[.int .i64 (n : Int), .int .i64 r, .int .i64 d, .int .i64 m, .int .u64 s, .slice none 0 0]) := Lib.hid ((HS4.out.kept HAL.out).grown hgrow (Ne.symm (own_ne (HLV4.out.kept HAL.out).own (HS4.out.kept HAL.out) (by decide))))
   have HB8 : Hid (Below w.heap.size w w8) := Lib.hid ((HB4.out.alloc HB4.out.size _).grown hgrow (by simp; omega) (fun k e => (HLV4.out.own.lt k e).1))
   have HZ8 : Hid (upN (zeroZ (n : Int) r d m) j (List.replicate (cellsN (n : Int) r d m (j : Int)) 0) = zeroZ (n : Int) r d m) := Lib.hid (by
    funext k
    by_cases e : k = j
    ·subst e; exact upN_same _ _ _
    ·exact upN_other _ _ e)
   rw [HZ8.out] at HLV8
   clear hown' hgrow hnil' hq9 HAL HL4 HZ8
   go_wp2
   go_roundw
   case rel => exact ⟨j + 1, _, _, _, _, by omega, by go_num, HLV8.out, HX8.out, HS8.out, HB8.out⟩
   case measure => simp [intOf]; omega
  ·obtain rfl : j = n + 1 := by omega
   obtain ⟨L, hst⟩ := HLV.out.stack HR.out HS.out
   obtain ⟨L2, cap, cur, rfl, -⟩ := HLV.out.row (by omega)
   have HST := Lib.hid hst
   have HBS : Hid (Below w.heap.size w (wr.setCell ⟨SB, 5, none⟩ (.slice (some ⟨L2, 0, none⟩) (n + 1) cap))) := Lib.hid (HBL.out.setCell HSL.out _)
   have f5 := HS.out.frozen 5
   have c5 := HS.out.cell 5
   simp at c5
   have i1 : ¬ (((n + 1 : Nat) : Int) < (n : Int) + 1) := by omega
   clear hst hlt HLV
   go_wp2_with fail
   go_ret2
   exact ⟨SB, L, X, A, G, C, rfl, HSL.out, HST.out, HBS.out⟩
theorem StIs.low_ {w : World} {base base' S L : Nat} {b r d m s : Int} {X : Nat → Value} {A G C : Nat → Nat} {Z : Nat → List Int} (h : StIs w base S L b r d m s X A G C Z) (hb : base' ≤ base) : StIs w base' S L b r d m s X A G C Z :=
  ⟨h.box, h.right, h.row, h.lev, h.apart, fun n hn => Nat.le_trans hb (h.low n hn)⟩
theorem StIs.far {w w' : World} {base S L g : Nat} {t : TypeId} {cs : Array Value} {b r d m s : Int} {X : Nat → Value} {A G C : Nat → Nat} {Z : Nat → List Int} (h : StIs w base S L b r d m s X A G C Z) (hb : Blk w g t cs) (ht : 2 ≠ t ∧ 337 ≠ t ∧ 284 ≠ t ∧ 288 ≠ t)
    (ht2 : 172 ≠ t ∧ 174 ≠ t) (hg : w.grownBy w' (some g)) : StIs w' base S L b r d m s X A G C Z := by
  obtain ⟨cap, h1, h2⟩ := h.box
  obtain ⟨cur, h3, h4⟩ := h.row
  exact ⟨⟨cap, h1.grown hg (by simpa using h1.ne_ hb ht2.1), h2⟩, h.right, ⟨cur, h3.grown hg (by simpa using h3.ne_ hb ht2.2), h4⟩, fun n hn => (h.lev n hn).far hb ht hg, h.apart, h.low⟩
end Go.Proofs.YtfeficdndjiijaaGreatDoor


namespace Go.Proofs.YtfeficdndjiijaaGreatDoor
open Go.RowKit
set_option linter.unusedVariables false
set_option linter.unusedSimpArgs false

theorem Tryz.mExCells (k : Nat) (a : Addr) (w : World) : (method (k + 1) 232 (.pointer (some a)) "Cells").run Tryz.prog w = .ok (189, .pointer (some a)) w := by kernel_rfl
theorem Tryz.mSkCells (k : Nat) (a : Addr) (w : World) : (method (k + 1) 235 (.pointer (some a)) "Cells").run Tryz.prog w = .ok (220, .pointer (some a)) w := by kernel_rfl
theorem Tryz.mExLoad (k : Nat) (a : Addr) (w : World) : (method (k + 1) 232 (.pointer (some a)) "Load").run Tryz.prog w = .ok (277, .pointer (some a)) w := by kernel_rfl
theorem Tryz.mSkLoad (k : Nat) (a : Addr) (w : World) : (method (k + 1) 235 (.pointer (some a)) "Load").run Tryz.prog w = .ok (285, .pointer (some a)) w := by kernel_rfl
theorem stlevel (w : World) (base S L : Nat) (b r d m s : Int) (X : Nat → Value) (A G C : Nat → Nat) (Z : Nat → List Int) (h : StIs w base S L b r d m s X A G C Z) (n : Nat) (hn : n ≤ b.toNat) :
    Calls Tryz.prog 73 #[.pointer (some ⟨S, 0, none⟩), .int .i64 (n : Int)] w fun e w' => e = .returned (.tuple #[X n, .bool true]) ∧ w = w' := by
  obtain ⟨cap, h1, h2⟩ := h.box
  obtain ⟨cur, h3, h4⟩ := h.row
  have hR := right_of h.right
  have c5 := h1.cell 5
  have cn := (h3.cell n).trans (h4 n hn)
  simp at c5
  obtain ⟨q, hq⟩ : ∃ q : Nat, b.toNat = q := ⟨_, rfl⟩
  rw [hq] at c5 hn h2
  have d1 : decide ((n : Int) < 0) = false := decide_eq_false (by omega)
  have d2 : decide ((q : Int) + 1 ≤ (n : Int)) = false := decide_eq_false (by omega)
  have d3 : decide (q + 1 ≤ n) = false := decide_eq_false (by omega)
  have i0 : (0 : Int) ≤ (n : Int) := by omega
  have i1 : (n : Int) < (q : Int) + 1 := by omega
  have i2 : n < q + 1 := by omega
  obtain ⟨t, hx⟩ := (h.lev n (by omega)).open_
  rw [hx] at cn ⊢
  clear h h1 h3 h4 hR hq hx
  go_enter Tryz.func73, Tryz.ntmps73
  go_wp2
  go_ret2
  exact ⟨rfl, rfl⟩
set_option maxRecDepth 100000 in
set_option maxHeartbeats 4000000 in
theorem stcells (w : World) (base S L : Nat) (b r d m s : Int) (X : Nat → Value) (A G C : Nat → Nat) (Z : Nat → List Int) (h : StIs w base S L b r d m s X A G C Z) (n : Nat) (hn : n ≤ b.toNat) :
  Calls Tryz.prog 134 #[.pointer (some ⟨S, 0, none⟩), .int .i64 (n : Int)] w (CellsPost w (Z n)) := by
 have PL := Lib.hid (stlevel w base S L b r d m s X A G C Z h n hn)
 have hl := h.lev n hn
 rcases hl with ⟨h1, h2, h3⟩ | ⟨h1, h2, h3⟩
 ·rw [h2] at PL
  have PC := Lib.hid (excells w _ _ _ _ _ _ _ _ _ _ _ h3)
  clear h h1 h2 h3
  have hm := Tryz.mExCells
  go_enter Tryz.func134, Tryz.ntmps134
  go_wp2_with fail
  with_reducible refine PL.out.mono ?_
  rintro e w2 ⟨rfl, hw2⟩
  subst hw2
  go_wp2_with fail
  with_reducible refine PC.out.mono ?_
  rintro e w2 ⟨v, rfl, hrest⟩
  have HR := Lib.hid hrest
  clear hrest
  go_wp2
  go_ret
  exact ⟨v, rfl, HR.out⟩
 ·rw [h2] at PL
  have PC := Lib.hid (skcells w _ _ _ _ _ _ _ _ _ _ h3)
  clear h h1 h2 h3
  have hm := Tryz.mSkCells
  go_enter Tryz.func134, Tryz.ntmps134
  go_wp2_with fail
  with_reducible refine PL.out.mono ?_
  rintro e w2 ⟨rfl, hw2⟩
  subst hw2
  go_wp2_with fail
  with_reducible refine PC.out.mono ?_
  rintro e w2 ⟨v, rfl, hrest⟩
  have HR := Lib.hid hrest
  clear hrest
  go_wp2
  go_ret
  exact ⟨v, rfl, HR.out⟩
theorem natR {w : World} {base S L : Nat} {b r d m s : Int} {X : Nat → Value} {A G C : Nat → Nat} {Z : Nat → List Int} (h : StIs w base S L b r d m s X A G C Z) : ∃ R W : Nat, r = (R : Int) ∧ d = (W : Int) ∧ 0 < W := by
  have := right_of h.right
  exact ⟨r.toNat, d.toNat, by omega, by omega, by omega⟩
set_option maxRecDepth 100000 in
set_option maxHeartbeats 4000000 in
theorem stload (w : World) (base S L : Nat) (b r d m s : Int) (X : Nat → Value) (A G C : Nat → Nat) (Z : Nat → List Int) (h : StIs w base S L b r d m s X A G C Z) (n : Nat) (hn : n ≤ b.toNat)
  (v : Value) (cs : List Int) (hv : IntsAt w v cs) (hl : cs.length = cellsN b r d m (n : Int)) (hfit : Fit cs) (hvc : v.ownBlock ≠ some (C n)) :
  Calls Tryz.prog 39 #[.pointer (some ⟨S, 0, none⟩), .int .i64 (n : Int), v] w fun e w' => e = .returned (.bool true) ∧ StIs w' base S L b r d m s X A G C (upN Z n cs) ∧ w.grownBy w' (some (C n)) := by
 have PL := Lib.hid (stlevel w base S L b r d m s X A G C Z h n hn)
 have HS := Lib.hid h
 have HN := Lib.hid hn
 have hlv := h.lev n hn
 rcases hlv with ⟨h1, h2, h3⟩ | ⟨h1, h2, h3⟩
 ·rw [h2] at PL
  have PC := Lib.hid (exload_yes w _ _ _ _ _ _ _ _ _ _ _ cs v h3 hv (by rw [hl]; unfold cellsN; rw [if_pos h1]) hfit hvc)
  have H1 := Lib.hid h1
  have H2 := Lib.hid h2
  obtain ⟨vo, vc, rfl, -⟩ := hv
  clear h h1 h2 h3 hl hfit hvc hn
  have hm := Tryz.mExLoad
  go_enter Tryz.func39, Tryz.ntmps39
  go_wp2_with fail
  with_reducible refine PL.out.mono ?_
  rintro e w2 ⟨rfl, hw2⟩
  subst hw2
  go_wp2_with fail
  with_reducible refine PC.out.mono ?_
  rintro e w2 ⟨rfl, ha, hg⟩
  have HA := Lib.hid (HS.out.put HN.out hg (.inl ⟨H1.out, H2.out, ha⟩))
  have HG := Lib.hid hg
  clear ha hg
  go_wp2
  go_ret
  exact ⟨rfl, HA.out, HG.out⟩
 ·rw [h2] at PL
  obtain ⟨R, W, rfl, rfl, hW⟩ := natR h
  have PC := Lib.hid (skload_yes w _ _ _ _ R W _ _ _ _ cs v h3 hW hv (by rw [hl]; unfold cellsN; rw [h1]; simp) hfit hvc)
  have H1 := Lib.hid h1
  have H2 := Lib.hid h2
  obtain ⟨vo, vc, rfl, -⟩ := hv
  clear h h1 h2 h3 hl hfit hvc hn
  have hm := Tryz.mSkLoad
  go_enter Tryz.func39, Tryz.ntmps39
  go_wp2_with fail
  with_reducible refine PL.out.mono ?_
  rintro e w2 ⟨rfl, hw2⟩
  subst hw2
  go_wp2_with fail
  with_reducible refine PC.out.mono ?_
  rintro e w2 ⟨rfl, ha, hg⟩
  have HA := Lib.hid (HS.out.put HN.out hg (.inr ⟨H1.out, H2.out, ha⟩))
  have HG := Lib.hid hg
  clear ha hg
  go_wp2
  go_ret
  exact ⟨rfl, HA.out, HG.out⟩
theorem stconfig (w : World) (base S L : Nat) (b r d m s : Int) (X : Nat → Value) (A G C : Nat → Nat) (Z : Nat → List Int) (h : StIs w base S L b r d m s X A G C Z) :
  Calls Tryz.prog 84 #[.pointer (some ⟨S, 0, none⟩)] w fun e w' => e = .returned (.agg #[.int .i64 b, .int .i64 r, .int .i64 d, .int .i64 m, .int .u64 s]) ∧ Below w.heap.size w w' := by
 obtain ⟨g1, hb1, hsz1⟩ := news1 w (.cells #[.int .i64 0, .int .i64 0, .int .i64 0, .int .i64 0, .int .u64 0] 24)
 have hx1 : Blk _ w.heap.size 24 #[.int .i64 0, .int .i64 0, .int .i64 0, .int .i64 0, .int .u64 0] := g1
 obtain ⟨cap, hbx, -⟩ := h.box
 have hA := hbx.kept hb1
 have c0 := hA.cell 0
 have c1 := hA.cell 1
 have c2 := hA.cell 2
 have c3 := hA.cell 3
 have c4 := hA.cell 4
 simp at c0 c1 c2 c3 c4
 have HX1 := Lib.hid hx1
 have HB1 := Lib.hid hb1
 have n0 := hx1.cell 0
 have n1 := hx1.cell 1
 have n2 := hx1.cell 2
 have n3 := hx1.cell 3
 have n4 := hx1.cell 4
 simp at n0 n1 n2 n3 n4
 have f0 := hx1.frozen 0
 have f1 := hx1.frozen 1
 have f2 := hx1.frozen 2
 have f3 := hx1.frozen 3
 have f4 := hx1.frozen 4
 clear hA hx1 hb1 g1 hsz1 h hbx
 go_enter Tryz.func84, Tryz.ntmps84
 go_wp2_with fail
 refine bodyPost_ret (v := .agg #[.int .i64 b, .int .i64 r, .int .i64 d, .int .i64 m, .int .u64 s]) (results_cell_row rfl _ _ w.heap.size 24 _ (0, 0) _ rfl (heap_alloc_new w _) Tryz.underlying24 rfl (by kernel_rfl)) rfl ⟨rfl, ?_⟩
 exact (Below.refl _ _).alloc (Nat.le_refl _) _
end Go.Proofs.YtfeficdndjiijaaGreatDoor


namespace Go.Proofs.YtfeficdndjiijaaGreatDoor
open Go.RowKit
set_option linter.unusedVariables false
set_option linter.unusedSimpArgs false

set_option maxRecDepth 100000 in
set_option maxHeartbeats 8000000 in
theorem skpoint (w : World) (A G C : Nat) (b r d m s l : Int) (zs : List Int) (h : SkIs w A G C b r d m s l zs) (hr : rightB b r d m = true) (he : exactB b r d m l = false) (s0 : 0 ≤ s) (s1 : s ≤ 18446744073709551615) (k : Nat) (k1 : k < 18446744073709551616) (hk : (k : Int) < keysI b r d m l) :
  Calls Tryz.prog 286 #[.pointer (some ⟨A, 0, none⟩), .int .u64 (k : Int)] w fun e w' => e = .returned (.tuple #[.int .i64 (lvPt b r d m s l zs k), .int .i64 0]) ∧ Below w.heap.size w w' := by
 have HA := Lib.hid h
 obtain ⟨R, W, rfl, rfl, h1, h2, h3, h4⟩ := sk_nat (w := w) (A := A) (G := G) (C := C) (s := s) (l := l) (zs := zs) hr
 have PK := Lib.hid (fun w => cols_any b W m s l k R s0 s1 (by omega) (by omega) hk w)
 have HM : Hid (meetB R W (colsZ W s l k R) = true) := Lib.hid (by have := colsZ_meet (d := (W : Int)) (s := s) (l := l) (k := (k : Int)) h1 (by omega); simpa using this)
 have HV : Hid (lvPt b R W m s l zs k = kthL (readZ W zs (colsZ W s l k R)) (if m = 3 then (R - 1) / 2 else 0)) := Lib.hid (by unfold lvPt; rw [he]; simp)
 have HCLn := Lib.hid (colsZ_len (W : Int) s l k R)
 have k0 : 0 ≤ (k : Int) := by omega
 have hsl := Tryz.slI
 clear h hk he hr
 go_enter Tryz.func286, Tryz.ntmps286
 go_wp2_with fail
 refine wp_region_still_tail 9 (by kernel_rfl) (by kernel_rfl) ?_
 simp only [List.take_succ_cons, List.take_zero, List.drop_succ_cons, List.drop_zero]
 have HA2 : Hid (SkIs { heap := w.heap, tape := w.tape, drawn := w.drawn + 1, os := w.os, output := w.output } A G C b R W _ s l zs) := Lib.hid (HA.out.kept (below_drewN (Below.refl _ _) 1))
 have HB2 : Hid (Below w.heap.size w { heap := w.heap, tape := w.tape, drawn := w.drawn + 1, os := w.os, output := w.output }) := Lib.hid (below_drewN (Below.refl _ _) 1)
 generalize ({ heap := w.heap, tape := w.tape, drawn := w.drawn + 1, os := w.os, output := w.output } : World) = wd at *
 have q1 := HA2.out.box.cell 1
 have q2 := HA2.out.box.cell 2
 have q3 := HA2.out.box.cell 3
 have q4 := HA2.out.box.cell 4
 have q5 := HA2.out.box.cell 5
 have q6 := HA2.out.box.cell 6
 simp at q1 q2 q3 q4 q5 q6
 repeat still_step
 refine wpStill_nil ?_
 go_wp2_with fail
 with_reducible refine (PK.out _).mono ?_
 intro e w3 hpost
 obtain ⟨gc, rfl, hgc, -, hints, hb⟩ := hpost.ints
 have HA3 := Lib.hid (HA2.out.kept hb)
 have HB3 := Lib.hid (btr HB2.out hb)
 have HGR : Hid (GridIs w3 G C R W zs) := Lib.hid (by
  have h1 := HA3.out.grid
  rw [Int.toNat_natCast, Int.toNat_natCast] at h1
  exact h1)
 have HIN := Lib.hid hints
 clear hb hpost hints q1 q2 q3 q4 q5 q6 hgc
 have q0 := HA3.out.box.cell 0
 have q4 := HA3.out.box.cell 4
 simp at q0 q4
 by_cases hm : m = 3
 ·subst hm
  have PR := Lib.hid (middle_yes w3 G C R W zs (colsZ W s l k R) _ HGR.out HIN.out HM.out)
  go_wp2_with fail
  with_reducible refine PR.out.mono ?_
  rintro e w4 ⟨u, rfl, hu, hb⟩
  have HU : Hid (u = lvPt b R W 3 s l zs k) := Lib.hid (by rw [HCLn.out] at hu; have h1 := kthL_of hu; have h2 := HV.out; simp only [if_true] at h2; rw [h2]; simpa using h1.symm)
  have HB4 := Lib.hid (btr HB3.out hb)
  clear hu hb q0 q4
  go_wp2
  go_ret2
  first | exact ⟨rfl, HB4.out⟩ | exact ⟨by rw [HU.out]; rfl, HB4.out⟩
 ·have PR := Lib.hid (least_yes w3 G C R W zs (colsZ W s l k R) _ HGR.out HIN.out HM.out)
  have em : (m == 3) = false := by simp [hm]
  have em' : decide (m = 3) = false := by simp [hm]
  go_wp2_with fail
  with_reducible refine PR.out.mono ?_
  rintro e w4 ⟨u, rfl, hu, hb⟩
  have HU : Hid (u = lvPt b R W m s l zs k) := Lib.hid (by rw [HV.out, if_neg hm]; exact (kthL_of hu).symm)
  have HB4 := Lib.hid (btr HB3.out hb)
  clear hu hb q0 q4
  go_wp2
  go_ret2
  first | exact ⟨rfl, HB4.out⟩ | exact ⟨by rw [HU.out]; rfl, HB4.out⟩
theorem Tryz.mExPoint (k : Nat) (a : Addr) (w : World) : (method (k + 1) 232 (.pointer (some a)) "Point").run Tryz.prog w = .ok (278, .pointer (some a)) w := by kernel_rfl
theorem Tryz.mSkPoint (k : Nat) (a : Addr) (w : World) : (method (k + 1) 235 (.pointer (some a)) "Point").run Tryz.prog w = .ok (286, .pointer (some a)) w := by kernel_rfl
theorem stpoint (w : World) (base S L : Nat) (b r d m s : Int) (X : Nat → Value) (A G C : Nat → Nat) (Z : Nat → List Int) (h : StIs w base S L b r d m s X A G C Z) (s0 : 0 ≤ s) (s1 : s ≤ 18446744073709551615) (n : Nat) (hn : n ≤ b.toNat) (k : Nat) (k1 : k < 18446744073709551616) (hk : (k : Int) < keysI b r d m (n : Int)) :
  Calls Tryz.prog 94 #[.pointer (some ⟨S, 0, none⟩), .agg #[.int .i64 (n : Int), .int .u64 (k : Int)]] w fun e w' => e = .returned (.tuple #[.int .i64 (lvPt b r d m s (n : Int) (Z n) k), .int .i64 0]) ∧ Below w.heap.size w w' := by
 have hl := h.lev n hn
 have hrt := h.right
 have HS := Lib.hid h
 have PL := Lib.hid (fun wq hq => stlevel wq base S L b r d m s X A G C Z hq n hn)
 obtain ⟨g1, hb1, hsz1⟩ := news1 w (.cells #[.int .i64 (n : Int), .int .u64 (k : Int)] 155)
 have HX1 : Hid (Blk _ w.heap.size 155 #[.int .i64 (n : Int), .int .u64 (k : Int)]) := Lib.hid g1
 have HB1 := Lib.hid hb1
 have HS1 := Lib.hid (h.kept hb1)
 clear g1 hb1 hsz1
 have q0 := HX1.out.cell 0
 have q1 := HX1.out.cell 1
 simp at q0 q1
 have PLL := Lib.hid (PL.out _ HS1.out)
 rcases hl with ⟨h1, h2, h3⟩ | ⟨h1, h2, h3⟩
 ·rw [h2] at PLL
  have HV : Hid (lvPt b r d m s (n : Int) (Z n) k = cellD (Z n) k) := Lib.hid (by unfold lvPt; rw [if_pos h1])
  have PC := Lib.hid (fun wq hq => expoint_yes wq (A n) (G n) (C n) b r d m s (n : Int) (keysI b r d m (n : Int)).toNat k (Z n) hq (by omega))
  have H3 := Lib.hid (h3.kept HB1.out)
  clear h h1 h2 h3 hk hrt PL
  have hm := Tryz.mExPoint
  go_enter Tryz.func94, Tryz.ntmps94
  go_wp2_with fail
  with_reducible refine PLL.out.mono ?_
  rintro e w2 ⟨rfl, hw2⟩
  subst hw2
  go_wp2_with fail
  with_reducible refine (PC.out _ H3.out).mono ?_
  rintro e w2 ⟨rfl, hw2⟩
  subst hw2
  go_wp2
  go_ret2
  exact ⟨by rw [HV.out]; rfl, HB1.out⟩
 ·rw [h2] at PLL
  have PC := Lib.hid (fun wq hq => skpoint wq (A n) (G n) (C n) b r d m s (n : Int) (Z n) hq hrt h1 s0 s1 k k1 hk)
  have H3 := Lib.hid (h3.kept HB1.out)
  clear h h1 h2 h3 hk hrt PL
  have hm := Tryz.mSkPoint
  go_enter Tryz.func94, Tryz.ntmps94
  go_wp2_with fail
  with_reducible refine PLL.out.mono ?_
  rintro e w2 ⟨rfl, hw2⟩
  subst hw2
  go_wp2_with fail
  with_reducible refine (PC.out _ H3.out).mono ?_
  rintro e w2 ⟨rfl, hb⟩
  have HB2 := Lib.hid (btr HB1.out hb)
  clear hb
  go_wp2
  go_ret2
  exact ⟨rfl, HB2.out⟩
end Go.Proofs.YtfeficdndjiijaaGreatDoor

