/-
  Levels behind an interface; the walk of level.New. Conditions: none beyond those stated at each theorem.
-/
import Derived.Test.YtbghchgmoiniiaaLva
namespace Go.Proofs.Ytbghchgmoiniiaa
open Go.RowKit
set_option linter.unusedVariables false
set_option linter.unusedSimpArgs false

/-- how many cells a level has -/
def cellsN (b r d m l : Int) : Nat := if exactB b r d m l = true then (keysI b r d m l).toNat else r.toNat * d.toNat
/-- x is a level, an array or a sketch, and its cells read as zs -/
def LevIs (w : World) (x : Value) (A G C : Nat) (b r d m s l : Int) (zs : List Int) : Prop :=
  (exactB b r d m l = true ∧ x = .iface 109 (.pointer (some ⟨A, 0, none⟩)) ∧ ArrIs w A G C b r d m s l (keysI b r d m l).toNat zs) ∨
  (exactB b r d m l = false ∧ x = .iface 112 (.pointer (some ⟨A, 0, none⟩)) ∧ SkIs w A G C b r d m s l zs)
theorem LevIs.kept {w w' : World} {x : Value} {A G C : Nat} {b r d m s l : Int} {zs : List Int} (h : LevIs w x A G C b r d m s l zs) (hb : Below w.heap.size w w') : LevIs w' x A G C b r d m s l zs := by
  rcases h with ⟨h1, h2, h3⟩ | ⟨h1, h2, h3⟩
  · exact .inl ⟨h1, h2, h3.kept hb⟩
  · exact .inr ⟨h1, h2, h3.kept hb⟩
theorem LevIs.len {w : World} {x : Value} {A G C : Nat} {b r d m s l : Int} {zs : List Int} (h : LevIs w x A G C b r d m s l zs) : zs.length = cellsN b r d m l := by
  unfold cellsN
  rcases h with ⟨h1, h2, h3⟩ | ⟨h1, h2, h3⟩
  · rw [if_pos h1, h3.2.len, Nat.one_mul]
  · rw [h1]; simpa using h3.grid.len
theorem LevIs.fit {w : World} {x : Value} {A G C : Nat} {b r d m s l : Int} {zs : List Int} (h : LevIs w x A G C b r d m s l zs) : Fit zs := by
  rcases h with ⟨h1, h2, h3⟩ | ⟨h1, h2, h3⟩
  · exact h3.2.fit
  · exact h3.grid.fit
theorem LevIs.le {w : World} {x : Value} {A G C : Nat} {b r d m s l : Int} {zs : List Int} (h : LevIs w x A G C b r d m s l zs) : zs.length ≤ 1024 := by
  rcases h with ⟨h1, h2, h3⟩ | ⟨h1, h2, h3⟩
  · rw [h3.2.len]; exact Nat.mul_le_mul h3.2.rows h3.2.width
  · rw [h3.grid.len]; exact Nat.mul_le_mul h3.grid.rows h3.grid.width
/-- the block of the cells is of numbers -/
theorem LevIs.cells {w : World} {x : Value} {A G C : Nat} {b r d m s l : Int} {zs : List Int} (h : LevIs w x A G C b r d m s l zs) : ∃ cur, Blk w C 2 cur := by
  rcases h with ⟨h1, h2, h3⟩ | ⟨h1, h2, h3⟩
  · obtain ⟨cur, hc, -⟩ := h3.2.cells; exact ⟨cur, hc⟩
  · obtain ⟨cur, hc, -⟩ := h3.grid.cells; exact ⟨cur, hc⟩
/-- what changes the cells' block of another level alone leaves a level as it was -/
theorem LevIs.other {w w' : World} {x : Value} {A G C D : Nat} {b r d m s l : Int} {zs : List Int} {cur : Array Value} (h : LevIs w x A G C b r d m s l zs) (hg : w.grownBy w' (some D)) (hD : Blk w D 2 cur) (hne : C ≠ D) : LevIs w' x A G C b r d m s l zs := by
  rcases h with ⟨h1, h2, h3⟩ | ⟨h1, h2, h3⟩
  · obtain ⟨cap, hG, -⟩ := h3.2.fields
    exact .inl ⟨h1, h2, h3.grown hg (by simpa using h3.1.ne_ hD (by decide)) (by simpa using hG.ne_ hD (by decide)) (by simpa using hne)⟩
  · obtain ⟨cap, hG, -⟩ := h3.grid.fields
    exact .inr ⟨h1, h2, h3.grown hg (by simpa using h3.box.ne_ hD (by decide)) (by simpa using hG.ne_ hD (by decide)) (by simpa using hne)⟩
theorem keysI_pos {b r d m l : Int} (hr : rightB b r d m = true) (h0 : 0 ≤ l) (h1 : l ≤ b) : 0 < keysI b r d m l := by
  have hR := right_of hr
  rw [keysI_yes hr h0 h1]
  have := pow_le (b - l).toNat (by omega)
  omega
theorem cellsN_pos {b r d m l : Int} (hr : rightB b r d m = true) (h0 : 0 ≤ l) (h1 : l ≤ b) : 0 < cellsN b r d m l := by
  have hR := right_of hr
  have := keysI_pos hr h0 h1
  unfold cellsN
  split
  · omega
  · exact Nat.mul_pos (by omega) (by omega)
theorem cellsN_le {b r d m l : Int} (hr : rightB b r d m = true) : cellsN b r d m l ≤ 1024 := by
  have hR := right_of hr
  unfold cellsN
  split
  · rename_i h
    have := of_decide_eq_true h
    omega
  · exact Nat.mul_le_mul (show r.toNat ≤ 8 by omega) (show d.toNat ≤ 128 by omega)
def LvNewPost (w : World) (b r d m s l : Int) (e : Ending) (w' : World) : Prop :=
  ∃ x A G C, e = .returned (.tuple #[x, .int .i64 0]) ∧ w.heap.size ≤ C ∧ LevIs w' x A G C b r d m s l (List.replicate (cellsN b r d m l) 0) ∧ Below w.heap.size w w'
set_option maxRecDepth 100000 in
set_option maxHeartbeats 4000000 in
theorem lvnew_yes (b r d m s l : Int) (hr : rightB b r d m = true) (h0 : 0 ≤ l) (h1 : l ≤ b) (w : World) :
    Calls Try.prog 39 #[.agg #[.int .i64 b, .int .i64 r, .int .i64 d, .int .i64 m, .int .u64 s], .int .i64 l] w (LvNewPost w b r d m s l) := by
  have PE := fun w => exact_any b r d m s l w
  obtain ⟨g1, hb1, hsz1⟩ := news1 w (.cells #[.int .i64 b, .int .i64 r, .int .i64 d, .int .i64 m, .int .u64 s] 36)
  have hx1 : Blk _ w.heap.size 36 #[.int .i64 b, .int .i64 r, .int .i64 d, .int .i64 m, .int .u64 s] := g1
  have HB1 := Lib.hid hb1
  have HX1 := Lib.hid hx1
  clear g1 hb1 hsz1
  cases he : exactB b r d m l
  · rw [he] at PE
    have PE := Lib.hid PE
    have PS := Lib.hid (fun w => sknew_yes b r d m s l hr h0 h1 w)
    have HEX := Lib.hid he
    have HCN : Hid (cellsN b r d m l = r.toNat * d.toNat) := Lib.hid (by unfold cellsN; rw [he]; simp)
    clear he hr h0 h1
    go_enter Try.func39, Try.ntmps39
    go_wp2_with (refine wpList_load_row rfl 36 _ rfl w.heap.size rfl 36 _ (0, 0) _ hx1 Try.underlying36 rfl (by kernel_rfl) ?_)
    with_reducible refine (PE.out _).mono ?_
    rintro e w2 ⟨rfl, hb⟩
    have HB2 := Lib.hid (btr HB1.out hb)
    have HX2 := Lib.hid (HX1.out.kept hb)
    clear hb hx1
    go_wp2_with (refine wpList_load_row rfl 36 _ rfl w.heap.size rfl 36 _ (0, 0) _ HX2.out Try.underlying36 rfl (by kernel_rfl) ?_)
    with_reducible refine (PS.out _).mono ?_
    rintro e w3 ⟨A, G, C, rfl, hA, hG, hC, hsk, hb⟩
    have HB3 := Lib.hid (btr HB2.out hb)
    have HSK := Lib.hid hsk
    have HC3 : Hid (w.heap.size ≤ C) := Lib.hid (Nat.le_trans HB2.out.size hC)
    clear hb hsk hA hG hC
    go_wp2
    go_ret2
    exact ⟨_, A, G, C, rfl, HC3.out, .inr ⟨HEX.out, rfl, by rw [HCN.out]; exact HSK.out⟩, HB3.out⟩
  · rw [he] at PE
    have PE := Lib.hid PE
    have PS := Lib.hid (fun w => exnew_yes b r d m s l he w)
    have HEX := Lib.hid he
    have HCN : Hid (cellsN b r d m l = 1 * (keysI b r d m l).toNat) := Lib.hid (by unfold cellsN; rw [he]; simp)
    clear he hr h0 h1
    go_enter Try.func39, Try.ntmps39
    go_wp2_with (refine wpList_load_row rfl 36 _ rfl w.heap.size rfl 36 _ (0, 0) _ hx1 Try.underlying36 rfl (by kernel_rfl) ?_)
    with_reducible refine (PE.out _).mono ?_
    rintro e w2 ⟨rfl, hb⟩
    have HB2 := Lib.hid (btr HB1.out hb)
    have HX2 := Lib.hid (HX1.out.kept hb)
    clear hb hx1
    go_wp2_with (refine wpList_load_row rfl 36 _ rfl w.heap.size rfl 36 _ (0, 0) _ HX2.out Try.underlying36 rfl (by kernel_rfl) ?_)
    with_reducible refine (PS.out _).mono ?_
    rintro e w3 ⟨A, G, C, rfl, hA, hG, hC, hsk, hb⟩
    have HB3 := Lib.hid (btr HB2.out hb)
    have HSK := Lib.hid hsk
    have HC3 : Hid (w.heap.size ≤ C) := Lib.hid (Nat.le_trans HB2.out.size hC)
    clear hb hsk hA hG hC
    go_wp2
    go_ret2
    exact ⟨_, A, G, C, rfl, HC3.out, .inl ⟨HEX.out, rfl, by rw [HCN.out]; exact HSK.out⟩, HB3.out⟩
end Go.Proofs.Ytbghchgmoiniiaa
