/-
  Grids in memory and the walks of grid's cells. Conditions: none beyond those stated at each theorem.
-/
import Derived.Test.YtbghchgmoiniiaaRow
import Derived.LoopN
import Derived.Deep.DeepCutAuto
import Derived.Deep.RegionHeld3
namespace Go.Proofs.Ytbghchgmoiniiaa
open Go.RowKit
set_option linter.unusedVariables false
set_option linter.unusedSimpArgs false

def Fit (zs : List Int) : Prop := ∀ u ∈ zs, -9223372036854775808 ≤ u ∧ u ≤ 9223372036854775807
theorem Fit.get {zs : List Int} (h : Fit zs) {i : Nat} {u : Int} (e : zs[i]? = some u) : -9223372036854775808 ≤ u ∧ u ≤ 9223372036854775807 := h u (List.mem_of_getElem? e)
theorem Fit.set {zs : List Int} (h : Fit zs) (i : Nat) {u : Int} (h0 : -9223372036854775808 ≤ u) (h1 : u ≤ 9223372036854775807) : Fit (zs.set i u) := by
  intro v hv
  rcases List.mem_or_eq_of_mem_set hv with hv | rfl
  · exact h v hv
  · exact ⟨h0, h1⟩
/-- block G is a grid of R rows and W columns, its cells lie in block C and read as zs -/
structure GridIs (w : World) (G C R W : Nat) (zs : List Int) : Prop where
  fields : ∃ cap : Nat, Blk w G 133 #[.int .i64 (R : Int), .int .i64 (W : Int), .slice (some ⟨C, 0, none⟩) (R * W) cap] ∧ R * W ≤ cap
  len : zs.length = R * W
  cells : ∃ cur : Array Value, Blk w C 2 cur ∧ ∀ (i : Nat) (u : Int), zs[i]? = some u → cur[i]? = some (Value.int .i64 u)
  rows : R ≤ 8
  width : W ≤ 128
  fit : Fit zs

theorem placeBd {R W r c : Nat} (hr : r < R) (hc : c < W) (hR : R ≤ 8) (hW : W ≤ 128) : r * W + c < R * W ∧ r * W ≤ 1024 ∧ R * W ≤ 1024 := by
  have h1 : (r + 1) * W ≤ R * W := Nat.mul_le_mul_right W hr
  have h2 : R * W ≤ 8 * 128 := Nat.mul_le_mul hR hW
  rw [Nat.add_mul] at h1
  omega
theorem ret_placeq {a b : Int} (h : a = b) : Ending.returned (.tuple #[.int .i64 a, .bool true]) = .returned (.tuple #[.int .i64 b, .bool true]) := by rw [h]

theorem place_in (w : World) (G C R W r c : Nat) (zs : List Int) (h : GridIs w G C R W zs) (hr : r < R) (hc : c < W) :
    Calls Try.prog 101 #[.pointer (some ⟨G, 0, none⟩), .int .i64 (r : Int), .int .i64 (c : Int)] w fun e w' => e = .returned (.tuple #[.int .i64 ((r * W + c : Nat) : Int), .bool true]) ∧ w = w' := by
  obtain ⟨b1, b2, b3⟩ := placeBd hr hc h.rows h.width
  have hR := h.rows
  have hW := h.width
  obtain ⟨cap, hb, _⟩ := h.fields
  have c0 := hb.cell 0
  have c1 := hb.cell 1
  simp at c0 c1
  clear h hb
  have d1 : decide ((r : Int) < 0) = false := decide_eq_false (by omega)
  have d2 : decide ((R : Int) ≤ (r : Int)) = false := decide_eq_false (by omega)
  have d3 : decide ((c : Int) < 0) = false := decide_eq_false (by omega)
  have d4 : decide ((W : Int) ≤ (c : Int)) = false := decide_eq_false (by omega)
  have hm0 : (r : Int) * (W : Int) = ((r * W : Nat) : Int) := by simp
  have hf : ((r * W + c : Nat) : Int) = ((r * W : Nat) : Int) + (c : Int) := by omega
  generalize ((r * W + c : Nat) : Int) = f at *
  generalize r * W = p at *
  have hm : (r : Int) * (W : Int) = (p : Int) := hm0
  clear hm0
  go_enter Try.func101, Try.ntmps101
  go_wp2
  go_ret2
  exact ⟨ret_placeq hf.symm, rfl⟩

theorem place_out (w : World) (G C R W : Nat) (r c : Int) (zs : List Int) (h : GridIs w G C R W zs) (ho : r < 0 ∨ (R : Int) ≤ r ∨ c < 0 ∨ (W : Int) ≤ c) :
    Calls Try.prog 101 #[.pointer (some ⟨G, 0, none⟩), .int .i64 r, .int .i64 c] w fun e w' => e = .returned (.tuple #[.int .i64 0, .bool false]) ∧ w = w' := by
  obtain ⟨cap, hb, _⟩ := h.fields
  have c0 := hb.cell 0
  have c1 := hb.cell 1
  simp at c0 c1
  clear h hb
  by_cases h1 : r < 0
  · go_enter Try.func101, Try.ntmps101
    go_wp2
    go_ret2
    exact ⟨rfl, rfl⟩
  by_cases h2 : (R : Int) ≤ r
  · go_enter Try.func101, Try.ntmps101
    go_wp2
    go_ret2
    exact ⟨rfl, rfl⟩
  by_cases h3 : c < 0
  · go_enter Try.func101, Try.ntmps101
    go_wp2
    go_ret2
    exact ⟨rfl, rfl⟩
  have h4 : (W : Int) ≤ c := by omega
  go_enter Try.func101, Try.ntmps101
  go_wp2
  go_ret2
  exact ⟨rfl, rfl⟩

theorem GridIs.ne {w : World} {G C R W : Nat} {zs : List Int} (h : GridIs w G C R W zs) : G ≠ C := by
  obtain ⟨cap, hb, _⟩ := h.fields
  obtain ⟨cur, hc, _⟩ := h.cells
  exact hb.ne_ hc (by decide)
theorem GridIs.ltG {w : World} {G C R W : Nat} {zs : List Int} (h : GridIs w G C R W zs) : G < w.heap.size := by
  obtain ⟨cap, hb, _⟩ := h.fields
  exact hb.lt
theorem GridIs.ltC {w : World} {G C R W : Nat} {zs : List Int} (h : GridIs w G C R W zs) : C < w.heap.size := by
  obtain ⟨cur, hc, _⟩ := h.cells
  exact hc.lt
theorem GridIs.below {w w' : World} {G C R W B : Nat} {zs : List Int} (h : GridIs w G C R W zs) (hb : Below B w w') (h1 : G < B) (h2 : C < B) : GridIs w' G C R W zs := by
  obtain ⟨cap, hg, hc⟩ := h.fields
  obtain ⟨cur, hcc, hcur⟩ := h.cells
  exact ⟨⟨cap, hg.below hb h1, hc⟩, h.len, ⟨cur, hcc.below hb h2, hcur⟩, h.rows, h.width, h.fit⟩
theorem GridIs.kept {w w' : World} {G C R W : Nat} {zs : List Int} (h : GridIs w G C R W zs) (hb : Below w.heap.size w w') : GridIs w' G C R W zs := h.below hb h.ltG h.ltC
theorem GridIs.grown {w w' : World} {G C R W : Nat} {zs : List Int} {row : Option Nat} (h : GridIs w G C R W zs) (hb : w.grownBy w' row) (h1 : some G ≠ row) (h2 : some C ≠ row) : GridIs w' G C R W zs := by
  obtain ⟨cap, hg, hc⟩ := h.fields
  obtain ⟨cur, hcc, hcur⟩ := h.cells
  exact ⟨⟨cap, hg.grown hb h1, hc⟩, h.len, ⟨cur, hcc.grown hb h2, hcur⟩, h.rows, h.width, h.fit⟩
theorem GridIs.far {w : World} {G C R W : Nat} {zs : List Int} {p : Addr} (h : GridIs w G C R W zs) (h1 : G ≠ p.block) (h2 : C ≠ p.block) (u : Value) : GridIs (w.setCell p u) G C R W zs := by
  obtain ⟨cap, hg, hc⟩ := h.fields
  obtain ⟨cur, hcc, hcur⟩ := h.cells
  exact ⟨⟨cap, hg.far h1 u, hc⟩, h.len, ⟨cur, hcc.far h2 u, hcur⟩, h.rows, h.width, h.fit⟩
theorem GridIs.drewN {w : World} {G C R W : Nat} {zs : List Int} (h : GridIs w G C R W zs) (n : Nat) : GridIs (w.drewN n) G C R W zs := h.kept (below_drewN (Below.refl _ _) n)
theorem GridIs.set {w : World} {G C R W : Nat} {zs : List Int} (h : GridIs w G C R W zs) (i : Nat) (u : Int) (u0 : -9223372036854775808 ≤ u) (u1 : u ≤ 9223372036854775807) : GridIs (w.setCell ⟨C, i, none⟩ (.int .i64 u)) G C R W (zs.set i u) := by
  have hne := h.ne
  obtain ⟨cap, hg, h1⟩ := h.fields
  obtain ⟨cur, hc, hcur⟩ := h.cells
  refine ⟨⟨cap, hg.far hne _, h1⟩, by simp [h.len], ⟨_, hc.set_ i _, fun j v hv => ?_⟩, h.rows, h.width, h.fit.set i u0 u1⟩
  have hj : j < zs.length := by
    have := (List.getElem?_eq_some_iff.1 hv).1
    simpa using this
  obtain ⟨z, hz⟩ : ∃ z, zs[j]? = some z := ⟨_, List.getElem?_eq_getElem hj⟩
  have hcj := hcur j z hz
  have hjc : j < cur.size := (Array.getElem?_eq_some_iff.1 hcj).1
  rw [List.getElem?_set] at hv
  rw [Array.getElem?_setIfInBounds]
  by_cases e : i = j
  · subst e
    simp [hj] at hv
    simp [hjc, hv]
  · simp [e] at hv ⊢
    exact hcur j v hv

theorem bgr {w w1 w2 : World} {C : Nat} (h : Below w.heap.size w w1) (hg : w1.grownBy w2 (some C)) (hC : w.heap.size ≤ C) : Below w.heap.size w w2 :=
  h.grown hg h.size (fun k e => by cases e; exact hC)
theorem Below.lt_ {w w1 : World} (h : Below w.heap.size w w1) {g : Nat} (hg : g < w.heap.size) : g < w1.heap.size := Nat.lt_of_lt_of_le hg h.size
theorem grown_set (w : World) (C i : Nat) (u : Value) : w.grownBy (w.setCell ⟨C, i, none⟩ u) (some C) :=
  ⟨rfl, rfl, rfl, by simp [World.setCell], fun k hk hne => Below.heap_setCell _ _ _ _ (by simpa using hne)⟩
def cellD (zs : List Int) (i : Nat) : Int := (zs[i]?).getD 0

theorem put_in (w : World) (G C R W r c : Nat) (u : Int) (zs : List Int) (h : GridIs w G C R W zs) (hr : r < R) (hc : c < W) :
    Calls Try.prog 99 #[.pointer (some ⟨G, 0, none⟩), .int .i64 (r : Int), .int .i64 (c : Int), .int .i64 u] w fun e w' => e = .returned (.bool true) ∧ w' = w.setCell ⟨C, r * W + c, none⟩ (.int .i64 u) := by
  obtain ⟨b1, b2, b3⟩ := placeBd hr hc h.rows h.width
  have h0 : 0 < R * W := by omega
  obtain ⟨cap, hb, hcap⟩ := h.fields
  obtain ⟨cur, hC, hcur⟩ := h.cells
  have c2 := hb.cell 2
  simp at c2
  have hz : zs[r * W + c]? = some (cellD zs (r * W + c)) := by
    have : r * W + c < zs.length := by rw [h.len]; omega
    simp [cellD, this]
  have cc := (hC.cell (r * W + c)).trans (hcur _ _ hz)
  have hfz := hC.frozen (r * W + c)
  have H := Lib.hid h
  clear h hb hC hcur hz h0
  have hlt : r * W + c < R * W := b1
  have PL := place_in w G C R W r c zs H.out hr hc
  clear hr hc b2
  generalize cellD zs (r * W + c) = z at *
  generalize r * W + c = f at *
  generalize R * W = n at *
  go_enter Try.func99, Try.ntmps99
  go_wp2_with (go_at_call 101; refine PL.mono ?_; rintro e w' ⟨rfl, rfl⟩)
  go_ret
  exact ⟨rfl, rfl⟩
theorem put_out (w : World) (G C R W : Nat) (r c u : Int) (zs : List Int) (h : GridIs w G C R W zs) (ho : r < 0 ∨ (R : Int) ≤ r ∨ c < 0 ∨ (W : Int) ≤ c) :
    Calls Try.prog 99 #[.pointer (some ⟨G, 0, none⟩), .int .i64 r, .int .i64 c, .int .i64 u] w fun e w' => e = .returned (.bool false) ∧ w' = w := by
  have PL := place_out w G C R W r c zs h ho
  clear h ho
  go_enter Try.func99, Try.ntmps99
  go_wp2_with (go_at_call 101; refine PL.mono ?_; rintro e w' ⟨rfl, rfl⟩)
  go_ret
  exact ⟨rfl, rfl⟩
end Go.Proofs.Ytbghchgmoiniiaa
