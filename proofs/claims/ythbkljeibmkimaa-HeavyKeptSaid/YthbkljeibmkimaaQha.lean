import Derived.WalkKit
import Derived.ProofKit
import Derived.Below
import Derived.Lib.Hide
import Derived.Laws.OwnMore
import Derived.Laws.Rows
import Derived.Deep.Draws
import Derived.Test.YthbkljeibmkimaaProg
import Derived.Outline
import Derived.WalkSmall
import Derived.Deep.OwnRows
import Derived.OwnWalk
import Derived.Maps.AppendAt
import Derived.Deep.QuietTactic
import Derived.BigQuiet
import Derived.LoopN
import Derived.Deep.DeepCutAuto
import Derived.Deep.RegionHeld3
import Derived.Lib.SliceRun
import Derived.ChangeKeysEq
import Derived.Deep.LoopGhost
import Derived.WalkMore
import Derived.Laws.Externs
import Derived.Shelf.Spec.BitsCarry
import Derived.IntWalk
import Derived.RegionCalls
import Derived.Laws.CopyOwn
import Derived.OpenShut
import Derived.ChangeOld
import Derived.Deep.Slices
import Derived.Laws.BitsAllLaws
/-
  Plain, no program: what a world keeps of blocks that the call has made. Conditions: none beyond those stated at each theorem.
-/
namespace Go.Proofs.Ythbkljeibmkimaa
open Go.RowKit
set_option linter.unusedVariables false
set_option linter.unusedSimpArgs false

def In64 (x : Int) : Prop := -9223372036854775808 ≤ x ∧ x ≤ 9223372036854775807
theorem btr {w w1 w2 : World} (h : Below w.heap.size w w1) (k : Below w1.heap.size w1 w2) : Below w.heap.size w w2 := h.trans (k.mono h.size)
theorem beq_w {w w' : World} (h : w = w') : Below w.heap.size w w' := by subst h; exact Below.refl _ _

/-- block g is just the cells cs of element type t, none frozen -/
def Blk (w : World) (g : Nat) (t : TypeId) (cs : Array Value) : Prop := w.heap[g]? = some (.cells cs t (0, 0))
section
variable {w w' : World} {g : Nat} {t : TypeId} {cs : Array Value}
theorem Blk.lt (h : Blk w g t cs) : g < w.heap.size := by
  rcases Nat.lt_or_ge g w.heap.size with hlt | hge
  · exact hlt
  · unfold Blk at h; rw [Array.getElem?_eq_none hge] at h; cases h
theorem Blk.cell (h : Blk w g t cs) (i : Nat) : w.cell? ⟨g, i, none⟩ = cs[i]? := cell_of_row w g i cs t (0, 0) h
theorem Blk.frozen (h : Blk w g t cs) (i : Nat) : w.frozen? ⟨g, i, none⟩ = false := by
  unfold Blk at h
  simp [World.frozen?, h]
theorem Blk.new (w : World) (t : TypeId) (cs : Array Value) : Blk (w.alloc (.cells cs t)) w.heap.size t cs := heap_alloc_new w _
theorem Blk.drew (h : Blk w g t cs) : Blk w.drew g t cs := h
theorem Blk.drewN (h : Blk w g t cs) (n : Nat) : Blk (w.drewN n) g t cs := h
theorem Blk.alloc (h : Blk w g t cs) (o : Obj) : Blk (w.alloc o) g t cs := (Below.heap_alloc w o g h.lt).trans h
theorem Blk.set_ (h : Blk w g t cs) (i : Nat) (u : Value) : Blk (w.setCell ⟨g, i, none⟩ u) g t (cs.setIfInBounds i u) := by
  unfold Blk at h ⊢
  simp [World.setCell, Array.getElem?_modify, h]
theorem Blk.far (h : Blk w g t cs) {p : Addr} (hp : g ≠ p.block) (u : Value) : Blk (w.setCell p u) g t cs := (Below.heap_setCell w p u g hp).trans h
theorem Blk.below {B : Nat} (h : Blk w g t cs) (hb : Below B w w') (hg : g < B) : Blk w' g t cs := (hb.block g hg).trans h
theorem Blk.kept (h : Blk w g t cs) (hb : Below w.heap.size w w') : Blk w' g t cs := h.below hb h.lt
theorem Blk.grown {row : Option Nat} (h : Blk w g t cs) (hb : w.grownBy w' row) (hg : some g ≠ row) : Blk w' g t cs := (hb.block g h.lt hg).trans h
theorem Blk.ne_ {g' : Nat} {t' : TypeId} {cs' : Array Value} (h : Blk w g t cs) (h' : Blk w g' t' cs') (hne : t ≠ t') : g ≠ g' := by
  rintro rfl
  unfold Blk at h h'
  rw [h] at h'
  injection h' with h'
  injection h' with _ ht
  exact hne ht
end

/-- a box that was laid as the first, behind a callee that keeps what was -/
theorem box_kept {w w1 : World} {cs : Array Value} {t : TypeId} (h : Below (w.alloc (.cells cs t)).heap.size (w.alloc (.cells cs t)) w1) :
    Blk w1 w.heap.size t cs ∧ Below w.heap.size w w1 :=
  ⟨(Blk.new w t cs).kept h, ((Below.refl _ _).alloc (Nat.le_refl _) _).trans (h.mono (by simp))⟩

theorem new_at (w : World) (o : Obj) (n : Nat) (h : n = w.heap.size) : (w.alloc o).heap[n]? = some o := by subst h; exact heap_alloc_new w o
theorem old_at (w : World) (o : Obj) (n : Nat) (h : n < w.heap.size) : (w.alloc o).heap[n]? = w.heap[n]? := Below.heap_alloc w o n h
theorem news1 (w : World) (a : Obj) : (w.alloc a).heap[w.heap.size]? = some a ∧ Below w.heap.size w (w.alloc a) ∧ (w.alloc a).heap.size = w.heap.size + 1 :=
  ⟨new_at _ _ _ rfl, (Below.refl _ _).alloc (Nat.le_refl _) _, by simp⟩
theorem news2 (w : World) (a b : Obj) : ((w.alloc a).alloc b).heap[w.heap.size]? = some a ∧ ((w.alloc a).alloc b).heap[w.heap.size + 1]? = some b ∧ Below w.heap.size w ((w.alloc a).alloc b) ∧ ((w.alloc a).alloc b).heap.size = w.heap.size + 2 := by
  obtain ⟨h1, h2, h3⟩ := news1 w a
  exact ⟨by rw [old_at _ _ _ (by omega)]; exact h1, new_at _ _ _ (by omega), h2.alloc (by omega) _, by simp⟩
theorem news3 (w : World) (a b c : Obj) : (((w.alloc a).alloc b).alloc c).heap[w.heap.size]? = some a ∧ (((w.alloc a).alloc b).alloc c).heap[w.heap.size + 1]? = some b ∧ (((w.alloc a).alloc b).alloc c).heap[w.heap.size + 1 + 1]? = some c ∧
    Below w.heap.size w (((w.alloc a).alloc b).alloc c) ∧ (((w.alloc a).alloc b).alloc c).heap.size = w.heap.size + 3 := by
  obtain ⟨h1, h2, h3, h4⟩ := news2 w a b
  exact ⟨by rw [old_at _ _ _ (by omega)]; exact h1, by rw [old_at _ _ _ (by omega)]; exact h2, new_at _ _ _ (by omega), h3.alloc (by omega) _, by simp⟩
theorem news4 (w : World) (a b c d : Obj) : ((((w.alloc a).alloc b).alloc c).alloc d).heap[w.heap.size]? = some a ∧ ((((w.alloc a).alloc b).alloc c).alloc d).heap[w.heap.size + 1]? = some b ∧ ((((w.alloc a).alloc b).alloc c).alloc d).heap[w.heap.size + 1 + 1]? = some c ∧
    ((((w.alloc a).alloc b).alloc c).alloc d).heap[w.heap.size + 1 + 1 + 1]? = some d ∧ Below w.heap.size w ((((w.alloc a).alloc b).alloc c).alloc d) ∧ ((((w.alloc a).alloc b).alloc c).alloc d).heap.size = w.heap.size + 4 := by
  obtain ⟨h1, h2, h3, h4, h5⟩ := news3 w a b c
  exact ⟨by rw [old_at _ _ _ (by omega)]; exact h1, by rw [old_at _ _ _ (by omega)]; exact h2, by rw [old_at _ _ _ (by omega)]; exact h3, new_at _ _ _ (by omega), h4.alloc (by omega) _, by simp⟩
end Go.Proofs.Ythbkljeibmkimaa

/-
  Plain numbers, no program: the number at a place in order, by counts. Conditions: none beyond those stated at each theorem.
-/
namespace Go.Proofs.Ythbkljeibmkimaa
set_option linter.unusedVariables false
set_option linter.unusedSimpArgs false

def cLt (l : List Int) (v : Int) : Nat := (l.filter fun x => decide (x < v)).length
def cEq (l : List Int) (v : Int) : Nat := (l.filter fun x => decide (x = v)).length
/-- v stands at place k of l in order -/
def IsKth (l : List Int) (k : Nat) (v : Int) : Prop := v ∈ l ∧ cLt l v ≤ k ∧ k < cLt l v + cEq l v
def lessL (l : List Int) (b : Int) : List Int := l.filter fun x => decide (x < b)
def moreL (l : List Int) (b : Int) : List Int := l.filter fun x => decide (b < x)

theorem cLt_cons (x : Int) (l : List Int) (v : Int) : cLt (x :: l) v = cLt l v + if x < v then 1 else 0 := by
  simp only [cLt, List.filter_cons]
  by_cases h : x < v <;> simp [h]
theorem cEq_cons (x : Int) (l : List Int) (v : Int) : cEq (x :: l) v = cEq l v + if x = v then 1 else 0 := by
  simp only [cEq, List.filter_cons]
  by_cases h : x = v <;> simp [h]
theorem cLt_mono (l : List Int) {u v : Int} (h : u < v) : cLt l u + cEq l u ≤ cLt l v := by
  induction l with
  | nil => simp [cLt, cEq]
  | cons x l ih =>
    rw [cLt_cons, cEq_cons, cLt_cons]
    by_cases h1 : x < u
    · have : x < v := by omega
      have : ¬ x = u := by omega
      simp [*]; omega
    · by_cases h2 : x = u
      · subst h2; simp [h]; omega
      · simp [h1, h2]; split <;> omega
theorem IsKth.unique {l : List Int} {k : Nat} {u v : Int} (h1 : IsKth l k u) (h2 : IsKth l k v) : u = v := by
  rcases Int.lt_trichotomy u v with h | h | h
  · have := cLt_mono l h; have := h1.2.2; have := h2.2.1; omega
  · exact h
  · have := cLt_mono l h; have := h2.2.2; have := h1.2.1; omega
theorem parts_len (l : List Int) (b : Int) : (lessL l b).length + cEq l b + (moreL l b).length = l.length := by
  induction l with
  | nil => simp [lessL, moreL, cEq]
  | cons x l ih =>
    rw [cEq_cons]
    simp only [lessL, moreL, List.filter_cons, List.length_cons] at ih ⊢
    rcases Int.lt_trichotomy x b with h | h | h
    · have h1 : ¬ x = b := by omega
      have h2 : ¬ b < x := by omega
      simp [h, h1, h2]; omega
    · subst h; simp; omega
    · have h1 : ¬ x = b := by omega
      have h2 : ¬ x < b := by omega
      simp [h, h1, h2]; omega
theorem cEq_pos {l : List Int} {b : Int} (h : b ∈ l) : 0 < cEq l b := by
  unfold cEq
  exact List.length_pos_of_mem (List.mem_filter.2 ⟨h, by simp⟩)
theorem kth_here {l : List Int} {b : Int} {k : Nat} (hb : b ∈ l) (h1 : (lessL l b).length ≤ k) (h2 : k < (lessL l b).length + cEq l b) : IsKth l k b := ⟨hb, h1, h2⟩
theorem less_counts (l : List Int) (b v : Int) (hv : v < b) : cLt (lessL l b) v = cLt l v ∧ cEq (lessL l b) v = cEq l v := by
  induction l with
  | nil => simp [lessL, cLt, cEq]
  | cons x l ih =>
    by_cases h : x < b
    · have e : lessL (x :: l) b = x :: lessL l b := by simp [lessL, h]
      rw [e, cLt_cons, cEq_cons, cLt_cons, cEq_cons, ih.1, ih.2]; simp
    · have e : lessL (x :: l) b = lessL l b := by simp [lessL, h]
      have h1 : ¬ x < v := by omega
      have h2 : ¬ x = v := by omega
      rw [e, cLt_cons, cEq_cons, ih.1, ih.2]; simp [h1, h2]
theorem more_counts (l : List Int) (b v : Int) (hv : b < v) : cLt l v = (lessL l b).length + cEq l b + cLt (moreL l b) v ∧ cEq (moreL l b) v = cEq l v := by
  induction l with
  | nil => simp [lessL, moreL, cLt, cEq]
  | cons x l ih =>
    rw [cLt_cons, cEq_cons, cEq_cons]
    rcases Int.lt_trichotomy x b with h | h | h
    · have e1 : lessL (x :: l) b = x :: lessL l b := by simp [lessL, h]
      have h3 : ¬ b < x := by omega
      have e2 : moreL (x :: l) b = moreL l b := by simp [moreL, h3]
      have h1 : x < v := by omega
      have h2 : ¬ x = v := by omega
      have h4 : ¬ x = b := by omega
      rw [e1, e2, ih.1, ih.2]; simp [h1, h2, h4]; omega
    · subst h
      have e1 : lessL (x :: l) x = lessL l x := by simp [lessL]
      have e2 : moreL (x :: l) x = moreL l x := by simp [moreL]
      have h2 : ¬ x = v := by omega
      rw [e1, e2, ih.1, ih.2]; simp [hv, h2]; omega
    · have h3 : ¬ x < b := by omega
      have e1 : lessL (x :: l) b = lessL l b := by simp [lessL, h3]
      have e2 : moreL (x :: l) b = x :: moreL l b := by simp [moreL, h]
      have h4 : ¬ x = b := by omega
      rw [e1, e2, cLt_cons, cEq_cons, ih.1, ih.2]; simp [h4]; omega
theorem kth_less {l : List Int} {b : Int} {k : Nat} {v : Int} (h : IsKth (lessL l b) k v) : IsKth l k v := by
  have hm := List.mem_filter.1 h.1
  have hv : v < b := by simpa using hm.2
  obtain ⟨c1, c2⟩ := less_counts l b v hv
  exact ⟨hm.1, by rw [← c1]; exact h.2.1, by rw [← c1, ← c2]; exact h.2.2⟩
theorem kth_more {l : List Int} {b : Int} {k : Nat} {v : Int} (h : IsKth (moreL l b) k v) : IsKth l (k + ((lessL l b).length + cEq l b)) v := by
  have hm := List.mem_filter.1 h.1
  have hv : b < v := by simpa using hm.2
  obtain ⟨c1, c2⟩ := more_counts l b v hv
  have := h.2.1
  have := h.2.2
  exact ⟨hm.1, by omega, by omega⟩
theorem IsKth.lt {l : List Int} {k : Nat} {v : Int} (h : IsKth l k v) : k < l.length := by
  have h1 := parts_len l v
  have : cLt l v = (lessL l v).length := rfl
  have := h.2.2
  omega
/-- the least one -/
theorem kth_zero {l : List Int} {v : Int} (h : IsKth l 0 v) : v ∈ l ∧ ∀ x ∈ l, v ≤ x := by
  refine ⟨h.1, fun x hx => ?_⟩
  have h0 : cLt l v = 0 := by have := h.2.1; omega
  rcases Int.lt_or_le x v with hlt | hle
  · exfalso
    have : 0 < cLt l v := by
      unfold cLt
      exact List.length_pos_of_mem (List.mem_filter.2 ⟨hx, by simpa using hlt⟩)
    omega
  · exact hle
theorem kth_zero_of {l : List Int} {v : Int} (hm : v ∈ l) (h : ∀ x ∈ l, v ≤ x) : IsKth l 0 v := by
  have : cLt l v = 0 := by
    unfold cLt
    rw [List.length_eq_zero_iff, List.filter_eq_nil_iff]
    intro x hx
    have := h x hx
    simp; omega
  exact ⟨hm, by omega, by have := cEq_pos hm; omega⟩
end Go.Proofs.Ythbkljeibmkimaa

/-
  Rows of integers in memory: how a slice reads, and the references' comparison of two rows. Conditions: none beyond those stated at each theorem.
-/
namespace Go.Proofs.Ythbkljeibmkimaa
open Go.RowKit
set_option linter.unusedVariables false
set_option linter.unusedSimpArgs false

/-- the slice v holds just the numbers zs -/
def IntsAt (w : World) (v : Value) (zs : List Int) : Prop :=
  ∃ (ao : Option Addr) (cap : Nat), v = .slice ao zs.length cap ∧ zs.length ≤ cap ∧ (0 < zs.length → ∃ g, ao = some ⟨g, 0, none⟩ ∧ g < w.heap.size ∧ ∀ i u, zs[i]? = some u → w.cell? ⟨g, i, none⟩ = some (.int .i64 u))
theorem IntsAt.kept {w w' : World} {v : Value} {zs : List Int} (h : IntsAt w v zs) (hb : Below w.heap.size w w') : IntsAt w' v zs := by
  obtain ⟨ao, cap, e, hc, h⟩ := h
  refine ⟨ao, cap, e, hc, fun h0 => ?_⟩
  obtain ⟨g, e2, hg, hc⟩ := h h0
  exact ⟨g, e2, Nat.lt_of_lt_of_le hg hb.size, fun i u hu => (hb.cell (p := ⟨g, i, none⟩) hg).trans (hc i u hu)⟩
theorem IntsAt.drewN {w : World} {v : Value} {zs : List Int} (h : IntsAt w v zs) (n : Nat) : IntsAt (w.drewN n) v zs := h.kept (below_drewN (Below.refl _ _) n)
theorem IntsAt.of_row {w : World} {g : Nat} {t : TypeId} {n : Nat} {f : Nat → Int} (h : w.rowIs g t n (fun i => .int .i64 (f i))) : IntsAt w (.slice (some ⟨g, 0, none⟩) n n) ((List.range n).map f) := by
  refine ⟨some ⟨g, 0, none⟩, n, by simp, by simp, fun _ => ⟨g, rfl, h.lt, fun i u hu => ?_⟩⟩
  have hi : i < n := by
    have := (List.getElem?_eq_some_iff.1 hu).1
    simpa using this
  rw [h.cell hi]
  simp [hi] at hu
  rw [hu]
theorem IntsAt.of_own {w : World} {base : Nat} {e : TypeId} {v : Value} {n : Nat} {zs : List Int} (h : w.ownsRow base e 1 v n (zs.map (Value.int .i64))) (hn : zs.length = n) : IntsAt w v zs := by
  rcases h.2 with ⟨rfl, h0⟩ | ⟨g, cap, cur, rfl, hb, hg, hnc, hcm, hsz, htake⟩
  · subst h0
    exact ⟨none, 0, by rw [hn], by omega, fun h => by omega⟩
  · refine ⟨some ⟨g, 0, none⟩, cap, by rw [hn], by omega, fun _ => ⟨g, rfl, (Array.getElem?_eq_some_iff.1 hg).1, fun i u hu => ?_⟩⟩
    have hi : i < n := by
      have := (List.getElem?_eq_some_iff.1 hu).1
      omega
    rw [cell_of_row w g i cur e (0, 0) hg]
    have h2 : (cur.toList.take (n * 1))[i]? = (zs.map (Value.int .i64))[i]? := by rw [htake]
    rw [List.getElem?_take, if_pos (by omega)] at h2
    simp only [List.getElem?_map, hu, Option.map_some] at h2
    simpa using h2

theorem take_eq_succ {xs ys : List Int} {j : Nat} {u : Int} (h : xs.take j = ys.take j) (hx : xs[j]? = some u) (hy : ys[j]? = some u) : xs.take (j + 1) = ys.take (j + 1) := by
  rw [List.take_add_one, List.take_add_one, h, hx, hy]

def SamePost (w : World) (xs ys : List Int) (e : Ending) (w' : World) : Prop := e = .returned (.bool (decide (xs = ys))) ∧ Below w.heap.size w w'
theorem ret_boolq {a b : Bool} (h : a = b) : Ending.returned (.bool a) = .returned (.bool b) := by rw [h]

end Go.Proofs.Ythbkljeibmkimaa

/-
  Grids in memory and the walks of grid's cells. Conditions: none beyond those stated at each theorem.
-/
namespace Go.Proofs.Ythbkljeibmkimaa
open Go.RowKit
set_option linter.unusedVariables false
set_option linter.unusedSimpArgs false

def Fit (zs : List Int) : Prop := ∀ u ∈ zs, -9223372036854775808 ≤ u ∧ u ≤ 9223372036854775807
theorem Fit.get {zs : List Int} (h : Fit zs) {i : Nat} {u : Int} (e : zs[i]? = some u) : -9223372036854775808 ≤ u ∧ u ≤ 9223372036854775807 := h u (List.mem_of_getElem? e)
theorem Fit.set {zs : List Int} (h : Fit zs) (i : Nat) {u : Int} (h0 : -9223372036854775808 ≤ u) (h1 : u ≤ 9223372036854775807) : Fit (zs.set i u) := by
  intro v hv
  rcases List.mem_or_eq_of_mem_set hv with hv | rfl
  · exact h v hv
  · exact ⟨h0, h1⟩
/-- block G is a grid of R rows and W columns, its cells lie in block C and read as zs -/
structure GridIs (w : World) (G C R W : Nat) (zs : List Int) : Prop where
  fields : ∃ cap : Nat, Blk w G 122 #[.int .i64 (R : Int), .int .i64 (W : Int), .slice (some ⟨C, 0, none⟩) (R * W) cap] ∧ R * W ≤ cap
  len : zs.length = R * W
  cells : ∃ cur : Array Value, Blk w C 2 cur ∧ ∀ (i : Nat) (u : Int), zs[i]? = some u → cur[i]? = some (Value.int .i64 u)
  rows : R ≤ 8
  width : W ≤ 128
  fit : Fit zs

theorem placeBd {R W r c : Nat} (hr : r < R) (hc : c < W) (hR : R ≤ 8) (hW : W ≤ 128) : r * W + c < R * W ∧ r * W ≤ 1024 ∧ R * W ≤ 1024 := by
  have h1 : (r + 1) * W ≤ R * W := Nat.mul_le_mul_right W hr
  have h2 : R * W ≤ 8 * 128 := Nat.mul_le_mul hR hW
  rw [Nat.add_mul] at h1
  omega
theorem ret_placeq {a b : Int} (h : a = b) : Ending.returned (.tuple #[.int .i64 a, .bool true]) = .returned (.tuple #[.int .i64 b, .bool true]) := by rw [h]

theorem place_in (w : World) (G C R W r c : Nat) (zs : List Int) (h : GridIs w G C R W zs) (hr : r < R) (hc : c < W) :
    Calls Try.prog 81 #[.pointer (some ⟨G, 0, none⟩), .int .i64 (r : Int), .int .i64 (c : Int)] w fun e w' => e = .returned (.tuple #[.int .i64 ((r * W + c : Nat) : Int), .bool true]) ∧ w = w' := by
  obtain ⟨b1, b2, b3⟩ := placeBd hr hc h.rows h.width
  have hR := h.rows
  have hW := h.width
  obtain ⟨cap, hb, _⟩ := h.fields
  have c0 := hb.cell 0
  have c1 := hb.cell 1
  simp at c0 c1
  clear h hb
  have d1 : decide ((r : Int) < 0) = false := decide_eq_false (by omega)
  have d2 : decide ((R : Int) ≤ (r : Int)) = false := decide_eq_false (by omega)
  have d3 : decide ((c : Int) < 0) = false := decide_eq_false (by omega)
  have d4 : decide ((W : Int) ≤ (c : Int)) = false := decide_eq_false (by omega)
  have hm0 : (r : Int) * (W : Int) = ((r * W : Nat) : Int) := by simp
  have hf : ((r * W + c : Nat) : Int) = ((r * W : Nat) : Int) + (c : Int) := by omega
  generalize ((r * W + c : Nat) : Int) = f at *
  generalize r * W = p at *
  have hm : (r : Int) * (W : Int) = (p : Int) := hm0
  clear hm0
  go_enter Try.func81, Try.ntmps81
  go_wp2
  go_ret2
  exact ⟨ret_placeq hf.symm, rfl⟩

theorem place_out (w : World) (G C R W : Nat) (r c : Int) (zs : List Int) (h : GridIs w G C R W zs) (ho : r < 0 ∨ (R : Int) ≤ r ∨ c < 0 ∨ (W : Int) ≤ c) :
    Calls Try.prog 81 #[.pointer (some ⟨G, 0, none⟩), .int .i64 r, .int .i64 c] w fun e w' => e = .returned (.tuple #[.int .i64 0, .bool false]) ∧ w = w' := by
  obtain ⟨cap, hb, _⟩ := h.fields
  have c0 := hb.cell 0
  have c1 := hb.cell 1
  simp at c0 c1
  clear h hb
  by_cases h1 : r < 0
  · go_enter Try.func81, Try.ntmps81
    go_wp2
    go_ret2
    exact ⟨rfl, rfl⟩
  by_cases h2 : (R : Int) ≤ r
  · go_enter Try.func81, Try.ntmps81
    go_wp2
    go_ret2
    exact ⟨rfl, rfl⟩
  by_cases h3 : c < 0
  · go_enter Try.func81, Try.ntmps81
    go_wp2
    go_ret2
    exact ⟨rfl, rfl⟩
  have h4 : (W : Int) ≤ c := by omega
  go_enter Try.func81, Try.ntmps81
  go_wp2
  go_ret2
  exact ⟨rfl, rfl⟩

theorem GridIs.ne {w : World} {G C R W : Nat} {zs : List Int} (h : GridIs w G C R W zs) : G ≠ C := by
  obtain ⟨cap, hb, _⟩ := h.fields
  obtain ⟨cur, hc, _⟩ := h.cells
  exact hb.ne_ hc (by decide)
theorem GridIs.ltG {w : World} {G C R W : Nat} {zs : List Int} (h : GridIs w G C R W zs) : G < w.heap.size := by
  obtain ⟨cap, hb, _⟩ := h.fields
  exact hb.lt
theorem GridIs.ltC {w : World} {G C R W : Nat} {zs : List Int} (h : GridIs w G C R W zs) : C < w.heap.size := by
  obtain ⟨cur, hc, _⟩ := h.cells
  exact hc.lt
theorem GridIs.below {w w' : World} {G C R W B : Nat} {zs : List Int} (h : GridIs w G C R W zs) (hb : Below B w w') (h1 : G < B) (h2 : C < B) : GridIs w' G C R W zs := by
  obtain ⟨cap, hg, hc⟩ := h.fields
  obtain ⟨cur, hcc, hcur⟩ := h.cells
  exact ⟨⟨cap, hg.below hb h1, hc⟩, h.len, ⟨cur, hcc.below hb h2, hcur⟩, h.rows, h.width, h.fit⟩
theorem GridIs.kept {w w' : World} {G C R W : Nat} {zs : List Int} (h : GridIs w G C R W zs) (hb : Below w.heap.size w w') : GridIs w' G C R W zs := h.below hb h.ltG h.ltC
theorem GridIs.grown {w w' : World} {G C R W : Nat} {zs : List Int} {row : Option Nat} (h : GridIs w G C R W zs) (hb : w.grownBy w' row) (h1 : some G ≠ row) (h2 : some C ≠ row) : GridIs w' G C R W zs := by
  obtain ⟨cap, hg, hc⟩ := h.fields
  obtain ⟨cur, hcc, hcur⟩ := h.cells
  exact ⟨⟨cap, hg.grown hb h1, hc⟩, h.len, ⟨cur, hcc.grown hb h2, hcur⟩, h.rows, h.width, h.fit⟩
theorem GridIs.far {w : World} {G C R W : Nat} {zs : List Int} {p : Addr} (h : GridIs w G C R W zs) (h1 : G ≠ p.block) (h2 : C ≠ p.block) (u : Value) : GridIs (w.setCell p u) G C R W zs := by
  obtain ⟨cap, hg, hc⟩ := h.fields
  obtain ⟨cur, hcc, hcur⟩ := h.cells
  exact ⟨⟨cap, hg.far h1 u, hc⟩, h.len, ⟨cur, hcc.far h2 u, hcur⟩, h.rows, h.width, h.fit⟩
theorem GridIs.drewN {w : World} {G C R W : Nat} {zs : List Int} (h : GridIs w G C R W zs) (n : Nat) : GridIs (w.drewN n) G C R W zs := h.kept (below_drewN (Below.refl _ _) n)
theorem GridIs.set {w : World} {G C R W : Nat} {zs : List Int} (h : GridIs w G C R W zs) (i : Nat) (u : Int) (u0 : -9223372036854775808 ≤ u) (u1 : u ≤ 9223372036854775807) : GridIs (w.setCell ⟨C, i, none⟩ (.int .i64 u)) G C R W (zs.set i u) := by
  have hne := h.ne
  obtain ⟨cap, hg, h1⟩ := h.fields
  obtain ⟨cur, hc, hcur⟩ := h.cells
  refine ⟨⟨cap, hg.far hne _, h1⟩, by simp [h.len], ⟨_, hc.set_ i _, fun j v hv => ?_⟩, h.rows, h.width, h.fit.set i u0 u1⟩
  have hj : j < zs.length := by
    have := (List.getElem?_eq_some_iff.1 hv).1
    simpa using this
  obtain ⟨z, hz⟩ : ∃ z, zs[j]? = some z := ⟨_, List.getElem?_eq_getElem hj⟩
  have hcj := hcur j z hz
  have hjc : j < cur.size := (Array.getElem?_eq_some_iff.1 hcj).1
  rw [List.getElem?_set] at hv
  rw [Array.getElem?_setIfInBounds]
  by_cases e : i = j
  · subst e
    simp [hj] at hv
    simp [hjc, hv]
  · simp [e] at hv ⊢
    exact hcur j v hv

theorem bgr {w w1 w2 : World} {C : Nat} (h : Below w.heap.size w w1) (hg : w1.grownBy w2 (some C)) (hC : w.heap.size ≤ C) : Below w.heap.size w w2 :=
  h.grown hg h.size (fun k e => by cases e; exact hC)
theorem Below.lt_ {w w1 : World} (h : Below w.heap.size w w1) {g : Nat} (hg : g < w.heap.size) : g < w1.heap.size := Nat.lt_of_lt_of_le hg h.size
theorem grown_set (w : World) (C i : Nat) (u : Value) : w.grownBy (w.setCell ⟨C, i, none⟩ u) (some C) :=
  ⟨rfl, rfl, rfl, by simp [World.setCell], fun k hk hne => Below.heap_setCell _ _ _ _ (by simpa using hne)⟩
def cellD (zs : List Int) (i : Nat) : Int := (zs[i]?).getD 0

theorem at_in (w : World) (G C R W r c : Nat) (zs : List Int) (h : GridIs w G C R W zs) (hr : r < R) (hc : c < W) :
    Calls Try.prog 78 #[.pointer (some ⟨G, 0, none⟩), .int .i64 (r : Int), .int .i64 (c : Int)] w fun e w' => e = .returned (.int .i64 (cellD zs (r * W + c))) ∧ w = w' := by
  obtain ⟨b1, b2, b3⟩ := placeBd hr hc h.rows h.width
  have h0 : 0 < R * W := by omega
  obtain ⟨cap, hb, hcap⟩ := h.fields
  obtain ⟨cur, hC, hcur⟩ := h.cells
  have c2 := hb.cell 2
  simp at c2
  have hz : zs[r * W + c]? = some (cellD zs (r * W + c)) := by
    have : r * W + c < zs.length := by rw [h.len]; omega
    simp [cellD, this]
  have cc := (hC.cell (r * W + c)).trans (hcur _ _ hz)
  have H := Lib.hid h
  clear h hb hC hcur hz h0
  have hlt : r * W + c < R * W := b1
  have PL := place_in w G C R W r c zs H.out hr hc
  clear hr hc b2
  generalize cellD zs (r * W + c) = z at *
  generalize r * W + c = f at *
  generalize R * W = n at *
  go_enter Try.func78, Try.ntmps78
  go_wp2_with (go_at_call 81; refine PL.mono ?_; rintro e w' ⟨rfl, rfl⟩)
  go_ret
  exact ⟨rfl, rfl⟩
theorem at_out (w : World) (G C R W : Nat) (r c : Int) (zs : List Int) (h : GridIs w G C R W zs) (ho : r < 0 ∨ (R : Int) ≤ r ∨ c < 0 ∨ (W : Int) ≤ c) :
    Calls Try.prog 78 #[.pointer (some ⟨G, 0, none⟩), .int .i64 r, .int .i64 c] w fun e w' => e = .returned (.int .i64 0) ∧ w = w' := by
  have PL := place_out w G C R W r c zs h ho
  clear h ho
  go_enter Try.func78, Try.ntmps78
  go_wp2_with (go_at_call 81; refine PL.mono ?_; rintro e w' ⟨rfl, rfl⟩)
  go_ret
  exact ⟨rfl, rfl⟩

theorem put_in (w : World) (G C R W r c : Nat) (u : Int) (zs : List Int) (h : GridIs w G C R W zs) (hr : r < R) (hc : c < W) :
    Calls Try.prog 79 #[.pointer (some ⟨G, 0, none⟩), .int .i64 (r : Int), .int .i64 (c : Int), .int .i64 u] w fun e w' => e = .returned (.bool true) ∧ w' = w.setCell ⟨C, r * W + c, none⟩ (.int .i64 u) := by
  obtain ⟨b1, b2, b3⟩ := placeBd hr hc h.rows h.width
  have h0 : 0 < R * W := by omega
  obtain ⟨cap, hb, hcap⟩ := h.fields
  obtain ⟨cur, hC, hcur⟩ := h.cells
  have c2 := hb.cell 2
  simp at c2
  have hz : zs[r * W + c]? = some (cellD zs (r * W + c)) := by
    have : r * W + c < zs.length := by rw [h.len]; omega
    simp [cellD, this]
  have cc := (hC.cell (r * W + c)).trans (hcur _ _ hz)
  have hfz := hC.frozen (r * W + c)
  have H := Lib.hid h
  clear h hb hC hcur hz h0
  have hlt : r * W + c < R * W := b1
  have PL := place_in w G C R W r c zs H.out hr hc
  clear hr hc b2
  generalize cellD zs (r * W + c) = z at *
  generalize r * W + c = f at *
  generalize R * W = n at *
  go_enter Try.func79, Try.ntmps79
  go_wp2_with (go_at_call 81; refine PL.mono ?_; rintro e w' ⟨rfl, rfl⟩)
  go_ret
  exact ⟨rfl, rfl⟩
theorem put_out (w : World) (G C R W : Nat) (r c u : Int) (zs : List Int) (h : GridIs w G C R W zs) (ho : r < 0 ∨ (R : Int) ≤ r ∨ c < 0 ∨ (W : Int) ≤ c) :
    Calls Try.prog 79 #[.pointer (some ⟨G, 0, none⟩), .int .i64 r, .int .i64 c, .int .i64 u] w fun e w' => e = .returned (.bool false) ∧ w' = w := by
  have PL := place_out w G C R W r c zs h ho
  clear h ho
  go_enter Try.func79, Try.ntmps79
  go_wp2_with (go_at_call 81; refine PL.mono ?_; rintro e w' ⟨rfl, rfl⟩)
  go_ret
  exact ⟨rfl, rfl⟩
end Go.Proofs.Ythbkljeibmkimaa

/-
  The walks of grid.New, Rows, Width. Conditions: none beyond those stated at each theorem.
-/
namespace Go.Proofs.Ythbkljeibmkimaa
open Go.RowKit
set_option linter.unusedVariables false
set_option linter.unusedSimpArgs false

def clampN (n : Int) (top : Nat) : Nat := min n.toNat top
theorem clampN_le (n : Int) (top : Nat) : clampN n top ≤ top := Nat.min_le_right _ _

theorem rows_any (w : World) (G C R W : Nat) (zs : List Int) (h : GridIs w G C R W zs) :
    Calls Try.prog 105 #[.pointer (some ⟨G, 0, none⟩)] w fun e w' => e = .returned (.int .i64 (R : Int)) ∧ w' = w := by
  obtain ⟨cap, hb, _⟩ := h.fields
  have c0 := hb.cell 0
  simp at c0
  clear h hb
  go_enter Try.func105, Try.ntmps105
  go_wp2
  go_ret
  exact ⟨rfl, rfl⟩
theorem width_any (w : World) (G C R W : Nat) (zs : List Int) (h : GridIs w G C R W zs) :
    Calls Try.prog 76 #[.pointer (some ⟨G, 0, none⟩)] w fun e w' => e = .returned (.int .i64 (W : Int)) ∧ w' = w := by
  obtain ⟨cap, hb, _⟩ := h.fields
  have c0 := hb.cell 1
  simp at c0
  clear h hb
  go_enter Try.func76, Try.ntmps76
  go_wp2
  go_ret
  exact ⟨rfl, rfl⟩

theorem Try.info64 : (Try.prog.info? 2).map (fun i => (i.zero, i.size, i.bytes)) = some (some (.int .i64 0), 1, 8) := by kernel_rfl

def NewPost (w : World) (R W : Nat) (e : Ending) (w' : World) : Prop :=
  ∃ G C, e = .returned (.pointer (some ⟨G, 0, none⟩)) ∧ w.heap.size ≤ G ∧ w.heap.size ≤ C ∧ GridIs w' G C R W (List.replicate (R * W) 0) ∧ Below w.heap.size w w'

set_option maxRecDepth 100000 in
theorem new_any (r c : Int) (w : World) : Calls Try.prog 49 #[.int .i64 r, .int .i64 c] w (NewPost w (clampN r 8) (clampN c 128)) := by
  have hr := clampN_le r 8
  have hc := clampN_le c 128
  obtain ⟨mr, er⟩ : ∃ m, (if r < 0 then 0 else r) = m := ⟨_, rfl⟩
  obtain ⟨mc, ec⟩ : ∃ m, (if c < 0 then 0 else c) = m := ⟨_, rfl⟩
  have fr : (if 8 < mr then 8 else mr) = (clampN r 8 : Int) := by simp only [clampN]; split at er <;> split <;> omega
  have fc : (if 128 < mc then 128 else mc) = (clampN c 128 : Int) := by simp only [clampN]; split at ec <;> split <;> omega
  generalize clampN r 8 = R at *
  generalize clampN c 128 = W at *
  obtain ⟨n, hn⟩ : ∃ n, n = R * W := ⟨_, rfl⟩
  have hm : (R : Int) * (W : Int) = (n : Int) := by simp [hn]
  have hp : n ≤ 1024 := by rw [hn]; exact Nat.mul_le_mul hr hc
  have HN := Lib.hid hn
  clear hn
  have hmk := fun W => run_make_row' (P := Try.prog) 120 2 (.int .i64 0) 8 Try.underlying120 Try.info64 rfl .i64 .i64 n (by omega) (by omega) W
  go_enter Try.func49, Try.ntmps49
  go_wp2_with fail
  go_ret
  have hn := HN.out
  refine ⟨w.heap.size + 1, w.heap.size, rfl, by omega, by omega, ⟨⟨n, ?_, by omega⟩, by simp, ⟨madeCells #[.int .i64 0] n, (Blk.new _ _ _).alloc _, fun i u hi => ?_⟩, hr, hc, fun u hu => by simp at hu; omega⟩, ((Below.refl _ _).alloc (Nat.le_refl _) _).alloc (by simp) _⟩
  · have := Blk.new (w.alloc (.cells (madeCells #[.int .i64 0] n) 2)) 122 #[.int .i64 (R : Int), .int .i64 (W : Int), .slice (some ⟨w.heap.size, 0, none⟩) n n]
    rw [← hn]
    simpa using this
  · have hin : i < n := by
      have := (List.getElem?_eq_some_iff.1 hi).1
      simp at this
      omega
    have hu : u = 0 := by
      have := List.mem_of_getElem? hi
      simp at this
      exact this.2
    subst hu
    have h1 := (World.rowIs_made w (.int .i64 0) n 2).cell hin
    rw [(Blk.new w 2 (madeCells #[.int .i64 0] n)).cell i] at h1
    exact h1
end Go.Proofs.Ythbkljeibmkimaa

/-
  The walks of slices.Clone, grid.Cells. Conditions: none beyond those stated at each theorem.
-/
namespace Go.Proofs.Ythbkljeibmkimaa
open Go.RowKit
set_option linter.unusedVariables false
set_option linter.unusedSimpArgs false

theorem Try.sl64 (w : World) (a : Option Addr) (n c : Nat) : Sem.run Try.prog (binOp .eql 120 (.slice a n c) (.slice none 0 0)) w = .ok (.bool a.isNone) w := Go.Lib.run_eql_slice_nil w 120 2 a n c 0 0 Try.underlying120

def ClonePost (w : World) (zs : List Int) (e : Ending) (w' : World) : Prop :=
  ∃ v, e = .returned v ∧ w'.ownsRow w.heap.size 2 1 v zs.length (zs.map (Value.int .i64)) ∧ v ≠ .slice none 0 0 ∧ Below w.heap.size w w'

def CellsPost (w : World) (zs : List Int) (e : Ending) (w' : World) : Prop :=
  ∃ v, e = .returned v ∧ w'.ownsRow w.heap.size 2 1 v zs.length (zs.map (Value.int .i64)) ∧ v ≠ .slice none 0 0 ∧ Below w.heap.size w w'
/-- what the call has made is a row that reads as zs -/
theorem own_row {w : World} {base : Nat} {v : Value} {zs : List Int} (h : w.ownsRow base 2 1 v zs.length (zs.map (Value.int .i64))) (hv : v ≠ .slice none 0 0) :
    ∃ g cap, v = .slice (some ⟨g, 0, none⟩) zs.length cap ∧ base ≤ g ∧ zs.length ≤ cap ∧ ∃ cur : Array Value, Blk w g 2 cur ∧ ∀ (i : Nat) (u : Int), zs[i]? = some u → cur[i]? = some (Value.int .i64 u) := by
  rcases h.2 with ⟨rfl, h0⟩ | ⟨g, cap, cur, rfl, hb, hg, hnc, hcm, hsz, htake⟩
  · exact absurd rfl hv
  · refine ⟨g, cap, rfl, hb, hnc, cur, hg, fun i u hu => ?_⟩
    have hi : i < zs.length := (List.getElem?_eq_some_iff.1 hu).1
    have h2 : (cur.toList.take (zs.length * 1))[i]? = (zs.map (Value.int .i64))[i]? := by rw [htake]
    rw [List.getElem?_take, if_pos (by omega)] at h2
    simp only [List.getElem?_map, hu, Option.map_some] at h2
    simpa using h2

def CopyPost (w : World) (R W : Nat) (zs : List Int) (e : Ending) (w' : World) : Prop :=
  ∃ G C, e = .returned (.pointer (some ⟨G, 0, none⟩)) ∧ w.heap.size ≤ G ∧ w.heap.size ≤ C ∧ GridIs w' G C R W zs ∧ Below w.heap.size w w'
end Go.Proofs.Ythbkljeibmkimaa

/-
  Plain numbers, no program: digits of sixteen bits, and their sums. Conditions: none beyond those stated at each theorem.
-/
namespace Go.Proofs.Ythbkljeibmkimaa
open Go.RowKit
set_option linter.unusedVariables false
set_option linter.unusedSimpArgs false

def digit (x : Int) (i : Nat) : Int := x / 65536 ^ i % 65536
theorem digit_bd (x : Int) (i : Nat) : 0 ≤ digit x i ∧ digit x i ≤ 65535 := by unfold digit; omega
theorem pw_pos (i : Nat) : (0 : Int) < 65536 ^ i := Int.pow_pos (by decide)

/-- what is below digit j -/
def lows (x : Int) (j : Nat) : Int := x % 65536 ^ j
theorem lows_bd (x : Int) (j : Nat) : 0 ≤ lows x j ∧ lows x j < 65536 ^ j :=
  ⟨Int.emod_nonneg _ (by have := pw_pos j; omega), Int.emod_lt_of_pos _ (pw_pos j)⟩
theorem split_at (x : Int) (j : Nat) : x = 65536 ^ j * (x / 65536 ^ j) + lows x j := (Int.mul_ediv_add_emod x _).symm
theorem div_next (x : Int) (j : Nat) : x / 65536 ^ (j + 1) = x / 65536 ^ j / 65536 := by
  rw [Int.pow_succ, Int.ediv_ediv_of_nonneg (by have := pw_pos j; omega)]
theorem lows_succ (x : Int) (j : Nat) : lows x (j + 1) = lows x j + 65536 ^ j * digit x j := by
  have h1 := split_at x j
  have h2 := split_at x (j + 1)
  have h3 : x / 65536 ^ j = 65536 * (x / 65536 ^ j / 65536) + digit x j := (Int.mul_ediv_add_emod _ _).symm
  rw [div_next, Int.pow_succ] at h2
  have h4 : (65536 : Int) ^ j * (x / 65536 ^ j) = 65536 ^ j * 65536 * (x / 65536 ^ j / 65536) + 65536 ^ j * digit x j := by
    conv => lhs; rw [h3]
    rw [Int.mul_add, ← Int.mul_assoc]
  omega
theorem lows_zero (x : Int) : lows x 0 = 0 := by simp [lows, Int.emod_one]

/-- what is carried to digit j -/
def carryI (x y : Int) (j : Nat) : Int := (lows x j + lows y j) / 65536 ^ j
theorem carryI_bd (x y : Int) (j : Nat) : 0 ≤ carryI x y j ∧ carryI x y j ≤ 1 := by
  have hp := pw_pos j
  have h1 := lows_bd x j
  have h2 := lows_bd y j
  refine ⟨Int.ediv_nonneg (by omega) (by omega), ?_⟩
  have : carryI x y j < 2 := Int.ediv_lt_of_lt_mul hp (by omega)
  omega
theorem carryI_zero (x y : Int) : carryI x y 0 = 0 := by simp [carryI, lows_zero]
theorem carryI_succ (x y : Int) (j : Nat) : carryI x y (j + 1) = (digit x j + digit y j + carryI x y j) / 65536 := by
  have hp := pw_pos j
  unfold carryI
  rw [lows_succ, lows_succ, Int.pow_succ, ← Int.ediv_ediv_of_nonneg (by omega)]
  congr 1
  rw [show lows x j + 65536 ^ j * digit x j + (lows y j + 65536 ^ j * digit y j) = (lows x j + lows y j) + 65536 ^ j * (digit x j + digit y j) by rw [Int.mul_add]; omega,
    Int.add_mul_ediv_left _ _ (by omega)]
  omega
theorem digit_add (x y : Int) (j : Nat) : digit (x + y) j = (digit x j + digit y j + carryI x y j) % 65536 := by
  have hp := pw_pos j
  have h1 := split_at x j
  have h2 := split_at y j
  have h3 : (x + y) / 65536 ^ j = x / 65536 ^ j + y / 65536 ^ j + carryI x y j := by
    conv => lhs; rw [h1, h2]
    rw [show 65536 ^ j * (x / 65536 ^ j) + lows x j + (65536 ^ j * (y / 65536 ^ j) + lows y j) = (lows x j + lows y j) + 65536 ^ j * (x / 65536 ^ j + y / 65536 ^ j) by rw [Int.mul_add]; omega,
      Int.add_mul_ediv_left _ _ (by omega)]
    unfold carryI
    omega
  unfold digit
  rw [h3]
  omega
theorem digit_not (x : Int) (j : Nat) : digit (-1 - x) j = 65535 - digit x j := by
  have hp := pw_pos j
  have h1 := split_at x j
  have h2 := lows_bd x j
  have h3 : (-1 - x) / 65536 ^ j = -1 - x / 65536 ^ j := by
    have e : -1 - x = (65536 ^ j - 1 - lows x j) + 65536 ^ j * (-1 - x / 65536 ^ j) := by
      rw [Int.mul_sub]
      omega
    rw [e, Int.add_mul_ediv_left _ _ (by omega), Int.ediv_eq_zero_of_lt (by omega) (by omega)]
    omega
  unfold digit
  rw [h3]
  omega

def dig (x : Int) : List Int := (List.range 10).map (digit x)
theorem dig_len (x : Int) : (dig x).length = 10 := by simp [dig]
theorem dig_get (x : Int) (i : Nat) (h : i < 10) : (dig x)[i]? = some (digit x i) := by simp [dig, h]
theorem lows_of_dig {x y : Int} (h : dig x = dig y) (j : Nat) (hj : j ≤ 10) : lows x j = lows y j := by
  induction j with
  | zero => rw [lows_zero, lows_zero]
  | succ j ih =>
    rw [lows_succ, lows_succ, ih (by omega)]
    have h1 := dig_get x j (by omega)
    rw [h, dig_get y j (by omega)] at h1
    rw [Option.some.inj h1]
theorem dig_inj {x y : Int} (h : dig x = dig y) : x % 1461501637330902918203684832716283019655932542976 = y % 1461501637330902918203684832716283019655932542976 := by
  have := lows_of_dig h 10 (Nat.le_refl _)
  simpa [lows] using this

/-- what of a number sixty-four bits tell -/
def low64 (x : Int) : Int := wrap64 (x % 18446744073709551616)
theorem low64_bd (x : Int) : -9223372036854775808 ≤ low64 x ∧ low64 x ≤ 9223372036854775807 := by unfold low64 wrap64; omega
theorem low64_fit {x : Int} (x0 : -9223372036854775808 ≤ x) (x1 : x ≤ 9223372036854775807) : low64 x = x := by unfold low64 wrap64; omega
theorem dig_low64 {x : Int} (h : -9223372036854775808 ≤ x ∧ x ≤ 9223372036854775807) : dig (low64 x) = dig x := by rw [low64_fit h.1 h.2]
theorem dig_low64_ne {x : Int} (h0 : -365375409332725729550921208179070754913983135744 ≤ x) (h1 : x ≤ 365375409332725729550921208179070754913983135744) (h : ¬ (-9223372036854775808 ≤ x ∧ x ≤ 9223372036854775807)) : ¬ dig (low64 x) = dig x := by
  intro e
  have h2 := dig_inj e
  have h3 := low64_bd x
  omega

theorem and_lo16 (a : Int) (h0 : 0 ≤ a) (h1 : a ≤ 18446744073709551615) : bits BinOp.and IntKind.u64 a 65535 = a % 65536 := by
  have h := u64_and a 65535 h0 (by omega) (by omega) (by omega)
  rw [h]
  have : (65535 : Int).toNat = 2 ^ 16 - 1 := by decide +kernel
  rw [this, Nat.and_two_pow_sub_one_eq_mod]
  have e : ((a.toNat % 2 ^ 16 : Nat) : Int) = (a.toNat : Int) % 65536 := by
    rw [Int.natCast_emod]; rfl
  rw [e, Int.toNat_of_nonneg h0]
theorem or_at (S d : Int) (i : Nat) (h0 : 0 ≤ S) (h1 : S < 2 ^ i) (d0 : 0 ≤ d) (ht : 2 ^ i * d < 18446744073709551616) (hi : (2 : Int) ^ i < 18446744073709551616) : bits BinOp.or IntKind.u64 S (d * 2 ^ i) = S + 2 ^ i * d := by
  obtain ⟨s, rfl⟩ := Int.eq_ofNat_of_zero_le h0
  obtain ⟨e, rfl⟩ := Int.eq_ofNat_of_zero_le d0
  have c1 : ((2 ^ i : Nat) : Int) = (2 : Int) ^ i := Int.natCast_pow ..
  have c2 : ((2 ^ i * e : Nat) : Int) = (2 : Int) ^ i * (e : Int) := by rw [Int.natCast_mul, c1]
  have hs : s < 2 ^ i := by omega
  rw [Int.mul_comm, ← c2, u64_or_nat _ _ (by omega) (by omega), Nat.or_comm, ← Nat.two_pow_add_eq_or_of_lt hs]
  omega
theorem wrapI_eq64 (x : Int) : IntKind.i64.wrap x = wrap64 x := by
  simp [IntKind.wrap, IntKind.bits, IntKind.signed]; unfold wrap64; split <;> omega
theorem wrapU_mod (x : Int) : IntKind.u64.wrap x = x % 18446744073709551616 := by simp [IntKind.wrap, IntKind.bits, IntKind.signed]
theorem wrap64_small (x : Int) (h0 : 0 ≤ x) (h1 : x ≤ 65535) : wrap64 x = x := by unfold wrap64; omega
theorem ofd0 (n : Int) : wrap64 (bits BinOp.and IntKind.u64 (IntKind.u64.wrap n) 65535) = digit n 0 := by
  rw [wrapU_mod, and_lo16 _ (by omega) (by omega), wrap64_small _ (by omega) (by omega)]
  unfold digit; simp
theorem ofd1 (n : Int) : wrap64 (bits BinOp.and IntKind.u64 (IntKind.u64.wrap n / 65536) 65535) = digit n 1 := by
  rw [wrapU_mod, and_lo16 _ (by omega) (by omega), wrap64_small _ (by omega) (by omega)]
  unfold digit; simp; omega
theorem ofd2 (n : Int) : wrap64 (bits BinOp.and IntKind.u64 (IntKind.u64.wrap n / 4294967296) 65535) = digit n 2 := by
  rw [wrapU_mod, and_lo16 _ (by omega) (by omega), wrap64_small _ (by omega) (by omega)]
  unfold digit; simp; omega
theorem ofd3 (n : Int) : wrap64 (bits BinOp.and IntKind.u64 (IntKind.u64.wrap n / 281474976710656) 65535) = digit n 3 := by
  rw [wrapU_mod, and_lo16 _ (by omega) (by omega), wrap64_small _ (by omega) (by omega)]
  unfold digit; simp; omega
theorem digit_hi (n : Int) (n0 : -9223372036854775808 ≤ n) (n1 : n ≤ 9223372036854775807) (j : Nat) (hj : 4 ≤ j) : digit n j = if n < 0 then 65535 else 0 := by
  have hp : (18446744073709551616 : Int) ≤ 65536 ^ j := by
    obtain ⟨k, rfl⟩ : ∃ k, j = 4 + k := ⟨j - 4, by omega⟩
    rw [Int.pow_add]
    have := pw_pos k
    have : (65536 : Int) ^ 4 * 1 ≤ 65536 ^ 4 * 65536 ^ k := Int.mul_le_mul_of_nonneg_left (by omega) (by decide)
    omega
  unfold digit
  split
  · have : n / 65536 ^ j = -1 := by
      have h1 := split_at n j
      have h2 := lows_bd n j
      have h3 : n / 65536 ^ j < 0 := Int.ediv_neg_of_neg_of_pos (by omega) (by omega)
      have h4 : -1 ≤ n / 65536 ^ j := Int.le_ediv_of_mul_le (by omega) (by omega)
      omega
    rw [this]; rfl
  · rw [Int.ediv_eq_zero_of_lt (by omega) (by omega)]; rfl

theorem lor0 (x : Int) : bits BinOp.or IntKind.u64 (lows x 0) (digit x 0) = lows x 1 := by
  have h1 := lows_bd x 0; have h2 := digit_bd x 0
  have := or_at (lows x 0) (digit x 0) 0 (by omega) (by simpa using h1.2) (by omega) (by simp; omega) (by decide)
  rw [lows_succ]; simpa using this
theorem lor1 (x : Int) : bits BinOp.or IntKind.u64 (lows x 1) (digit x 1 * 65536) = lows x 2 := by
  have h1 := lows_bd x 1; have h2 := digit_bd x 1
  have := or_at (lows x 1) (digit x 1) 16 (by omega) (by simpa using h1.2) (by omega) (by simp; omega) (by decide)
  rw [lows_succ x 1]; simpa using this
theorem lor2 (x : Int) : bits BinOp.or IntKind.u64 (lows x 2) (digit x 2 * 4294967296) = lows x 3 := by
  have h1 := lows_bd x 2; have h2 := digit_bd x 2
  have := or_at (lows x 2) (digit x 2) 32 (by omega) (by simpa using h1.2) (by omega) (by simp; omega) (by decide)
  rw [lows_succ x 2]; simpa using this
theorem lor3 (x : Int) : bits BinOp.or IntKind.u64 (lows x 3) (digit x 3 * 281474976710656) = lows x 4 := by
  have h1 := lows_bd x 3; have h2 := digit_bd x 3
  have := or_at (lows x 3) (digit x 3) 48 (by omega) (by simpa using h1.2) (by omega) (by simp; omega) (by decide)
  rw [lows_succ x 3]; simpa using this
theorem low64_lows (x : Int) : wrap64 (lows x 4) = low64 x := by unfold low64 lows; rfl

def intsV (l : List Int) : Array Value := (l.map (Value.int .i64)).toArray
theorem intsV_get (l : List Int) (i : Nat) : (intsV l)[i]? = (l[i]?).map (Value.int .i64) := by simp [intsV]
theorem intsV_size (l : List Int) : (intsV l).size = l.length := by simp [intsV]
def longA (x : Int) : Array Value := intsV (dig x)
theorem longA_size (x : Int) : (longA x).size = 10 := by rw [longA, intsV_size, dig_len]
theorem longA_get (x : Int) (i : Nat) (h : i < 10) : (longA x)[i]? = some (.int .i64 (digit x i)) := by rw [longA, intsV_get, dig_get x i h]; rfl

theorem Blk.of_row {w : World} {b : Nat} {t : TypeId} {f : Nat → Value} {cs : Array Value} (h : w.rowIs b t cs.size f) (e : ∀ i, i < cs.size → cs[i]? = some (f i)) : Blk w b t cs := by
  obtain ⟨c, hb, hn, hc⟩ := h
  have : c = cs := by
    apply Array.ext_getElem?
    intro i
    by_cases hi : i < cs.size
    · rw [hc i hi, e i hi]
    · rw [Array.getElem?_eq_none (by omega), Array.getElem?_eq_none (by omega)]
  rw [← this]
  exact hb
theorem Blk.row {w : World} {b : Nat} {t : TypeId} {f : Nat → Value} {cs : Array Value} (h : Blk w b t cs) (e : ∀ i, i < cs.size → cs[i]? = some (f i)) : w.rowIs b t cs.size f := ⟨cs, h, rfl, e⟩

/-- a row whose first j cells are f's -/
def RowUpTo (w : World) (b : Nat) (t : TypeId) (n : Nat) (f : Nat → Int) (j : Nat) : Prop := ∃ g : Nat → Int, w.rowIs b t n (fun k => .int .i64 (g k)) ∧ ∀ k, k < j → g k = f k
section
variable {w w' : World} {b : Nat} {t : TypeId} {n : Nat} {f : Nat → Int} {j : Nat}
theorem RowUpTo.any (h : RowUpTo w b t n f j) (v : Int) : RowUpTo (w.setCell ⟨b, j, none⟩ (.int .i64 v)) b t n f j := by
  obtain ⟨g, h1, h2⟩ := h
  refine ⟨fun k => if k = j then v else g k, (h1.set j _).congr (fun k _ => by by_cases e : k = j <;> simp [e]), fun k hk => ?_⟩
  show (if k = j then v else g k) = f k
  rw [if_neg (by omega)]; exact h2 k hk
theorem RowUpTo.put (h : RowUpTo w b t n f j) {v : Int} (hv : v = f j) : RowUpTo (w.setCell ⟨b, j, none⟩ (.int .i64 v)) b t n f (j + 1) := by
  obtain ⟨g, h1, h2⟩ := h
  refine ⟨fun k => if k = j then v else g k, (h1.set j _).congr (fun k _ => by by_cases e : k = j <;> simp [e]), fun k hk => ?_⟩
  show (if k = j then v else g k) = f k
  by_cases e : k = j
  · subst e; rw [if_pos rfl, hv]
  · rw [if_neg e]; exact h2 k (by omega)
theorem RowUpTo.lt (h : RowUpTo w b t n f j) : b < w.heap.size := by obtain ⟨g, h1, _⟩ := h; exact h1.lt
theorem RowUpTo.far (h : RowUpTo w b t n f j) {p : Addr} (hp : b ≠ p.block) (u : Value) : RowUpTo (w.setCell p u) b t n f j := by obtain ⟨g, h1, h2⟩ := h; exact ⟨g, h1.setOther hp u, h2⟩
theorem RowUpTo.kept (h : RowUpTo w b t n f j) (hb : Below w.heap.size w w') : RowUpTo w' b t n f j := by obtain ⟨g, h1, h2⟩ := h; exact ⟨g, h1.of_block (hb.block b h1.lt), h2⟩
theorem RowUpTo.drewN (h : RowUpTo w b t n f j) (q : Nat) : RowUpTo (w.drewN q) b t n f j := by obtain ⟨g, h1, h2⟩ := h; exact ⟨g, h1, h2⟩
theorem RowUpTo.cell (h : RowUpTo w b t n f j) {i : Nat} (hi : i < n) : ∃ v : Int, w.cell? ⟨b, i, none⟩ = some (.int .i64 v) := by obtain ⟨g, h1, h2⟩ := h; exact ⟨_, h1.cell hi⟩
theorem RowUpTo.frozen (h : RowUpTo w b t n f j) (i : Nat) : w.frozen? ⟨b, i, none⟩ = false := by obtain ⟨g, h1, h2⟩ := h; exact h1.frozen i
theorem RowUpTo.zeros (h : w.rowIs b t n (fun _ => .int .i64 0)) (f : Nat → Int) : RowUpTo w b t n f 0 := ⟨fun _ => 0, h, fun k hk => by omega⟩
theorem RowUpTo.full (h : RowUpTo w b t n f n) : w.rowIs b t n (fun k => .int .i64 (f k)) := by
  obtain ⟨g, h1, h2⟩ := h
  exact h1.congr (fun k hk => by rw [h2 k hk])
end

section
variable {P : Program}
theorem run_eqItems_ints (d : Nat) {e : TypeId} {k : IntKind} (hu : P.underlying e = some (.int k)) (xs ys : List Int) (w : World) :
    ∀ (is : List Nat), (∀ i ∈ is, i < xs.length ∧ i < ys.length) → (Op.eqItems (d + 1) e 1 (intsV xs) (intsV ys) is).run P w = .ok (is.all fun i => xs[i]? == ys[i]?) w := by
  have hagg : (isAgg e).run P w = .ok false w := by
    unfold isAgg
    rw [Sem.run_bind, run_underlying hu w]
    rfl
  have hp : ∀ (l : List Int) (i : Nat), i < l.length → (part e (intsV l) i).run P w = .ok (.int .i64 (l[i]?.getD 0)) w := by
    intro l i hi
    unfold part
    rw [Sem.run_bind, hagg]
    simp [intsV_get, hi]
  intro is
  induction is with
  | nil => intro _; simp [Op.eqItems]
  | cons i is ih =>
    intro h
    obtain ⟨hx, hy⟩ := h i (by simp)
    have ih := ih (fun j hj => h j (by simp [hj]))
    simp only [Op.eqItems, Sem.run_bind, Nat.mul_one, hp xs i hx, hp ys i hy, Result.andThen_ok, run_equalIn_int w d e .i64 k _ _ hu]
    have e1 : xs[i]? = some xs[i] := List.getElem?_eq_getElem hx
    have e2 : ys[i]? = some ys[i] := List.getElem?_eq_getElem hy
    simp only [e1, e2, Option.getD_some, List.all_cons]
    by_cases e3 : xs[i] = ys[i]
    · simp [e3, ih]
    · simp [e3]
end
section
variable {P : Program}
theorem all_eq_iff (xs ys : List Int) (hl : xs.length = ys.length) : ((List.range xs.length).all fun i => xs[i]? == ys[i]?) = decide (xs = ys) := by
  rw [Bool.eq_iff_iff]
  simp only [List.all_eq_true, List.mem_range, beq_iff_eq, decide_eq_true_eq]
  constructor
  · intro h
    apply List.ext_getElem?
    intro i
    by_cases hi : i < xs.length
    · exact h i hi
    · rw [List.getElem?_eq_none (by omega), List.getElem?_eq_none (by omega)]
  · rintro rfl i _; rfl
theorem run_equalIn_ints (d : Nat) {t e : TypeId} {n : Nat} {k : IntKind} {i : TypeInfo} (hu : P.underlying t = some (.array n e)) (hue : P.underlying e = some (.int k)) (hi : P.info? e = some i) (hc : P.cellsOf e = 1)
    (xs ys : List Int) (hx : xs.length = n) (hy : ys.length = n) (w : World) :
    (Op.equalIn (d + 2) t (.agg (intsV xs)) (.agg (intsV ys))).run P w = .ok (decide (xs = ys)) w := by
  rw [run_equalIn_array w (d + 1) (intsV xs) (intsV ys) hu hi, hc, run_eqItems_ints d hue xs ys w _ (fun i hi => by rw [List.mem_range] at hi; omega), ← hx, all_eq_iff xs ys (by omega)]
theorem exec_load_row {o : Oper} {a : Act} {w : World} (ty : TypeId) (x : Operand) (ho : o.op = .load ty x)
    (g : Nat) (hx : a.eval x = .pointer (some ⟨g, 0, none⟩)) (t : TypeId) (cs : Array Value) (fr : Nat × Nat) (d : TypeDesc) (hg : w.heap[g]? = some (.cells cs t fr))
    (hu : P.underlying ty = some d) (hd : (match d with | .struct _ | .array _ _ => true | _ => false) = true) (hi : (P.info? ty).map (·.size) = some cs.size) :
    (execOp a.eval o).run P w = .ok (.value (.agg cs)) w := by
  unfold execOp
  simp only [ho, hx, Instr.loadAt, Instr.sureAddr, Sem.run_bind, Sem.run_pure, Result.andThen_ok, run_loadVar_row w g t ty cs fr d hg hu hd hi]
end
end Go.Proofs.Ythbkljeibmkimaa

/-
  The walks of order.part, Kth, Min, Median. Conditions: none beyond those stated at each theorem.
-/
namespace Go.Proofs.Ythbkljeibmkimaa
open Go.RowKit
set_option linter.unusedVariables false
set_option linter.unusedSimpArgs false

theorem Blk.setRow_same {w : World} {g : Nat} {t : TypeId} {cs : Array Value} (h : Blk w g t cs) : w.setRow g cs = w := by
  have h2 : (w.setRow g cs).heap = w.heap := by
    apply Array.ext_getElem?
    intro i
    unfold World.setRow
    simp only
    rw [Array.getElem?_modify]
    by_cases e : g = i
    · subst e
      unfold Blk at h
      simp [h]
    · simp [e]
  calc w.setRow g cs = { w with heap := (w.setRow g cs).heap } := rfl
    _ = w := by rw [h2]
theorem grown_cell_far (w : World) (p : Addr) (u : Value) {g : Nat} (h : g ≠ p.block) (i : Nat) : (w.setCell p u).cell? ⟨g, i, none⟩ = w.cell? ⟨g, i, none⟩ := by
  have hg : w.grownBy (w.setCell p u) (some p.block) := ⟨rfl, rfl, rfl, by simp [World.setCell], fun k hk hne => Below.heap_setCell _ _ _ _ (by simpa using hne)⟩
  cases hc : w.cell? ⟨g, i, none⟩ with
  | some x => exact hg.cell hc (by simpa using h)
  | none => simp only [World.cell?] at hc ⊢; rw [Below.heap_setCell _ _ _ _ h]; exact hc
theorem IntsAt.far {w : World} {v : Value} {zs : List Int} {p : Addr} (h : IntsAt w v zs) (hne : v.ownBlock ≠ some p.block) (u : Value) : IntsAt (w.setCell p u) v zs := by
  obtain ⟨ao, cap, rfl, hc, h⟩ := h
  refine ⟨ao, cap, rfl, hc, fun h0 => ?_⟩
  obtain ⟨g, rfl, hg, hc⟩ := h h0
  have hne : g ≠ p.block := fun e => hne (by simp [Value.ownBlock, e])
  exact ⟨g, rfl, by simpa [World.setCell] using hg, fun i u' hu => (grown_cell_far w p u hne i).trans (hc i u' hu)⟩
theorem results_row2_tmp {P : Program} {fn : Func} {p q u : Tmp} {ty : TypeId} (h : fn.results = #[.cell p ty, .cell q ty, .tmp u]) (tmps : Array Value) (w : World) (g g' : Nat) (t t' : TypeId) (cs cs' : Array Value) (fr fr' : Nat × Nat) (d : TypeDesc)
    (hp : tmps.getD p undef = .pointer (some ⟨g, 0, none⟩)) (hq : tmps.getD q undef = .pointer (some ⟨g', 0, none⟩)) (hg : w.heap[g]? = some (.cells cs t fr)) (hg' : w.heap[g']? = some (.cells cs' t' fr'))
    (hu : P.underlying ty = some d) (hd : (match d with | .struct _ | .array _ _ => true | _ => false) = true) (hi : (P.info? ty).map (·.size) = some cs.size) (hi' : (P.info? ty).map (·.size) = some cs'.size) :
    (results fn tmps).run P w = .ok (.tuple #[.agg cs, .agg cs', tmps.getD u undef]) w := by
  have hp' : tmps[p]?.getD undef = .pointer (some ⟨g, 0, none⟩) := by simpa using hp
  have hq' : tmps[q]?.getD undef = .pointer (some ⟨g', 0, none⟩) := by simpa using hq
  simp [results, h, hp', hq', asAddr, run_loadVar_row w g t ty cs fr d hg hu hd hi, run_loadVar_row w g' t' ty cs' fr' d hg' hu hd hi']
/-- two rows that are being filled: their slices stand in the blocks A + 1 and A + 1 + 1 -/
structure PartSt (w : World) (A : Nat) (lv mv : Value) (ls ms : List Int) : Prop where
  b1 : Blk w (A + 1) 167 #[lv]
  b2 : Blk w (A + 1 + 1) 167 #[mv]
  o1 : w.ownsRow (A + 3) 2 1 lv ls.length (ls.map (Value.int .i64))
  o2 : w.ownsRow (A + 3) 2 1 mv ms.length (ms.map (Value.int .i64))
  apart : ∀ k, lv.ownBlock = some k → mv.ownBlock ≠ some k
theorem own_slice {w : World} {base : Nat} {e : TypeId} {v : Value} {n : Nat} {xs : List Value} (h : w.ownsRow base e 1 v n xs) : ∃ ao cap, v = .slice ao n cap := by
  rcases h.2 with ⟨rfl, rfl⟩ | ⟨g, cap, cur, h1, _⟩
  · exact ⟨none, 0, rfl⟩
  · exact ⟨_, _, h1⟩
theorem PartSt.kept {w w' : World} {A : Nat} {lv mv : Value} {ls ms : List Int} (h : PartSt w A lv mv ls ms) (hb : Below w.heap.size w w') : PartSt w' A lv mv ls ms := by
  have hg : w.grownBy w' none := ⟨hb.os, hb.tape, hb.output, hb.size, fun k hk _ => hb.block k hk⟩
  exact ⟨h.b1.kept hb, h.b2.kept hb, h.o1.kept hg (by cases lv.ownBlock <;> simp), h.o2.kept hg (by cases mv.ownBlock <;> simp), h.apart⟩
theorem PartSt.drewN {w : World} {A : Nat} {lv mv : Value} {ls ms : List Int} (h : PartSt w A lv mv ls ms) (n : Nat) : PartSt (w.drewN n) A lv mv ls ms := h.kept (below_drewN (Below.refl _ _) n)
theorem PartSt.pushL {w w3 : World} {A : Nat} {lv mv v' : Value} {ls ms : List Int} {x : Int} (h : PartSt w A lv mv ls ms) (hg : w.grownBy w3 lv.ownBlock)
    (hown : w3.ownsRow (A + 3) 2 1 v' (ls.length + 1) (ls.map (Value.int .i64) ++ [.int .i64 x])) (hat : v'.ownBlock = lv.ownBlock ∨ v'.ownBlock = some w.heap.size) :
    PartSt (w3.setCell ⟨A + 1, 0, none⟩ v') A v' mv (ls ++ [x]) ms := by
  have hlo : ∀ k, lv.ownBlock = some k → A + 3 ≤ k := fun k hk => (h.o1.lt k hk).1
  have hlo' : ∀ k, v'.ownBlock = some k → A + 3 ≤ k := fun k hk => (hown.lt k hk).1
  have hmo : ∀ k, mv.ownBlock = some k → A + 3 ≤ k ∧ k < w.heap.size := fun k hk => h.o2.lt k hk
  have hgs := grown_set w3 (A + 1) 0 v'
  have b1 := h.b1.grown hg (fun e => by have := hlo _ e.symm; omega)
  have b2 := h.b2.grown hg (fun e => by have := hlo _ e.symm; omega)
  have o2 := h.o2.kept hg (by
    cases hm : mv.ownBlock with
    | none => exact .inl rfl
    | some k => exact .inr (fun e => h.apart k e.symm hm))
  refine ⟨by simpa using b1.set_ 0 v', b2.far (by simp) _, ?_, ?_, fun k hk hm => ?_⟩
  · have := hown.kept hgs (.inr (fun e => by have := hlo' _ e; omega))
    simpa using this
  · exact o2.kept hgs (by
      cases hm : mv.ownBlock with
      | none => exact .inl rfl
      | some k => exact .inr (fun e => by have := (hmo k hm).1; have := Option.some.inj e; omega))
  · rcases hat with e | e
    · exact h.apart k (e.symm.trans hk) hm
    · have := (hmo k hm).2
      have := Option.some.inj (e.symm.trans hk)
      omega
theorem PartSt.pushM {w w3 : World} {A : Nat} {lv mv v' : Value} {ls ms : List Int} {x : Int} (h : PartSt w A lv mv ls ms) (hg : w.grownBy w3 mv.ownBlock)
    (hown : w3.ownsRow (A + 3) 2 1 v' (ms.length + 1) (ms.map (Value.int .i64) ++ [.int .i64 x])) (hat : v'.ownBlock = mv.ownBlock ∨ v'.ownBlock = some w.heap.size) :
    PartSt (w3.setCell ⟨A + 1 + 1, 0, none⟩ v') A lv v' ls (ms ++ [x]) := by
  have hlo : ∀ k, mv.ownBlock = some k → A + 3 ≤ k := fun k hk => (h.o2.lt k hk).1
  have hlo' : ∀ k, v'.ownBlock = some k → A + 3 ≤ k := fun k hk => (hown.lt k hk).1
  have hmo : ∀ k, lv.ownBlock = some k → A + 3 ≤ k ∧ k < w.heap.size := fun k hk => h.o1.lt k hk
  have hgs := grown_set w3 (A + 1 + 1) 0 v'
  have b1 := h.b1.grown hg (fun e => by have := hlo _ e.symm; omega)
  have b2 := h.b2.grown hg (fun e => by have := hlo _ e.symm; omega)
  have o1 := h.o1.kept hg (by
    cases hm : lv.ownBlock with
    | none => exact .inl rfl
    | some k => exact .inr (fun e => h.apart k hm e.symm))
  refine ⟨b1.far (by simp) _, by simpa using b2.set_ 0 v', ?_, ?_, fun k hk hm => ?_⟩
  · exact o1.kept hgs (by
      cases hm : lv.ownBlock with
      | none => exact .inl rfl
      | some k => exact .inr (fun e => by have := (hmo k hm).1; have := Option.some.inj e; omega))
  · have := hown.kept hgs (.inr (fun e => by have := hlo' _ e; omega))
    simpa using this
  · rcases hat with e | e
    · exact h.apart k hk (e.symm.trans hm)
    · have := (hmo k hk).2
      have := Option.some.inj (e.symm.trans hm)
      omega

def PartPost (w : World) (zs : List Int) (by_ : Int) (e : Ending) (w' : World) : Prop :=
  ∃ lv mv, e = .returned (.tuple #[.agg #[lv], .agg #[mv], .int .i64 (cEq zs by_ : Int)]) ∧ IntsAt w' lv (lessL zs by_) ∧ IntsAt w' mv (moreL zs by_) ∧ (∀ k, lv.ownBlock = some k ∨ mv.ownBlock = some k → w.heap.size ≤ k) ∧ Below w.heap.size w w'

theorem take_less (zs : List Int) (b : Int) (j : Nat) (x : Int) (h : zs[j]? = some x) : lessL (zs.take (j + 1)) b = lessL (zs.take j) b ++ (if x < b then [x] else []) ∧ moreL (zs.take (j + 1)) b = moreL (zs.take j) b ++ (if b < x then [x] else []) ∧ cEq (zs.take (j + 1)) b = cEq (zs.take j) b + (if x = b then 1 else 0) := by
  rw [List.take_add_one, h]
  refine ⟨?_, ?_, ?_⟩
  · simp only [lessL, List.filter_append, Option.toList_some, List.filter_cons, List.filter_nil, decide_eq_true_eq]
  · simp only [moreL, List.filter_append, Option.toList_some, List.filter_cons, List.filter_nil, decide_eq_true_eq]
  · simp only [cEq, List.filter_append, Option.toList_some, List.filter_cons, List.filter_nil, List.length_append, decide_eq_true_eq]; split <;> simp

set_option maxRecDepth 100000 in
set_option maxHeartbeats 4000000 in
theorem part_any (v : Value) (zs : List Int) (b : Int) (w : World) (hv : IntsAt w v zs) (hn : zs.length ≤ 100000) :
    Calls Try.prog 110 #[.agg #[v], .int .i64 b] w (PartPost w zs b) := by
  obtain ⟨i0', hi, hz0, hz1, hz2⟩ := info_parts Try.info64
  have HV := Lib.hid hv
  obtain ⟨ao, cap, rfl, hcap, hcells⟩ := hv
  have HCL := Lib.hid hcells
  clear hcells
  obtain ⟨n, hlen⟩ : ∃ n, n = zs.length := ⟨_, rfl⟩
  rw [← hlen] at hcap hn ⊢
  have HLEN := Lib.hid hlen
  clear hlen
  go_enter Try.func110, Try.ntmps110
  go_wp2_with fail
  obtain ⟨g1, g2, g3, hbel, hsz⟩ := news3 w (.cells #[.slice ao n cap] 167) (.cells #[.slice none 0 0] 167) (.cells #[.slice none 0 0] 167)
  have hst : PartSt (((w.alloc (.cells #[.slice ao n cap] 167)).alloc (.cells #[.slice none 0 0] 167)).alloc (.cells #[.slice none 0 0] 167)) w.heap.size (.slice none 0 0) (.slice none 0 0) [] [] :=
    ⟨g2, g3, World.ownsRow_nil _ _ _ _, World.ownsRow_nil _ _ _ _, fun k hk => by simp [Value.ownBlock] at hk⟩
  generalize (((w.alloc (.cells #[.slice ao n cap] 167)).alloc (.cells #[.slice none 0 0] 167)).alloc (.cells #[.slice none 0 0] 167)) = wz at *
  have hszA : w.heap.size + 3 ≤ wz.heap.size := by omega
  clear g1 g2 g3 hsz
  generalize hA : w.heap.size = A at *
  have HA := Lib.hid hA
  have HS := Lib.hid hst
  have HB := Lib.hid hbel
  clear hA hst hbel
  go_loopw [6, 14] (fun s i wr => ∃ (j : Nat) (lv mv : Value), j ≤ n ∧ i = .int .i64 (j : Int) ∧ s = .int .i64 (cEq (zs.take j) b : Int) ∧ PartSt wr A lv mv (lessL (zs.take j) b) (moreL (zs.take j) b) ∧ Below A w wr ∧ A + 3 ≤ wr.heap.size) (fun _ i _ => n - (intOf i).toNat)
  case atStart => exact ⟨0, _, _, by omega, rfl, rfl, HS.out, HB.out, hszA⟩
  case round =>
    obtain ⟨j, lv, mv, hj, rfl, rfl, hst, hbel, hszA⟩ := hrel
    clear HS HB
    have HS := Lib.hid hst
    have HB := Lib.hid hbel
    clear hst hbel
    have hcq : cEq (zs.take j) b ≤ j := by
      have h1 := parts_len (zs.take j) b
      have h2 : (zs.take j).length ≤ j := by rw [List.length_take]; omega
      omega
    by_cases hlt : j < n
    · obtain ⟨g, rfl, hgl, hgc⟩ := HCL.out (by rw [← HLEN.out]; omega)
      have hjz : zs[j]? = some (cellD zs j) := by
        have : j < zs.length := by rw [← HLEN.out]; exact hlt
        simp [cellD, this]
      have cx := (HB.out.cell (p := ⟨g, j, none⟩) hgl).trans (hgc j _ hjz)
      obtain ⟨t1, t2, t3⟩ := take_less zs b j _ hjz
      have T1 := Lib.hid t1
      have T2 := Lib.hid t2
      have T3 := Lib.hid t3
      clear t1 t2 t3 hgc hjz
      have LL : Hid ((lessL (zs.take j) b).length ≤ j ∧ (moreL (zs.take j) b).length ≤ j) := Lib.hid (by
        have h1 := parts_len (zs.take j) b
        have h2 : (zs.take j).length ≤ j := by rw [List.length_take]; omega
        omega)
      generalize lessL (zs.take j) b = L at *
      generalize moreL (zs.take j) b = M at *
      generalize cEq (zs.take j) b = q at *
      generalize cellD zs j = x at *
      have i0 : (0 : Int) ≤ (j : Int) := by omega
      have i1 : (j : Int) < (n : Int) := by omega
      rcases Int.lt_trichotomy x b with hxb | hxb | hxb
      · have e1 : decide (x < b) = true := decide_eq_true hxb
        have e2 : ¬ b < x := by omega
        have e3 : ¬ x = b := by omega
        have HL1 : Hid (lessL (zs.take (j + 1)) b = L ++ [x] ∧ moreL (zs.take (j + 1)) b = M ∧ cEq (zs.take (j + 1)) b = q) := ⟨by rw [T1.out]; simp [hxb], by rw [T2.out]; simp [e2], by rw [T3.out]; simp [e3]⟩
        have l1 := HS.out.b1.cell 0
        simp at l1
        clear hxb e2 e3
        have hLl := LL.out
        have hmx : L.length + 1 ≤ maxLen := by unfold maxLen; omega
        go_wp2_with (at_builtin; refine wpList_append_own_at _ rfl _ _ 120 rfl (A + 3) 2 i0' (.int .i64 0) 1 8 Try.underlying120 hi hz0 hz1 hz2 rfl (by decide) _ L.length _ rfl (HS.out.o1.alloc _) ⟨wr.heap.size, 0, none⟩ 1 1 [.int .i64 x] rfl rfl (cell_one_new _ _ _) ?c2 hmx ?c4 ?c5 ?_)
        case c2 => simp [Value.oneCell']
        case c4 => omega
        case c5 => simp; omega
        intro v' w3 hown' hgrow hnil' hq9
        obtain ⟨ao', cap', rfl⟩ := own_slice hown'
        have hst3 := PartSt.pushL (HS.out.kept ((Below.refl _ _).alloc (Nat.le_refl _) (.cells #[.int .i64 x] 2))) hgrow hown' (by simpa using hq9)
        have hvk : ∀ k, Value.ownBlock lv = some k → A + 3 ≤ k := fun k hk => (HS.out.o1.lt k hk).1
        have HS3 := Lib.hid hst3
        have HB3 : Hid (Below A w w3) := Lib.hid ((HB.out.alloc (by omega) _).grown hgrow (by first | omega | (simp; done) | (simp; omega)) (fun k e => by have := hvk k e; omega))
        have hbk := (HS.out.b1.alloc (.cells #[.int .i64 x] 2)).grown hgrow (fun e => by have := hvk _ e.symm; omega)
        have hc3 := hbk.cell 0
        have hf3 := hbk.frozen 0
        simp at hc3
        have hsz3 : A + 3 ≤ w3.heap.size := by have := hgrow.size; simp at this; omega
        clear hown' hgrow hnil' hq9 hst3 hvk hbk
        go_wp2
        go_roundw
        case rel => exact ⟨j + 1, _, _, by omega, by go_num, by rw [HL1.out.2.2], by rw [HL1.out.1, HL1.out.2.1]; exact HS3.out, HB3.out.setCell (by first | (simp; done) | (simp; omega)) _, by simp [World.setCell]; omega⟩
        case measure => simp [intOf]; omega
      · have e1 : decide (b < x) = false := decide_eq_false (by omega)
        have e0 : decide (x < b) = false := decide_eq_false (by omega)
        have e2 : ¬ x < b := by omega
        have e3 : ¬ b < x := by omega
        have HL1 : Hid (lessL (zs.take (j + 1)) b = L ∧ moreL (zs.take (j + 1)) b = M ∧ cEq (zs.take (j + 1)) b = q + 1) := ⟨by rw [T1.out]; simp [e2], by rw [T2.out]; simp [e3], by rw [T3.out]; simp [hxb]⟩
        clear hxb e2 e3
        go_wp2
        go_roundw
        case rel => exact ⟨j + 1, _, _, by omega, by go_num, by rw [HL1.out.2.2]; go_num, by rw [HL1.out.1, HL1.out.2.1]; exact HS.out, HB.out, hszA⟩
        case measure => simp [intOf]; omega
      · have e1 : decide (b < x) = true := decide_eq_true hxb
        have e0 : decide (x < b) = false := decide_eq_false (by omega)
        have e2 : ¬ x < b := by omega
        have e3 : ¬ x = b := by omega
        have HL1 : Hid (lessL (zs.take (j + 1)) b = L ∧ moreL (zs.take (j + 1)) b = M ++ [x] ∧ cEq (zs.take (j + 1)) b = q) := ⟨by rw [T1.out]; simp [e2], by rw [T2.out]; simp [hxb], by rw [T3.out]; simp [e3]⟩
        have l1 := HS.out.b2.cell 0
        simp at l1
        clear hxb e2 e3
        have hLl := LL.out
        have hmx : M.length + 1 ≤ maxLen := by unfold maxLen; omega
        go_wp2_with (at_builtin; refine wpList_append_own_at _ rfl _ _ 120 rfl (A + 3) 2 i0' (.int .i64 0) 1 8 Try.underlying120 hi hz0 hz1 hz2 rfl (by decide) _ M.length _ rfl (HS.out.o2.alloc _) ⟨wr.heap.size, 0, none⟩ 1 1 [.int .i64 x] rfl rfl (cell_one_new _ _ _) ?c2 hmx ?c4 ?c5 ?_)
        case c2 => simp [Value.oneCell']
        case c4 => omega
        case c5 => simp; omega
        intro v' w3 hown' hgrow hnil' hq9
        obtain ⟨ao', cap', rfl⟩ := own_slice hown'
        have hst3 := PartSt.pushM (HS.out.kept ((Below.refl _ _).alloc (Nat.le_refl _) (.cells #[.int .i64 x] 2))) hgrow hown' (by simpa using hq9)
        have hvk : ∀ k, Value.ownBlock mv = some k → A + 3 ≤ k := fun k hk => (HS.out.o2.lt k hk).1
        have HS3 := Lib.hid hst3
        have HB3 : Hid (Below A w w3) := Lib.hid ((HB.out.alloc (by omega) _).grown hgrow (by first | omega | (simp; done) | (simp; omega)) (fun k e => by have := hvk k e; omega))
        have hbk := (HS.out.b2.alloc (.cells #[.int .i64 x] 2)).grown hgrow (fun e => by have := hvk _ e.symm; omega)
        have hc3 := hbk.cell 0
        have hf3 := hbk.frozen 0
        simp at hc3
        have hsz3 : A + 3 ≤ w3.heap.size := by have := hgrow.size; simp at this; omega
        clear hown' hgrow hnil' hq9 hst3 hvk hbk
        go_wp2
        go_roundw
        case rel => exact ⟨j + 1, _, _, by omega, by go_num, by rw [HL1.out.2.2], by rw [HL1.out.1, HL1.out.2.1]; exact HS3.out, HB3.out.setCell (by first | (simp; done) | (simp; omega)) _, by simp [World.setCell]; omega⟩
        case measure => simp [intOf]; omega
    · obtain rfl : j = n := by omega
      have HE : Hid (zs.take j = zs) := Lib.hid (by rw [HLEN.out, List.take_length])
      rw [HE.out] at HS hcq ⊢
      obtain ⟨ao1, cap1, rfl⟩ := own_slice HS.out.o1
      obtain ⟨ao2, cap2, rfl⟩ := own_slice HS.out.o2
      have HO1 : Hid (IntsAt wr (.slice ao1 (lessL zs b).length cap1) (lessL zs b)) := Lib.hid (IntsAt.of_own HS.out.o1 rfl)
      have HO2 : Hid (IntsAt wr (.slice ao2 (moreL zs b).length cap2) (moreL zs b)) := Lib.hid (IntsAt.of_own HS.out.o2 rfl)
      have HFR : Hid (∀ k, Value.ownBlock (.slice ao1 (lessL zs b).length cap1) = some k ∨ Value.ownBlock (.slice ao2 (moreL zs b).length cap2) = some k → A ≤ k) := Lib.hid (fun k hk => by rcases hk with hk | hk; exact Nat.le_trans (by omega) (HS.out.o1.lt k hk).1; exact Nat.le_trans (by omega) (HS.out.o2.lt k hk).1)
      have HB1 : Hid (Blk (wr.drewN 1) (A + 1) 167 #[.slice ao1 (lessL zs b).length cap1]) := Lib.hid (HS.out.b1.drewN 1)
      have HB2 : Hid (Blk (wr.drewN 1) (A + 1 + 1) 167 #[.slice ao2 (moreL zs b).length cap2]) := Lib.hid (HS.out.b2.drewN 1)
      generalize (lessL zs b).length = nl at *
      generalize (moreL zs b).length = nm at *
      go_wp2_with fail
      refine wp_region_held_drew (S := fun w' => Blk w' (A + 1) 167 #[.slice ao1 nl cap1] ∧ Blk w' (A + 1 + 1) 167 #[.slice ao2 nm cap2]) (by kernel_rfl) (by exact ⟨HB1.out, HB2.out⟩) (fun hHeld => ?_)
      refine wpAnyH_take (i := 0) (v := ?_) rfl (by kernel_rfl) (by kernel_rfl) (by kernel_rfl) (fun _ _ _ h => h) (Or.inl ⟨by rfl, ?_⟩) (by assumption) ?_
      rotate_left
      · intro w hSw
        first | refine (exec_load_row 167 _ rfl (A + 1) rfl 167 #[.slice ao1 nl cap1] (0, 0) _ hSw.1 Try.underlying167 rfl (by kernel_rfl)).trans ?_ | refine (exec_load_row 167 _ rfl (A + 1 + 1) rfl 167 #[.slice ao2 nm cap2] (0, 0) _ hSw.2 Try.underlying167 rfl (by kernel_rfl)).trans ?_
        go_simp
        try with_reducible rfl
      simp only [Act.put, List.setIfInBounds_toArray, List.set_cons_zero, List.set_cons_succ, List.getElem_toArray, List.getElem_cons_zero, List.getElem_cons_succ]
      refine wpAnyH_take (i := 1) (v := ?_) rfl (by kernel_rfl) (by kernel_rfl) (by kernel_rfl) (fun _ _ _ h => h) (Or.inl ⟨by rfl, ?_⟩) (by assumption) ?_
      rotate_left
      · intro w hSw
        first | refine (exec_load_row 167 _ rfl (A + 1) rfl 167 #[.slice ao1 nl cap1] (0, 0) _ hSw.1 Try.underlying167 rfl (by kernel_rfl)).trans ?_ | refine (exec_load_row 167 _ rfl (A + 1 + 1) rfl 167 #[.slice ao2 nm cap2] (0, 0) _ hSw.2 Try.underlying167 rfl (by kernel_rfl)).trans ?_
        go_simp
        try with_reducible rfl
      simp only [Act.put, List.setIfInBounds_toArray, List.set_cons_zero, List.set_cons_succ, List.getElem_toArray, List.getElem_cons_zero, List.getElem_cons_succ]
      refine wpAnyH_take (i := 2) (v := ?_) rfl (by kernel_rfl) (by kernel_rfl) (by kernel_rfl) (fun _ _ _ h => h) (Or.inl ⟨by rfl, ?_⟩) (by assumption) ?_
      rotate_left
      · intro w hSw
        try dsimp only at hSw
        go_simp
        try with_reducible rfl
      simp only [Act.put, List.setIfInBounds_toArray, List.set_cons_zero, List.set_cons_succ, List.getElem_toArray, List.getElem_cons_zero, List.getElem_cons_succ]
      refine wpAnyH_ready (rs := [3]) (by kernel_rfl) (by simp) ?_
      refine AllReadyH.cons rfl (fun Kc hKc => ?_) AllReadyH.nil
      first | (refine wp_store_row 167 _ _ rfl (A + 1) #[.slice ao1 nl cap1] rfl rfl 167 _ hHeld.1 (by kernel_rfl) rfl (by simp [Value.oneCell']) ?_; rw [Blk.setRow_same hHeld.1]) | (refine wp_store_row 167 _ _ rfl (A + 1 + 1) #[.slice ao2 nm cap2] rfl rfl 167 _ hHeld.2 (by kernel_rfl) rfl (by simp [Value.oneCell']) ?_; rw [Blk.setRow_same hHeld.2])
      refine hKc.out _ _ ?_ (fun hHeld => ?_)
      · first | assumption | (rw [Blk.setRow_same hHeld.1]; exact hHeld) | (rw [Blk.setRow_same hHeld.2]; exact hHeld)
      clear hKc Kc
      refine wpAnyH_ready (rs := [4]) (by kernel_rfl) (by simp) ?_
      refine AllReadyH.cons rfl (fun Kc hKc => ?_) AllReadyH.nil
      first | (refine wp_store_row 167 _ _ rfl (A + 1) #[.slice ao1 nl cap1] rfl rfl 167 _ hHeld.1 (by kernel_rfl) rfl (by simp [Value.oneCell']) ?_; rw [Blk.setRow_same hHeld.1]) | (refine wp_store_row 167 _ _ rfl (A + 1 + 1) #[.slice ao2 nm cap2] rfl rfl 167 _ hHeld.2 (by kernel_rfl) rfl (by simp [Value.oneCell']) ?_; rw [Blk.setRow_same hHeld.2])
      refine hKc.out _ _ ?_ (fun hHeld => ?_)
      · first | assumption | (rw [Blk.setRow_same hHeld.1]; exact hHeld) | (rw [Blk.setRow_same hHeld.2]; exact hHeld)
      clear hKc Kc
      refine wpAnyH_take (i := 5) (v := ?_) rfl (by kernel_rfl) (by kernel_rfl) (by kernel_rfl) (fun _ _ _ h => h) (Or.inl ⟨by rfl, ?_⟩) (by assumption) ?_
      rotate_left
      · intro w hSw
        try dsimp only at hSw
        go_simp
        try with_reducible rfl
      simp only [Act.put, List.setIfInBounds_toArray, List.set_cons_zero, List.set_cons_succ, List.getElem_toArray, List.getElem_cons_zero, List.getElem_cons_succ]
      refine wpAnyH_done (by kernel_rfl) ?_ _
      clear hHeld
      have HB9 := Lib.hid (below_drewN HB.out 1)
      have HQ : Hid (PartPost w zs b (.returned (.tuple #[.agg #[.slice ao1 nl cap1], .agg #[.slice ao2 nm cap2], .int .i64 (cEq zs b : Int)])) (wr.drewN 1)) := ⟨_, _, rfl, HO1.out.drewN 1, HO2.out.drewN 1, by rw [HA.out]; exact HFR.out, by rw [HA.out]; exact HB9.out⟩
      go_wp2_with fail
      refine bodyPost_ret (results_row2_tmp rfl _ _ (A + 1) (A + 1 + 1) 167 167 _ _ (0, 0) (0, 0) _ rfl rfl HB1.out HB2.out Try.underlying167 rfl (by kernel_rfl) (by kernel_rfl)) rfl ?_
      exact HQ.out
end Go.Proofs.Ythbkljeibmkimaa

/-
  The walks of gaugerref02's numbers of ten digits. Conditions: the arguments fit their kinds.
-/
namespace Go.Proofs.Ythbkljeibmkimaa
open Go.RowKit
set_option linter.unusedVariables false
set_option linter.unusedSimpArgs false

theorem zeros_row {w : World} {b : Nat} {t : TypeId} (h : w.heap[b]? = some (.cells #[.int .i64 0, .int .i64 0, .int .i64 0, .int .i64 0, .int .i64 0, .int .i64 0, .int .i64 0, .int .i64 0, .int .i64 0, .int .i64 0] t)) : w.rowIs b t 10 (fun _ => .int .i64 0) :=
  ⟨_, h, rfl, fun i hi => by
    match i, hi with
    | 0, _ => rfl | 1, _ => rfl | 2, _ => rfl | 3, _ => rfl | 4, _ => rfl | 5, _ => rfl | 6, _ => rfl | 7, _ => rfl | 8, _ => rfl | 9, _ => rfl⟩
theorem longA_one (n : Int) : (longA n).all (·.oneCell') = true := by
  rw [Array.all_eq_true_iff_forall_mem]
  intro v hv
  simp [longA, intsV] at hv
  obtain ⟨a, _, rfl⟩ := hv
  rfl
theorem below_setRow {B : Nat} {a w : World} (h : Below B a w) {g : Nat} (hg : B ≤ g) (cs : Array Value) : Below B a (w.setRow g cs) :=
  h.trans ⟨rfl, rfl, rfl, by simp, fun k hk => setRow_other w g k cs (by omega)⟩
theorem Blk.of_digits {w : World} {b : Nat} {t : TypeId} {f : Nat → Value} (x : Int) (h : w.rowIs b t 10 f) (e : ∀ i, i < 10 → f i = .int .i64 (digit x i)) : Blk w b t (longA x) := by
  rw [← longA_size x] at h
  exact Blk.of_row h (fun i hi => by rw [longA_size] at hi; rw [longA_get x i hi, e i hi])

theorem wrapI_of (x : Int) (h0 : -9223372036854775808 ≤ x) (h1 : x ≤ 9223372036854775807) : IntKind.i64.wrap x = x := by
  simp [IntKind.wrap, IntKind.bits, IntKind.signed]; split <;> omega
theorem longA_1 : longA 1 = #[.int .i64 1, .int .i64 0, .int .i64 0, .int .i64 0, .int .i64 0, .int .i64 0, .int .i64 0, .int .i64 0, .int .i64 0, .int .i64 0] := by kernel_rfl
end Go.Proofs.Ythbkljeibmkimaa

/-
  The walks of order.Kth, Min, Median. Conditions: none beyond those stated at each theorem.
-/
namespace Go.Proofs.Ythbkljeibmkimaa
open Go.RowKit
set_option linter.unusedVariables false
set_option linter.unusedSimpArgs false

def lenAt (w : World) (A : Nat) : Nat := match w.cell? ⟨A, 0, none⟩ with
  | some (.slice _ n _) => n
  | _ => 0
theorem lenAt_blk {w : World} {A : Nat} {t : TypeId} {a : Option Addr} {n c : Nat} (h : Blk w A t #[.slice a n c]) : lenAt w A = n := by
  have := h.cell 0
  simp at this
  simp [lenAt, this]
set_option maxRecDepth 100000 in
set_option maxHeartbeats 4000000 in
theorem kth_any (v : Value) (zs : List Int) (k : Nat) (w : World) (hv : IntsAt w v zs) (hk : k < zs.length) (hn : zs.length ≤ 100000) :
    Calls Try.prog 106 #[v, .int .i64 (k : Int)] w fun e w' => ∃ u, e = .returned (.tuple #[.int .i64 u, .bool true]) ∧ IsKth zs k u ∧ Below w.heap.size w w' := by
  have HV := Lib.hid hv
  obtain ⟨ao, cap, rfl, hcap, hcells⟩ := hv
  clear hcells
  have d0 : decide ((k : Int) < 0) = false := decide_eq_false (by omega)
  have d1 : decide ((zs.length : Int) ≤ (k : Int)) = false := decide_eq_false (by omega)
  obtain ⟨n, hlen⟩ : ∃ n, n = zs.length := ⟨_, rfl⟩
  rw [← hlen] at hcap hn d1 hk
  have HLEN := Lib.hid hlen
  rw [← hlen]
  clear hlen
  go_enter Try.func106, Try.ntmps106
  go_wp2
  go_step3
  go_wp2_with (refine wpList_store_row rfl 167 _ _ rfl w.heap.size #[.slice ao n cap] rfl rfl 167 #[.slice none 0 0] (Blk.new _ _ _) (by kernel_rfl) rfl (by simp [Value.oneCell']) ?_)
  go_step3
  go_wp2
  obtain ⟨g1, hbel, hsz⟩ := news1 w (.cells #[.slice none 0 0] 167)
  have hb1 : Blk ((w.alloc (.cells #[.slice none 0 0] 167)).setRow w.heap.size #[.slice ao n cap]) w.heap.size 167 #[.slice ao n cap] := setRow_heap _ _ _ _ _ _ g1
  have hbel2 : Below w.heap.size w ((w.alloc (.cells #[.slice none 0 0] 167)).setRow w.heap.size #[.slice ao n cap]) := below_setRow hbel (Nat.le_refl _) _
  clear g1 hbel hsz
  generalize ((w.alloc (.cells #[.slice none 0 0] 167)).setRow w.heap.size #[.slice ao n cap]) = wz at *
  have HV0 : Hid (IntsAt wz (.slice ao n cap) zs) := Lib.hid (by rw [HLEN.out]; have := HV.out.kept hbel2; exact this)
  generalize hA : w.heap.size = A at *
  have HA := Lib.hid hA
  have HB0 := Lib.hid hb1
  have HBL0 := Lib.hid hbel2
  clear hA hb1 hbel2 d0 d1
  have hdk : decide (n ≤ k) = false := decide_eq_false (by omega)
  simp only [Act.put, hdk]
  go_loopg [1] n (fun g s wr => ∃ (kk : Nat) (ys : List Int) (a : Option Addr) (c : Nat), s = .int .i64 (kk : Int) ∧ ys.length = g ∧ g ≤ n ∧ kk < g ∧ Blk wr A 167 #[.slice a g c] ∧ IntsAt wr (.slice a g c) ys ∧ (∀ u, IsKth ys kk u → IsKth zs k u) ∧ Below A w wr)
  case atStart => exact ⟨k, zs, ao, cap, rfl, HLEN.out.symm, Nat.le_refl _, hk, HB0.out, HV0.out, fun u h => h, HBL0.out⟩
  case round =>
    obtain ⟨kk, ys, a, c, rfl, hyl, hgn, hkk, hbk, hin, himp, hbel⟩ := hrel
    clear HB0 HBL0 HV0
    have HIN := Lib.hid hin
    have HBK := Lib.hid hbk
    have HIMP := Lib.hid himp
    have HB := Lib.hid hbel
    have HYL := Lib.hid hyl
    have c0 := hbk.cell 0
    simp at c0
    obtain ⟨a', c', e1, hc, hcells⟩ := hin
    simp only [Value.slice.injEq] at e1
    obtain ⟨rfl, -, rfl⟩ := e1
    obtain ⟨gb, rfl, hgb, hcl⟩ := hcells (by omega)
    obtain ⟨q, hq⟩ : ∃ q, q = gk / 2 := ⟨_, rfl⟩
    have hqg : q < gk := by omega
    have hyq : ys[q]? = some (cellD ys q) := by
      have : q < ys.length := by omega
      simp [cellD, this]
    have cq := hcl q _ hyq
    have HBY := Lib.hid (List.mem_of_getElem? hyq)
    clear hcells hcl hyq hbk himp hbel hyl
    generalize cellD ys q = b at *
    have dq : Int.tdiv (gk : Int) 2 = (q : Int) := by rw [Int.tdiv_eq_ediv_of_nonneg (by omega)]; omega
    have hq0 : (0 : Int) ≤ (q : Int) := by omega
    have hq1 : (q : Int) < (gk : Int) := by omega
    clear hq
    have hbk := HBK.out
    have hAw := hbk.lt
    have hpl := parts_len ys b
    have hpos := cEq_pos HBY.out
    rw [HYL.out] at hpl
    have ew : wrap64 (((lessL ys b).length : Int) + (cEq ys b : Int)) = ((lessL ys b).length : Int) + (cEq ys b : Int) := by unfold wrap64; omega
    have HPL : Hid ((lessL ys b).length + cEq ys b + (moreL ys b).length = gk ∧ 0 < cEq ys b) := ⟨hpl, hpos⟩
    clear hpl hpos
    rcases Nat.lt_or_ge kk (lessL ys b).length with h1 | h1
    · have d1 : decide ((kk : Int) < ((lessL ys b).length : Int)) = true := decide_eq_true (by omega)
      have d1' : decide (kk < (lessL ys b).length) = true := decide_eq_true h1
      have H1 := Lib.hid h1
      clear h1
      go_wp2_with (first
      | refine wpList_load_row rfl 167 _ rfl A rfl 167 _ (0, 0) _ hbk Try.underlying167 rfl (by kernel_rfl) ?_
      | (go_at_call 110; refine (part_any _ ys b _ HIN.out (by have := HYL.out; omega)).mono ?_; rintro e w2 ⟨lv, mv, rfl, hl, hm, hfr, hb⟩; have HFR := Lib.hid hfr; clear hfr; have HL2 := Lib.hid hl; have HM2 := Lib.hid hm; have HB2 := Lib.hid hb; obtain ⟨la, lc, rfl, -, -⟩ := hl; obtain ⟨ma, mc, rfl, -, -⟩ := hm; have hk2 := ((hbk.kept hb).alloc (.cells #[.slice la (lessL ys b).length lc] 167)).alloc (.cells #[.slice ma (moreL ys b).length mc] 167); have hc2 := hk2.cell 0; have hf2 := hk2.frozen 0; simp at hc2; have HK2 := Lib.hid hk2; have HA2 : Hid (Below A w ((w2.alloc (.cells #[.slice la (lessL ys b).length lc] 167)).alloc (.cells #[.slice ma (moreL ys b).length mc] 167))) := Lib.hid (((HB.out.trans (hb.mono (by omega))).alloc (by have := hb.size; omega) _).alloc (by have := hb.size; simp; omega) _); have HL3 := Lib.hid ((HL2.out.kept ((Below.refl _ _).alloc (Nat.le_refl _) (.cells #[.slice la (lessL ys b).length lc] 167))).kept ((Below.refl _ _).alloc (Nat.le_refl _) (.cells #[.slice ma (moreL ys b).length mc] 167))); have HM3 := Lib.hid ((HM2.out.kept ((Below.refl _ _).alloc (Nat.le_refl _) (.cells #[.slice la (lessL ys b).length lc] 167))).kept ((Below.refl _ _).alloc (Nat.le_refl _) (.cells #[.slice ma (moreL ys b).length mc] 167))); clear hb hk2))
      go_roundg (lessL ys b).length
      case measure => have := HPL.out; omega
      case rel => exact ⟨kk, lessL ys b, la, lc, rfl, rfl, by have := HPL.out; omega, H1.out, by simpa using HK2.out.set_ 0 _, HL3.out.far (fun e => by have := HFR.out _ (.inl e); simp at this; omega) _, fun u hu => HIMP.out u (kth_less hu), HA2.out.setCell (Nat.le_refl _) _⟩
    · have d1 : decide ((kk : Int) < ((lessL ys b).length : Int)) = false := decide_eq_false (by omega)
      have d1' : decide (kk < (lessL ys b).length) = false := decide_eq_false (by omega)
      rcases Nat.lt_or_ge kk ((lessL ys b).length + cEq ys b) with h2 | h2
      · have d2 : decide ((kk : Int) < ((lessL ys b).length : Int) + (cEq ys b : Int)) = true := decide_eq_true (by omega)
        have H1 := Lib.hid h1
        have H2 := Lib.hid h2
        clear h1 h2
        go_wp2_with (first
      | refine wpList_load_row rfl 167 _ rfl A rfl 167 _ (0, 0) _ hbk Try.underlying167 rfl (by kernel_rfl) ?_
      | (go_at_call 110; refine (part_any _ ys b _ HIN.out (by have := HYL.out; omega)).mono ?_; rintro e w2 ⟨lv, mv, rfl, hl, hm, hfr, hb⟩; have HFR := Lib.hid hfr; clear hfr; have HL2 := Lib.hid hl; have HM2 := Lib.hid hm; have HB2 := Lib.hid hb; obtain ⟨la, lc, rfl, -, -⟩ := hl; obtain ⟨ma, mc, rfl, -, -⟩ := hm; have hk2 := ((hbk.kept hb).alloc (.cells #[.slice la (lessL ys b).length lc] 167)).alloc (.cells #[.slice ma (moreL ys b).length mc] 167); have hc2 := hk2.cell 0; have hf2 := hk2.frozen 0; simp at hc2; have HK2 := Lib.hid hk2; have HA2 : Hid (Below A w ((w2.alloc (.cells #[.slice la (lessL ys b).length lc] 167)).alloc (.cells #[.slice ma (moreL ys b).length mc] 167))) := Lib.hid (((HB.out.trans (hb.mono (by omega))).alloc (by have := hb.size; omega) _).alloc (by have := hb.size; simp; omega) _); have HL3 := Lib.hid ((HL2.out.kept ((Below.refl _ _).alloc (Nat.le_refl _) (.cells #[.slice la (lessL ys b).length lc] 167))).kept ((Below.refl _ _).alloc (Nat.le_refl _) (.cells #[.slice ma (moreL ys b).length mc] 167))); have HM3 := Lib.hid ((HM2.out.kept ((Below.refl _ _).alloc (Nat.le_refl _) (.cells #[.slice la (lessL ys b).length lc] 167))).kept ((Below.refl _ _).alloc (Nat.le_refl _) (.cells #[.slice ma (moreL ys b).length mc] 167))); clear hb hk2))
        rw [Exit.noGoto_ret]
        go_ret2
        exact ⟨b, rfl, HIMP.out b (kth_here HBY.out H1.out H2.out), by rw [HA.out]; exact HA2.out⟩
      · have d2 : decide ((kk : Int) < ((lessL ys b).length : Int) + (cEq ys b : Int)) = false := decide_eq_false (by omega)
        have ew2 : wrap64 ((kk : Int) - (((lessL ys b).length : Int) + (cEq ys b : Int))) = ((kk - ((lessL ys b).length + cEq ys b) : Nat) : Int) := by unfold wrap64; omega
        have H1 := Lib.hid h1
        have H2 := Lib.hid h2
        clear h1 h2
        go_wp2_with (first
      | refine wpList_load_row rfl 167 _ rfl A rfl 167 _ (0, 0) _ hbk Try.underlying167 rfl (by kernel_rfl) ?_
      | (go_at_call 110; refine (part_any _ ys b _ HIN.out (by have := HYL.out; omega)).mono ?_; rintro e w2 ⟨lv, mv, rfl, hl, hm, hfr, hb⟩; have HFR := Lib.hid hfr; clear hfr; have HL2 := Lib.hid hl; have HM2 := Lib.hid hm; have HB2 := Lib.hid hb; obtain ⟨la, lc, rfl, -, -⟩ := hl; obtain ⟨ma, mc, rfl, -, -⟩ := hm; have hk2 := ((hbk.kept hb).alloc (.cells #[.slice la (lessL ys b).length lc] 167)).alloc (.cells #[.slice ma (moreL ys b).length mc] 167); have hc2 := hk2.cell 0; have hf2 := hk2.frozen 0; simp at hc2; have HK2 := Lib.hid hk2; have HA2 : Hid (Below A w ((w2.alloc (.cells #[.slice la (lessL ys b).length lc] 167)).alloc (.cells #[.slice ma (moreL ys b).length mc] 167))) := Lib.hid (((HB.out.trans (hb.mono (by omega))).alloc (by have := hb.size; omega) _).alloc (by have := hb.size; simp; omega) _); have HL3 := Lib.hid ((HL2.out.kept ((Below.refl _ _).alloc (Nat.le_refl _) (.cells #[.slice la (lessL ys b).length lc] 167))).kept ((Below.refl _ _).alloc (Nat.le_refl _) (.cells #[.slice ma (moreL ys b).length mc] 167))); have HM3 := Lib.hid ((HM2.out.kept ((Below.refl _ _).alloc (Nat.le_refl _) (.cells #[.slice la (lessL ys b).length lc] 167))).kept ((Below.refl _ _).alloc (Nat.le_refl _) (.cells #[.slice ma (moreL ys b).length mc] 167))); clear hb hk2))
        go_roundg (moreL ys b).length
        case measure => have := HPL.out; omega
        case rel => exact ⟨kk - ((lessL ys b).length + cEq ys b), moreL ys b, ma, mc, by first | rfl | rw [ew2] | simp [ew2], rfl, by have := HPL.out; omega, by have := HPL.out; have := H2.out; omega, by simpa using HK2.out.set_ 0 _, HM3.out.far (fun e => by have := HFR.out _ (.inr e); simp at this; omega) _, fun u hu => HIMP.out u (by have := kth_more hu; rwa [Nat.sub_add_cancel H2.out] at this), HA2.out.setCell (Nat.le_refl _) _⟩
/-- the least of a row that is not empty -/
theorem min_any (v : Value) (zs : List Int) (w : World) (hv : IntsAt w v zs) (hk : 0 < zs.length) (hn : zs.length ≤ 100000) :
    Calls Try.prog 99 #[v] w fun e w' => ∃ u, e = .returned (.tuple #[.int .i64 u, .bool true]) ∧ IsKth zs 0 u ∧ Below w.heap.size w w' := by
  have P1 := kth_any v zs 0 w hv hk hn
  go_enter Try.func99, Try.ntmps99
  go_wp2_with (go_at_call 106; refine P1.mono ?_; rintro e w' ⟨u, rfl, hu, hb⟩; have HU := Lib.hid hu; clear hu)
  go_ret2
  exact ⟨u, rfl, HU.out, hb⟩
theorem median_any (v : Value) (zs : List Int) (w : World) (hv : IntsAt w v zs) (hk : 0 < zs.length) (hn : zs.length ≤ 100000) :
    Calls Try.prog 101 #[v] w fun e w' => ∃ u, e = .returned (.tuple #[.int .i64 u, .bool true]) ∧ IsKth zs ((zs.length - 1) / 2) u ∧ Below w.heap.size w w' := by
  have P1 := kth_any v zs ((zs.length - 1) / 2) w hv (by omega) hn
  obtain ⟨ao, cap, rfl, hcap, hcells⟩ := hv
  clear hcells
  obtain ⟨q, hq⟩ : ∃ q, q = (zs.length - 1) / 2 := ⟨_, rfl⟩
  rw [← hq] at P1 ⊢
  have e1 : wrap64 ((zs.length : Int) - 1) = (zs.length : Int) - 1 := by unfold wrap64; omega
  have e2 : Int.tdiv ((zs.length : Int) - 1) 2 = (q : Int) := by rw [Int.tdiv_eq_ediv_of_nonneg (by omega)]; omega
  have e3 : ((zs.length : Int) - 1) / 2 = (q : Int) := by omega
  clear hq
  go_enter Try.func101, Try.ntmps101
  go_wp2_with (go_at_call 106; refine P1.mono ?_; rintro e w' ⟨u, rfl, hu, hb⟩; have HU := Lib.hid hu; clear hu)
  go_ret2
  exact ⟨u, rfl, HU.out, hb⟩
end Go.Proofs.Ythbkljeibmkimaa

/-
  The walks of wide.*. Conditions: the arguments fit their kinds.
-/
namespace Go.Proofs.Ythbkljeibmkimaa
open Go.RowKit
set_option linter.unusedVariables false
set_option linter.unusedSimpArgs false

/-! ### plain -/
def bor64 (x y : Int) : Int := if x < y then 1 else 0
theorem bor64_bd (x y : Int) : 0 ≤ bor64 x y ∧ bor64 x y ≤ 1 := by unfold bor64; split <;> omega
theorem wrapU_eq (x : Int) : IntKind.u64.wrap x = x % 18446744073709551616 := by simp [IntKind.wrap, IntKind.bits, IntKind.signed]
theorem wrapI_of_mod (x : Int) (x0 : -9223372036854775808 ≤ x) (x1 : x ≤ 9223372036854775807) : IntKind.i64.wrap (x % 18446744073709551616) = x := by
  simp [IntKind.wrap, IntKind.bits, IntKind.signed]; split <;> omega
theorem wrapI_bd (x : Int) : -9223372036854775808 ≤ IntKind.i64.wrap x ∧ IntKind.i64.wrap x ≤ 9223372036854775807 := by
  simp [IntKind.wrap, IntKind.bits, IntKind.signed]; split <;> omega

theorem add64c (x y c : Int) (hx : 0 ≤ x) (hy : 0 ≤ y) (hc0 : 0 ≤ c) (hc : c ≤ 1) (w : World) : (callFunc 39 #[.int .u64 x, .int .u64 y, .int .u64 c]).run Try.prog w =
    .ok (.value (.tuple #[.int .u64 ((x + y + c) % 18446744073709551616), .int .u64 ((x + y + c) / 18446744073709551616)])) w := by
  rw [run_callFunc_extern Try.func39 (by kernel_rfl) (by kernel_rfl) (by kernel_rfl) (e := add64Entry) (by kernel_rfl), run_add64 x y c (by omega) (by omega) (by omega) (by omega)]
  rfl
theorem add64c0 (x y : Int) (hx : 0 ≤ x) (hy : 0 ≤ y) (w : World) : (callFunc 39 #[.int .u64 x, .int .u64 y, .int .u64 0]).run Try.prog w =
    .ok (.value (.tuple #[.int .u64 ((x + y) % 18446744073709551616), .int .u64 ((x + y) / 18446744073709551616)])) w := by
  simpa using add64c x y 0 hx hy (Int.le_refl 0) (by decide) w
theorem sub64c (x y b : Int) (hx : 0 ≤ x) (hy : 0 ≤ y) (hy' : y < 18446744073709551616) (hb0 : 0 ≤ b) (hb : b ≤ 1) (w : World) : (callFunc 41 #[.int .u64 x, .int .u64 y, .int .u64 b]).run Try.prog w =
    .ok (.value (.tuple #[.int .u64 ((x - y - b) % 18446744073709551616), .int .u64 (bor64 x (y + b))])) w := by
  obtain ⟨x, rfl⟩ := Int.eq_ofNat_of_zero_le hx
  obtain ⟨y, rfl⟩ := Int.eq_ofNat_of_zero_le hy
  obtain ⟨b, rfl⟩ := Int.eq_ofNat_of_zero_le hb0
  have e1 : (((x + 18446744073709551616 - y - b) % 18446744073709551616 : Nat) : Int) = ((x : Int) - y - b) % 18446744073709551616 := by omega
  have e2 : ((if x < y + b then 1 else 0 : Nat) : Int) = bor64 x ((y : Int) + b) := by unfold bor64; split <;> split <;> omega
  rw [← e1, ← e2]
  rw [run_callFunc_extern Try.func41 (by kernel_rfl) (by kernel_rfl) (by kernel_rfl) (e := sub64Entry) (by kernel_rfl), run_sub64 x y b (by omega)]
  rfl
theorem sub64c0 (x y : Int) (hx : 0 ≤ x) (hy : 0 ≤ y) (hy' : y < 18446744073709551616) (w : World) : (callFunc 41 #[.int .u64 x, .int .u64 y, .int .u64 0]).run Try.prog w =
    .ok (.value (.tuple #[.int .u64 ((x - y) % 18446744073709551616), .int .u64 (bor64 x y)])) w := by
  simpa using sub64c x y 0 hx hy hy' (Int.le_refl 0) (by decide) w

/-! ### walks -/
theorem of_any (n : Int) (n0 : -9223372036854775808 ≤ n) (n1 : n ≤ 9223372036854775807) (w : World) :
    Calls Try.prog 26 #[.int .i64 n] w fun e w' => e = .returned (.agg #[.int .i64 (n / 9223372036854775808), .int .u64 (IntKind.u64.wrap n)]) ∧ Below w.heap.size w w' := by
  go_enter Try.func26, Try.ntmps26
  go_wp2
  refine bodyPost_ret (results_cell_row rfl _ _ w.heap.size 77 #[.int .i64 (n / 9223372036854775808), .int .u64 (IntKind.u64.wrap n)] (0, 0) _ rfl (Blk.new w _ _) Try.underlying77 rfl (by kernel_rfl)) rfl ?_
  exact ⟨rfl, (Below.refl _ _).alloc (Nat.le_refl _) _⟩

set_option maxRecDepth 100000 in
theorem int_yes (hi lo x : Int) (hx : wrap64 lo = x) (x0 : -9223372036854775808 ≤ x) (x1 : x ≤ 9223372036854775807) (hhi : x / 9223372036854775808 = hi) (hlo : IntKind.u64.wrap x = lo) (w : World) :
    Calls Try.prog 31 #[.agg #[.int .i64 hi, .int .u64 lo]] w fun e w' => e = .returned (.tuple #[.int .i64 x, .bool true]) ∧ Below w.heap.size w w' := by
  have hb0 := Blk.new w 77 #[.int .i64 hi, .int .u64 lo]
  have hbel : Below w.heap.size w (w.alloc (.cells #[.int .i64 hi, .int .u64 lo] 77)) := (Below.refl _ _).alloc (Nat.le_refl _) _
  go_enter Try.func31, Try.ntmps31
  go_wp2_with fail
  refine wp_region_held_drew (S := fun w' => Blk w' w.heap.size 77 #[.int .i64 hi, .int .u64 lo] ∧ Below w.heap.size w w') (by kernel_rfl) (by exact ⟨hb0.drew, hbel.drew⟩) (fun hHeld => ?_)
  refine wpAnyH_take (i := 0) (v := ?_) rfl (by kernel_rfl) (by kernel_rfl) (by kernel_rfl) (fun _ _ _ h => h) (Or.inl ⟨by rfl, ?_⟩) (by assumption) ?_
  rotate_left
  · intro w hSw
    try dsimp only at hSw
    go_simp
    try with_reducible rfl
  simp only [Act.put, List.setIfInBounds_toArray, List.set_cons_zero, List.set_cons_succ, List.getElem_toArray, List.getElem_cons_zero, List.getElem_cons_succ]
  refine wpAnyH_take (i := 2) (v := ?_) rfl (by kernel_rfl) (by kernel_rfl) (by kernel_rfl) (fun _ _ _ h => h) (Or.inl ⟨by rfl, ?_⟩) (by assumption) ?_
  rotate_left
  · intro w hSw
    have q0 := hSw.1.cell 0
    have q1 := hSw.1.cell 1
    simp at q0 q1
    go_simp
    try with_reducible rfl
  simp only [Act.put, List.setIfInBounds_toArray, List.set_cons_zero, List.set_cons_succ, List.getElem_toArray, List.getElem_cons_zero, List.getElem_cons_succ]
  refine wpAnyH_ready (rs := [1]) (by kernel_rfl) (by simp) ?_
  refine AllReadyH.cons rfl (fun Kc hKc => ?_) AllReadyH.nil
  go_simp
  go_wp2_with (go_at_call 26; refine (of_any _ (by omega) (by omega) _).mono ?_; rintro e w' ⟨rfl, hb'⟩)
  refine hKc.out _ _ ?_ (fun hHeld => ?_)
  · first | assumption | exact ⟨hHeld.1.kept hb', btr hHeld.2 hb'⟩
  clear hKc Kc
  refine wpAnyH_take (i := 3) (v := ?_) rfl (by kernel_rfl) (by kernel_rfl) (by kernel_rfl) (fun _ _ _ h => h) (Or.inl ⟨by rfl, ?_⟩) (by assumption) ?_
  rotate_left
  · intro w hSw
    try dsimp only at hSw
    go_simp
    try with_reducible rfl
  simp only [Act.put, List.setIfInBounds_toArray, List.set_cons_zero, List.set_cons_succ, List.getElem_toArray, List.getElem_cons_zero, List.getElem_cons_succ]
  refine wpAnyH_done (by kernel_rfl) ?_ _
  obtain ⟨_, hb9⟩ := hHeld
  have HB := Lib.hid hb9
  clear hb9
  go_wp2
  go_ret2
  exact ⟨rfl, HB.out⟩

set_option maxRecDepth 100000 in
theorem int_no (hi lo x : Int) (hx : wrap64 lo = x) (x0 : -9223372036854775808 ≤ x) (x1 : x ≤ 9223372036854775807) (hhi : ¬ x / 9223372036854775808 = hi) (w : World) :
    Calls Try.prog 31 #[.agg #[.int .i64 hi, .int .u64 lo]] w fun e w' => e = .returned (.tuple #[.int .i64 0, .bool false]) ∧ Below w.heap.size w w' := by
  have hb0 := Blk.new w 77 #[.int .i64 hi, .int .u64 lo]
  have hbel : Below w.heap.size w (w.alloc (.cells #[.int .i64 hi, .int .u64 lo] 77)) := (Below.refl _ _).alloc (Nat.le_refl _) _
  go_enter Try.func31, Try.ntmps31
  go_wp2_with fail
  refine wp_region_held_drew (S := fun w' => Blk w' w.heap.size 77 #[.int .i64 hi, .int .u64 lo] ∧ Below w.heap.size w w') (by kernel_rfl) (by exact ⟨hb0.drew, hbel.drew⟩) (fun hHeld => ?_)
  refine wpAnyH_take (i := 0) (v := ?_) rfl (by kernel_rfl) (by kernel_rfl) (by kernel_rfl) (fun _ _ _ h => h) (Or.inl ⟨by rfl, ?_⟩) (by assumption) ?_
  rotate_left
  · intro w hSw
    try dsimp only at hSw
    go_simp
    try with_reducible rfl
  simp only [Act.put, List.setIfInBounds_toArray, List.set_cons_zero, List.set_cons_succ, List.getElem_toArray, List.getElem_cons_zero, List.getElem_cons_succ]
  refine wpAnyH_take (i := 2) (v := ?_) rfl (by kernel_rfl) (by kernel_rfl) (by kernel_rfl) (fun _ _ _ h => h) (Or.inl ⟨by rfl, ?_⟩) (by assumption) ?_
  rotate_left
  · intro w hSw
    have q0 := hSw.1.cell 0
    have q1 := hSw.1.cell 1
    simp at q0 q1
    go_simp
    try with_reducible rfl
  simp only [Act.put, List.setIfInBounds_toArray, List.set_cons_zero, List.set_cons_succ, List.getElem_toArray, List.getElem_cons_zero, List.getElem_cons_succ]
  refine wpAnyH_ready (rs := [1]) (by kernel_rfl) (by simp) ?_
  refine AllReadyH.cons rfl (fun Kc hKc => ?_) AllReadyH.nil
  go_simp
  go_wp2_with (go_at_call 26; refine (of_any _ (by omega) (by omega) _).mono ?_; rintro e w' ⟨rfl, hb'⟩)
  refine hKc.out _ _ ?_ (fun hHeld => ?_)
  · first | assumption | exact ⟨hHeld.1.kept hb', btr hHeld.2 hb'⟩
  clear hKc Kc
  refine wpAnyH_take (i := 3) (v := ?_) rfl (by kernel_rfl) (by kernel_rfl) (by kernel_rfl) (fun _ _ _ h => h) (Or.inl ⟨by rfl, ?_⟩) (by assumption) ?_
  rotate_left
  · intro w hSw
    try dsimp only at hSw
    go_simp
    try with_reducible rfl
  simp only [Act.put, List.setIfInBounds_toArray, List.set_cons_zero, List.set_cons_succ, List.getElem_toArray, List.getElem_cons_zero, List.getElem_cons_succ]
  refine wpAnyH_done (by kernel_rfl) ?_ _
  obtain ⟨_, hb9⟩ := hHeld
  have HB := Lib.hid hb9
  clear hb9
  go_wp2
  go_ret2
  exact ⟨rfl, HB.out⟩


end Go.Proofs.Ythbkljeibmkimaa

/-
  The walks of wide.Add, Sub, Sum, Plus, Minus. Conditions: the arguments fit their kinds, and what is asked fits.
-/
namespace Go.Proofs.Ythbkljeibmkimaa
open Go.RowKit
set_option linter.unusedVariables false
set_option linter.unusedSimpArgs false

theorem wrap64_of_mod (x : Int) (x0 : -9223372036854775808 ≤ x) (x1 : x ≤ 9223372036854775807) : wrap64 (x % 18446744073709551616) = x := by
  unfold wrap64; omega

set_option maxRecDepth 100000 in
set_option maxHeartbeats 4000000 in
theorem wadd_any (ah al bh bl s l : Int) (a0 : -9223372036854775808 ≤ ah) (a1 : ah ≤ 9223372036854775807) (b0 : -9223372036854775808 ≤ bh) (b1 : bh ≤ 9223372036854775807)
    (al0 : 0 ≤ al) (al1 : al ≤ 18446744073709551615) (bl0 : 0 ≤ bl) (bl1 : bl ≤ 18446744073709551615) (hs : s = ah + bh + (al + bl) / 18446744073709551616) (hl : l = (al + bl) % 18446744073709551616) (s0 : -9223372036854775808 ≤ s) (s1 : s ≤ 9223372036854775807) (w : World) :
    Calls Try.prog 27 #[.agg #[.int .i64 ah, .int .u64 al], .agg #[.int .i64 bh, .int .u64 bl]] w fun e w' => e = .returned (.tuple #[.agg #[.int .i64 s, .int .u64 l], .bool true]) ∧ Below w.heap.size w w' := by
  have k0 : 0 ≤ ((al + bl) / 18446744073709551616) ∧ ((al + bl) / 18446744073709551616) ≤ 1 := by omega
  obtain ⟨k0, k1⟩ := k0
  have A0 := fun w => add64c0 al bl al0 bl0 w
  have U1 : 0 ≤ IntKind.u64.wrap ah ∧ IntKind.u64.wrap ah ≤ 18446744073709551615 := by rw [wrapU_eq]; omega
  have U2 : 0 ≤ IntKind.u64.wrap bh ∧ IntKind.u64.wrap bh ≤ 18446744073709551615 := by rw [wrapU_eq]; omega
  have U3 : IntKind.u64.wrap ah = ah % 18446744073709551616 := wrapU_eq ah
  have U4 : IntKind.u64.wrap bh = bh % 18446744073709551616 := wrapU_eq bh
  rw [← hl] at A0
  generalize ((al + bl) / 18446744073709551616) = c at *
  have A1 := fun w => add64c (IntKind.u64.wrap ah) (IntKind.u64.wrap bh) c U1.1 U2.1 k0 k1 w
  have hq : wrap64 ((IntKind.u64.wrap ah + IntKind.u64.wrap bh + c) % 18446744073709551616) = s := by
    have e : ((IntKind.u64.wrap ah + IntKind.u64.wrap bh + c) % 18446744073709551616) = s % 18446744073709551616 := by rw [U3, U4, hs]; omega
    rw [e]; exact wrap64_of_mod s s0 s1
  generalize ((IntKind.u64.wrap ah + IntKind.u64.wrap bh + c) % 18446744073709551616) = q at *
  generalize (IntKind.u64.wrap ah + IntKind.u64.wrap bh + c) / 18446744073709551616 = q2 at *
  have hsum : (0 ≤ ah → 0 ≤ bh → 0 ≤ s) ∧ (ah < 0 → bh < 0 → s < 0) := ⟨by omega, by omega⟩
  clear al0 al1 bl0 bl1 hl U1 U2 U3 U4 k0 k1 hs
  have key : ∀ (p q r : Bool), decide (ah < 0) = p → decide (bh < 0) = q → decide (s < 0) = r → (p = q → r = p) → Calls Try.prog 27 #[.agg #[.int .i64 ah, .int .u64 al], .agg #[.int .i64 bh, .int .u64 bl]] w fun e w' => e = .returned (.tuple #[.agg #[.int .i64 s, .int .u64 l], .bool true]) ∧ Below w.heap.size w w' := by
    intro p q r D1 D2 D3 hk
    clear a0 a1 b0 b1 s0 s1
    cases p <;> cases q <;> cases r <;> (first | (exfalso; revert hk; decide) | skip) <;> clear hk
    all_goals
      go_enter Try.func27, Try.ntmps27
      go_wp2_with (first | simp only [A0] | simp only [A1])
    all_goals
      refine bodyPost_ret (v := .tuple #[.agg #[.int .i64 s, .int .u64 l], .bool true]) (by simp [results, Try.results27, go_sem]) rfl ⟨rfl, ?_⟩
      exact ((((Below.refl _ _).alloc (Nat.le_refl _) _).alloc (by simp) _).alloc (by simp; omega) _).alloc (by simp; omega) _
  exact key _ _ _ rfl rfl rfl (by by_cases h1 : ah < 0 <;> by_cases h2 : bh < 0 <;> by_cases h3 : s < 0 <;> simp [h1, h2, h3] <;> omega)

set_option maxRecDepth 100000 in
set_option maxHeartbeats 4000000 in
theorem wsub_any (ah al bh bl s l : Int) (a0 : -9223372036854775808 ≤ ah) (a1 : ah ≤ 9223372036854775807) (b0 : -9223372036854775808 ≤ bh) (b1 : bh ≤ 9223372036854775807)
    (al0 : 0 ≤ al) (al1 : al ≤ 18446744073709551615) (bl0 : 0 ≤ bl) (bl1 : bl ≤ 18446744073709551615) (hs : s = ah - bh - bor64 al bl) (hl : l = (al - bl) % 18446744073709551616) (s0 : -9223372036854775808 ≤ s) (s1 : s ≤ 9223372036854775807) (w : World) :
    Calls Try.prog 30 #[.agg #[.int .i64 ah, .int .u64 al], .agg #[.int .i64 bh, .int .u64 bl]] w fun e w' => e = .returned (.tuple #[.agg #[.int .i64 s, .int .u64 l], .bool true]) ∧ Below w.heap.size w w' := by
  have k0 : 0 ≤ (bor64 al bl) ∧ (bor64 al bl) ≤ 1 := by exact bor64_bd al bl
  obtain ⟨k0, k1⟩ := k0
  have A0 := fun w => sub64c0 al bl al0 bl0 (by omega) w
  have U1 : 0 ≤ IntKind.u64.wrap ah ∧ IntKind.u64.wrap ah ≤ 18446744073709551615 := by rw [wrapU_eq]; omega
  have U2 : 0 ≤ IntKind.u64.wrap bh ∧ IntKind.u64.wrap bh ≤ 18446744073709551615 := by rw [wrapU_eq]; omega
  have U3 : IntKind.u64.wrap ah = ah % 18446744073709551616 := wrapU_eq ah
  have U4 : IntKind.u64.wrap bh = bh % 18446744073709551616 := wrapU_eq bh
  rw [← hl] at A0
  generalize (bor64 al bl) = c at *
  have A1 := fun w => sub64c (IntKind.u64.wrap ah) (IntKind.u64.wrap bh) c U1.1 U2.1 (by omega) k0 k1 w
  have hq : wrap64 ((IntKind.u64.wrap ah - IntKind.u64.wrap bh - c) % 18446744073709551616) = s := by
    have e : ((IntKind.u64.wrap ah - IntKind.u64.wrap bh - c) % 18446744073709551616) = s % 18446744073709551616 := by rw [U3, U4, hs]; omega
    rw [e]; exact wrap64_of_mod s s0 s1
  generalize ((IntKind.u64.wrap ah - IntKind.u64.wrap bh - c) % 18446744073709551616) = q at *
  generalize bor64 (IntKind.u64.wrap ah) (IntKind.u64.wrap bh + c) = q2 at *
  have hsum : (0 ≤ ah → bh < 0 → 0 ≤ s) ∧ (ah < 0 → 0 ≤ bh → s < 0) := ⟨by omega, by omega⟩
  clear al0 al1 bl0 bl1 hl U1 U2 U3 U4 k0 k1 hs
  have key : ∀ (p q r : Bool), decide (ah < 0) = p → decide (bh < 0) = q → decide (s < 0) = r → (p = !q → r = p) → Calls Try.prog 30 #[.agg #[.int .i64 ah, .int .u64 al], .agg #[.int .i64 bh, .int .u64 bl]] w fun e w' => e = .returned (.tuple #[.agg #[.int .i64 s, .int .u64 l], .bool true]) ∧ Below w.heap.size w w' := by
    intro p q r D1 D2 D3 hk
    clear a0 a1 b0 b1 s0 s1
    cases p <;> cases q <;> cases r <;> (first | (exfalso; revert hk; decide) | skip) <;> clear hk
    all_goals
      go_enter Try.func30, Try.ntmps30
      go_wp2_with (first | simp only [A0] | simp only [A1])
    all_goals
      refine bodyPost_ret (v := .tuple #[.agg #[.int .i64 s, .int .u64 l], .bool true]) (by simp [results, Try.results30, go_sem]) rfl ⟨rfl, ?_⟩
      exact ((((Below.refl _ _).alloc (Nat.le_refl _) _).alloc (by simp) _).alloc (by simp; omega) _).alloc (by simp; omega) _
  exact key _ _ _ rfl rfl rfl (by by_cases h1 : ah < 0 <;> by_cases h2 : bh < 0 <;> by_cases h3 : s < 0 <;> simp [h1, h2, h3] <;> omega)

end Go.Proofs.Ythbkljeibmkimaa

/-
  The walks of wide.Sum, Plus, Minus. Conditions: the arguments fit their kinds.
-/
namespace Go.Proofs.Ythbkljeibmkimaa
open Go.RowKit
set_option linter.unusedVariables false
set_option linter.unusedSimpArgs false

/-! ### plain -/
def sumL (zs : List Int) : Int := zs.foldl (· + ·) 0
theorem sumL_snoc (zs : List Int) (x : Int) : sumL (zs ++ [x]) = sumL zs + x := by simp [sumL]
theorem foldl_start (zs : List Int) (a : Int) : zs.foldl (· + ·) a = a + zs.foldl (· + ·) 0 := by
  induction zs generalizing a with
  | nil => simp
  | cons x l ih => rw [List.foldl_cons, List.foldl_cons, ih (a + x), ih (0 + x)]; omega
theorem sumL_cons (z : Int) (zs : List Int) : sumL (z :: zs) = z + sumL zs := by
  unfold sumL
  rw [List.foldl_cons, foldl_start]; omega
theorem sumL_bd (zs : List Int) (h : ∀ x ∈ zs, -9223372036854775808 ≤ x ∧ x ≤ 9223372036854775807) : -9223372036854775808 * (zs.length : Int) ≤ sumL zs ∧ sumL zs ≤ 9223372036854775807 * (zs.length : Int) := by
  induction zs with
  | nil => simp [sumL]
  | cons x l ih =>
    rw [sumL_cons]
    have h1 := ih (fun y hy => h y (by simp [hy]))
    have h2 := h x (by simp)
    simp only [List.length_cons]
    omega
/-- what a wide number is made of -/
def wHi (x : Int) : Int := x / 18446744073709551616
def wLo (x : Int) : Int := x % 18446744073709551616
theorem sumL_take (zs : List Int) (j : Nat) (x : Int) (h : zs[j]? = some x) : sumL (zs.take (j + 1)) = sumL (zs.take j) + x := by
  rw [List.take_add_one, h]; simp [sumL]

set_option maxRecDepth 100000 in
set_option maxHeartbeats 4000000 in
theorem sum_yes (zs : List Int) (C cap : Nat) (hn : zs.length ≤ 1000) (hz : ∀ x ∈ zs, -9223372036854775808 ≤ x ∧ x ≤ 9223372036854775807) (w : World)
    (hC : ∀ i u, zs[i]? = some u → w.cell? ⟨C, i, none⟩ = some (.int .i64 u)) (hCw : C < w.heap.size) (x : Int) (hx : x = sumL zs) (x0 : -9223372036854775808 ≤ x) (x1 : x ≤ 9223372036854775807) :
    Calls Try.prog 80 #[.slice (some ⟨C, 0, none⟩) zs.length cap] w fun e w' => e = .returned (.tuple #[.int .i64 x, .bool true]) ∧ Below w.heap.size w w' := by
  have HC := Lib.hid hC
  have HZ := Lib.hid hz
  have HX := Lib.hid hx
  clear hC hz hx
  go_enter Try.func80, Try.ntmps80
  go_wp2
  have hO := Blk.new w 77 #[.int .i64 0, .int .u64 0]
  have hbel : Below w.heap.size w (w.alloc (.cells #[.int .i64 0, .int .u64 0] 77)) := (Below.refl _ _).alloc (Nat.le_refl _) _
  have HO := Lib.hid hO
  have HBL := Lib.hid hbel
  clear hO hbel
  generalize hA : w.heap.size = A at *
  have HA := Lib.hid hA
  clear hA
  go_loopw [9] (fun i wr => ∃ j : Nat, j ≤ zs.length ∧ i = .int .i64 (j : Int) ∧ Blk wr A 77 #[.int .i64 (wHi (sumL (zs.take j))), .int .u64 (wLo (sumL (zs.take j)))] ∧ Below A w wr) (fun i _ => zs.length - (intOf i).toNat)
  case atStart => exact ⟨0, by omega, rfl, HO.out, HBL.out⟩
  case round =>
    obtain ⟨j, hj, rfl, hO, hbel⟩ := hrel
    clear HO HBL
    have HBL := Lib.hid hbel
    have HO := Lib.hid hO
    clear hbel
    by_cases hlt : j < zs.length
    · have hzj : zs[j]? = some zs[j] := List.getElem?_eq_getElem hlt
      have hcj : wr.cell? ⟨C, j, none⟩ = some (.int .i64 zs[j]) := (HBL.out.cell (p := ⟨C, j, none⟩) hCw).trans (HC.out j _ hzj)
      have hb := HZ.out zs[j] (List.getElem_mem hlt)
      have hs := sumL_take zs j _ hzj
      obtain ⟨T, hT⟩ : ∃ T, T = sumL (zs.take (j + 1)) := ⟨_, rfl⟩
      have HT : Hid (sumL (zs.take (j + 1)) = T) := hT.symm
      rw [← hT] at hs
      clear hT
      have hbd := sumL_bd (zs.take j) (fun x hx => HZ.out x (List.mem_of_mem_take hx))
      have hl : (zs.take j).length ≤ 1000 := by simp; omega
      generalize sumL (zs.take j) = U at *
      generalize zs[j] = z at *
      have q0 := hO.cell 0
      have q1 := hO.cell 1
      simp at q0 q1
      go_wp2_with fail
      have W0 : -9223372036854775808 ≤ wHi U ∧ wHi U ≤ 9223372036854775807 := by unfold wHi; omega
      have W1 : 0 ≤ wLo U ∧ wLo U ≤ 18446744073709551615 := by unfold wLo; omega
      have W2 : 0 ≤ IntKind.u64.wrap z ∧ IntKind.u64.wrap z ≤ 18446744073709551615 := by rw [wrapU_eq]; omega
      have W3 : wHi T = wHi U + z / 9223372036854775808 + (wLo U + IntKind.u64.wrap z) / 18446744073709551616 := by rw [wrapU_eq, hs]; unfold wHi wLo; omega
      have W4 : wLo T = (wLo U + IntKind.u64.wrap z) % 18446744073709551616 := by rw [wrapU_eq, hs]; unfold wLo; omega
      have W5 : -9223372036854775808 ≤ wHi T ∧ wHi T ≤ 9223372036854775807 := by unfold wHi; omega
      have HADD : ∀ w, Calls Try.prog 27 #[.agg #[.int .i64 (wHi U), .int .u64 (wLo U)], .agg #[.int .i64 (z / 9223372036854775808), .int .u64 (IntKind.u64.wrap z)]] w fun e w' => e = .returned (.tuple #[.agg #[.int .i64 (wHi T), .int .u64 (wLo T)], .bool true]) ∧ Below w.heap.size w w' :=
        fun w => wadd_any _ _ _ _ _ _ W0.1 W0.2 (by omega) (by omega) W1.1 W1.2 W2.1 W2.2 W3 W4 W5.1 W5.2 w
      have HOF := fun w => of_any z hb.1 hb.2 w
      clear W0 W1 W2 W3 W4 W5 hs hbd hzj
      go_region_with (first | (go_at_call 26; refine (HOF _).mono ?_; rintro e w1 ⟨rfl, hb1⟩; have o1 := HO.out.drew.kept hb1; have q2 := o1.cell 0; have q3 := o1.cell 1; simp at q2 q3) | (go_at_call 27; refine (HADD _).mono ?_; rintro e w2 ⟨rfl, hb2⟩; have o2 := o1.kept hb2; have q4 := o2.cell 0; have q5 := o2.cell 1; have q6 := o2.frozen 0; have q7 := o2.frozen 1; simp at q4 q5))
      all_goals
        have HB9 : Hid (Below A w w2) := Lib.hid ((HBL.out.drew.trans (hb1.mono (by simp; have := HBL.out.size; have := HO.out.lt; omega))).trans (hb2.mono (by have := o1.lt; omega)))
        have HO9 := Lib.hid o2
        clear o1 o2 hb1 hb2 q0 q1 q2 q3 q4 q5 q6 q7
        go_wp2
        go_roundw
        case rel =>
          refine ⟨j + 1, by omega, by go_num, ?_, ?_⟩
          · have := (HO9.out.set_ 0 (.int .i64 (wHi T))).set_ 1 (.int .u64 (wLo T))
            rw [HT.out]
            simpa using this
          · exact (HB9.out.setCell (by simp) _).setCell (by simp) _
        case measure => simp [intOf]; omega
    · obtain rfl : j = zs.length := by omega
      have e : sumL (zs.take zs.length) = x := by rw [List.take_length, HX.out]
      rw [e] at hO HO
      have q0 := hO.cell 0
      have q1 := hO.cell 1
      simp at q0 q1
      have hx1 : wrap64 (wLo x) = x := wrap64_of_mod x x0 x1
      have hx2 : x / 9223372036854775808 = wHi x := by unfold wHi; omega
      have hx3 : IntKind.u64.wrap x = wLo x := wrapU_eq x
      have HI : ∀ w, Calls Try.prog 31 #[.agg #[.int .i64 (wHi x), .int .u64 (wLo x)]] w fun e w' => e = .returned (.tuple #[.int .i64 x, .bool true]) ∧ Below w.heap.size w w' :=
        fun w => int_yes _ _ x hx1 x0 x1 hx2 hx3 w
      clear hx1 hx2 hx3 e
      go_wp2_with (go_at_call 31; refine (HI _).mono ?_; rintro e w1 ⟨rfl, hb1⟩)
      go_ret2
      exact ⟨rfl, by rw [HA.out]; exact HBL.out.trans (hb1.mono (by have := HO.out.lt; omega))⟩
set_option maxRecDepth 100000 in
set_option maxHeartbeats 4000000 in
theorem sum_no (zs : List Int) (C cap : Nat) (hn : zs.length ≤ 1000) (hz : ∀ x ∈ zs, -9223372036854775808 ≤ x ∧ x ≤ 9223372036854775807) (w : World)
    (hC : ∀ i u, zs[i]? = some u → w.cell? ⟨C, i, none⟩ = some (.int .i64 u)) (hCw : C < w.heap.size) (x : Int) (hx : x = sumL zs) (xn : ¬ (-9223372036854775808 ≤ x ∧ x ≤ 9223372036854775807)) :
    Calls Try.prog 80 #[.slice (some ⟨C, 0, none⟩) zs.length cap] w fun e w' => e = .returned (.tuple #[.int .i64 0, .bool false]) ∧ Below w.heap.size w w' := by
  have HC := Lib.hid hC
  have HZ := Lib.hid hz
  have HX := Lib.hid hx
  clear hC hz hx
  go_enter Try.func80, Try.ntmps80
  go_wp2
  have hO := Blk.new w 77 #[.int .i64 0, .int .u64 0]
  have hbel : Below w.heap.size w (w.alloc (.cells #[.int .i64 0, .int .u64 0] 77)) := (Below.refl _ _).alloc (Nat.le_refl _) _
  have HO := Lib.hid hO
  have HBL := Lib.hid hbel
  clear hO hbel
  generalize hA : w.heap.size = A at *
  have HA := Lib.hid hA
  clear hA
  go_loopw [9] (fun i wr => ∃ j : Nat, j ≤ zs.length ∧ i = .int .i64 (j : Int) ∧ Blk wr A 77 #[.int .i64 (wHi (sumL (zs.take j))), .int .u64 (wLo (sumL (zs.take j)))] ∧ Below A w wr) (fun i _ => zs.length - (intOf i).toNat)
  case atStart => exact ⟨0, by omega, rfl, HO.out, HBL.out⟩
  case round =>
    obtain ⟨j, hj, rfl, hO, hbel⟩ := hrel
    clear HO HBL
    have HBL := Lib.hid hbel
    have HO := Lib.hid hO
    clear hbel
    by_cases hlt : j < zs.length
    · have hzj : zs[j]? = some zs[j] := List.getElem?_eq_getElem hlt
      have hcj : wr.cell? ⟨C, j, none⟩ = some (.int .i64 zs[j]) := (HBL.out.cell (p := ⟨C, j, none⟩) hCw).trans (HC.out j _ hzj)
      have hb := HZ.out zs[j] (List.getElem_mem hlt)
      have hs := sumL_take zs j _ hzj
      obtain ⟨T, hT⟩ : ∃ T, T = sumL (zs.take (j + 1)) := ⟨_, rfl⟩
      have HT : Hid (sumL (zs.take (j + 1)) = T) := hT.symm
      rw [← hT] at hs
      clear hT
      have hbd := sumL_bd (zs.take j) (fun x hx => HZ.out x (List.mem_of_mem_take hx))
      have hl : (zs.take j).length ≤ 1000 := by simp; omega
      generalize sumL (zs.take j) = U at *
      generalize zs[j] = z at *
      have q0 := hO.cell 0
      have q1 := hO.cell 1
      simp at q0 q1
      go_wp2_with fail
      have W0 : -9223372036854775808 ≤ wHi U ∧ wHi U ≤ 9223372036854775807 := by unfold wHi; omega
      have W1 : 0 ≤ wLo U ∧ wLo U ≤ 18446744073709551615 := by unfold wLo; omega
      have W2 : 0 ≤ IntKind.u64.wrap z ∧ IntKind.u64.wrap z ≤ 18446744073709551615 := by rw [wrapU_eq]; omega
      have W3 : wHi T = wHi U + z / 9223372036854775808 + (wLo U + IntKind.u64.wrap z) / 18446744073709551616 := by rw [wrapU_eq, hs]; unfold wHi wLo; omega
      have W4 : wLo T = (wLo U + IntKind.u64.wrap z) % 18446744073709551616 := by rw [wrapU_eq, hs]; unfold wLo; omega
      have W5 : -9223372036854775808 ≤ wHi T ∧ wHi T ≤ 9223372036854775807 := by unfold wHi; omega
      have HADD : ∀ w, Calls Try.prog 27 #[.agg #[.int .i64 (wHi U), .int .u64 (wLo U)], .agg #[.int .i64 (z / 9223372036854775808), .int .u64 (IntKind.u64.wrap z)]] w fun e w' => e = .returned (.tuple #[.agg #[.int .i64 (wHi T), .int .u64 (wLo T)], .bool true]) ∧ Below w.heap.size w w' :=
        fun w => wadd_any _ _ _ _ _ _ W0.1 W0.2 (by omega) (by omega) W1.1 W1.2 W2.1 W2.2 W3 W4 W5.1 W5.2 w
      have HOF := fun w => of_any z hb.1 hb.2 w
      clear W0 W1 W2 W3 W4 W5 hs hbd hzj
      go_region_with (first | (go_at_call 26; refine (HOF _).mono ?_; rintro e w1 ⟨rfl, hb1⟩; have o1 := HO.out.drew.kept hb1; have q2 := o1.cell 0; have q3 := o1.cell 1; simp at q2 q3) | (go_at_call 27; refine (HADD _).mono ?_; rintro e w2 ⟨rfl, hb2⟩; have o2 := o1.kept hb2; have q4 := o2.cell 0; have q5 := o2.cell 1; have q6 := o2.frozen 0; have q7 := o2.frozen 1; simp at q4 q5))
      all_goals
        have HB9 : Hid (Below A w w2) := Lib.hid ((HBL.out.drew.trans (hb1.mono (by simp; have := HBL.out.size; have := HO.out.lt; omega))).trans (hb2.mono (by have := o1.lt; omega)))
        have HO9 := Lib.hid o2
        clear o1 o2 hb1 hb2 q0 q1 q2 q3 q4 q5 q6 q7
        go_wp2
        go_roundw
        case rel =>
          refine ⟨j + 1, by omega, by go_num, ?_, ?_⟩
          · have := (HO9.out.set_ 0 (.int .i64 (wHi T))).set_ 1 (.int .u64 (wLo T))
            rw [HT.out]
            simpa using this
          · exact (HB9.out.setCell (by simp) _).setCell (by simp) _
        case measure => simp [intOf]; omega
    · obtain rfl : j = zs.length := by omega
      have e : sumL (zs.take zs.length) = x := by rw [List.take_length, HX.out]
      rw [e] at hO HO
      have q0 := hO.cell 0
      have q1 := hO.cell 1
      simp at q0 q1
      have hbd := sumL_bd zs HZ.out
      have hxx := HX.out
      obtain ⟨y, hy⟩ : ∃ y, wrap64 (wLo x) = y := ⟨_, rfl⟩
      have hy0 : -9223372036854775808 ≤ y ∧ y ≤ 9223372036854775807 := by rw [← hy]; unfold wrap64; omega
      have hx2 : ¬ y / 9223372036854775808 = wHi x := by
        rw [← hy]; unfold wrap64 wHi wLo; omega
      have HI : ∀ w, Calls Try.prog 31 #[.agg #[.int .i64 (wHi x), .int .u64 (wLo x)]] w fun e w' => e = .returned (.tuple #[.int .i64 0, .bool false]) ∧ Below w.heap.size w w' :=
        fun w => int_no _ _ y hy hy0.1 hy0.2 hx2 w
      clear hy hx2 e hbd hxx
      go_wp2_with (go_at_call 31; refine (HI _).mono ?_; rintro e w1 ⟨rfl, hb1⟩)
      go_ret2
      exact ⟨rfl, by rw [HA.out]; exact HBL.out.trans (hb1.mono (by have := HO.out.lt; omega))⟩

def TwoPost (w : World) (x : Int) (b : Bool) (e : Ending) (w' : World) : Prop := e = .returned (.tuple #[.int .i64 x, .bool b]) ∧ Below w.heap.size w w'
theorem two_cells (w : World) (a b : Int) (t : TypeId) : ∀ i u, ([a, b] : List Int)[i]? = some u → (w.alloc (.cells #[.int .i64 a, .int .i64 b] t)).cell? ⟨w.heap.size, i, none⟩ = some (.int .i64 u) := by
  intro i u hu
  have h := (Blk.new w t #[.int .i64 a, .int .i64 b]).cell i
  rw [h]
  match i with
  | 0 => simp at hu; simp [hu]
  | 1 => simp at hu; simp [hu]
  | n + 2 => simp at hu
theorem plus_yes (a b : Int) (a0 : -9223372036854775808 ≤ a) (a1 : a ≤ 9223372036854775807) (b0 : -9223372036854775808 ≤ b) (b1 : b ≤ 9223372036854775807) (s0 : -9223372036854775808 ≤ a + b) (s1 : a + b ≤ 9223372036854775807) (w : World) :
    Calls Try.prog 77 #[.int .i64 a, .int .i64 b] w (TwoPost w (a + b) true) := by
  have HS := sum_yes [a, b] w.heap.size 2 (by simp) (by intro x hx; simp at hx; omega) (w.alloc (.cells #[.int .i64 a, .int .i64 b] 2)) (two_cells w a b _) (by simp) (a + b) (by simp [sumL]) s0 s1
  simp only [List.length_cons, List.length_nil, Nat.zero_add, Nat.reduceAdd] at HS
  generalize a + b = x at *
  go_enter Try.func77, Try.ntmps77
  go_wp2_with (go_at_call 80; refine HS.mono ?_; rintro e w1 ⟨rfl, hb1⟩)
  go_ret2
  exact ⟨rfl, ((Below.refl _ _).alloc (Nat.le_refl _) _).trans (hb1.mono (by simp))⟩
theorem plus_no (a b : Int) (a0 : -9223372036854775808 ≤ a) (a1 : a ≤ 9223372036854775807) (b0 : -9223372036854775808 ≤ b) (b1 : b ≤ 9223372036854775807) (sn : ¬ (-9223372036854775808 ≤ a + b ∧ a + b ≤ 9223372036854775807)) (w : World) :
    Calls Try.prog 77 #[.int .i64 a, .int .i64 b] w (TwoPost w 0 false) := by
  have HS := sum_no [a, b] w.heap.size 2 (by simp) (by intro x hx; simp at hx; omega) (w.alloc (.cells #[.int .i64 a, .int .i64 b] 2)) (two_cells w a b _) (by simp) (a + b) (by simp [sumL]) sn
  simp only [List.length_cons, List.length_nil, Nat.zero_add, Nat.reduceAdd] at HS
  clear sn
  go_enter Try.func77, Try.ntmps77
  go_wp2_with (go_at_call 80; refine HS.mono ?_; rintro e w1 ⟨rfl, hb1⟩)
  go_ret2
  exact ⟨rfl, ((Below.refl _ _).alloc (Nat.le_refl _) _).trans (hb1.mono (by simp))⟩


end Go.Proofs.Ythbkljeibmkimaa

/-
  The walks of grid's joint, Plus, Minus. Conditions: none beyond those stated at each theorem.
-/
namespace Go.Proofs.Ythbkljeibmkimaa
open Go.RowKit
set_option linter.unusedVariables false
set_option linter.unusedSimpArgs false

/-- function F is the operation f of two numbers -/
def OpOK (F : Nat) (f : Int → Int → Int) : Prop := ∀ (a b : Int) (w : World), In64 a → In64 b →
  (In64 (f a b) → Calls Try.prog F #[.int .i64 a, .int .i64 b] w (TwoPost w (f a b) true)) ∧ (¬ In64 (f a b) → Calls Try.prog F #[.int .i64 a, .int .i64 b] w (TwoPost w 0 false))
theorem opok_plus : OpOK 77 (fun a b => a + b) := fun a b w ha hb =>
  ⟨fun h => plus_yes a b ha.1 ha.2 hb.1 hb.2 h.1 h.2 w, fun h => plus_no a b ha.1 ha.2 hb.1 hb.2 h w⟩
def JointV (G F : Nat) : Value := .agg #[.pointer (some ⟨G, 0, none⟩), .func (Fn.func F) #[] #[]]
def AllYes (w : World) (G C R W : Nat) (zs : List Int) (e : Ending) (w' : World) : Prop := e = .returned (.int .i64 0) ∧ GridIs w' G C R W zs ∧ w.grownBy w' (some C)
def AllNo (w : World) (n : Int) (e : Ending) (w' : World) : Prop := e = .returned (.int .i64 n) ∧ Below w.heap.size w w'

theorem zip_at {f : Int → Int → Int} {zs hs : List Int} {j : Nat} {z h : Int} (h1 : zs[j]? = some z) (h2 : hs[j]? = some h) : (List.zipWith f zs hs)[j]? = some (f z h) := by
  simp [List.getElem?_zipWith, h1, h2]

end Go.Proofs.Ythbkljeibmkimaa

/-
  The walks of linear.meet, Read, Least, Middle. Conditions: none beyond those stated at each theorem.
-/
namespace Go.Proofs.Ythbkljeibmkimaa
open Go.RowKit
set_option linter.unusedVariables false
set_option linter.unusedSimpArgs false

/-- do the columns name a cell of each row? -/
def meetB (R W : Nat) (cs : List Int) : Bool := decide (0 < R) && (decide (cs.length = R) && cs.all fun c => decide (0 ≤ c) && decide (c < (W : Int)))
def colN (cs : List Int) (r : Nat) : Nat := (cellD cs r).toNat
/-- the cells that the columns name -/
def readZ (W : Nat) (zs cs : List Int) : List Int := (List.range cs.length).map fun r => cellD zs (r * W + colN cs r)
theorem meetB_of {R W : Nat} {cs : List Int} (h : meetB R W cs = true) : 0 < R ∧ cs.length = R ∧ ∀ r, r < R → cs[r]? = some (colN cs r : Int) ∧ colN cs r < W := by
  simp only [meetB, Bool.and_eq_true, decide_eq_true_eq, List.all_eq_true] at h
  obtain ⟨h0, h1, h2⟩ := h
  refine ⟨h0, h1, fun r hr => ?_⟩
  have hl : r < cs.length := by omega
  have e : cellD cs r = cs[r] := by simp [cellD, hl]
  have := h2 cs[r] (List.getElem_mem hl)
  unfold colN
  rw [e, List.getElem?_eq_getElem hl]
  exact ⟨by rw [Int.toNat_of_nonneg (by omega)], by omega⟩
theorem meetB_zero {W : Nat} {cs : List Int} : meetB 0 W cs = false := by simp [meetB]
theorem meetB_len {R W : Nat} {cs : List Int} (h : cs.length ≠ R) : meetB R W cs = false := by simp [meetB, h]
theorem meetB_bad {R W : Nat} {cs : List Int} {j : Nat} {c : Int} (hc : cs[j]? = some c) (h : c < 0 ∨ (W : Int) ≤ c) : meetB R W cs = false := by
  cases hm : meetB R W cs with
  | false => rfl
  | true =>
    simp only [meetB, Bool.and_eq_true, decide_eq_true_eq, List.all_eq_true] at hm
    have := hm.2.2 c (List.mem_of_getElem? hc)
    omega
theorem meetB_all {R W : Nat} {cs : List Int} (h0 : 0 < R) (h1 : cs.length = R) (h2 : ∀ (j : Nat) (c : Int), cs[j]? = some c → 0 ≤ c ∧ c < (W : Int)) : meetB R W cs = true := by
  simp only [meetB, Bool.and_eq_true, decide_eq_true_eq, List.all_eq_true]
  refine ⟨h0, h1, fun c hc => ?_⟩
  obtain ⟨j, hj⟩ := List.getElem?_of_mem hc
  exact h2 j c hj

set_option maxRecDepth 100000 in
set_option maxHeartbeats 4000000 in
theorem meet_any (w : World) (G C R W : Nat) (zs cs : List Int) (v : Value) (h : GridIs w G C R W zs) (hv : IntsAt w v cs) (hl : cs.length ≤ 100000) :
    Calls Try.prog 98 #[.pointer (some ⟨G, 0, none⟩), v] w fun e w' => e = .returned (.bool (meetB R W cs)) ∧ w = w' := by
  have P1 := rows_any w G C R W zs h
  have P2 := width_any w G C R W zs h
  clear h
  obtain ⟨ao, cap, rfl, hcap, hcells⟩ := hv
  have HC := Lib.hid hcells
  clear hcells
  obtain ⟨n, hlen⟩ : ∃ n, n = cs.length := ⟨_, rfl⟩
  rw [← hlen] at hcap hl ⊢
  have HLEN := Lib.hid hlen
  clear hlen
  by_cases hR : R = 0
  · have HM : Hid (meetB R W cs = false) := Lib.hid (by rw [hR]; exact meetB_zero)
    have d0 : decide ((R : Int) < 1) = true := decide_eq_true (by omega)
    have d0' : decide (R < 1) = true := decide_eq_true (by omega)
    clear hR
    go_enter Try.func98, Try.ntmps98
    go_wp2_with (go_at_call 105; refine P1.mono ?_; rintro e w' ⟨rfl, rfl⟩)
    go_ret
    exact ⟨ret_boolq HM.out.symm, rfl⟩
  have d0 : decide ((R : Int) < 1) = false := decide_eq_false (by omega)
  have d0' : decide (R < 1) = false := decide_eq_false (by omega)
  by_cases hn : n = R
  · have HN := Lib.hid hn
    have d1 : ((n : Int) != (R : Int)) = false := by simp [hn]
    have d1' : (n != R) = false := by simp [hn]
    have h0R : 0 < R := by omega
    clear hn hR
    go_enter Try.func98, Try.ntmps98
    go_wp2_with (go_at_call 105; refine P1.mono ?_; rintro e w' ⟨rfl, rfl⟩)
    go_loop [23] (fun i => ∃ j : Nat, j ≤ n ∧ i = .int .i64 (j : Int) ∧ ∀ k c, k < j → cs[k]? = some c → 0 ≤ c ∧ c < (W : Int)) (fun i => n - (intOf i).toNat)
    case atStart => exact ⟨0, by omega, rfl, fun k c hk => by omega⟩
    case round =>
      obtain ⟨j, hj, rfl, hok⟩ := hrel
      have HOK := Lib.hid hok
      clear hok
      by_cases hlt : j < n
      · obtain ⟨g, rfl, hg, hc⟩ := HC.out (by have := HLEN.out; omega)
        have hcj : cs[j]? = some (cellD cs j) := by
          have : j < cs.length := by have := HLEN.out; omega
          simp [cellD, this]
        have cx := hc j _ hcj
        have HCJ := Lib.hid hcj
        clear hc hcj
        generalize cellD cs j = x at *
        by_cases h1 : x < 0
        · have HM : Hid (meetB R W cs = false) := Lib.hid (meetB_bad HCJ.out (.inl h1))
          have e1 : decide (x < 0) = true := decide_eq_true h1
          clear h1
          go_wp2_with (go_at_call 76; refine P2.mono ?_; rintro e w' ⟨rfl, rfl⟩)
          go_ret
          exact ⟨ret_boolq HM.out.symm, rfl⟩
        by_cases h2 : (W : Int) ≤ x
        · have HM : Hid (meetB R W cs = false) := Lib.hid (meetB_bad HCJ.out (.inr h2))
          have e1 : decide (x < 0) = false := decide_eq_false h1
          have e2 : decide ((W : Int) ≤ x) = true := decide_eq_true h2
          clear h1 h2
          go_wp2_with (go_at_call 76; refine P2.mono ?_; rintro e w' ⟨rfl, rfl⟩)
          go_ret
          exact ⟨ret_boolq HM.out.symm, rfl⟩
        have HX : Hid (∀ k c, k < j + 1 → cs[k]? = some c → 0 ≤ c ∧ c < (W : Int)) := Lib.hid (fun k c hk hc => by
          by_cases e : k = j
          · subst e; rw [HCJ.out] at hc; have := Option.some.inj hc; omega
          · exact HOK.out k c (by omega) hc)
        have e1 : decide (x < 0) = false := decide_eq_false h1
        have e2 : decide ((W : Int) ≤ x) = false := decide_eq_false h2
        clear h1 h2
        go_wp2_with (go_at_call 76; refine P2.mono ?_; rintro e w' ⟨rfl, rfl⟩)
        go_round
        case rel => exact ⟨j + 1, by omega, by go_num, HX.out⟩
        case measure => simp [intOf]; omega
      · obtain rfl : j = n := by omega
        have HM : Hid (meetB R W cs = true) := Lib.hid (meetB_all h0R (by rw [← HLEN.out, HN.out]) (fun k c hc => HOK.out k c (by
          have := (List.getElem?_eq_some_iff.1 hc).1
          have := HLEN.out
          omega) hc))
        go_wp2
        go_ret
        exact ⟨ret_boolq HM.out.symm, rfl⟩
  · have HM : Hid (meetB R W cs = false) := Lib.hid (meetB_len (by have := HLEN.out; omega))
    have d1 : ((n : Int) != (R : Int)) = true := by simp; omega
    have d1' : (n != R) = true := by simp; omega
    clear hn hR
    go_enter Try.func98, Try.ntmps98
    go_wp2_with (go_at_call 105; refine P1.mono ?_; rintro e w' ⟨rfl, rfl⟩)
    go_ret
    exact ⟨ret_boolq HM.out.symm, rfl⟩

def ReadPost (w : World) (W : Nat) (zs cs : List Int) (e : Ending) (w' : World) : Prop :=
  ∃ g, e = .returned (.tuple #[.slice (some ⟨g, 0, none⟩) cs.length cs.length, .int .i64 0]) ∧ w.heap.size ≤ g ∧ w'.rowIs g 2 cs.length (fun r => .int .i64 (cellD zs (r * W + colN cs r))) ∧ Below w.heap.size w w'

set_option maxRecDepth 100000 in
set_option maxHeartbeats 4000000 in
theorem read_yes (w : World) (G C R W : Nat) (zs cs : List Int) (v : Value) (h : GridIs w G C R W zs) (hv : IntsAt w v cs) (hm : meetB R W cs = true) :
    Calls Try.prog 90 #[.pointer (some ⟨G, 0, none⟩), v] w (ReadPost w W zs cs) := by
  have hRle := h.rows
  have P1 := fun hl => meet_any w G C R W zs cs v h hv hl
  obtain ⟨h0R, hlR, hcol⟩ := meetB_of hm
  rw [hm] at P1
  have HG := Lib.hid h
  have HV := Lib.hid hv
  have HCOL := Lib.hid hcol
  clear h hcol hm
  have P2 := P1 (by omega)
  clear P1
  obtain ⟨ao, cap, rfl, hcap, hcells⟩ := hv
  obtain ⟨g, rfl, hg, hc⟩ := hcells (by omega)
  have HC := Lib.hid hc
  clear hcells hc
  obtain ⟨n, hlen⟩ : ∃ n, n = cs.length := ⟨_, rfl⟩
  rw [← hlen] at hcap P2
  unfold ReadPost
  simp only [← hlen]
  have HLEN := Lib.hid hlen
  have hn8 : n ≤ 8 := by omega
  have hnR : Hid (n = R) := by show _ = _; omega
  clear hlen hlR hRle
  have hmk := fun W => run_make_row' (P := Try.prog) 120 2 (.int .i64 0) 8 Try.underlying120 Try.info64 rfl .i64 .i64 n (by omega) (by omega) W
  go_enter Try.func90, Try.ntmps90
  go_wp2_with (go_at_call 98; refine P2.mono ?_; rintro e w' ⟨rfl, hw'⟩; subst hw')
  obtain ⟨f, hf⟩ : ∃ f : Nat → Int, f = fun r => cellD zs (r * W + colN cs r) := ⟨_, rfl⟩
  have HF := Lib.hid hf
  clear hf
  have hrow := RowUpTo.zeros (f := f) (World.rowIs_made w (.int .i64 0) n 2)
  have hbel : Below w.heap.size w (w.alloc (.cells (madeCells #[.int .i64 0] n) 2)) := (Below.refl _ _).alloc (Nat.le_refl _) _
  have hszg : w.heap.size < (w.alloc (.cells (madeCells #[.int .i64 0] n) 2)).heap.size := by simp
  generalize (w.alloc (.cells (madeCells #[.int .i64 0] n) 2)) = wz at *
  have HRW := Lib.hid hrow
  have HB := Lib.hid hbel
  clear hrow hbel hmk
  generalize hA : w.heap.size = A at *
  have HA := Lib.hid hA
  clear hA
  go_loopw [18] (fun i wr => ∃ j : Nat, j ≤ n ∧ i = .int .i64 (j : Int) ∧ RowUpTo wr A 2 n f j ∧ Below A w wr) (fun i _ => n - (intOf i).toNat)
  case atStart => exact ⟨0, by omega, rfl, HRW.out, HB.out⟩
  case round =>
    obtain ⟨j, hj, rfl, hrow, hbel⟩ := hrel
    clear HRW HB
    have HRW := Lib.hid hrow
    have HB := Lib.hid hbel
    by_cases hlt : j < n
    · obtain ⟨hcj, hcw⟩ := HCOL.out j (by have := hnR.out; omega)
      have cx := (hbel.cell (p := ⟨g, j, none⟩) hg).trans (HC.out j _ hcj)
      have hG := HG.out
      have hgk : GridIs wr G C R W zs := hG.below hbel (by have := hG.ltG; have := HA.out; omega) (by have := hG.ltC; have := HA.out; omega)
      have P3 := at_in wr G C R W j (colN cs j) zs hgk (by have := hnR.out; omega) hcw
      have HFJ : Hid (cellD zs (j * W + colN cs j) = f j) := Lib.hid (by rw [HF.out])
      obtain ⟨ov, hov⟩ := hrow.cell hlt
      have hfr := hrow.frozen j
      clear hG hgk hcj hcw hrow hbel
      generalize cellD zs (j * W + colN cs j) = x at *
      generalize colN cs j = y at *
      have i0 : (0 : Int) ≤ (j : Int) := by omega
      have i1 : (j : Int) < (n : Int) := by omega
      go_wp2_with (go_at_call 78; refine P3.mono ?_; rintro e w' ⟨rfl, hw'⟩; subst hw')
      go_roundw
      case rel => exact ⟨j + 1, by omega, by go_num, HRW.out.put HFJ.out, HB.out.setCell (Nat.le_refl _) _⟩
      case measure => simp [intOf]; omega
    · obtain rfl : j = n := by omega
      have HFU : Hid (wr.rowIs A 2 j (fun r => .int .i64 (cellD zs (r * W + colN cs r)))) := Lib.hid (by have := HRW.out.full; rw [HF.out] at this; exact this)
      clear hrow hbel
      go_wp2
      go_ret2
      exact ⟨A, rfl, Nat.le_of_eq HA.out, HFU.out, by rw [HA.out]; exact HB.out⟩
theorem read_no (w : World) (G C R W : Nat) (zs cs : List Int) (v : Value) (h : GridIs w G C R W zs) (hv : IntsAt w v cs) (hl : cs.length ≤ 100000) (hm : meetB R W cs = false) :
    Calls Try.prog 90 #[.pointer (some ⟨G, 0, none⟩), v] w fun e w' => e = .returned (.tuple #[.slice none 0 0, .int .i64 1]) ∧ w = w' := by
  have P1 := meet_any w G C R W zs cs v h hv hl
  rw [hm] at P1
  clear h hm
  obtain ⟨ao, cap, rfl, hcap, hcells⟩ := hv
  clear hcells
  go_enter Try.func90, Try.ntmps90
  go_wp2_with (go_at_call 98; refine P1.mono ?_; rintro e w' ⟨rfl, hw'⟩; subst hw')
  go_ret2
  exact ⟨rfl, rfl⟩
end Go.Proofs.Ythbkljeibmkimaa

/-
  The document's grid in memory and the walks of its cells. Conditions: none beyond those stated at each theorem.
-/
namespace Go.Proofs.Ythbkljeibmkimaa
open Go.RowKit
set_option linter.unusedVariables false
set_option linter.unusedSimpArgs false

/-- block G is the document's grid of R rows of W numbers: its rows' slices are v's, the numbers of row r lie in block B r (with room for K r); all of it lies from block N on -/
theorem place_eq {W a c b d : Nat} (hc : c < W) (hd : d < W) (h : a * W + c = b * W + d) : a = b ∧ c = d := by
  have h1 : (a * W + c) / W = a := by rw [Nat.mul_comm, Nat.mul_add_div (by omega), Nat.div_eq_of_lt hc]; rfl
  have h2 : (b * W + d) / W = b := by rw [Nat.mul_comm, Nat.mul_add_div (by omega), Nat.div_eq_of_lt hd]; rfl
  have h3 : a = b := by rw [← h1, ← h2, h]
  subst h3
  exact ⟨rfl, by omega⟩
end Go.Proofs.Ythbkljeibmkimaa

/-
  The walk of linear.Change. Conditions: none beyond those stated at each theorem.
-/
namespace Go.Proofs.Ythbkljeibmkimaa
open Go.RowKit
set_option linter.unusedVariables false
set_option linter.unusedSimpArgs false

/-- the cells with the first k rows' numbers laid -/
def setsZ (W : Nat) (zs : List Int) (cf : Nat → Nat) (vf : Nat → Int) : Nat → List Int
  | 0 => zs
  | k + 1 => (setsZ W zs cf vf k).set (k * W + cf k) (vf k)
theorem setsZ_len {W : Nat} {zs : List Int} {cf : Nat → Nat} {vf : Nat → Int} (k : Nat) : (setsZ W zs cf vf k).length = zs.length := by
  induction k with
  | zero => rfl
  | succ k ih => rw [setsZ, List.length_set, ih]
theorem setsZ_get {R W : Nat} {zs : List Int} {cf : Nat → Nat} {vf : Nat → Int} (hl : zs.length = R * W) (hcf : ∀ r, r < R → cf r < W) (k : Nat) (hk : k ≤ R) (r c : Nat) (hr : r < R) (hc : c < W) :
    cellD (setsZ W zs cf vf k) (r * W + c) = if r < k ∧ c = cf r then vf r else cellD zs (r * W + c) := by
  induction k with
  | zero => simp [setsZ]
  | succ k ih =>
    have hlt : k * W + cf k < (setsZ W zs cf vf k).length := by
      rw [setsZ_len, hl]
      have h1 : (k + 1) * W ≤ R * W := Nat.mul_le_mul_right W hk
      rw [Nat.add_mul] at h1
      have := hcf k (by omega)
      omega
    have ih := ih (by omega)
    unfold cellD at ih ⊢
    rw [setsZ, List.getElem?_set]
    by_cases e : k * W + cf k = r * W + c
    · obtain ⟨rfl, rfl⟩ := place_eq (hcf k (by omega)) hc e
      simp [hlt]
    · rw [if_neg e, ih]
      by_cases hrk : r = k
      · subst hrk
        have : ¬ c = cf r := fun h => e (by rw [h])
        simp [this]
      · have : (r < k + 1 ∧ c = cf r) ↔ (r < k ∧ c = cf r) := by omega
        simp only [this]
def changeZ (W : Nat) (zs cs : List Int) (d : Int) : List Int := setsZ W zs (colN cs) (fun r => cellD zs (r * W + colN cs r) + d) cs.length
/-- does each sum fit? -/
def changeFits (W : Nat) (zs cs : List Int) (d : Int) : Prop := ∀ r, r < cs.length → In64 (cellD zs (r * W + colN cs r) + d)
def ChangeYes (w : World) (G C R W : Nat) (zs cs : List Int) (d : Int) (e : Ending) (w' : World) : Prop :=
  e = .returned (.int .i64 0) ∧ GridIs w' G C R W (changeZ W zs cs d) ∧ w.grownBy w' (some C)
def ChangePost (w : World) (G C R W : Nat) (zs cs : List Int) (d : Int) (e : Ending) (w' : World) : Prop :=
  (changeFits W zs cs d ∧ ChangeYes w G C R W zs cs d e w') ∨ (¬ changeFits W zs cs d ∧ e = .returned (.int .i64 4) ∧ Below w.heap.size w w')
theorem below_grown {w w' : World} {row : Option Nat} (h : Below w.heap.size w w') : w.grownBy w' row := ⟨h.os, h.tape, h.output, h.size, fun k hk _ => h.block k hk⟩
theorem grown_trans {w w1 w2 : World} {row : Option Nat} (h : w.grownBy w1 row) (k : w1.grownBy w2 row) : w.grownBy w2 row :=
  ⟨k.os.trans h.os, k.tape.trans h.tape, k.output.trans h.output, Nat.le_trans h.size k.size, fun j hj hne => (k.block j (Nat.lt_of_lt_of_le hj h.size) hne).trans (h.block j hj hne)⟩
theorem cell_fit {zs : List Int} (h : Fit zs) (i : Nat) : In64 (cellD zs i) := by
  unfold cellD
  cases hz : zs[i]? with
  | none => exact ⟨by simp, by simp⟩
  | some x => exact h.get hz

set_option maxRecDepth 100000 in
set_option maxHeartbeats 4000000 in
theorem change_yes (w : World) (G C R W : Nat) (zs cs : List Int) (d : Int) (v : Value) (h : GridIs w G C R W zs) (hv : IntsAt w v cs) (hm : meetB R W cs = true) (hd : In64 d) (hvc : v.ownBlock ≠ some C) :
    Calls Try.prog 94 #[.pointer (some ⟨G, 0, none⟩), v, .int .i64 d] w (ChangePost w G C R W zs cs d) := by
  have hR8 := h.rows
  have hfit := h.fit
  obtain ⟨h0R, hlR, hcol⟩ := meetB_of hm
  have P1 := read_yes w G C R W zs cs v h hv hm
  have HG := Lib.hid h
  have HV := Lib.hid hv
  have HCOL := Lib.hid hcol
  have HFIT := Lib.hid hfit
  clear h hcol hm hfit
  obtain ⟨ao, cap, rfl, hcap, hcells⟩ := hv
  obtain ⟨g, rfl, hg, hc⟩ := hcells (by omega)
  have HC := Lib.hid hc
  have hgC : g ≠ C := fun e => hvc (by simp [Value.ownBlock, e])
  clear hcells hc hvc
  obtain ⟨n, hlen⟩ : ∃ n, n = cs.length := ⟨_, rfl⟩
  unfold ReadPost at P1
  have hCP : ChangePost w G C R W zs cs d = fun e w' => (changeFits W zs cs d ∧ (e = .returned (.int .i64 0) ∧ GridIs w' G C R W (setsZ W zs (colN cs) (fun r => cellD zs (r * W + colN cs r) + d) n) ∧ w.grownBy w' (some C))) ∨ (¬ changeFits W zs cs d ∧ e = .returned (.int .i64 4) ∧ Below w.heap.size w w') := by
    funext e w'; rw [hlen]; rfl
  rw [hCP]
  have HFITS : Hid (changeFits W zs cs d ↔ ∀ r, r < n → In64 (cellD zs (r * W + colN cs r) + d)) := Lib.hid (by rw [hlen]; exact Iff.rfl)
  clear hCP
  rw [← hlen] at hcap
  simp only [← hlen] at P1 ⊢
  have hn8 : n ≤ 8 := by omega
  have hnR : Hid (n = R) := by show _ = _; omega
  have HLEN := Lib.hid hlen
  clear hlen hlR hR8
  generalize changeFits W zs cs d = FITS at *
  obtain ⟨f, hf⟩ : ∃ f : Nat → Int, f = fun r => cellD zs (r * W + colN cs r) := ⟨_, rfl⟩
  have HF64 : Hid (∀ r, In64 (f r)) := Lib.hid (fun r => by rw [hf]; exact cell_fit HFIT.out _)
  rw [show (fun r => Value.int .i64 (cellD zs (r * W + colN cs r))) = fun r => Value.int .i64 (f r) by rw [hf]] at P1
  rw [show (fun r => cellD zs (r * W + colN cs r) + d) = fun r => f r + d by rw [hf]]
  have HFITS : Hid (FITS ↔ ∀ r, r < n → In64 (f r + d)) := Lib.hid (by rw [HFITS.out, hf])
  clear hf
  go_enter Try.func94, Try.ntmps94
  go_wp2_with (go_at_call 90; refine P1.mono ?_; rintro e w2 ⟨b, rfl, hb0, hrow, hb⟩; have HB0 := Lib.hid hb0; have HROW := Lib.hid hrow; have HB := Lib.hid hb; clear hrow hb hb0)
  go_loopw [26] (fun i wr => ∃ j : Nat, j ≤ n ∧ i = .int .i64 (j : Int) ∧ wr.rowIs b 2 n (fun k => .int .i64 (if k < j then f k + d else f k)) ∧ (∀ k, k < j → In64 (f k + d)) ∧ Below w.heap.size w wr) (fun i _ => n - (intOf i).toNat)
  case atStart => exact ⟨0, by omega, rfl, HROW.out.congr (fun k _ => by simp), fun k hk => by omega, HB.out⟩
  case round =>
    obtain ⟨j, hj, rfl, hrow, hok, hbel⟩ := hrel
    clear HROW HB
    have HROW := Lib.hid hrow
    have HB := Lib.hid hbel
    have HOK := Lib.hid hok
    by_cases hlt : j < n
    · have cx := hrow.cell hlt
      simp only [Nat.lt_irrefl, if_false] at cx
      have i0 : (0 : Int) ≤ (j : Int) := by omega
      have i1 : (j : Int) < (n : Int) := by omega
      clear hrow hbel hok
      have h64 := HF64.out j
      by_cases hj64 : In64 (f j + d)
      · have P2 := (opok_plus (f j) d wr h64 hd).1 hj64
        have HOK2 : Hid (∀ k, k < j + 1 → In64 (f k + d)) := Lib.hid (fun k hk => by
          by_cases e : k = j
          · subst e; exact hj64
          · exact HOK.out k (by omega))
        have HE : Hid (∀ k, (if k = j then f j + d else if k < j then f k + d else f k) = if k < j + 1 then f k + d else f k) := Lib.hid (fun k => by
          by_cases e : k = j
          · subst e; simp
          · have : k < j + 1 ↔ k < j := by omega
            simp [e, this])
        unfold TwoPost at P2
        generalize f j + d = x at *
        clear h64 hj64
        go_wp2_with (go_at_call 77; refine P2.mono ?_; rintro e w3 ⟨rfl, hb⟩; have hr3 := HROW.out.of_block (hb.block b HROW.out.lt); have HR3 := Lib.hid hr3; have HB3 := Lib.hid (btr HB.out hb); obtain ⟨ov, hov⟩ : ∃ ov, w3.cell? ⟨b, j, none⟩ = some ov := ⟨_, hr3.cell hlt⟩; have hfr := hr3.frozen j; clear hr3 hb)
        go_roundw
        case rel => exact ⟨j + 1, by omega, by go_num, (HR3.out.set j _).congr (fun k _ => by have := HE.out k; by_cases e : k = j <;> simp [e] at this ⊢ <;> simp [this]), HOK2.out, HB3.out.setCell HB0.out _⟩
        case measure => simp [intOf]; omega
      · have P2 := (opok_plus (f j) d wr h64 hd).2 hj64
        have HNF : Hid (¬ FITS) := Lib.hid (fun h => hj64 (HFITS.out.1 h j hlt))
        unfold TwoPost at P2
        clear h64 hj64
        go_wp2_with (go_at_call 77; refine P2.mono ?_; rintro e w3 ⟨rfl, hb⟩; have HB3 := Lib.hid (btr HB.out hb); clear hb)
        go_ret
        exact .inr ⟨HNF.out, rfl, HB3.out⟩
    · obtain rfl : j = n := by omega
      have hrow2 : wr.rowIs b 2 j (fun k => .int .i64 (f k + d)) := hrow.congr (fun k hk => by rw [if_pos hk])
      have HYES : Hid FITS := HFITS.out.2 hok
      have HROW := Lib.hid hrow2
      have HGR := Lib.hid (HG.out.kept hbel)
      have HGB := Lib.hid (below_grown (row := some C) hbel)
      have hbC : b ≠ C := by have := HG.out.ltC; have := HB0.out; omega
      have hgk : g < wr.heap.size := by have := hbel.size; omega
      clear hrow hrow2 hbel hok
      go_wp2_with fail
      go_loopw [46] (fun i ws => ∃ k : Nat, k ≤ j ∧ i = .int .i64 (k : Int) ∧ GridIs ws G C R W (setsZ W zs (colN cs) (fun r => f r + d) k) ∧ w.grownBy ws (some C) ∧ wr.grownBy ws (some C)) (fun i _ => j - (intOf i).toNat)
      case atStart => exact ⟨0, by omega, rfl, HGR.out, HGB.out, ⟨rfl, rfl, rfl, Nat.le_refl _, fun _ _ _ => rfl⟩⟩
      case round =>
        obtain ⟨k, hk, rfl, hgs, hgr, hgr2⟩ := hrel
        have HGS := Lib.hid hgs
        have HG1 := Lib.hid hgr
        have HG2 := Lib.hid hgr2
        by_cases hlk : k < j
        · have cx := hgr2.cell (HROW.out.cell hlk) (by simpa using hbC)
          obtain ⟨hck, hcw⟩ := HCOL.out k (by have := hnR.out; omega)
          have cc := hgr.cell (HC.out k _ hck) (by simpa using hgC)
          have P3 := put_in _ G C R W k (colN cs k) (f k + d) _ hgs (by have := hnR.out; omega) hcw
          have i0 : (0 : Int) ≤ (k : Int) := by omega
          have i1 : (k : Int) < (j : Int) := by omega
          have HX : Hid (In64 (f k + d)) := HOK.out k hlk
          have HST : Hid (setsZ W zs (colN cs) (fun r => f r + d) (k + 1) = (setsZ W zs (colN cs) (fun r => f r + d) k).set (k * W + colN cs k) (f k + d)) := rfl
          clear hgs hgr hgr2 hck hcw
          generalize f k + d = x at *
          generalize hy : colN cs k = y at *
          have HY := Lib.hid hy
          clear hy
          go_wp2_with (go_at_call 79; refine P3.mono ?_; rintro e w3 ⟨rfl, hw3⟩; have HW3 := Lib.hid hw3; clear hw3)
          go_roundw
          case rel => exact ⟨k + 1, by omega, by go_num, by rw [HST.out, HW3.out]; exact HGS.out.set _ _ HX.out.1 HX.out.2, by rw [HW3.out]; exact grown_trans HG1.out (grown_set _ _ _ _), by rw [HW3.out]; exact grown_trans HG2.out (grown_set _ _ _ _)⟩
          case measure => simp [intOf]; omega
        · obtain rfl : k = j := by omega
          clear hgs hgr hgr2
          go_wp2
          go_ret
          exact .inl ⟨HYES.out, rfl, HGS.out, HG1.out⟩
theorem change_no (w : World) (G C R W : Nat) (zs cs : List Int) (d : Int) (v : Value) (h : GridIs w G C R W zs) (hv : IntsAt w v cs) (hl : cs.length ≤ 100000) (hm : meetB R W cs = false) :
    Calls Try.prog 94 #[.pointer (some ⟨G, 0, none⟩), v, .int .i64 d] w fun e w' => e = .returned (.int .i64 1) ∧ w = w' := by
  have P1 := read_no w G C R W zs cs v h hv hl hm
  obtain ⟨ao, cap, rfl, hcap, hcells⟩ := hv
  clear hcells h
  generalize cs.length = n at *
  go_enter Try.func94, Try.ntmps94
  go_wp2_with (go_at_call 90; refine P1.mono ?_; rintro e w2 ⟨rfl, hw2⟩; subst hw2)
  go_ret
  exact ⟨rfl, rfl⟩
end Go.Proofs.Ythbkljeibmkimaa

/-
  The walks of linear.Least, Middle. Conditions: none beyond those stated at each theorem.
-/
namespace Go.Proofs.Ythbkljeibmkimaa
open Go.RowKit
set_option linter.unusedVariables false
set_option linter.unusedSimpArgs false

def TellPost (w : World) (W : Nat) (zs cs : List Int) (k : Nat) (e : Ending) (w' : World) : Prop :=
  ∃ u, e = .returned (.tuple #[.int .i64 u, .int .i64 0]) ∧ IsKth (readZ W zs cs) k u ∧ Below w.heap.size w w'

set_option maxRecDepth 100000 in
theorem of_least (w : World) (G C R W : Nat) (zs cs : List Int) (v : Value) (h : GridIs w G C R W zs) (hv : IntsAt w v cs) (hm : meetB R W cs = true) :
    Calls Try.prog 100 #[.agg #[.func (Fn.func 99) #[] #[]], .pointer (some ⟨G, 0, none⟩), v] w (TellPost w W zs cs 0) := by
  obtain ⟨h0R, hlR, hcol⟩ := meetB_of hm
  have hR8 := h.rows
  have HK := Lib.hid (box_kept (w := w) (cs := #[.func (Fn.func 99) #[] #[]]) (t := 159) (Below.refl _ _))
  have P1 := read_yes _ G C R W zs cs v (h.kept HK.out.2) (hv.kept HK.out.2) hm
  obtain ⟨ao, cap, rfl, hcap, hcells⟩ := hv
  clear hcells hcol h
  obtain ⟨n, hlen⟩ : ∃ n, n = cs.length := ⟨_, rfl⟩
  unfold ReadPost at P1
  rw [← hlen] at hcap hlR
  simp only [← hlen] at P1 ⊢
  have HLEN := Lib.hid hlen
  have h0n : 0 < n := by omega
  have hn8 : n ≤ 8 := by omega
  clear hlen hlR
  go_enter Try.func100, Try.ntmps100
  go_wp2_with (go_at_call 90; refine P1.mono ?_; rintro e w2 ⟨g, rfl, hg, hrow, hb⟩; have HROW := Lib.hid hrow; have HB := Lib.hid (HK.out.2.trans (hb.mono HK.out.2.size)); have hbx := HK.out.1.kept hb; have hbc := hbx.cell 0; simp at hbc; clear hrow hb hbx)
  have hints : IntsAt w2 (.slice (some ⟨g, 0, none⟩) n n) (readZ W zs cs) := by have := IntsAt.of_row HROW.out; rw [HLEN.out] at this ⊢; exact this
  have hrl : (readZ W zs cs).length = n := by rw [readZ, List.length_map, List.length_range, HLEN.out]
  have P2 := min_any _ _ w2 hints (by omega) (by omega)
  have HRL := Lib.hid hrl
  clear hrl hints
  go_wp2_with (go_at_call 99; refine P2.mono ?_; rintro e w3 ⟨u, rfl, hu, hb⟩; have HU := Lib.hid hu; have HB3 := Lib.hid (btr HB.out hb); clear hu hb)
  go_ret2
  exact ⟨u, rfl, by have := HU.out; first | exact this | (rw [HRL.out] at this; exact this), HB3.out⟩
theorem least_yes (w : World) (G C R W : Nat) (zs cs : List Int) (v : Value) (h : GridIs w G C R W zs) (hv : IntsAt w v cs) (hm : meetB R W cs = true) :
    Calls Try.prog 91 #[.pointer (some ⟨G, 0, none⟩), v] w (TellPost w W zs cs 0) := by
  have P1 := of_least w G C R W zs cs v h hv hm
  obtain ⟨ao, cap, rfl, hcap, hcells⟩ := hv
  clear hcells h
  go_enter Try.func91, Try.ntmps91
  go_wp2_with (go_at_call 100; refine P1.mono ?_; rintro e w2 ⟨u, rfl, hu, hb⟩; have HP : Hid (TellPost w W zs cs 0 (.returned (.tuple #[.int .i64 u, .int .i64 0])) w2) := ⟨u, rfl, hu, hb⟩; clear hu hb)
  go_ret2
  exact HP.out
set_option maxRecDepth 100000 in
theorem least_no (w : World) (G C R W : Nat) (zs cs : List Int) (v : Value) (h : GridIs w G C R W zs) (hv : IntsAt w v cs) (hl : cs.length ≤ 100000) (hm : meetB R W cs = false) :
    Calls Try.prog 91 #[.pointer (some ⟨G, 0, none⟩), v] w fun e w' => e = .returned (.tuple #[.int .i64 0, .int .i64 1]) ∧ Below w.heap.size w w' := by
  have HK := Lib.hid (box_kept (w := w) (cs := #[.func (Fn.func 99) #[] #[]]) (t := 159) (Below.refl _ _))
  have P0 := read_no _ G C R W zs cs v (h.kept HK.out.2) (hv.kept HK.out.2) hl hm
  obtain ⟨ao, cap, rfl, hcap, hcells⟩ := hv
  clear hcells h
  have P1 : Calls Try.prog 100 #[.agg #[.func (Fn.func 99) #[] #[]], .pointer (some ⟨G, 0, none⟩), .slice ao cs.length cap] w fun e w' => e = .returned (.tuple #[.int .i64 0, .int .i64 1]) ∧ Below w.heap.size w w' := by
    generalize cs.length = n at *
    go_enter Try.func100, Try.ntmps100
    go_wp2_with (go_at_call 90; refine P0.mono ?_; rintro e w2 ⟨rfl, hw2⟩; subst hw2)
    go_ret2
    exact ⟨rfl, HK.out.2⟩
  generalize cs.length = n at *
  go_enter Try.func91, Try.ntmps91
  go_wp2_with (go_at_call 100; refine P1.mono ?_; rintro e w2 ⟨rfl, hb⟩)
  go_ret2
  exact ⟨rfl, hb⟩

set_option maxRecDepth 100000 in
theorem of_middle (w : World) (G C R W : Nat) (zs cs : List Int) (v : Value) (h : GridIs w G C R W zs) (hv : IntsAt w v cs) (hm : meetB R W cs = true) :
    Calls Try.prog 100 #[.agg #[.func (Fn.func 101) #[] #[]], .pointer (some ⟨G, 0, none⟩), v] w (TellPost w W zs cs ((cs.length - 1) / 2)) := by
  obtain ⟨h0R, hlR, hcol⟩ := meetB_of hm
  have hR8 := h.rows
  have HK := Lib.hid (box_kept (w := w) (cs := #[.func (Fn.func 101) #[] #[]]) (t := 159) (Below.refl _ _))
  have P1 := read_yes _ G C R W zs cs v (h.kept HK.out.2) (hv.kept HK.out.2) hm
  obtain ⟨ao, cap, rfl, hcap, hcells⟩ := hv
  clear hcells hcol h
  obtain ⟨n, hlen⟩ : ∃ n, n = cs.length := ⟨_, rfl⟩
  unfold ReadPost at P1
  rw [← hlen] at hcap hlR
  simp only [← hlen] at P1 ⊢
  have HLEN := Lib.hid hlen
  have h0n : 0 < n := by omega
  have hn8 : n ≤ 8 := by omega
  clear hlen hlR
  go_enter Try.func100, Try.ntmps100
  go_wp2_with (go_at_call 90; refine P1.mono ?_; rintro e w2 ⟨g, rfl, hg, hrow, hb⟩; have HROW := Lib.hid hrow; have HB := Lib.hid (HK.out.2.trans (hb.mono HK.out.2.size)); have hbx := HK.out.1.kept hb; have hbc := hbx.cell 0; simp at hbc; clear hrow hb hbx)
  have hints : IntsAt w2 (.slice (some ⟨g, 0, none⟩) n n) (readZ W zs cs) := by have := IntsAt.of_row HROW.out; rw [HLEN.out] at this ⊢; exact this
  have hrl : (readZ W zs cs).length = n := by rw [readZ, List.length_map, List.length_range, HLEN.out]
  have P2 := median_any _ _ w2 hints (by omega) (by omega)
  have HRL := Lib.hid hrl
  clear hrl hints
  go_wp2_with (go_at_call 101; refine P2.mono ?_; rintro e w3 ⟨u, rfl, hu, hb⟩; have HU := Lib.hid hu; have HB3 := Lib.hid (btr HB.out hb); clear hu hb)
  go_ret2
  exact ⟨u, rfl, by have := HU.out; first | exact this | (rw [HRL.out] at this; exact this), HB3.out⟩
theorem middle_yes (w : World) (G C R W : Nat) (zs cs : List Int) (v : Value) (h : GridIs w G C R W zs) (hv : IntsAt w v cs) (hm : meetB R W cs = true) :
    Calls Try.prog 92 #[.pointer (some ⟨G, 0, none⟩), v] w (TellPost w W zs cs ((cs.length - 1) / 2)) := by
  have P1 := of_middle w G C R W zs cs v h hv hm
  obtain ⟨ao, cap, rfl, hcap, hcells⟩ := hv
  clear hcells h
  go_enter Try.func92, Try.ntmps92
  go_wp2_with (go_at_call 100; refine P1.mono ?_; rintro e w2 ⟨u, rfl, hu, hb⟩; have HP : Hid (TellPost w W zs cs ((cs.length - 1) / 2) (.returned (.tuple #[.int .i64 u, .int .i64 0])) w2) := ⟨u, rfl, hu, hb⟩; clear hu hb)
  go_ret2
  exact HP.out
set_option maxRecDepth 100000 in
theorem middle_no (w : World) (G C R W : Nat) (zs cs : List Int) (v : Value) (h : GridIs w G C R W zs) (hv : IntsAt w v cs) (hl : cs.length ≤ 100000) (hm : meetB R W cs = false) :
    Calls Try.prog 92 #[.pointer (some ⟨G, 0, none⟩), v] w fun e w' => e = .returned (.tuple #[.int .i64 0, .int .i64 1]) ∧ Below w.heap.size w w' := by
  have HK := Lib.hid (box_kept (w := w) (cs := #[.func (Fn.func 101) #[] #[]]) (t := 159) (Below.refl _ _))
  have P0 := read_no _ G C R W zs cs v (h.kept HK.out.2) (hv.kept HK.out.2) hl hm
  obtain ⟨ao, cap, rfl, hcap, hcells⟩ := hv
  clear hcells h
  have P1 : Calls Try.prog 100 #[.agg #[.func (Fn.func 101) #[] #[]], .pointer (some ⟨G, 0, none⟩), .slice ao cs.length cap] w fun e w' => e = .returned (.tuple #[.int .i64 0, .int .i64 1]) ∧ Below w.heap.size w w' := by
    generalize cs.length = n at *
    go_enter Try.func100, Try.ntmps100
    go_wp2_with (go_at_call 90; refine P0.mono ?_; rintro e w2 ⟨rfl, hw2⟩; subst hw2)
    go_ret2
    exact ⟨rfl, HK.out.2⟩
  generalize cs.length = n at *
  go_enter Try.func92, Try.ntmps92
  go_wp2_with (go_at_call 100; refine P1.mono ?_; rintro e w2 ⟨rfl, hb⟩)
  go_ret2
  exact ⟨rfl, hb⟩
end Go.Proofs.Ythbkljeibmkimaa

/-
  Plain, no program: the shape of an argument's type, and what a reading of it tells of its cells. Conditions: none beyond those stated at each theorem.
-/
namespace Go.Proofs.Ythbkljeibmkimaa
open Go.RowKit
set_option linter.unusedVariables false

/-- the shape of a type: integers, bools, slices, and rows of these (structs and arrays) -/
inductive Sh where
  | int (k : IntKind)
  | bool
  | slice (e : Sh)
  | unit
  | cons (a b : Sh)
  | agg (s : Sh)

def Sh.size : Sh → Nat
  | .int _ => 1
  | .bool => 1
  | .slice _ => 1
  | .unit => 0
  | .cons a b => a.size + b.size
  | .agg s => s.size

/-- does the type have the shape (first part); do the fields, from an offset on (second part)? -/
def Sh.chk (P : Program) : Sh → (TypeId → Bool) × (List (Nat × TypeId) → Nat → Bool)
  | .int k => (fun t => match P.underlying t with | some (.int k') => decide (k' = k) | _ => false, fun _ _ => false)
  | .bool => (fun t => match P.underlying t with | some .bool => true | _ => false, fun _ _ => false)
  | .slice e => (fun t => match P.underlying t with | some (.slice te) => decide (P.cellsOf te = e.size) && (decide (0 < e.size) && (e.chk P).1 te) | _ => false, fun _ _ => false)
  | .unit => (fun _ => false, fun l _ => l.isEmpty)
  | .cons a b => (fun _ => false, fun l off => match l with | (o, t) :: l => decide (o = off) && decide (P.cellsOf t = a.size) && (a.chk P).1 t && (b.chk P).2 l (off + a.size) | [] => false)
  | .agg s => (fun t => decide (P.cellsOf t = s.size) && match P.underlying t with
      | some (.struct fs) => (s.chk P).2 (fs.toList.map fun f => (f.offset, f.type)) 0
      | some (.array n te) => (s.chk P).2 ((List.range n).map fun i => (i * P.cellsOf te, te)) 0
      | _ => false, fun _ _ => false)

/-- what the cells of a thing of the shape are -/
def Sh.reads (w : World) : Sh → List Value → Prop
  | .int k, cs => ∃ n, cs = [.int k n] ∧ (Lit.int k n).wf = true
  | .bool, cs => ∃ b, cs = [.bool b]
  | .slice e, cs => ∃ (ao : Option Addr) (len cap : Nat), cs = [.slice ao len cap] ∧ len ≤ cap ∧ cap ≤ maxLen ∧
      (0 < len → ∃ b off, ao = some ⟨b, off, none⟩ ∧ b < w.heap.size ∧
        ∀ i, i < len → ∃ cs', cs'.length = e.size ∧ (∀ j, j < e.size → w.cell? ⟨b, off + (i * e.size + j), none⟩ = cs'[j]?) ∧ e.reads w cs')
  | .unit, cs => cs = []
  | .cons a b, cs => ∃ c d, cs = c ++ d ∧ a.reads w c ∧ b.reads w d
  | .agg s, cs => s.reads w cs

/-- the value of an argument of the shape -/
def Sh.Val (w : World) (sh : Sh) (v : Value) : Prop :=
  match sh with
  | .agg s => ∃ cs : Array Value, v = .agg cs ∧ s.reads w cs.toList
  | sh => sh.reads w [v]

section
variable {H : Type} {enc : TypeId × Value → H} {P : Program} {w : World} {spare : Nat → Bool} {held : Bool}

theorem cell_block {w : World} {a : Addr} {v : Value} (h : w.cell? a = some v) : a.block < w.heap.size := by
  rcases Nat.lt_or_ge a.block w.heap.size with h' | h'
  · exact h'
  · unfold World.cell? at h
    rw [Array.getElem?_eq_none h'] at h
    cases h

theorem addr_add (b off n : Nat) : (Addr.mk b off none).add n = ⟨b, off + n, none⟩ := by
  unfold Addr.add
  split <;> simp_all

theorem reads_of_trod : ∀ (sh : Sh),
    (∀ (t : TypeId) (fuel : Nat) (cs : List Value) (x : DataW H × List MemPlace), (sh.chk P).1 t = true → DataW.trod enc P w 0 spare held fuel t cs = some x → sh.reads w cs) ∧
    (∀ (l : List (Nat × TypeId)) (off fuel : Nat) (cs : List Value), (sh.chk P).2 l off = true → off + sh.size ≤ cs.length →
      (∀ q, q ∈ l → ∃ x, DataW.trod enc P w 0 spare held fuel q.2 ((cs.drop q.1).take (P.cellsOf q.2)) = some x) → sh.reads w ((cs.drop off).take sh.size)) := by
  intro sh
  induction sh with
  | int k =>
    refine ⟨fun t fuel cs x hc h => ?_, fun l off fuel cs hc => by simp [Sh.chk] at hc⟩
    cases hu : P.underlying t with
    | none => simp [Sh.chk, hu] at hc
    | some u =>
      simp only [Sh.chk, hu] at hc
      cases u <;> simp at hc
      subst hc
      obtain ⟨n, h1, _, h3⟩ := DataW.trod_int hu h
      exact ⟨n, h1, h3⟩
  | bool =>
    refine ⟨fun t fuel cs x hc h => ?_, fun l off fuel cs hc => by simp [Sh.chk] at hc⟩
    cases hu : P.underlying t with
    | none => simp [Sh.chk, hu] at hc
    | some u =>
      simp only [Sh.chk, hu] at hc
      cases u <;> simp at hc
      cases fuel with
      | zero => simp [DataW.trod] at h
      | succ n =>
        unfold DataW.trod at h
        rw [hu] at h
        split at h <;> simp_all
        exact ⟨_, rfl⟩
  | slice e ih =>
    refine ⟨fun t fuel cs x hc h => ?_, fun l off fuel cs hc => by simp [Sh.chk] at hc⟩
    cases hu : P.underlying t with
    | none => simp [Sh.chk, hu] at hc
    | some u =>
      simp only [Sh.chk, hu] at hc
      cases u <;> simp at hc
      rename_i te
      obtain ⟨hsz, hpos, hce⟩ := hc
      rcases Go.Deep.open_slice hu h with ⟨h1, _⟩ | ⟨a, len, cap, m, n, D, Pl, h1, _, hl, hm, hmm, _, hx⟩
      · exact ⟨none, 0, 0, h1, by omega, by unfold maxLen; omega, fun h => by omega⟩
      · have hlm : len ≤ m := by rw [hmm]; split <;> omega
        refine ⟨some a, len, cap, h1, hl, hm, fun h0 => ?_⟩
        obtain ⟨b, off, s⟩ := a
        obtain ⟨c0, g1, _⟩ := hx 0 (by omega)
        obtain ⟨_, g2, g3⟩ := World.cells?_some g1
        have g4 := g3 0 (by omega)
        have g5 : c0[0]? = some c0[0] := List.getElem?_eq_getElem (by omega)
        rw [g5] at g4
        have hb : b < w.heap.size := by
          have := cell_block g4
          simpa [Addr.add] using this
        have hs : s = none := by
          have := World.cell?_spot g4
          simpa [Addr.add] using this
        subst hs
        refine ⟨b, off, rfl, hb, fun i hi => ?_⟩
        obtain ⟨ci, k1, k2⟩ := hx i (by omega)
        obtain ⟨_, k3, k4⟩ := World.cells?_some k1
        refine ⟨ci, by rw [k3, hsz], fun j hj => ?_, ih.1 te n ci _ hce k2⟩
        have := k4 j (by omega)
        rw [addr_add, addr_add, hsz] at this
        rw [← this]
        congr 2
        omega
  | unit =>
    refine ⟨fun t fuel cs x hc => by simp [Sh.chk] at hc, fun l off fuel cs hc hl h => ?_⟩
    simp [Sh.reads, Sh.size]
  | cons a b iha ihb =>
    refine ⟨fun t fuel cs x hc => by simp [Sh.chk] at hc, fun l off fuel cs hc hl h => ?_⟩
    match l with
    | [] => simp [Sh.chk] at hc
    | (o, t) :: l =>
      simp [Sh.chk] at hc
      obtain ⟨⟨⟨rfl, h2⟩, h3⟩, h4⟩ := hc
      simp only [Sh.size] at hl ⊢
      obtain ⟨x, hx⟩ := h (o, t) (by simp)
      have r1 := iha.1 t fuel _ x h3 hx
      have r2 := ihb.2 l (o + a.size) fuel cs h4 (by omega) (fun q hq => h q (by simp [hq]))
      rw [h2] at r1
      refine ⟨_, _, ?_, r1, r2⟩
      rw [List.take_add, List.drop_drop, Nat.add_comm]
  | agg s ih =>
    refine ⟨fun t fuel cs x hc h => ?_, fun l off fuel cs hc => by simp [Sh.chk] at hc⟩
    cases hu : P.underlying t with
    | none => simp [Sh.chk, hu] at hc
    | some u =>
      simp only [Sh.chk, hu] at hc
      cases u <;> simp at hc
      · rename_i n te
        obtain ⟨hsz, hce⟩ := hc
        obtain ⟨xs, m, _, _, hl, hxs, hf⟩ := DataW.trod_array hu h
        have := ih.2 _ 0 m cs hce (by omega) (by
          intro q hq
          simp at hq
          obtain ⟨i, hi, rfl⟩ := hq
          have := hf i hi
          refine ⟨xs[i], ?_⟩
          rw [this]
          simp [hxs, hi])
        simp [← hsz, ← hl] at this
        exact this
      · rename_i fs
        obtain ⟨hsz, hce⟩ := hc
        obtain ⟨xs, n, _, _, hl, hxs, hf⟩ := DataW.trod_struct hu h
        have := ih.2 _ 0 n cs hce (by omega) (by
          intro q hq
          simp at hq
          obtain ⟨f, hf1, rfl⟩ := hq
          obtain ⟨i, hi', rfl⟩ := Array.getElem_of_mem hf1
          have := hf i fs[i] (by simp [hi'])
          refine ⟨xs[i], ?_⟩
          simp at this ⊢
          rw [this]
          simp [hxs, hi'])
        simp [← hsz, ← hl] at this
        exact this

theorem arg_val {sh : Sh} {r : Reach} {base : Nat} {t : TypeId} {v : Value} {d : DataW H} {p : List MemPlace} (hc : (sh.chk P).1 t = true)
    (hv : Value.okWide P w r base t v) (h : DataW.Trod enc P w 0 spare held t v d p) : sh.Val w v := by
  obtain ⟨fuel, hf⟩ := h
  have hr := (reads_of_trod sh).1 t fuel _ _ hc hf
  cases sh with
  | int k =>
    obtain ⟨n, h1, h2⟩ := hr
    cases hu : P.underlying t with
    | none => simp [Sh.chk, hu] at hc
    | some u =>
      simp only [Sh.chk, hu] at hc
      cases u <;> simp at hc
      subst hc
      obtain ⟨m, rfl⟩ := WideShapes.okWide_int hu hv
      exact ⟨n, by simpa [Value.cells] using h1, h2⟩
  | bool =>
    obtain ⟨n, h1⟩ := hr
    cases hu : P.underlying t with
    | none => simp [Sh.chk, hu] at hc
    | some u =>
      simp only [Sh.chk, hu] at hc
      cases u <;> simp at hc
      obtain ⟨m, rfl⟩ := WideShapes.okWide_bool hu hv
      exact ⟨n, by simpa [Value.cells] using h1⟩
  | slice e =>
    cases hu : P.underlying t with
    | none => simp [Sh.chk, hu] at hc
    | some u =>
      simp only [Sh.chk, hu] at hc
      cases u <;> simp at hc
      obtain ⟨a, l, c, rfl⟩ := WideShapes.okWide_slice hu hv
      exact hr
  | unit => simp [Sh.chk] at hc
  | cons a b => simp [Sh.chk] at hc
  | agg s =>
    cases hu : P.underlying t with
    | none => simp [Sh.chk, hu] at hc
    | some u =>
      simp only [Sh.chk, hu] at hc
      cases u <;> simp at hc
      all_goals
        simp only [Value.okWide, hu] at hv
        obtain ⟨cs, rfl, _⟩ := hv
        exact ⟨cs, rfl, hr⟩
end

/-! ### Opening -/
theorem Sh.val_int {w : World} {k : IntKind} {v : Value} (h : (Sh.int k).Val w v) : ∃ n, v = .int k n ∧ (Lit.int k n).wf = true := by
  obtain ⟨n, h1, h2⟩ := h
  exact ⟨n, by simpa using h1, h2⟩
theorem Sh.val_bool {w : World} {v : Value} (h : Sh.bool.Val w v) : ∃ b, v = .bool b := by
  obtain ⟨n, h1⟩ := h
  exact ⟨n, by simpa using h1⟩
theorem Sh.reads_int {w : World} {k : IntKind} {s : Sh} {cs : List Value} (h : (Sh.cons (.int k) s).reads w cs) : ∃ n d, cs = .int k n :: d ∧ (Lit.int k n).wf = true ∧ s.reads w d := by
  obtain ⟨c, d, h1, ⟨n, h2, h3⟩, h4⟩ := h
  exact ⟨n, d, by rw [h1, h2]; rfl, h3, h4⟩
theorem Sh.reads_slice {w : World} {e s : Sh} {cs : List Value} (h : (Sh.cons (.slice e) s).reads w cs) : ∃ v d, cs = v :: d ∧ (Sh.slice e).Val w v ∧ s.reads w d := by
  obtain ⟨c, d, h1, h2, h4⟩ := h
  obtain ⟨ao, len, cap, h5, h6⟩ := h2
  exact ⟨_, d, by rw [h1, h5]; rfl, ⟨ao, len, cap, rfl, h6⟩, h4⟩
theorem Sh.reads_agg {w : World} {e s : Sh} {cs : List Value} (h : (Sh.cons (.agg e) s).reads w cs) : ∃ c d, cs = c ++ d ∧ e.reads w c ∧ s.reads w d := h
theorem Sh.reads_unit {w : World} {cs : List Value} (h : Sh.unit.reads w cs) : cs = [] := h
theorem agg_of_list {cs : Array Value} {l : List Value} (h : cs.toList = l) : cs = l.toArray := by rw [← h]
end Go.Proofs.Ythbkljeibmkimaa

/-
  The walk of the reference's grid: New. Conditions: none beyond those stated at each theorem.
-/
namespace Go.Proofs.Ythbkljeibmkimaa
open Go.RowKit
set_option linter.unusedVariables false
set_option linter.unusedSimpArgs false

theorem own_ne {w : World} {base : Nat} {e t : TypeId} {v : Value} {n : Nat} {xs : List Value} {b : Nat} {cs : Array Value} (h : w.ownsRow base e 1 v n xs) (hb : Blk w b t cs) (hne : e ≠ t) : v.ownBlock ≠ some b := by
  rcases h.2 with ⟨rfl, _⟩ | ⟨g, cap, cur, rfl, _, hg, _⟩
  · simp [Value.ownBlock]
  · simp only [Value.ownBlock]
    intro e2
    have e2 : g = b := Option.some.inj e2
    exact Blk.ne_ (w := w) (g := g) (g' := b) hg hb hne e2
theorem Try.infoSl : (Try.prog.info? 120).map (fun i => (i.zero, i.size, i.bytes)) = some (some (.slice none 0 0), 1, 24) := by kernel_rfl

end Go.Proofs.Ythbkljeibmkimaa

/-
  The walk of gaugerref02.Int. Conditions: the arguments fit their kinds.
-/
namespace Go.Proofs.Ythbkljeibmkimaa
open Go.RowKit
set_option linter.unusedVariables false
set_option linter.unusedSimpArgs false

theorem Try.infoI : (Try.prog.info? 3).map (fun i => (i.zero, i.size, i.bytes)) = some (some (.int .i64 0), 1, 8) := by kernel_rfl
end Go.Proofs.Ythbkljeibmkimaa

/-
  Columns as arguments, and the walks of gaugerref08.Cut, Same, and of what the laws of the layers 8 and 9 begin with. Conditions: none beyond those stated at each theorem.
-/
namespace Go.Proofs.Ythbkljeibmkimaa
open Go.RowKit
set_option linter.unusedVariables false
set_option linter.unusedSimpArgs false

theorem and16' (n : Int) : bits BinOp.and IntKind.i64 n 65535 = n % 65536 := by
  have h16 : (BitVec.ofInt 64 65535).toNat = 2 ^ 16 - 1 := by decide
  have key : (BitVec.ofInt 64 n &&& BitVec.ofInt 64 65535).toNat = (n % ((2 ^ 64 : Nat) : Int)).toNat % 2 ^ 16 := by
    rw [BitVec.toNat_and, BitVec.toNat_ofInt, h16, Nat.and_two_pow_sub_one_eq_mod]
  show IntKind.i64.wrap ((BitVec.ofInt 64 n &&& BitVec.ofInt 64 65535).toNat : Nat) = n % 65536
  rw [key, IntKind.wrap_i64]
  omega

/-- a slice of integers, anywhere in a block -/
def ColsAt (w : World) (v : Value) (cs : List Int) : Prop :=
  ∃ (ao : Option Addr) (cap : Nat), v = .slice ao cs.length cap ∧ cs.length ≤ cap ∧ cap ≤ maxLen ∧ (0 < cs.length → ∃ b off, ao = some ⟨b, off, none⟩ ∧ b < w.heap.size ∧ ∀ i u, cs[i]? = some u → w.cell? ⟨b, off + i, none⟩ = some (.int .i64 u))
theorem ColsAt.kept {w w' : World} {v : Value} {cs : List Int} (h : ColsAt w v cs) (hb : Below w.heap.size w w') : ColsAt w' v cs := by
  obtain ⟨ao, cap, e, hc, hm, h⟩ := h
  refine ⟨ao, cap, e, hc, hm, fun h0 => ?_⟩
  obtain ⟨b, off, e2, hg, hc⟩ := h h0
  exact ⟨b, off, e2, Nat.lt_of_lt_of_le hg hb.size, fun i u hu => (hb.cell (p := ⟨b, off + i, none⟩) hg).trans (hc i u hu)⟩
theorem ints_of_len {w : World} {b off len : Nat} (f : Nat → Int) (hc : ∀ i, i < len → w.cell? ⟨b, off + i, none⟩ = some (.int .i64 (f i))) : ∀ i u, ((List.range len).map f)[i]? = some u → w.cell? ⟨b, off + i, none⟩ = some (.int .i64 u) := by
  intro i u hu
  have hi : i < len := by
    have := (List.getElem?_eq_some_iff.1 hu).1
    simpa using this
  simp [hi] at hu
  rw [hc i hi, hu]
theorem cols_of_val {w : World} {v : Value} (h : (Sh.slice (.int .i64)).Val w v) : ∃ cs, ColsAt w v cs := by
  obtain ⟨ao, len, cap, h1, hl, hm, hx⟩ := h
  have h1 : v = .slice ao len cap := by simpa using h1
  subst h1
  by_cases h0 : 0 < len
  · obtain ⟨b, off, rfl, hb, hc⟩ := hx h0
    have key : ∀ i, i < len → ∃ x : Int, w.cell? ⟨b, off + i, none⟩ = some (.int .i64 x) := by
      intro i hi
      obtain ⟨cs', hcl, hcell, hr⟩ := hc i hi
      obtain ⟨n, rfl, _⟩ := hr
      have := hcell 0 (by decide)
      exact ⟨n, by simpa [Sh.size] using this⟩
    refine ⟨(List.range len).map fun i => if h : i < len then (key i h).choose else 0, some ⟨b, off, none⟩, cap, by simp, by simpa using hl, hm, fun _ => ⟨b, off, rfl, hb, ints_of_len _ fun i hi => ?_⟩⟩
    simp only [dif_pos hi]
    exact (key i hi).choose_spec
  · obtain rfl : len = 0 := by omega
    exact ⟨[], ao, cap, rfl, by simp, hm, fun h => by simp at h⟩

def cutV (W : Nat) (cs : List Int) (r : Nat) : Int := if r < cs.length then cellD cs r % 65536 % (W : Int) else 0
def cutZ (cs : List Int) (R W : Nat) : List Int := (List.range R).map (cutV W cs)
theorem cutZ_len {cs : List Int} {R W : Nat} : (cutZ cs R W).length = R := by simp [cutZ]
theorem cutV_bd {W : Nat} (h : 0 < W) (cs : List Int) (r : Nat) : 0 ≤ cutV W cs r ∧ cutV W cs r < (W : Int) := by
  unfold cutV
  split
  · exact ⟨Int.emod_nonneg _ (by omega), Int.emod_lt_of_pos _ (by omega)⟩
  · omega
theorem cut_meet {cs : List Int} {R W : Nat} (hR : 0 < R) (hW : 0 < W) : meetB R W (cutZ cs R W) = true := by
  refine meetB_all hR cutZ_len (fun j c hc => ?_)
  have := List.mem_of_getElem? hc
  simp [cutZ] at this
  obtain ⟨r, _, rfl⟩ := this
  exact cutV_bd hW cs r
theorem cut_col {cs : List Int} {R W r : Nat} (hr : r < R) : colN (cutZ cs R W) r = (cutV W cs r).toNat := by simp [colN, cellD, cutZ, hr]
theorem cut_colW {cs : List Int} {R W r : Nat} (hW : 0 < W) (hr : r < R) : colN (cutZ cs R W) r < W := by
  rw [cut_col hr]
  have := cutV_bd hW cs r
  omega

/-- a row of integers that fills a block from its start on -/
def RowI (w : World) (v : Value) (cs : List Int) : Prop :=
  ∃ (g cap : Nat) (cur : Array Value), v = .slice (some ⟨g, 0, none⟩) cs.length cap ∧ cs.length ≤ cap ∧ Blk w g 3 cur ∧ ∀ (i : Nat) (u : Int), cs[i]? = some u → cur[i]? = some (Value.int .i64 u)
theorem RowI.ints {w : World} {v : Value} {cs : List Int} (h : RowI w v cs) : IntsAt w v cs := by
  obtain ⟨g, cap, cur, rfl, hc, hb, hx⟩ := h
  exact ⟨_, _, rfl, hc, fun _ => ⟨g, rfl, hb.lt, fun i u hu => (hb.cell i).trans (hx i u hu)⟩⟩
theorem RowI.kept {w w' : World} {v : Value} {cs : List Int} (h : RowI w v cs) (hb : Below w.heap.size w w') : RowI w' v cs := by
  obtain ⟨g, cap, cur, rfl, hc, hg, hx⟩ := h
  exact ⟨g, cap, cur, rfl, hc, hg.kept hb, hx⟩
theorem RowI.grown {w w' : World} {v : Value} {cs : List Int} {row : Option Nat} (h : RowI w v cs) (hb : w.grownBy w' row) (hne : v.ownBlock ≠ row) : RowI w' v cs := by
  obtain ⟨g, cap, cur, rfl, hc, hg, hx⟩ := h
  exact ⟨g, cap, cur, rfl, hc, hg.grown hb hne, hx⟩
theorem RowI.far {w w' : World} {v : Value} {cs : List Int} {C : Nat} {t : TypeId} {cur : Array Value} (h : RowI w v cs) (hb : w.grownBy w' (some C)) (hC : Blk w C t cur) (ht : 3 ≠ t) : RowI w' v cs := by
  refine h.grown hb ?_
  obtain ⟨g, cap, cur', rfl, hc, hg, hx⟩ := h
  exact fun e => hg.ne_ hC ht (Option.some.inj e)
theorem RowI.own {w : World} {v : Value} {cs : List Int} (h : RowI w v cs) : ∃ k, v.ownBlock = some k ∧ k < w.heap.size := by
  obtain ⟨g, cap, cur, rfl, hc, hg, hx⟩ := h
  exact ⟨g, rfl, hg.lt⟩
theorem RowI.neC {w : World} {v : Value} {cs : List Int} {C : Nat} {t : TypeId} {cur : Array Value} (h : RowI w v cs) (hC : Blk w C t cur) (ht : 3 ≠ t) : v.ownBlock ≠ some C := by
  obtain ⟨g, cap, cur', rfl, hc, hg, hx⟩ := h
  exact fun e => hg.ne_ hC ht (Option.some.inj e)
theorem own_rowI {w : World} {base : Nat} {v : Value} {zs : List Int} (h : w.ownsRow base 3 1 v zs.length (zs.map (Value.int .i64))) (hv : v ≠ .slice none 0 0) : RowI w v zs := by
  rcases h.2 with ⟨rfl, h0⟩ | ⟨g, cap, cur, rfl, hb, hg, hnc, hcm, hsz, htake⟩
  · exact absurd rfl hv
  · refine ⟨g, cap, cur, rfl, hnc, hg, fun i u hu => ?_⟩
    have hi : i < zs.length := (List.getElem?_eq_some_iff.1 hu).1
    have h2 : (cur.toList.take (zs.length * 1))[i]? = (zs.map (Value.int .i64))[i]? := by rw [htake]
    rw [List.getElem?_take, if_pos (by omega)] at h2
    simp only [List.getElem?_map, hu, Option.map_some] at h2
    simpa using h2

def CutPost (w : World) (cs : List Int) (R W : Nat) (e : Ending) (w' : World) : Prop :=
  ∃ v', e = .returned v' ∧ RowI w' v' (cutZ cs R W) ∧ (∀ k, v'.ownBlock = some k → w.heap.size ≤ k) ∧ Below w.heap.size w w'
end Go.Proofs.Ythbkljeibmkimaa

/-
  The walk of conserve.Raise. Conditions: none beyond those stated at each theorem.
-/
namespace Go.Proofs.Ythbkljeibmkimaa
open Go.RowKit
set_option linter.unusedVariables false
set_option linter.unusedSimpArgs false

theorem below_alloc1 (w : World) (o : Obj) : Below w.heap.size w (w.alloc o) := (Below.refl _ _).alloc (Nat.le_refl _) _
def riseV (W : Nat) (zs cs : List Int) (n : Int) (r : Nat) : Int := if cellD zs (r * W + colN cs r) < n then n else cellD zs (r * W + colN cs r)
/-- the cells behind a raise up to n -/
def raiseZ (W : Nat) (zs cs : List Int) (n : Int) : List Int := setsZ W zs (colN cs) (riseV W zs cs n) cs.length
def RaisePost (w : World) (G C R W : Nat) (zs cs : List Int) (d : Int) (e : Ending) (w' : World) : Prop :=
  ∃ u, IsKth (readZ W zs cs) 0 u ∧ ((d < 0 ∧ e = .returned (.int .i64 3) ∧ Below w.heap.size w w') ∨ (0 ≤ d ∧ ¬ In64 (u + d) ∧ e = .returned (.int .i64 4) ∧ Below w.heap.size w w') ∨
    (0 ≤ d ∧ In64 (u + d) ∧ e = .returned (.int .i64 0) ∧ GridIs w' G C R W (raiseZ W zs cs (u + d)) ∧ w.grownBy w' (some C)))

theorem set_same {zs : List Int} {i : Nat} (h : i < zs.length) : zs.set i (cellD zs i) = zs := by
  apply List.ext_getElem?
  intro k
  rw [List.getElem?_set]
  by_cases e : i = k
  · subst e; simp [h, cellD]
  · rw [if_neg e]
def RisePost (w : World) (G C R W r c : Nat) (zs : List Int) (nn : Int) (e : Ending) (w' : World) : Prop :=
  (∃ v, e = .returned v) ∧ GridIs w' G C R W (zs.set (r * W + c) (if cellD zs (r * W + c) < nn then nn else cellD zs (r * W + c))) ∧ w.grownBy w' (some C)
set_option maxRecDepth 100000 in
set_option maxHeartbeats 4000000 in
theorem rise_any (w : World) (A NB G C R W r c : Nat) (zs : List Int) (nn : Int) (h : GridIs w G C R W zs) (hr : r < R) (hc : c < W) (hn : In64 nn) (hA : Blk w A 112 #[.pointer (some ⟨G, 0, none⟩)]) (hN : Blk w NB 2 #[.int .i64 nn]) :
    Calls Try.prog 102 #[.int .i64 (r : Int), .int .i64 (c : Int), .pointer (some ⟨A, 0, none⟩), .pointer (some ⟨NB, 0, none⟩)] w (RisePost w G C R W r c zs nn) := by
  obtain ⟨b1, b2, b3⟩ := placeBd hr hc h.rows h.width
  have hlen : r * W + c < zs.length := by rw [h.len]; omega
  have PA := Lib.hid (at_in (w.drewN 1) G C R W r c zs (h.drewN 1) hr hc)
  have PP := Lib.hid (put_in (w.drewN 1) G C R W r c nn zs (h.drewN 1) hr hc)
  have HG := Lib.hid (h.drewN 1)
  have HA := Lib.hid (hA.drewN 1)
  have HN := Lib.hid (hN.drewN 1)
  have HSAME := Lib.hid (set_same hlen)
  have hgr0 : Hid (w.grownBy (w.drewN 1) (some C)) := Lib.hid (below_grown (below_drewN (Below.refl _ _) 1))
  have a0 := (hA.drewN 1).cell 0
  have n0 := (hN.drewN 1).cell 0
  simp at a0 n0
  unfold RisePost
  clear hlen h b1 b2 b3 hA hN
  generalize cellD zs (r * W + c) = x at *
  go_enter Try.func102, Try.ntmps102
  go_wp2_with fail
  refine wp_region_held_drew (S := fun w' => Blk w' A 112 #[.pointer (some ⟨G, 0, none⟩)] ∧ Blk w' NB 2 #[.int .i64 nn]) (by kernel_rfl) (by exact ⟨HA.out, HN.out⟩) (fun hHeld => ?_)
  refine wpAnyH_take (i := 0) (v := ?_) rfl (by kernel_rfl) (by kernel_rfl) (by kernel_rfl) (fun _ _ _ h => h) (Or.inl ⟨by rfl, ?_⟩) (by assumption) ?_
  rotate_left
  · intro w hSw
    have c1 := hSw.1.cell 0
    have c2 := hSw.2.cell 0
    simp at c1 c2
    go_simp
    try with_reducible rfl
  simp only [Act.put, List.setIfInBounds_toArray, List.set_cons_zero, List.set_cons_succ, List.getElem_toArray, List.getElem_cons_zero, List.getElem_cons_succ]
  refine wpAnyH_take (i := 1) (v := ?_) rfl (by kernel_rfl) (by kernel_rfl) (by kernel_rfl) (fun _ _ _ h => h) (Or.inl ⟨by rfl, ?_⟩) (by assumption) ?_
  rotate_left
  · intro w hSw
    try dsimp only at hSw
    go_simp
    try with_reducible rfl
  simp only [Act.put, List.setIfInBounds_toArray, List.set_cons_zero, List.set_cons_succ, List.getElem_toArray, List.getElem_cons_zero, List.getElem_cons_succ]
  refine wpAnyH_take (i := 2) (v := ?_) rfl (by kernel_rfl) (by kernel_rfl) (by kernel_rfl) (fun _ _ _ h => h) (Or.inl ⟨by rfl, ?_⟩) (by assumption) ?_
  rotate_left
  · intro w hSw
    try dsimp only at hSw
    go_simp
    try with_reducible rfl
  simp only [Act.put, List.setIfInBounds_toArray, List.set_cons_zero, List.set_cons_succ, List.getElem_toArray, List.getElem_cons_zero, List.getElem_cons_succ]
  refine wpAnyH_take (i := 4) (v := ?_) rfl (by kernel_rfl) (by kernel_rfl) (by kernel_rfl) (fun _ _ _ h => h) (Or.inl ⟨by rfl, ?_⟩) (by assumption) ?_
  rotate_left
  · intro w hSw
    have c1 := hSw.1.cell 0
    have c2 := hSw.2.cell 0
    simp at c1 c2
    go_simp
    try with_reducible rfl
  simp only [Act.put, List.setIfInBounds_toArray, List.set_cons_zero, List.set_cons_succ, List.getElem_toArray, List.getElem_cons_zero, List.getElem_cons_succ]
  refine wpAnyH_ready (rs := [3]) (by kernel_rfl) (by simp) ?_
  refine AllReadyH.cons rfl (fun Kc hKc => ?_) AllReadyH.nil
  go_simp
  go_wp2_with (go_at_call 78; refine PA.out.mono ?_; rintro e w' ⟨rfl, hw'⟩; subst hw')
  refine hKc.out _ _ ?_ (fun hHeld => ?_)
  · assumption
  clear hKc Kc
  refine wpAnyH_take (i := 5) (v := ?_) rfl (by kernel_rfl) (by kernel_rfl) (by kernel_rfl) (fun _ _ _ h => h) (Or.inl ⟨by rfl, ?_⟩) (by assumption) ?_
  rotate_left
  · intro w hSw
    try dsimp only at hSw
    go_simp
    try with_reducible rfl
  simp only [Act.put, List.setIfInBounds_toArray, List.set_cons_zero, List.set_cons_succ, List.getElem_toArray, List.getElem_cons_zero, List.getElem_cons_succ]
  refine wpAnyH_done (by kernel_rfl) ?_ _
  clear hHeld
  by_cases hlt : x < nn
  · have e1 : decide (x < nn) = true := decide_eq_true hlt
    have a1 : w.drew.cell? ⟨A, 0, none⟩ = some (.pointer (some ⟨G, 0, none⟩)) := a0
    have n1 : w.drew.cell? ⟨NB, 0, none⟩ = some (.int .i64 nn) := n0
    go_wp2_with fail
    refine PP.out.mono ?_; rintro e w' ⟨rfl, hw'⟩
    have HW := Lib.hid hw'
    clear hw'
    go_wp2
    (try simp only [Exit.inBlock, Exit.then])
    refine bodyPost_end (results_none rfl _ _ _) rfl ?_
    refine ⟨⟨_, rfl⟩, ?_, ?_⟩
    · rw [HW.out]; first | exact HG.out.set _ _ hn.1 hn.2 | (rw [if_pos (by omega)]; exact HG.out.set _ _ hn.1 hn.2)
    · rw [HW.out]; exact grown_trans hgr0.out (grown_set _ _ _ _)
  · have e1 : decide (x < nn) = false := decide_eq_false hlt
    go_wp2
    (try simp only [Exit.inBlock, Exit.then])
    refine bodyPost_end (results_none rfl _ _ _) rfl ?_
    exact ⟨⟨_, rfl⟩, by first | (rw [HSAME.out]; exact HG.out) | (rw [if_neg (by omega), HSAME.out]; exact HG.out), hgr0.out⟩

set_option maxRecDepth 100000 in
set_option maxHeartbeats 4000000 in
theorem raise_yes (w : World) (G C R W : Nat) (zs cs : List Int) (d : Int) (v : Value) (h : GridIs w G C R W zs) (hv : IntsAt w v cs) (hm : meetB R W cs = true) (hd : In64 d) (hvc : v.ownBlock ≠ some C) :
    Calls Try.prog 93 #[.pointer (some ⟨G, 0, none⟩), v, .int .i64 d] w (RaisePost w G C R W zs cs d) := by
  have hR8 := h.rows
  have hfit := h.fit
  obtain ⟨h0R, hlR, hcol⟩ := meetB_of hm
  have HK := Lib.hid (box_kept (w := w) (cs := #[.pointer (some ⟨G, 0, none⟩)]) (t := 112) (Below.refl _ _))
  have P1 := least_yes _ G C R W zs cs v (h.kept HK.out.2) (hv.kept HK.out.2) hm
  unfold TellPost at P1
  have HG := Lib.hid h
  have HCOL := Lib.hid hcol
  have HFIT := Lib.hid hfit
  have HV := Lib.hid hv
  clear h hcol hm hfit
  obtain ⟨ao, cap, rfl, hcap, hcells⟩ := hv
  obtain ⟨g, rfl, hg, hc⟩ := hcells (by omega)
  have HC := Lib.hid hc
  have hgC : g ≠ C := fun e => hvc (by simp [Value.ownBlock, e])
  clear hcells hc hvc
  obtain ⟨n, hlen⟩ : ∃ n, n = cs.length := ⟨_, rfl⟩
  rw [← hlen] at hcap P1 ⊢
  have HLEN := Lib.hid hlen
  have hn8 : n ≤ 8 := by omega
  have hnR : Hid (n = R) := by show _ = _; omega
  clear hlen hlR
  have hbx := HK.out.1
  have q0 := hbx.cell 0
  simp at q0
  go_enter Try.func93, Try.ntmps93
  go_wp2_with fail
  refine P1.mono ?_; clear P1; rintro e w2 ⟨u, rfl, hu, hb⟩
  have HU := Lib.hid hu
  have HX2 := Lib.hid (hbx.kept hb)
  have HB2 := Lib.hid (HK.out.2.trans (hb.mono HK.out.2.size))
  have hu64 : In64 u := by
    have := (kth_zero hu).1
    simp only [readZ, List.mem_map] at this
    obtain ⟨r, _, rfl⟩ := this
    exact cell_fit HFIT.out _
  clear hu hb q0
  by_cases hneg : d < 0
  · have e1 : decide (d < 0) = true := decide_eq_true hneg
    go_wp2
    go_ret
    exact ⟨u, HU.out, .inl ⟨hneg, rfl, HB2.out⟩⟩
  · have e1 : decide (d < 0) = false := decide_eq_false hneg
    by_cases hs64 : In64 (u + d)
    · have P2 := (opok_plus u d w2 hu64 hd).1 hs64
      unfold TwoPost at P2
      go_wp2_with fail
      refine P2.mono ?_; clear P2; rintro e w3 ⟨rfl, hb⟩
      have HX3 := Lib.hid (HX2.out.kept hb)
      have HB3 := Lib.hid (btr HB2.out hb)
      have hA3 := HX3.out.lt
      clear hb
      go_wp2_with fail
      obtain ⟨nn, hnn⟩ : ∃ nn, nn = u + d := ⟨_, rfl⟩
      rw [← hnn]
      have hn64 : In64 nn := by rw [hnn]; exact hs64
      have HNN := Lib.hid hnn
      have hnb := Blk.new w3 2 #[.int .i64 nn]
      have HX4 := Lib.hid (HX3.out.alloc (.cells #[.int .i64 nn] 2))
      have hb4 : Below w.heap.size w (w3.alloc (.cells #[.int .i64 nn] 2)) := btr HB3.out (below_alloc1 _ _)
      have HG4 := Lib.hid (HG.out.kept hb4)
      have HGR4 := Lib.hid (below_grown (row := some C) hb4)
      have HNB := Lib.hid hnb
      have hne1 : w3.heap.size ≠ C := by have := HG.out.ltC; have := HB3.out.size; omega
      have hne2 : w.heap.size ≠ C := by have := HG.out.ltC; omega
      clear hnn hs64 hnb hb4
      generalize (w3.alloc (.cells #[.int .i64 nn] 2)) = w5 at *
      generalize hNB : w3.heap.size = NB at *
      clear hNB
      go_loopw [36] (fun i wr => ∃ j : Nat, j ≤ n ∧ i = .int .i64 (j : Int) ∧ GridIs wr G C R W (setsZ W zs (colN cs) (riseV W zs cs nn) j) ∧ Blk wr w.heap.size 112 #[.pointer (some ⟨G, 0, none⟩)] ∧ Blk wr NB 2 #[.int .i64 nn] ∧ w.grownBy wr (some C)) (fun i _ => n - (intOf i).toNat)
      case atStart => exact ⟨0, by omega, rfl, HG4.out, HX4.out, HNB.out, HGR4.out⟩
      case round =>
        obtain ⟨j, hj, rfl, hg', hx', hnb', hgr'⟩ := hrel
        clear HG4 HX4 HNB HGR4
        have HG5 := Lib.hid hg'
        have HX5 := Lib.hid hx'
        have HN5 := Lib.hid hnb'
        have HGR := Lib.hid hgr'
        by_cases hlt : j < n
        · obtain ⟨hcj, hcw⟩ := HCOL.out j (by have := hnR.out; omega)
          have cx := hgr'.cell (HC.out j _ hcj) (by simpa using hgC)
          have i0 : (0 : Int) ≤ (j : Int) := by omega
          have i1 : (j : Int) < (n : Int) := by omega
          have PR := Lib.hid (rise_any wr w.heap.size NB G C R W j (colN cs j) _ nn hg' (by have := hnR.out; omega) hcw hn64 hx' hnb')
          have HST : Hid ((setsZ W zs (colN cs) (riseV W zs cs nn) j).set (j * W + colN cs j) (if cellD (setsZ W zs (colN cs) (riseV W zs cs nn) j) (j * W + colN cs j) < nn then nn else cellD (setsZ W zs (colN cs) (riseV W zs cs nn) j) (j * W + colN cs j)) = setsZ W zs (colN cs) (riseV W zs cs nn) (j + 1)) := Lib.hid (by
            have e := setsZ_get (cf := colN cs) (vf := riseV W zs cs nn) HG.out.len (fun r hr => (HCOL.out r hr).2) j (by have := hnR.out; omega) j (colN cs j) (by have := hnR.out; omega) hcw
            rw [if_neg (by omega)] at e
            rw [e]; rfl)
          unfold RisePost at PR
          clear hg' hx' hnb' hgr' hcj hcw
          rw [HST.out] at PR
          generalize hy : colN cs j = y at *
          clear hy HST
          go_wp2_with fail
          refine PR.out.mono ?_; rintro e w6 ⟨⟨v, rfl⟩, hg6, hgr6⟩
          have HG6 := Lib.hid hg6
          have HX6 := Lib.hid (HX5.out.grown hgr6 (by simpa using hne2))
          have HN6 := Lib.hid (HN5.out.grown hgr6 (by simpa using hne1))
          have HGR6 := Lib.hid (grown_trans HGR.out hgr6)
          clear hg6 hgr6
          go_wp2
          go_roundw
          case rel => exact ⟨j + 1, by omega, by go_num, HG6.out, HX6.out, HN6.out, HGR6.out⟩
          case measure => simp [intOf]; omega
        · obtain rfl : j = n := by omega
          have HP : Hid (RaisePost w G C R W zs cs d (.returned (.int .i64 0)) wr) := ⟨u, HU.out, .inr (.inr ⟨by omega, by rw [← HNN.out]; exact hn64, rfl, by rw [← HNN.out, raiseZ, ← HLEN.out]; exact HG5.out, HGR.out⟩)⟩
          clear hg' hx' hnb' hgr'
          go_wp2
          go_ret
          exact HP.out
    · have P2 := (opok_plus u d w2 hu64 hd).2 hs64
      unfold TwoPost at P2
      go_wp2_with fail
      refine P2.mono ?_; clear P2; rintro e w3 ⟨rfl, hb⟩
      have HB3 := Lib.hid (btr HB2.out hb)
      have HB4 : Hid (Below w.heap.size w (w3.alloc (.cells #[.int .i64 0] 2))) := Lib.hid (btr HB3.out (below_alloc1 _ _))
      clear hb
      go_wp2
      go_ret
      exact ⟨u, HU.out, .inr (.inl ⟨by omega, hs64, rfl, HB4.out⟩)⟩
end Go.Proofs.Ythbkljeibmkimaa

/-
  Plain numbers, no program: the powers of a number of full order reach every residue (so Fermat's law holds), and P = 2^61 - 1 is such a modulus. Conditions: none beyond those stated at each theorem.
-/
namespace Go.Proofs.Ythbkljeibmkimaa

/-! ### A map of the numbers below n into themselves that keeps unlike ones unlike reaches all of them -/
theorem reach : ∀ (n : Nat) (f : Nat → Nat), (∀ i, i < n → f i < n) → (∀ i j, i < n → j < n → f i = f j → i = j) → ∀ y, y < n → ∃ i, i < n ∧ f i = y
  | 0, _, _, _, y, hy => absurd hy (by omega)
  | n + 1, f, hf, hi, y, hy => by
    -- g: f with the value n sent to f n
    have hn := hf n (by omega)
    let g : Nat → Nat := fun i => if f i = n then f n else f i
    have hg : ∀ i, i < n → g i < n := by
      intro i h
      show (if f i = n then f n else f i) < n
      have h1 := hf i (by omega)
      by_cases c : f i = n
      · rw [if_pos c]
        have : f n ≠ n := by
          intro e
          have := hi i n (by omega) (by omega) (c.trans e.symm)
          omega
        omega
      · rw [if_neg c]; omega
    have hgi : ∀ i j, i < n → j < n → g i = g j → i = j := by
      intro i j h1 h2 e
      have e' : (if f i = n then f n else f i) = (if f j = n then f n else f j) := e
      by_cases ci : f i = n <;> by_cases cj : f j = n
      · exact hi i j (by omega) (by omega) (ci.trans cj.symm)
      · rw [if_pos ci, if_neg cj] at e'
        have := hi n j (by omega) (by omega) e'
        omega
      · rw [if_neg ci, if_pos cj] at e'
        have := hi i n (by omega) (by omega) e'
        omega
      · rw [if_neg ci, if_neg cj] at e'
        exact hi i j (by omega) (by omega) e'
    by_cases cy : y = f n
    · exact ⟨n, by omega, cy.symm⟩
    · by_cases cyn : y = n
      · -- some i below n has f i = n: else f n = n
        by_cases hfn : f n = n
        · exact absurd (cyn.trans hfn.symm) cy
        · obtain ⟨i, h1, h2⟩ := reach n g hg hgi (f n) (by omega)
          have e' : (if f i = n then f n else f i) = f n := h2
          by_cases ci : f i = n
          · exact ⟨i, by omega, by rw [ci, cyn]⟩
          · rw [if_neg ci] at e'
            have := hi i n (by omega) (by omega) e'
            omega
      · obtain ⟨i, h1, h2⟩ := reach n g hg hgi y (by omega)
        have e' : (if f i = n then f n else f i) = y := h2
        by_cases ci : f i = n
        · rw [if_pos ci] at e'; exact absurd e'.symm cy
        · rw [if_neg ci] at e'; exact ⟨i, by omega, e'⟩

theorem pow_mod_one (m g k : Nat) (hm : 1 < m) (h : g % m = 1) : g ^ k % m = 1 := by
  rw [Nat.pow_mod, h, Nat.one_pow, Nat.mod_eq_of_lt hm]

theorem mul_mod_one {m a b : Nat} (ha : a % m = 1) (hb : b % m = 1) (hm : 1 < m) : a * b % m = 1 := by
  rw [Nat.mul_mod, ha, hb, Nat.mul_one, Nat.mod_eq_of_lt hm]

/-- what is of full order reaches every residue but 0 -/
theorem powers_reach (m g : Nat) (hm : 1 < m) (h1 : g ^ (m - 1) % m = 1) (hd : ∀ d, 0 < d → d < m - 1 → g ^ d % m ≠ 1)
    (a : Nat) (ha : a % m ≠ 0) : ∃ i, i < m - 1 ∧ g ^ i % m = a % m := by
  have nz : ∀ i, i < m - 1 → g ^ i % m ≠ 0 := by
    intro i hi e
    have : g ^ i * g ^ (m - 1 - i) % m = 1 := by rw [← Nat.pow_add, show i + (m - 1 - i) = m - 1 by omega, h1]
    rw [Nat.mul_mod, e, Nat.zero_mul, Nat.zero_mod] at this
    omega
  have cancel : ∀ i j, i ≤ j → j < m - 1 → g ^ i % m = g ^ j % m → i = j := by
    intro i j hij hj e
    by_cases c : i = j
    · exact c
    exfalso
    refine hd (j - i) (by omega) (by omega) ?_
    -- g^(m-1-i) * g^i = 1; g^(m-1-i) * g^j = g^(m-1) * g^(j-i)
    have t1 : g ^ (m - 1 - i) * g ^ i % m = 1 := by rw [← Nat.pow_add, show (m - 1 - i) + i = m - 1 by omega, h1]
    have t2 : g ^ (m - 1 - i) * g ^ j % m = 1 := by rw [Nat.mul_mod, ← e, ← Nat.mul_mod, t1]
    rw [← Nat.pow_add, show (m - 1 - i) + j = (m - 1) + (j - i) by omega, Nat.pow_add, Nat.mul_mod, h1, Nat.one_mul, Nat.mod_mod] at t2
    exact t2
  have key := reach (m - 1) (fun i => g ^ i % m - 1)
    (by
      intro i hi
      have a1 := nz i hi
      have a2 : g ^ i % m < m := Nat.mod_lt _ (by omega)
      show g ^ i % m - 1 < m - 1
      omega)
    (by
      intro i j hi hj e
      have a1 := nz i hi
      have a2 := nz j hj
      have e' : g ^ i % m - 1 = g ^ j % m - 1 := e
      have e2 : g ^ i % m = g ^ j % m := by omega
      rcases Nat.le_total i j with c | c
      · exact cancel i j c hj e2
      · exact (cancel j i c hi e2.symm).symm)
    (a % m - 1)
    (by have : a % m < m := Nat.mod_lt _ (by omega)
        omega)
  obtain ⟨i, hi, e⟩ := key
  have a1 := nz i hi
  have e' : g ^ i % m - 1 = a % m - 1 := e
  exact ⟨i, hi, by omega⟩

theorem fermat_of (m g : Nat) (hm : 1 < m) (h1 : g ^ (m - 1) % m = 1) (hd : ∀ d, 0 < d → d < m - 1 → g ^ d % m ≠ 1)
    (a : Nat) (ha : a % m ≠ 0) : a ^ (m - 1) % m = 1 := by
  obtain ⟨i, _, e⟩ := powers_reach m g hm h1 hd a ha
  rw [Nat.pow_mod, ← e, ← Nat.pow_mod, ← Nat.pow_mul, Nat.mul_comm, Nat.pow_mul]
  exact pow_mod_one m _ i hm h1

/-! ### The order of g, by the prime factors of m - 1 -/
theorem gcd_exp (m g : Nat) (hm : 1 < m) : ∀ (a b : Nat), g ^ a % m = 1 → g ^ b % m = 1 → g ^ (Nat.gcd a b) % m = 1 := by
  intro a
  induction a using Nat.strongRecOn with
  | _ a ih =>
    intro b ha hb
    by_cases h0 : a = 0
    · subst h0; rw [Nat.gcd_zero_left]; exact hb
    · rw [Nat.gcd_rec]
      refine ih (b % a) (Nat.mod_lt _ (by omega)) a ?_ ha
      have e : b = a * (b / a) + b % a := (Nat.div_add_mod b a).symm
      have t : g ^ (a * (b / a)) % m = 1 := by rw [Nat.pow_mul]; exact pow_mod_one m _ _ hm ha
      have hb' : g ^ (a * (b / a) + b % a) % m = 1 := by rw [← e]; exact hb
      rw [Nat.pow_add, Nat.mul_mod, t, Nat.one_mul, Nat.mod_mod] at hb'
      exact hb'

/-- q has no divisors but 1 and itself -/
def PrimeN (q : Nat) : Prop := 1 < q ∧ ∀ d, d ∣ q → d = 1 ∨ d = q

theorem coprime_of {q k : Nat} (hq : PrimeN q) (h : ¬ q ∣ k) : Nat.gcd k q = 1 := by
  rcases hq.2 _ (Nat.gcd_dvd_right k q) with e | e
  · exact e
  · exact absurd (by rw [← e]; exact Nat.gcd_dvd_left k q) h

/-- a number that divides the product of a list of primes, and none of these divides it, is 1 -/
theorem coprime_prod : ∀ (l : List Nat) (k : Nat), (∀ q, q ∈ l → PrimeN q) → (∀ q, q ∈ l → ¬ q ∣ k) → Nat.gcd k (l.foldr (· * ·) 1) = 1
  | [], k, _, _ => by simp
  | q :: l, k, hp, hn => by
    have h1 : Nat.Coprime k q := coprime_of (hp q (by simp)) (hn q (by simp))
    have h2 : Nat.Coprime k (l.foldr (· * ·) 1) := coprime_prod l k (fun q h => hp q (by simp [h])) (fun q h => hn q (by simp [h]))
    exact Nat.Coprime.mul_right h1 h2

theorem full_order (m g : Nat) (l : List Nat) (hm : 1 < m) (hl : l.foldr (· * ·) 1 = m - 1) (hp : ∀ q, q ∈ l → PrimeN q)
    (h1 : g ^ (m - 1) % m = 1) (hq : ∀ q, q ∈ l → g ^ ((m - 1) / q) % m ≠ 1) : ∀ d, 0 < d → d < m - 1 → g ^ d % m ≠ 1 := by
  intro d h0 hd e
  have he := gcd_exp m g hm d (m - 1) e h1
  generalize hgd : Nat.gcd d (m - 1) = c at he
  have c1 : c ∣ m - 1 := by rw [← hgd]; exact Nat.gcd_dvd_right _ _
  have c2 : c ≤ d := by rw [← hgd]; exact Nat.gcd_le_left _ h0
  have c0 : 0 < c := by rw [← hgd]; exact Nat.gcd_pos_of_pos_left _ h0
  obtain ⟨k, hk⟩ := c1
  have hk1 : k ≠ 1 := by
    intro e1; subst e1; omega
  -- some q of l divides k
  have hex : ∃ q, q ∈ l ∧ q ∣ k := by
    refine Classical.byContradiction fun hno => hk1 ?_
    have hg := coprime_prod l k hp (fun q h1 h2 => hno ⟨q, h1, h2⟩)
    rw [hl] at hg
    have : k ∣ m - 1 := ⟨c, by rw [hk, Nat.mul_comm]⟩
    rw [Nat.gcd_eq_left this] at hg
    exact hg
  obtain ⟨q, hql, r, hr⟩ := hex
  have q1 := (hp q hql).1
  refine hq q hql ?_
  have : (m - 1) / q = c * r := by
    rw [hk, hr, Nat.mul_left_comm]
    exact Nat.mul_div_cancel_left _ (by omega)
  rw [this, Nat.pow_mul]
  exact pow_mod_one m _ r hm he

/-! ### Powers by squaring -/
def fpow (m : Nat) : Nat → Nat → Nat → Nat
  | 0, _, _ => 1 % m
  | f + 1, a, n => if n = 0 then 1 % m else if n % 2 = 1 then a * fpow m f (a * a % m) (n / 2) % m else fpow m f (a * a % m) (n / 2)

theorem fpow_eq (m : Nat) : ∀ (f a n : Nat), n < 2 ^ f → fpow m f a n = a ^ n % m
  | 0, a, n, h => by
    have : n = 0 := by simp at h; exact h
    subst this; simp [fpow]
  | f + 1, a, n, h => by
    unfold fpow
    have hp : 2 ^ (f + 1) = 2 * 2 ^ f := by rw [Nat.pow_succ, Nat.mul_comm]
    by_cases h0 : n = 0
    · subst h0; simp
    · rw [if_neg h0]
      have ih := fpow_eq m f (a * a % m) (n / 2) (by omega)
      have sq : (a * a % m) ^ (n / 2) % m = a ^ (2 * (n / 2)) % m := by
        rw [← Nat.pow_mod, Nat.pow_mul, show a ^ 2 = a * a by rw [Nat.pow_succ, Nat.pow_one]]
      by_cases ho : n % 2 = 1
      · rw [if_pos ho, ih, sq, Nat.mul_mod, Nat.mod_mod, ← Nat.mul_mod, Nat.mul_comm, ← Nat.pow_succ]
        rw [show (2 * (n / 2)).succ = n by omega]
      · rw [if_neg ho, ih, sq, show 2 * (n / 2) = n by omega]

/-! ### P -/
def PN : Nat := 2305843009213693951
/-- P - 1 -/
def EN : Nat := 2305843009213693950
theorem PN_sub : PN - 1 = EN := rfl
def facs : List Nat := [2, 3, 3, 5, 5, 7, 11, 13, 31, 41, 61, 151, 331, 1321]

theorem facs_prod : facs.foldr (· * ·) 1 = EN := by decide +kernel
theorem facs_prime : ∀ q, q ∈ facs → PrimeN q := by
  have h : ∀ q, q ∈ facs → 1 < q ∧ ∀ d, d < q + 1 → d ∣ q → d = 1 ∨ d = q := by decide +kernel
  intro q hq
  obtain ⟨a, b⟩ := h q hq
  exact ⟨a, fun d hd => b d (by have := Nat.le_of_dvd (by omega) hd; omega) hd⟩

theorem facs_div : ∀ q, q ∈ facs → fpow PN 61 37 (EN / q) ≠ 1 := by decide +kernel
theorem pow_full : fpow PN 61 37 EN = 1 := by decide +kernel

theorem EN_lt : EN < 2 ^ 61 := by decide +kernel

theorem fermatN (a : Nat) (ha : a % PN ≠ 0) : a ^ EN % PN = 1 := by
  have h1 : 37 ^ (PN - 1) % PN = 1 := by rw [PN_sub, ← fpow_eq PN 61 37 EN EN_lt]; exact pow_full
  have hm : 1 < PN := by decide +kernel
  have := fermat_of PN 37 hm h1
    (full_order PN 37 facs hm (facs_prod.trans PN_sub.symm) facs_prime h1 (by
      intro q hq
      rw [PN_sub, ← fpow_eq PN 61 37 (EN / q) (Nat.lt_of_le_of_lt (Nat.div_le_self _ _) EN_lt)]
      exact facs_div q hq)) a ha
  rw [PN_sub] at this
  exact this
end Go.Proofs.Ythbkljeibmkimaa

/-
  Plain numbers, no program: sums, differences, products, powers and inverses modulo P = 2^61 - 1, over the integers, and what the loops of the program and of the reference reckon. Conditions: none beyond those stated at each theorem.
-/
namespace Go.Proofs.Ythbkljeibmkimaa
open Go.RowKit

def P : Int := 2305843009213693951
theorem P_eq : P = 2305843009213693951 := rfl
theorem P_pos : 0 < P := by decide
theorem P_nat : P = (PN : Int) := rfl

def ffold (a : Int) : Int := a % P
def fadd (a b : Int) : Int := (a + b) % P
def fsub (a b : Int) : Int := (a - b) % P
def fmul (a b : Int) : Int := (a * b) % P
def fpow' (a : Int) (n : Nat) : Int := a ^ n % P
def fpw (a n : Int) : Int := fpow' a n.toNat
def finv (a : Int) : Int := fpow' a (EN - 1)

theorem mod_bd (a : Int) : 0 ≤ a % P ∧ a % P ≤ 2305843009213693950 := by unfold P; omega
theorem ffold_bd (a : Int) : 0 ≤ ffold a ∧ ffold a ≤ 2305843009213693950 := mod_bd _
theorem fadd_bd (a b : Int) : 0 ≤ fadd a b ∧ fadd a b ≤ 2305843009213693950 := mod_bd _
theorem fsub_bd (a b : Int) : 0 ≤ fsub a b ∧ fsub a b ≤ 2305843009213693950 := mod_bd _
theorem fmul_bd (a b : Int) : 0 ≤ fmul a b ∧ fmul a b ≤ 2305843009213693950 := mod_bd _
theorem fpow'_bd (a : Int) (n : Nat) : 0 ≤ fpow' a n ∧ fpow' a n ≤ 2305843009213693950 := mod_bd _
theorem fpw_bd (a n : Int) : 0 ≤ fpw a n ∧ fpw a n ≤ 2305843009213693950 := mod_bd _
theorem finv_bd (a : Int) : 0 ≤ finv a ∧ finv a ≤ 2305843009213693950 := mod_bd _

/-! ### Congruences -/
theorem mod_idem (a : Int) : a % P % P = a % P := Int.emod_emod_of_dvd a (Int.dvd_refl P)
theorem add_l (a b : Int) : (a % P + b) % P = (a + b) % P := Int.emod_add_emod ..
theorem add_r (a b : Int) : (a + b % P) % P = (a + b) % P := Int.add_emod_emod ..
theorem sub_l (a b : Int) : (a % P - b) % P = (a - b) % P := Int.emod_sub_emod ..
theorem sub_r (a b : Int) : (a - b % P) % P = (a - b) % P := Int.sub_emod_emod ..
theorem mul_l (a b : Int) : (a % P * b) % P = (a * b) % P := by rw [Int.mul_emod, mod_idem, ← Int.mul_emod]
theorem mul_r (a b : Int) : (a * (b % P)) % P = (a * b) % P := by rw [Int.mul_comm, mul_l, Int.mul_comm]
theorem pow_l (a : Int) (n : Nat) : (a % P) ^ n % P = a ^ n % P := by
  induction n with
  | zero => rw [Int.pow_zero, Int.pow_zero]
  | succ n ih => rw [Int.pow_succ, Int.pow_succ, mul_r, ← mul_l, ih, mul_l]
theorem mod_add_P (a : Int) : (a + P) % P = a % P := Int.add_emod_right ..

/-! ### The program's own steps -/
theorem and_P (a : Int) (h0 : 0 ≤ a) (h1 : a ≤ 18446744073709551615) : bits BinOp.and IntKind.u64 a 2305843009213693951 = a % 2305843009213693952 := by
  have h := u64_and a 2305843009213693951 h0 (by omega) (by omega) (by omega)
  rw [h]
  have : (2305843009213693951 : Int).toNat = 2 ^ 61 - 1 := by decide +kernel
  rw [this, Nat.and_two_pow_sub_one_eq_mod]
  have e : ((a.toNat % 2 ^ 61 : Nat) : Int) = (a.toNat : Int) % 2305843009213693952 := by
    rw [Int.natCast_emod]; rfl
  rw [e, Int.toNat_of_nonneg h0]
theorem and_1 (a : Int) (h0 : 0 ≤ a) (h1 : a ≤ 18446744073709551615) : bits BinOp.and IntKind.u64 a 1 = a % 2 := by
  have h := u64_and a 1 h0 (by omega) (by omega) (by omega)
  rw [h, show (1 : Int).toNat = 1 from rfl, Nat.and_one_is_mod]
  omega

/-- the folded number: what stands above 2^61 is added at the bottom -/
theorem fold_step (a : Int) (h0 : 0 ≤ a) (h1 : a ≤ 18446744073709551615) :
    (2305843009213693951 ≤ a % 2305843009213693952 + a / 2305843009213693952 → a % 2305843009213693952 + a / 2305843009213693952 - 2305843009213693951 = ffold a) ∧
    (a % 2305843009213693952 + a / 2305843009213693952 < 2305843009213693951 → a % 2305843009213693952 + a / 2305843009213693952 = ffold a) := by
  unfold ffold P; omega

theorem fadd_of (a b : Int) : ffold (ffold a + ffold b) = fadd a b := by
  unfold ffold fadd; rw [add_l, add_r]
theorem fsub_of (a b : Int) : ffold (ffold a + 2305843009213693951 - ffold b) = fsub a b := by
  unfold ffold fsub
  rw [← P_eq, sub_r, show a % P + P - b = (a % P - b) + P by omega, mod_add_P, sub_l]

/-- hi<<3 | lo>>61 -/
theorem or_shift (h l : Nat) (hh : h < 288230376151711744) (hl : l < 18446744073709551616) :
    bits BinOp.or IntKind.u64 ((h : Int) * 8) ((l : Int) / 2305843009213693952) = (h : Int) * 8 + (l : Int) / 2305843009213693952 := by
  have e1 : ((h : Int) * 8) = ((h * 8 : Nat) : Int) := by omega
  have e2 : ((l : Int) / 2305843009213693952) = ((l / 2305843009213693952 : Nat) : Int) := by omega
  rw [e1, e2, u64_or_nat _ _ (by omega) (by omega)]
  have hb : l / 2305843009213693952 < 2 ^ 3 := by omega
  have := Nat.two_pow_add_eq_or_of_lt hb h
  have e3 : h * 8 ||| l / 2305843009213693952 = h * 8 + l / 2305843009213693952 := by
    rw [show h * 8 = 2 ^ 3 * h by omega, this]
  rw [e3]
  omega

/-- a product's halves, put together -/
theorem fmul_of (x y : Nat) (a b : Int) (hx : (x : Int) = ffold a) (hy : (y : Int) = ffold b) :
    fadd (((x * y / 18446744073709551616 : Nat) : Int) * 8 + ((x * y % 18446744073709551616 : Nat) : Int) / 2305843009213693952) (((x * y % 18446744073709551616 : Nat) : Int) % 2305843009213693952) = fmul a b := by
  have e : fmul a b = ((x * y : Nat) : Int) % P := by
    unfold fmul; rw [Int.natCast_mul, hx, hy]; unfold ffold; rw [mul_l, mul_r]
  rw [e]
  generalize x * y = z
  unfold fadd P
  omega

theorem hi_bd (x y : Nat) (a b : Int) (hx : (x : Int) = ffold a) (hy : (y : Int) = ffold b) : x * y / 18446744073709551616 < 288230376151711744 := by
  have h1 := ffold_bd a; have h2 := ffold_bd b
  have : x * y ≤ 2305843009213693950 * 2305843009213693950 := Nat.mul_le_mul (by omega) (by omega)
  omega

/-! ### Powers -/
theorem fpow'_zero (a : Int) : fpow' a 0 = 1 := by unfold fpow' P; simp
theorem fpow'_fold (a : Int) (n : Nat) : fpow' (ffold a) n = fpow' a n := pow_l a n
theorem fpow'_one (a : Int) : fpow' a 1 = ffold a := by unfold fpow' ffold; rw [Int.pow_succ, Int.pow_zero, Int.one_mul]
theorem fpow'_add (a : Int) (m n : Nat) : fpow' a (m + n) = fmul (fpow' a m) (fpow' a n) := by
  unfold fpow' fmul; rw [mul_l, mul_r, Int.pow_add]
theorem fpow'_mul (a : Int) (m n : Nat) : fpow' a (m * n) = fpow' (fpow' a m) n := by
  unfold fpow'; rw [pow_l, Int.pow_mul]
theorem fpow'_succ (a : Int) (n : Nat) : fpow' a (n + 1) = fmul (fpow' a n) a := by
  rw [fpow'_add, fpow'_one]; unfold fmul ffold; rw [mul_r]
theorem fpow'_sq (a : Int) (n : Nat) : fpow' (fmul a a) n = fpow' a (2 * n) := by
  rw [fpow'_mul]
  congr 1
  rw [show 2 = 1 + 1 from rfl, fpow'_add, fpow'_one]; unfold fmul ffold; rw [mul_l, mul_r]

theorem fmul_comm (a b : Int) : fmul a b = fmul b a := by unfold fmul; rw [Int.mul_comm]
theorem fmul_assoc (a b c : Int) : fmul (fmul a b) c = fmul a (fmul b c) := by
  unfold fmul; rw [mul_l, mul_r, Int.mul_assoc]
theorem fmul_fold_l (a b : Int) : fmul (ffold a) b = fmul a b := mul_l a b
theorem fmul_fold_r (a b : Int) : fmul a (ffold b) = fmul a b := mul_r a b
theorem fadd_fold_l (a b : Int) : fadd (ffold a) b = fadd a b := add_l a b
theorem fadd_fold_r (a b : Int) : fadd a (ffold b) = fadd a b := add_r a b
theorem fsub_fold_l (a b : Int) : fsub (ffold a) b = fsub a b := sub_l a b
theorem fsub_fold_r (a b : Int) : fsub a (ffold b) = fsub a b := sub_r a b
theorem ffold_fold (a : Int) : ffold (ffold a) = ffold a := mod_idem a
theorem ffold_mul (a b : Int) : ffold (fmul a b) = fmul a b := mod_idem _
theorem ffold_add (a b : Int) : ffold (fadd a b) = fadd a b := mod_idem _
theorem ffold_sub (a b : Int) : ffold (fsub a b) = fsub a b := mod_idem _
theorem ffold_pow (a : Int) (n : Nat) : ffold (fpow' a n) = fpow' a n := mod_idem _
theorem ffold_of (a : Int) (h0 : 0 ≤ a) (h1 : a < 2305843009213693951) : ffold a = a := by unfold ffold P; omega
theorem fmul_one (a : Int) : fmul a 1 = ffold a := by unfold fmul ffold; rw [Int.mul_one]
theorem one_fmul (a : Int) : fmul 1 a = ffold a := by unfold fmul ffold; rw [Int.one_mul]
theorem fmul_zero (a : Int) : fmul a 0 = 0 := by unfold fmul P; rw [Int.mul_zero]; rfl
theorem fadd_comm (a b : Int) : fadd a b = fadd b a := by unfold fadd; rw [Int.add_comm]
theorem fadd_assoc (a b c : Int) : fadd (fadd a b) c = fadd a (fadd b c) := by unfold fadd; rw [add_l, add_r, Int.add_assoc]
theorem fmul_add (a b c : Int) : fmul a (fadd b c) = fadd (fmul a b) (fmul a c) := by
  unfold fmul fadd; rw [mul_r, add_l, add_r, Int.mul_add]
theorem fmul_sub (a b c : Int) : fmul a (fsub b c) = fsub (fmul a b) (fmul a c) := by
  unfold fmul fsub; rw [mul_r, sub_l, sub_r, Int.mul_sub]
theorem fsub_add (a b : Int) : fsub (fadd a b) b = ffold a := by unfold fsub fadd ffold; rw [sub_l, Int.add_sub_cancel]
theorem fadd_sub (a b : Int) : fadd (fsub a b) b = ffold a := by unfold fsub fadd ffold; rw [add_l, Int.sub_add_cancel]

/-! ### Fermat -/
theorem pow_nat (a : Int) (h : 0 ≤ a) (n : Nat) : fpow' a n = ((a.toNat ^ n % PN : Nat) : Int) := by
  unfold fpow'
  obtain ⟨k, rfl⟩ := Int.eq_ofNat_of_zero_le h
  rw [P_nat, Int.toNat_natCast, Int.natCast_emod, Int.natCast_pow]
theorem fermat (a : Int) (h : ffold a ≠ 0) : fpow' a EN = 1 := by
  rw [← fpow'_fold, pow_nat _ (ffold_bd a).1]
  have hb := ffold_bd a
  have : (ffold a).toNat % PN ≠ 0 := by
    rw [Nat.mod_eq_of_lt (by unfold PN; omega)]; omega
  rw [fermatN _ this]; rfl
theorem EN_split : EN = (EN - 1) + 1 := rfl
theorem inv_mul (a : Int) (h : ffold a ≠ 0) : fmul a (finv a) = 1 := by
  have := fermat a h
  rw [EN_split, fpow'_succ] at this
  rw [fmul_comm]; exact this
theorem finv_zero (a : Int) (h : ffold a = 0) : finv a = 0 := by
  unfold finv
  rw [← fpow'_fold, h]
  have : EN - 1 = (EN - 2) + 1 := rfl
  rw [this, fpow'_succ, fmul_zero]
theorem finv_fold (a : Int) : finv (ffold a) = finv a := fpow'_fold a _

/-- of a product that is not 0 no factor is -/
theorem fmul_zero' {a b : Int} (h : fmul a b = 0) : ffold a = 0 ∨ ffold b = 0 := by
  by_cases ha : ffold a = 0
  · exact Or.inl ha
  · refine Or.inr ?_
    have : fmul (finv a) (fmul a b) = 0 := by rw [h, fmul_zero]
    rw [← fmul_assoc, fmul_comm (finv a), inv_mul a ha, one_fmul] at this
    exact this
theorem inv_unique (a b : Int) (h : fmul a b = 1) : finv a = ffold b := by
  have ha : ffold a ≠ 0 := by
    intro e
    rw [← fmul_fold_l, e, fmul_comm, fmul_zero] at h
    omega
  have : fmul (finv a) (fmul a b) = finv a := by
    rw [h, fmul_one]; exact mod_idem _
  rw [← fmul_assoc, fmul_comm (finv a), inv_mul a ha, one_fmul] at this
  exact this.symm
theorem finv_ne {a : Int} (h : ffold a ≠ 0) : ffold (finv a) ≠ 0 := by
  intro e
  have h1 := inv_mul a h
  rw [← fmul_fold_r, e, fmul_zero] at h1
  omega
theorem finv_finv {a : Int} (h : ffold a ≠ 0) : finv (finv a) = ffold a := by
  refine inv_unique _ _ ?_
  rw [fmul_comm]; exact inv_mul a h
end Go.Proofs.Ythbkljeibmkimaa

/-
  Plain numbers, no program: lines over the field, and the line through two points. Conditions: none beyond those stated at each theorem.
-/
namespace Go.Proofs.Ythbkljeibmkimaa
set_option linter.unusedVariables false

/-- the value of a line -/
def lineI (a b x : Int) : Int := fadd (fmul a x) b
theorem lineI_bd (a b x : Int) : 0 ≤ lineI a b x ∧ lineI a b x ≤ 2305843009213693950 := fadd_bd _ _
def slopeI (x u y v : Int) : Int := fmul (fsub v u) (finv (fsub y x))
def baseI (x u y v : Int) : Int := fsub u (fmul (slopeI x u y v) x)
theorem slopeI_bd (x u y v : Int) : 0 ≤ slopeI x u y v ∧ slopeI x u y v ≤ 2305843009213693950 := fmul_bd _ _
theorem baseI_bd (x u y v : Int) : 0 ≤ baseI x u y v ∧ baseI x u y v ≤ 2305843009213693950 := fsub_bd _ _

theorem fsub_zero_iff (a b : Int) : fsub a b = 0 ↔ ffold a = ffold b := by
  unfold fsub ffold P; omega
theorem fsub_ne {a b : Int} (h : ffold a ≠ ffold b) : fsub a b ≠ 0 := fun e => h ((fsub_zero_iff a b).1 e)
theorem ffold_sub' (a b : Int) (h : fsub a b ≠ 0) : ffold (fsub a b) ≠ 0 := by rw [ffold_sub]; exact h

/-- division: what times d is t -/
theorem div_of {s d t : Int} (hd : ffold d ≠ 0) (h : fmul s d = ffold t) : ffold s = fmul t (finv d) := by
  have : fmul (fmul s d) (finv d) = ffold s := by rw [fmul_assoc, inv_mul d hd, fmul_one]
  rw [← this, h, fmul_fold_l]
theorem div_mul {d t : Int} (hd : ffold d ≠ 0) : fmul (fmul t (finv d)) d = ffold t := by
  rw [fmul_assoc, fmul_comm (finv d), inv_mul d hd, fmul_one]

theorem slope_mul (x u y v : Int) (h : fsub y x ≠ 0) : fmul (slopeI x u y v) (fsub y x) = fsub v u := by
  unfold slopeI; rw [div_mul (ffold_sub' _ _ h), ffold_sub]

theorem fmul_fsub (s a b : Int) : fmul s (fsub a b) = fsub (fmul s a) (fmul s b) := fmul_sub s a b
theorem fsub_swap {a b c d : Int} (h : fsub a b = fsub c d) : fsub b a = fsub d c := by
  unfold fsub P at *; omega

/-- the reference's slope and base are the same -/
theorem slope_other (x u y v : Int) (h : fsub y x ≠ 0) : fmul (fsub u v) (finv (fsub x y)) = slopeI x u y v := by
  have h' : fsub x y ≠ 0 := by
    intro e; apply h; unfold fsub P at *; omega
  have hs := slope_mul x u y v h
  rw [fmul_fsub] at hs
  have hs2 := fsub_swap hs
  rw [← fmul_fsub] at hs2
  have := div_of (s := slopeI x u y v) (d := fsub x y) (t := fsub u v) (ffold_sub' _ _ h') (by rw [hs2, ffold_sub])
  rw [← this]
  unfold slopeI; rw [ffold_mul]
theorem base_other (x u y v : Int) (h : fsub y x ≠ 0) : fsub v (fmul (slopeI x u y v) y) = baseI x u y v := by
  have hs := slope_mul x u y v h
  rw [fmul_fsub] at hs
  unfold baseI
  generalize fmul (slopeI x u y v) y = p at *
  generalize fmul (slopeI x u y v) x = q at *
  unfold fsub P at *; omega

theorem line_first (x u y v : Int) : lineI (slopeI x u y v) (baseI x u y v) x = ffold u := by
  unfold lineI baseI
  rw [fadd_comm, fadd_sub]
theorem line_second (x u y v : Int) (h : fsub y x ≠ 0) : lineI (slopeI x u y v) (baseI x u y v) y = ffold v := by
  rw [← base_other x u y v h]
  unfold lineI
  rw [fadd_comm, fadd_sub]

theorem fadd_cancel {a b c d e : Int} (h1 : fadd a e = ffold c) (h2 : fadd b e = ffold d) : fsub b a = fsub d c := by
  unfold fadd ffold fsub P at *; omega
theorem base_of {p d u : Int} (h : fadd p d = ffold u) : ffold d = fsub u p := by
  unfold fadd ffold fsub P at *; omega

theorem line_unique (x u y v c d : Int) (h : fsub y x ≠ 0) (h1 : lineI c d x = ffold u) (h2 : lineI c d y = ffold v) : ffold c = slopeI x u y v ∧ ffold d = baseI x u y v := by
  unfold lineI at h1 h2
  have e := fadd_cancel h1 h2
  rw [← fmul_fsub] at e
  have hc : ffold c = slopeI x u y v := by
    unfold slopeI
    exact div_of (ffold_sub' _ _ h) (by rw [e, ffold_sub])
  refine ⟨hc, ?_⟩
  rw [base_of h1]
  unfold baseI
  rw [← hc, fmul_fold_l]
theorem line_fold (c d x : Int) : lineI (ffold c) (ffold d) x = lineI c d x := by
  unfold lineI; rw [fmul_fold_l, fadd_fold_r]

theorem line_both (x u y v c d : Int) (h : fsub y x ≠ 0) :
    ((lineI c d x = ffold u ∧ lineI c d y = ffold v) ↔ (ffold c = slopeI x u y v ∧ ffold d = baseI x u y v)) := by
  constructor
  · exact fun ⟨a, b⟩ => line_unique x u y v c d h a b
  · intro ⟨a, b⟩
    rw [← line_fold, a, b]
    exact ⟨line_first x u y v, by rw [← line_fold c d, a, b]; exact line_second x u y v h⟩

theorem line_zero (a b x : Int) (h : ffold a = 0) : lineI a b x = ffold b := by
  unfold lineI
  rw [← fmul_fold_l, h, fmul_comm, fmul_zero]
  unfold fadd ffold; rw [Int.zero_add]
theorem line_at0 (a b : Int) : lineI a b 0 = ffold b := by
  unfold lineI
  rw [fmul_zero]
  unfold fadd ffold; rw [Int.zero_add]
theorem line_eq_iff (a b x y : Int) (h : ffold a ≠ 0) : (lineI a b x = lineI a b y ↔ ffold x = ffold y) := by
  constructor
  · intro e
    unfold lineI at e
    have e2 : fsub (fmul a x) (fmul a y) = 0 := by unfold fadd fsub P at *; omega
    rw [← fmul_fsub] at e2
    rcases fmul_zero' e2 with e3 | e3
    · exact absurd e3 h
    · rw [ffold_sub] at e3; exact (fsub_zero_iff x y).1 e3
  · intro e
    unfold lineI
    rw [← fmul_fold_r a x, e, fmul_fold_r]
theorem line_step (a b x : Int) : lineI a b (fadd x 1) = fadd (lineI a b x) a := by
  unfold lineI
  rw [fmul_add, fmul_one]
  unfold fadd ffold P; omega
theorem line_back (a b x : Int) : fsub (lineI a b x) b = fmul a x := by
  unfold lineI
  rw [fsub_add, ffold_mul]
end Go.Proofs.Ythbkljeibmkimaa

/-
  Plain numbers, no program: shaking and un-shaking numbers of 64 bits (xor with a shift, products that go round), and what the loops of the reference reckon bit by bit. Conditions: none beyond those stated at each theorem.
-/
namespace Go.Proofs.Ythbkljeibmkimaa
open Go.RowKit
set_option linter.unusedVariables false

abbrev W64 := BitVec 64
/-- a number of 64 bits, out of an integer -/
def bv (a : Int) : BitVec 64 := BitVec.ofInt 64 a
def nv (x : BitVec 64) : Int := (x.toNat : Int)

theorem nv_bd (x : BitVec 64) : 0 ≤ nv x ∧ nv x ≤ 18446744073709551615 := by
  have := x.isLt; unfold nv; omega
theorem nv_bv (a : Int) (h0 : 0 ≤ a) (h1 : a ≤ 18446744073709551615) : nv (bv a) = a := by
  unfold nv bv
  rw [BitVec.toNat_ofInt]
  have : a % ((2 ^ 64 : Nat) : Int) = a := Int.emod_eq_of_lt h0 (by omega)
  rw [this, Int.toNat_of_nonneg h0]
theorem wrap_bv (a : Int) : IntKind.u64.wrap a = nv (bv a) := by
  unfold nv bv
  rw [IntKind.wrap_u64, BitVec.toNat_ofInt]
  have : 0 ≤ a % ((2 ^ 64 : Nat) : Int) := Int.emod_nonneg _ (by decide)
  rw [Int.toNat_of_nonneg this]
  rfl
theorem bv_nv (x : BitVec 64) : bv (nv x) = x := by
  unfold nv bv; rw [BitVec.ofInt_natCast]; simp
theorem bv_add (a b : Int) : bv (a + b) = bv a + bv b := BitVec.ofInt_add ..
theorem bv_mul (a b : Int) : bv (a * b) = bv a * bv b := BitVec.ofInt_mul ..
theorem bv_sub (a b : Int) : bv (a - b) = bv a - bv b := by
  have h : bv (a - b) + bv b = bv a := by rw [← bv_add, Int.sub_add_cancel]
  rw [← h, BitVec.add_sub_cancel]
theorem bv_wrap (a : Int) : bv (IntKind.u64.wrap a) = bv a := by rw [wrap_bv, bv_nv]
theorem nv_inj {x y : BitVec 64} (h : nv x = nv y) : x = y := by rw [← bv_nv x, ← bv_nv y, h]
theorem nv_beq (x y : BitVec 64) : (nv x == nv y) = (x == y) := by
  rw [Bool.eq_iff_iff]; simp; exact ⟨nv_inj, fun h => by rw [h]⟩

theorem xor_nv (x y : BitVec 64) : bits BinOp.xor IntKind.u64 (nv x) (nv y) = nv (x ^^^ y) := by
  unfold nv
  rw [u64_xor_nat _ _ (by have := x.isLt; omega) (by have := y.isLt; omega), BitVec.toNat_xor]
theorem shr_nv (x : BitVec 64) (k : Nat) : nv x / ((2 ^ k : Nat) : Int) = nv (x >>> k) := by
  unfold nv
  rw [BitVec.toNat_ushiftRight, Nat.shiftRight_eq_div_pow]
  exact (Int.natCast_ediv ..).symm

/-! ### Mixing -/
def sx (k : Nat) (z : BitVec 64) : BitVec 64 := z ^^^ z >>> k
def ux (k : Nat) (z : BitVec 64) : BitVec 64 := z ^^^ (z ^^^ z >>> k) >>> k
def C1 : BitVec 64 := 13787848793156543929#64
def C2 : BitVec 64 := 10723151780598845931#64
/-- one Newton step for what makes 1 of n -/
def tstep (n x : BitVec 64) : BitVec 64 := x * (2#64 - n * x)
def turnB (n : BitVec 64) : BitVec 64 := tstep n (tstep n (tstep n (tstep n (tstep n (tstep n n)))))
def mixB (z : BitVec 64) : BitVec 64 := sx 31 (sx 27 (sx 30 z * C1) * C2)
def unmixB (z : BitVec 64) : BitVec 64 := ux 30 (ux 27 (ux 31 z * turnB C2) * turnB C1)

theorem turn1 : turnB 1#64 = 1#64 := by decide +kernel
theorem turnC1 : C1 * turnB C1 = 1#64 := by decide +kernel
theorem turnC2 : C2 * turnB C2 = 1#64 := by decide +kernel

theorem shr_zero (z : BitVec 64) (k : Nat) (h : 64 ≤ k) : z >>> k = 0#64 := by
  apply BitVec.eq_of_getLsbD_eq
  intro i hi
  simp [BitVec.getLsbD_ushiftRight]
  exact BitVec.getLsbD_of_ge _ _ (by omega)
theorem xor_shr (x y : BitVec 64) (k : Nat) : (x ^^^ y) >>> k = x >>> k ^^^ y >>> k := BitVec.ushiftRight_xor_distrib ..
theorem shr_shr (x : BitVec 64) (k l : Nat) : x >>> k >>> l = x >>> (k + l) := (BitVec.shiftRight_add ..).symm

theorem ux_sx (k : Nat) (hk : 22 ≤ k) (z : BitVec 64) : ux k (sx k z) = z := by
  unfold ux sx
  simp only [xor_shr, shr_shr]
  rw [shr_zero z (k + k + k) (by omega)]
  generalize z >>> k = a
  generalize z >>> (k + k) = b
  apply BitVec.eq_of_getLsbD_eq
  intro i hi
  simp only [BitVec.getLsbD_xor, BitVec.getLsbD_zero]
  cases z.getLsbD i <;> cases a.getLsbD i <;> cases b.getLsbD i <;> rfl
theorem sx_ux (k : Nat) (hk : 22 ≤ k) (z : BitVec 64) : sx k (ux k z) = z := by
  unfold ux sx
  simp only [xor_shr, shr_shr]
  rw [shr_zero z (k + k + k) (by omega)]
  generalize z >>> k = a
  generalize z >>> (k + k) = b
  apply BitVec.eq_of_getLsbD_eq
  intro i hi
  simp only [BitVec.getLsbD_xor, BitVec.getLsbD_zero]
  cases z.getLsbD i <;> cases a.getLsbD i <;> cases b.getLsbD i <;> rfl

theorem unmix_mix (z : BitVec 64) : unmixB (mixB z) = z := by
  unfold unmixB mixB
  rw [ux_sx 31 (by omega), BitVec.mul_assoc, turnC2, BitVec.mul_one, ux_sx 27 (by omega), BitVec.mul_assoc, turnC1, BitVec.mul_one, ux_sx 30 (by omega)]
theorem mix_unmix (z : BitVec 64) : mixB (unmixB z) = z := by
  unfold unmixB mixB
  rw [sx_ux 30 (by omega), BitVec.mul_assoc, BitVec.mul_comm (turnB C1), turnC1, BitVec.mul_one, sx_ux 27 (by omega), BitVec.mul_assoc, BitVec.mul_comm (turnB C2), turnC2, BitVec.mul_one, sx_ux 31 (by omega)]
theorem mix_inj {x y : BitVec 64} (h : mixB x = mixB y) : x = y := by rw [← unmix_mix x, ← unmix_mix y, h]

/-! ### Draws -/
def G : BitVec 64 := 11400714819323198485#64
theorem turnG : G * turnB G = 1#64 := by decide +kernel
def drawB (s i : BitVec 64) : BitVec 64 := mixB (s + (i + 1#64) * G)

theorem draw_i {c a b : BitVec 64} (h : drawB c a = drawB c b) : a = b := by
  have h1 := mix_inj h
  have h2 : (a + 1#64) * G = (b + 1#64) * G := by
    have := congrArg (fun t => t - c) h1
    simpa [BitVec.add_comm c, BitVec.add_sub_cancel] using this
  have h3 : a + 1#64 = b + 1#64 := by
    have := congrArg (fun t => t * turnB G) h2
    simpa [BitVec.mul_assoc, turnG, BitVec.mul_one] using this
  have := congrArg (fun t => t - 1#64) h3
  simpa [BitVec.add_sub_cancel] using this
theorem draw_s {a b c : BitVec 64} (h : drawB a c = drawB b c) : a = b := by
  have h1 := mix_inj h
  have := congrArg (fun t => t - (c + 1#64) * G) h1
  simpa [BitVec.add_sub_cancel] using this
theorem draw_shift (s i n : BitVec 64) : drawB (s + n * G) i = drawB s (i + n) := by
  unfold drawB
  congr 1
  rw [BitVec.add_assoc, ← BitVec.add_mul, BitVec.add_comm n, BitVec.add_assoc, BitVec.add_comm 1#64, ← BitVec.add_assoc]

/-! ### As integers, as the walk shows them -/
def mixI (a : Int) : Int := nv (mixB (bv a))
def unmixI (a : Int) : Int := nv (unmixB (bv a))
def drawI (s i : Int) : Int := nv (drawB (bv s) (bv i))
theorem mixI_bd (a : Int) : 0 ≤ mixI a ∧ mixI a ≤ 18446744073709551615 := nv_bd _
theorem unmixI_bd (a : Int) : 0 ≤ unmixI a ∧ unmixI a ≤ 18446744073709551615 := nv_bd _
theorem drawI_bd (a b : Int) : 0 ≤ drawI a b ∧ drawI a b ≤ 18446744073709551615 := nv_bd _

/-- the two numbers of a row at a level -/
def pairN (l r : Int) : Int := 16 * l + 2 * r
def pairA (s l r : Int) : Int := 1 + drawI s (pairN l r) % 2305843009213693950
def pairB (s l r : Int) : Int := drawI s (pairN l r + 1) % 2305843009213693951
theorem pairA_bd (s l r : Int) : 1 ≤ pairA s l r ∧ pairA s l r ≤ 2305843009213693950 := by unfold pairA; omega
theorem pairB_bd (s l r : Int) : 0 ≤ pairB s l r ∧ pairB s l r ≤ 2305843009213693950 := by unfold pairB; omega

theorem shake30 (x : BitVec 64) : bits BinOp.xor IntKind.u64 (nv x) (nv x / 1073741824) = nv (sx 30 x) := by
  rw [show (1073741824 : Int) = ((2 ^ 30 : Nat) : Int) from rfl, shr_nv, xor_nv]; rfl
theorem shake27 (x : BitVec 64) : bits BinOp.xor IntKind.u64 (nv x) (nv x / 134217728) = nv (sx 27 x) := by
  rw [show (134217728 : Int) = ((2 ^ 27 : Nat) : Int) from rfl, shr_nv, xor_nv]; rfl
theorem shake31 (x : BitVec 64) : bits BinOp.xor IntKind.u64 (nv x) (nv x / 2147483648) = nv (sx 31 x) := by
  rw [show (2147483648 : Int) = ((2 ^ 31 : Nat) : Int) from rfl, shr_nv, xor_nv]; rfl
theorem wrap_mulC (x : BitVec 64) (c : Int) (C : BitVec 64) (h : bv c = C) : IntKind.u64.wrap (nv x * c) = nv (x * C) := by
  rw [wrap_bv, bv_mul, bv_nv, h]

theorem mix_walk (a : Int) (h0 : 0 ≤ a) (h1 : a ≤ 18446744073709551615) :
    IntKind.u64.wrap (bits BinOp.xor IntKind.u64 (IntKind.u64.wrap (bits BinOp.xor IntKind.u64 (IntKind.u64.wrap (bits BinOp.xor IntKind.u64 a (a / 1073741824) * 13787848793156543929)) (IntKind.u64.wrap (bits BinOp.xor IntKind.u64 a (a / 1073741824) * 13787848793156543929) / 134217728) * 10723151780598845931)) (IntKind.u64.wrap (bits BinOp.xor IntKind.u64 (IntKind.u64.wrap (bits BinOp.xor IntKind.u64 a (a / 1073741824) * 13787848793156543929)) (IntKind.u64.wrap (bits BinOp.xor IntKind.u64 a (a / 1073741824) * 13787848793156543929) / 134217728) * 10723151780598845931) / 2147483648)) = mixI a := by
  obtain ⟨x, rfl⟩ : ∃ x : BitVec 64, a = nv x := ⟨bv a, (nv_bv a h0 h1).symm⟩
  rw [shake30, wrap_mulC _ _ C1 (by decide), shake27, wrap_mulC _ _ C2 (by decide), shake31, wrap_bv, bv_nv]
  unfold mixI mixB
  rw [bv_nv]

/-! ### Bit by bit -/
theorem bitI (x : BitVec 64) (i : Nat) : bits BinOp.and IntKind.u64 (nv x / 2 ^ i) 1 = (((x.toNat.testBit i).toNat : Nat) : Int) := by
  have e : nv x / 2 ^ i = ((x.toNat / 2 ^ i : Nat) : Int) := by
    unfold nv
    rw [Int.natCast_ediv, Int.natCast_pow]; rfl
  have hlt : x.toNat / 2 ^ i < 18446744073709551616 := Nat.lt_of_le_of_lt (Nat.div_le_self _ _) x.isLt
  have h := u64_and_nat (x.toNat / 2 ^ i) 1 hlt (by omega)
  rw [e]
  rw [Nat.toNat_testBit, ← Nat.and_one_is_mod]
  exact h
theorem xorB (a b : Bool) : bits BinOp.xor IntKind.u64 ((a.toNat : Nat) : Int) ((b.toNat : Nat) : Int) = (((a ^^ b).toNat : Nat) : Int) := by
  rw [u64_xor_nat _ _ (by cases a <;> decide) (by cases b <;> decide)]
  cases a <;> cases b <;> rfl
theorem shlB (b : Bool) (i : Nat) (hi : i < 64) : IntKind.u64.wrap (((b.toNat : Nat) : Int) * 2 ^ i) = ((2 ^ i * b.toNat : Nat) : Int) := by
  rw [IntKind.wrap_u64]
  have hp : 2 ^ i < 2 ^ 64 := Nat.pow_lt_pow_right (by omega) hi
  have e : (((b.toNat : Nat) : Int) * 2 ^ i) = ((2 ^ i * b.toNat : Nat) : Int) := by
    rw [Int.natCast_mul, Int.natCast_pow, Int.mul_comm]; rfl
  rw [e]
  have : 2 ^ i * b.toNat < 2 ^ 64 := by cases b <;> simp <;> omega
  omega
theorem orB (S : Nat) (b : Bool) (i : Nat) (hi : i < 64) (hS : S < 2 ^ i) :
    bits BinOp.or IntKind.u64 (S : Int) ((2 ^ i * b.toNat : Nat) : Int) = ((S + 2 ^ i * b.toNat : Nat) : Int) := by
  have hp : 2 ^ i < 2 ^ 64 := Nat.pow_lt_pow_right (by omega) hi
  have : 2 ^ i * b.toNat < 2 ^ 64 := by cases b <;> simp <;> omega
  rw [u64_or_nat _ _ (by omega) (by omega)]
  congr 1
  rw [Nat.or_comm, ← Nat.two_pow_add_eq_or_of_lt hS, Nat.add_comm]
theorem mod_succ (s i : Nat) : s % 2 ^ (i + 1) = s % 2 ^ i + 2 ^ i * (s.testBit i).toNat := by
  rw [Nat.mod_pow_succ, Nat.toNat_testBit]

theorem sx_bit (x : BitVec 64) (k i : Nat) : (sx k x).toNat.testBit i = (x.toNat.testBit i ^^ x.toNat.testBit (i + k)) := by
  unfold sx
  rw [BitVec.toNat_xor, Nat.testBit_xor, BitVec.toNat_ushiftRight, Nat.testBit_shiftRight, Nat.add_comm k]
theorem high_bit (x : BitVec 64) (i : Nat) (h : 64 ≤ i) : x.toNat.testBit i = false :=
  Nat.testBit_lt_two_pow (Nat.lt_of_lt_of_le x.isLt (Nat.pow_le_pow_right (by omega) h))

theorem shaken_step1 (x : BitVec 64) (k i : Nat) (hi : i < 64) :
    bits BinOp.or IntKind.u64 (((sx k x).toNat % 2 ^ i : Nat) : Int) (IntKind.u64.wrap (bits BinOp.xor IntKind.u64 (bits BinOp.and IntKind.u64 (nv x / 2 ^ i) 1) (bits BinOp.and IntKind.u64 (nv x / 2 ^ (i + k)) 1) * 2 ^ i)) = (((sx k x).toNat % 2 ^ (i + 1) : Nat) : Int) := by
  rw [bitI, bitI, xorB, shlB _ _ hi, orB _ _ _ hi (Nat.mod_lt _ (Nat.two_pow_pos i)), mod_succ, sx_bit]
theorem shaken_step2 (x : BitVec 64) (k i : Nat) (hi : i < 64) (hk : 64 ≤ i + k) :
    bits BinOp.or IntKind.u64 (((sx k x).toNat % 2 ^ i : Nat) : Int) (IntKind.u64.wrap (bits BinOp.and IntKind.u64 (nv x / 2 ^ i) 1 * 2 ^ i)) = (((sx k x).toNat % 2 ^ (i + 1) : Nat) : Int) := by
  rw [bitI, shlB _ _ hi, orB _ _ _ hi (Nat.mod_lt _ (Nat.two_pow_pos i)), mod_succ, sx_bit, high_bit _ _ hk, Bool.xor_false]

/-! ### From the highest bit down: the bits of u from i on -/
def hiBits (u : BitVec 64) (i : Nat) : Nat := 2 ^ i * (u.toNat / 2 ^ i)
theorem hi_lt (u : BitVec 64) (i : Nat) : hiBits u i < 18446744073709551616 := by
  have := Nat.mul_div_le u.toNat (2 ^ i)
  have := u.isLt
  unfold hiBits; omega
theorem hi_bit (u : BitVec 64) (i j : Nat) (h : i ≤ j) : (hiBits u i).testBit j = u.toNat.testBit j := by
  unfold hiBits
  rw [Nat.testBit_two_pow_mul, Nat.testBit_div_two_pow, show j - i + i = j by omega]
  simp [h]
theorem hi_succ (u : BitVec 64) (i : Nat) : hiBits u i = hiBits u (i + 1) + 2 ^ i * (u.toNat.testBit i).toNat := by
  unfold hiBits
  rw [Nat.pow_succ, ← Nat.div_div_eq_div_mul, Nat.toNat_testBit, Nat.mul_assoc, ← Nat.mul_add]
  congr 1
  omega
/-- the bit of what is laid so far, as the walk asks for it -/
theorem bitH (u : BitVec 64) (i j : Nat) (h : i ≤ j) : bits BinOp.and IntKind.u64 (((hiBits u i : Nat) : Int) / 2 ^ j) 1 = (((u.toNat.testBit j).toNat : Nat) : Int) := by
  have e : ((hiBits u i : Nat) : Int) = nv (BitVec.ofNat 64 (hiBits u i)) := by
    unfold nv; rw [BitVec.toNat_ofNat, Nat.mod_eq_of_lt (hi_lt u i)]
  rw [e, bitI, BitVec.toNat_ofNat, Nat.mod_eq_of_lt (hi_lt u i), hi_bit u i j h]
theorem orH (u : BitVec 64) (b : Bool) (i : Nat) (hi : i < 64) :
    bits BinOp.or IntKind.u64 ((hiBits u (i + 1) : Nat) : Int) ((2 ^ i * b.toNat : Nat) : Int) = ((hiBits u (i + 1) + 2 ^ i * b.toNat : Nat) : Int) := by
  have hp : 2 ^ i < 2 ^ 64 := Nat.pow_lt_pow_right (by omega) hi
  have : 2 ^ i * b.toNat < 2 ^ 64 := by cases b <;> simp <;> omega
  rw [u64_or_nat _ _ (hi_lt u _) (by omega)]
  congr 1
  unfold hiBits
  have hp0 := Nat.two_pow_pos i
  have hb : 2 ^ i * b.toNat < 2 ^ (i + 1) := by
    rw [Nat.pow_succ]
    cases b
    · show 2 ^ i * 0 < 2 ^ i * 2; omega
    · show 2 ^ i * 1 < 2 ^ i * 2; omega
  rw [← Nat.two_pow_add_eq_or_of_lt hb]
theorem ux_bit (x : BitVec 64) (k i : Nat) (hk : 22 ≤ k) : (ux k x).toNat.testBit i = (x.toNat.testBit i ^^ (ux k x).toNat.testBit (i + k)) := by
  have h := sx_bit (ux k x) k i
  rw [sx_ux k hk] at h
  rw [h]
  cases (ux k x).toNat.testBit i <;> cases (ux k x).toNat.testBit (i + k) <;> rfl

theorem unshaken_step1 (x : BitVec 64) (k i : Nat) (hi : i < 64) (hk : 22 ≤ k) :
    bits BinOp.or IntKind.u64 ((hiBits (ux k x) (i + 1) : Nat) : Int) (IntKind.u64.wrap (bits BinOp.xor IntKind.u64 (bits BinOp.and IntKind.u64 (nv x / 2 ^ i) 1) (bits BinOp.and IntKind.u64 (((hiBits (ux k x) (i + 1) : Nat) : Int) / 2 ^ (i + k)) 1) * 2 ^ i)) = ((hiBits (ux k x) i : Nat) : Int) := by
  rw [bitI, bitH _ _ _ (by omega), xorB, shlB _ _ hi, orH _ _ _ hi, hi_succ _ i, ux_bit x k i hk]
theorem unshaken_step2 (x : BitVec 64) (k i : Nat) (hi : i < 64) (hk : 22 ≤ k) (h : 64 ≤ i + k) :
    bits BinOp.or IntKind.u64 ((hiBits (ux k x) (i + 1) : Nat) : Int) (IntKind.u64.wrap (bits BinOp.and IntKind.u64 (nv x / 2 ^ i) 1 * 2 ^ i)) = ((hiBits (ux k x) i : Nat) : Int) := by
  rw [bitI, shlB _ _ hi, orH _ _ _ hi, hi_succ _ i, ux_bit x k i hk, high_bit _ _ h, Bool.xor_false]

/-! ### A quotient, from the lowest bit up -/
/-- after i steps: what is laid is below 2^i; what is left of the number has no bit below i; together they are the number -/
def DivRel (z n : BitVec 64) (i : Nat) (o : Nat) (r : BitVec 64) : Prop := o < 2 ^ i ∧ r.toNat % 2 ^ i = 0 ∧ BitVec.ofNat 64 o * n + r = z
theorem div_start (z n : BitVec 64) : DivRel z n 0 0 z := ⟨by simp, by simp [Nat.mod_one], by simp⟩
theorem div_zero (z n : BitVec 64) (i o : Nat) (r : BitVec 64) (h : DivRel z n i o r) (hb : r.toNat.testBit i = false) : DivRel z n (i + 1) o r := by
  obtain ⟨a, b, c⟩ := h
  refine ⟨by rw [Nat.pow_succ]; omega, ?_, c⟩
  rw [mod_succ, b, hb]; rfl
theorem div_one (z n : BitVec 64) (i o : Nat) (r : BitVec 64) (hi : i < 64) (hn : n.toNat % 2 = 1) (h : DivRel z n i o r) (hb : r.toNat.testBit i = true) :
    DivRel z n (i + 1) (o + 2 ^ i) (r - n * BitVec.ofNat 64 (2 ^ i)) := by
  obtain ⟨a, b, c⟩ := h
  have hp : 2 ^ i < 2 ^ 64 := Nat.pow_lt_pow_right (by omega) hi
  refine ⟨by rw [Nat.pow_succ]; omega, ?_, ?_⟩
  · -- both r and n * 2^i are 2^i modulo 2^(i+1)
    have m1 : r.toNat % 2 ^ (i + 1) = 2 ^ i := by rw [mod_succ, b, hb]; simp
    have m2 : (n.toNat * 2 ^ i) % 2 ^ (i + 1) = 2 ^ i := by
      rw [Nat.pow_succ, Nat.mul_comm n.toNat, Nat.mul_mod_mul_left, hn, Nat.mul_one]
    have hd : 2 ^ (i + 1) ∣ 2 ^ 64 := Nat.pow_dvd_pow 2 (by omega)
    have e1 : (n * BitVec.ofNat 64 (2 ^ i)).toNat % 2 ^ (i + 1) = 2 ^ i := by
      rw [BitVec.toNat_mul, BitVec.toNat_ofNat, Nat.mod_eq_of_lt hp, Nat.mod_mod_of_dvd _ hd, m2]
    generalize n * BitVec.ofNat 64 (2 ^ i) = s at *
    rw [BitVec.toNat_sub, Nat.mod_mod_of_dvd _ hd]
    obtain ⟨q, hq⟩ := hd
    have hs := s.isLt
    have ha := Nat.div_add_mod s.toNat (2 ^ (i + 1))
    have hr := Nat.div_add_mod r.toNat (2 ^ (i + 1))
    rw [e1] at ha
    rw [m1] at hr
    have hqs : s.toNat / 2 ^ (i + 1) < q := by
      rw [Nat.div_lt_iff_lt_mul (Nat.two_pow_pos _), Nat.mul_comm, ← hq]; exact hs
    generalize s.toNat / 2 ^ (i + 1) = u at *
    generalize r.toNat / 2 ^ (i + 1) = v at *
    have hm : 2 ^ 64 - s.toNat + r.toNat = 2 ^ (i + 1) * (q - u + v) := by
      rw [Nat.mul_add, Nat.mul_sub, ← hq]
      omega
    rw [hm, Nat.mul_mod_right]
  · rw [← c, show BitVec.ofNat 64 (o + 2 ^ i) = BitVec.ofNat 64 o + BitVec.ofNat 64 (2 ^ i) from BitVec.ofNat_add ..]
    rw [BitVec.add_mul, BitVec.mul_comm n, BitVec.add_assoc]
    congr 1
    rw [BitVec.add_comm, BitVec.sub_add_cancel]
theorem div_end (z n m : BitVec 64) (o : Nat) (r : BitVec 64) (hm : n * m = 1#64) (h : DivRel z n 64 o r) : (o : Int) = nv (z * m) := by
  obtain ⟨a, b, c⟩ := h
  have hr : r = 0#64 := by
    apply BitVec.eq_of_toNat_eq
    rw [Nat.mod_eq_of_lt r.isLt] at b
    rw [b]; rfl
  rw [hr, BitVec.add_zero] at c
  rw [← c, BitVec.mul_assoc, hm, BitVec.mul_one]
  unfold nv
  rw [BitVec.toNat_ofNat, Nat.mod_eq_of_lt a]
theorem bit_eq (x : BitVec 64) (i : Nat) : (nv x / 2 ^ i % 2 == 1) = x.toNat.testBit i := by
  have e : nv x / 2 ^ i = ((x.toNat / 2 ^ i : Nat) : Int) := by
    unfold nv
    rw [Int.natCast_ediv, Int.natCast_pow]; rfl
  have h := Nat.toNat_testBit x.toNat i
  rw [e]
  generalize x.toNat / 2 ^ i = n at *
  cases hb : x.toNat.testBit i
  · rw [hb] at h
    have h' : 0 = n % 2 := h
    rw [beq_eq_false_iff_ne]; omega
  · rw [hb] at h
    have h' : 1 = n % 2 := h
    rw [beq_iff_eq]; omega
end Go.Proofs.Ythbkljeibmkimaa

/-
  Plain numbers, no program: configs, how many keys a level has, columns. Conditions: none beyond those stated at each theorem.
-/
namespace Go.Proofs.Ythbkljeibmkimaa
set_option linter.unusedVariables false

/-- may the config be (bits, rows, width, mode)? -/
def rightB (b r d m : Int) : Bool := decide (1 ≤ b ∧ b ≤ 59 ∧ 1 ≤ r ∧ r ≤ 8 ∧ 1 ≤ d ∧ d ≤ 128 ∧ 1 ≤ m ∧ m ≤ 3)
theorem right_of {b r d m : Int} (h : rightB b r d m = true) : 1 ≤ b ∧ b ≤ 59 ∧ 1 ≤ r ∧ r ≤ 8 ∧ 1 ≤ d ∧ d ≤ 128 ∧ 1 ≤ m ∧ m ≤ 3 := of_decide_eq_true h
theorem not_right {b r d m : Int} (h : rightB b r d m = false) : ¬ (1 ≤ b ∧ b ≤ 59 ∧ 1 ≤ r ∧ r ≤ 8 ∧ 1 ≤ d ∧ d ≤ 128 ∧ 1 ≤ m ∧ m ≤ 3) := of_decide_eq_false h
theorem right_mk {b r d m : Int} (h : 1 ≤ b ∧ b ≤ 59 ∧ 1 ≤ r ∧ r ≤ 8 ∧ 1 ≤ d ∧ d ≤ 128 ∧ 1 ≤ m ∧ m ≤ 3) : rightB b r d m = true := decide_eq_true h

/-- how many keys a level has -/
def keysI (b r d m l : Int) : Int := if rightB b r d m = true ∧ 0 ≤ l ∧ l ≤ b then 2 ^ (b - l).toNat else 0
theorem keysI_yes {b r d m l : Int} (h : rightB b r d m = true) (h0 : 0 ≤ l) (h1 : l ≤ b) : keysI b r d m l = 2 ^ (b - l).toNat := if_pos ⟨h, h0, h1⟩
theorem keysI_no {b r d m l : Int} (h : ¬ (rightB b r d m = true ∧ 0 ≤ l ∧ l ≤ b)) : keysI b r d m l = 0 := if_neg h
theorem pow_le (n : Nat) (h : n ≤ 59) : (1 : Int) ≤ 2 ^ n ∧ (2 : Int) ^ n ≤ 576460752303423488 := by
  have h1 : 2 ^ n ≤ 2 ^ 59 := Nat.pow_le_pow_right (by omega) h
  have h2 : 0 < 2 ^ n := Nat.two_pow_pos n
  have e : ((2 ^ n : Nat) : Int) = (2 : Int) ^ n := Int.natCast_pow ..
  omega
theorem keysI_bd (b r d m l : Int) : 0 ≤ keysI b r d m l ∧ keysI b r d m l ≤ 576460752303423488 := by
  unfold keysI
  by_cases c : rightB b r d m = true ∧ 0 ≤ l ∧ l ≤ b
  · rw [if_pos c]
    have := right_of c.1
    have := pow_le (b - l).toNat (by omega)
    omega
  · rw [if_neg c]; omega

/-- has the level a number for each key? -/
def exactB (b r d m l : Int) : Bool := decide (0 < keysI b r d m l ∧ keysI b r d m l ≤ d)
/-- is there the key at level 0, and the level? -/
def aboveB (b r d m l k : Int) : Bool := decide (keysI b r d m l ≠ 0 ∧ k < keysI b r d m 0)
def aboveI (b r d m l k : Int) : Int := if aboveB b r d m l k = true then k / 2 ^ l.toNat else 0
/-- a key's column of a row -/
def colI (d s l k i : Int) : Int := lineI (pairA s l i) (pairB s l i) k % d
def colsL (b r d m s l k : Int) : List Int := if k < keysI b r d m l then (List.range r.toNat).map fun (i : Nat) => colI d s l k (i : Int) else []
end Go.Proofs.Ythbkljeibmkimaa

/-
  The walks of package shape: Right, Keys, Exact, Above. Conditions: the arguments fit their kinds.
-/
namespace Go.Proofs.Ythbkljeibmkimaa
open Go.RowKit
set_option linter.unusedVariables false
set_option linter.unusedSimpArgs false

def withinB (n0 m0 n1 m1 n2 m2 n3 m3 : Int) : Bool := decide (1 ≤ n0 ∧ n0 ≤ m0 ∧ 1 ≤ n1 ∧ n1 ≤ m1 ∧ 1 ≤ n2 ∧ n2 ≤ m2 ∧ 1 ≤ n3 ∧ n3 ≤ m3)

theorem ret_bool {a b : Bool} (h : a = b) : Ending.returned (.bool a) = .returned (.bool b) := by rw [h]

theorem within_any (B : Nat) (n0 m0 n1 m1 n2 m2 n3 m3 : Int) (w : World)
    (hB : Blk w B 99 #[.int .i64 n0, .int .i64 m0, .int .i64 n1, .int .i64 m1, .int .i64 n2, .int .i64 m2, .int .i64 n3, .int .i64 m3]) :
    Calls Try.prog 42 #[.slice (some ⟨B, 0, none⟩) 4 4] w fun e w' => e = .returned (.bool (withinB n0 m0 n1 m1 n2 m2 n3 m3)) ∧ Below w.heap.size w w' := by
  have HB := Lib.hid hB
  clear hB
  go_enter Try.func42, Try.ntmps42
  go_wp2
  go_loopw [7] (fun i wr => ∃ k : Nat, k ≤ 4 ∧ i = .int .i64 (k : Int) ∧ Blk wr B 99 #[.int .i64 n0, .int .i64 m0, .int .i64 n1, .int .i64 m1, .int .i64 n2, .int .i64 m2, .int .i64 n3, .int .i64 m3] ∧ Below w.heap.size w wr ∧
      (0 < k → 1 ≤ n0 ∧ n0 ≤ m0) ∧ (1 < k → 1 ≤ n1 ∧ n1 ≤ m1) ∧ (2 < k → 1 ≤ n2 ∧ n2 ≤ m2) ∧ (3 < k → 1 ≤ n3 ∧ n3 ≤ m3)) (fun i _ => 4 - (intOf i).toNat)
  case atStart => exact ⟨0, by omega, rfl, HB.out, Below.refl _ _, by omega, by omega, by omega, by omega⟩
  case round =>
    obtain ⟨k, hk, rfl, hU, hb, q0, q1, q2, q3⟩ := hrel
    rcases (show k = 0 ∨ k = 1 ∨ k = 2 ∨ k = 3 ∨ k = 4 by omega) with rfl | rfl | rfl | rfl | rfl
    · have c0 := hU.cell 0
      have c1 := hU.cell 1
      simp at c0 c1
      have HU := Lib.hid hU
      have hlt := hU.lt
      have hsz := hb.size
      clear hU
      by_cases h0 : n0 < 1
      · have H : Hid (false = withinB n0 m0 n1 m1 n2 m2 n3 m3) := Lib.hid (by unfold withinB; symm; simp; omega)
        go_wp2
        go_ret
        exact ⟨ret_bool H.out, hb.alloc hsz _⟩
      · by_cases h1 : m0 < n0
        · have H : Hid (false = withinB n0 m0 n1 m1 n2 m2 n3 m3) := Lib.hid (by unfold withinB; symm; simp; omega)
          go_wp2
          go_ret
          exact ⟨ret_bool H.out, hb.alloc hsz _⟩
        · go_wp2
          exact ⟨⟨1, by omega, rfl, HU.out.alloc _, hb.alloc hsz _, by omega, by omega, by omega, by omega⟩, by simp [intOf]⟩
    · have c0 := hU.cell 2
      have c1 := hU.cell 3
      simp at c0 c1
      have HU := Lib.hid hU
      have hlt := hU.lt
      have hsz := hb.size
      clear hU
      by_cases h0 : n1 < 1
      · have H : Hid (false = withinB n0 m0 n1 m1 n2 m2 n3 m3) := Lib.hid (by unfold withinB; symm; simp; omega)
        go_wp2
        go_ret
        exact ⟨ret_bool H.out, hb.alloc hsz _⟩
      · by_cases h1 : m1 < n1
        · have H : Hid (false = withinB n0 m0 n1 m1 n2 m2 n3 m3) := Lib.hid (by unfold withinB; symm; simp; omega)
          go_wp2
          go_ret
          exact ⟨ret_bool H.out, hb.alloc hsz _⟩
        · go_wp2
          exact ⟨⟨2, by omega, rfl, HU.out.alloc _, hb.alloc hsz _, by omega, by omega, by omega, by omega⟩, by simp [intOf]⟩
    · have c0 := hU.cell 4
      have c1 := hU.cell 5
      simp at c0 c1
      have HU := Lib.hid hU
      have hlt := hU.lt
      have hsz := hb.size
      clear hU
      by_cases h0 : n2 < 1
      · have H : Hid (false = withinB n0 m0 n1 m1 n2 m2 n3 m3) := Lib.hid (by unfold withinB; symm; simp; omega)
        go_wp2
        go_ret
        exact ⟨ret_bool H.out, hb.alloc hsz _⟩
      · by_cases h1 : m2 < n2
        · have H : Hid (false = withinB n0 m0 n1 m1 n2 m2 n3 m3) := Lib.hid (by unfold withinB; symm; simp; omega)
          go_wp2
          go_ret
          exact ⟨ret_bool H.out, hb.alloc hsz _⟩
        · go_wp2
          exact ⟨⟨3, by omega, rfl, HU.out.alloc _, hb.alloc hsz _, by omega, by omega, by omega, by omega⟩, by simp [intOf]⟩
    · have c0 := hU.cell 6
      have c1 := hU.cell 7
      simp at c0 c1
      have HU := Lib.hid hU
      have hlt := hU.lt
      have hsz := hb.size
      clear hU
      by_cases h0 : n3 < 1
      · have H : Hid (false = withinB n0 m0 n1 m1 n2 m2 n3 m3) := Lib.hid (by unfold withinB; symm; simp; omega)
        go_wp2
        go_ret
        exact ⟨ret_bool H.out, hb.alloc hsz _⟩
      · by_cases h1 : m3 < n3
        · have H : Hid (false = withinB n0 m0 n1 m1 n2 m2 n3 m3) := Lib.hid (by unfold withinB; symm; simp; omega)
          go_wp2
          go_ret
          exact ⟨ret_bool H.out, hb.alloc hsz _⟩
        · go_wp2
          exact ⟨⟨4, by omega, rfl, HU.out.alloc _, hb.alloc hsz _, by omega, by omega, by omega, by omega⟩, by simp [intOf]⟩
    · have H : Hid (true = withinB n0 m0 n1 m1 n2 m2 n3 m3) := Lib.hid (by unfold withinB; symm; exact decide_eq_true (by omega))
      go_wp2
      go_ret
      exact ⟨ret_bool H.out, hb⟩

theorem right_any (b r d m s : Int) (w : World) :
    Calls Try.prog 32 #[.agg #[.int .i64 b, .int .i64 r, .int .i64 d, .int .i64 m, .int .u64 s]] w fun e w' => e = .returned (.bool (rightB b r d m)) ∧ Below w.heap.size w w' := by
  have H : Hid (withinB b 59 r 8 d 128 m 3 = rightB b r d m) := Lib.hid (by rfl)
  go_enter Try.func32, Try.ntmps32
  go_wp2_with fail
  refine (within_any (w.heap.size + 1) b 59 r 8 d 128 m 3 _ (by first | exact Blk.new _ _ _ | (have := Blk.new (w.alloc (.cells #[.int .i64 b, .int .i64 r, .int .i64 d, .int .i64 m, .int .u64 s] 24)) 99 #[.int .i64 b, .int .i64 59, .int .i64 r, .int .i64 8, .int .i64 d, .int .i64 128, .int .i64 m, .int .i64 3]; simpa using this))).mono ?_
  rintro e w' ⟨rfl, hb⟩
  go_wp2
  go_ret
  exact ⟨ret_bool H.out, (((Below.refl _ _).alloc (Nat.le_refl _) _).alloc (by simp) _).trans (hb.mono (by simp; omega))⟩

theorem ret_u64q {a b : Int} (h : a = b) : Ending.returned (.int .u64 a) = .returned (.int .u64 b) := by rw [h]

theorem keys_any (b r d m s l : Int) (w : World) :
    Calls Try.prog 34 #[.agg #[.int .i64 b, .int .i64 r, .int .i64 d, .int .i64 m, .int .u64 s], .int .i64 l] w fun e w' => e = .returned (.int .u64 (keysI b r d m l)) ∧ Below w.heap.size w w' := by
  cases hr : rightB b r d m
  · have H : Hid (0 = keysI b r d m l) := Lib.hid (keysI_no (fun h => by rw [hr] at h; exact absurd h.1 (by decide))).symm
    go_enter Try.func34, Try.ntmps34
    go_wp2_with fail
    refine (right_any b r d m s _).mono ?_; rintro e w' ⟨rfl, hb⟩
    obtain ⟨hk, hbb⟩ := box_kept hb
    have c0 := hk.cell 0
    simp at c0
    rw [hr]
    go_wp2
    go_ret
    exact ⟨ret_u64q H.out, hbb⟩
  · have HR := right_of hr
    by_cases h0 : l < 0
    · have H : Hid (0 = keysI b r d m l) := Lib.hid (keysI_no (fun h => by omega)).symm
      go_enter Try.func34, Try.ntmps34
      go_wp2_with fail
      refine (right_any b r d m s _).mono ?_; rintro e w' ⟨rfl, hb⟩
      obtain ⟨hk, hbb⟩ := box_kept hb
      have c0 := hk.cell 0
      simp at c0
      rw [hr]
      go_wp2
      go_ret
      exact ⟨ret_u64q H.out, hbb⟩
    · by_cases h1 : b < l
      · have H : Hid (0 = keysI b r d m l) := Lib.hid (keysI_no (fun h => by omega)).symm
        go_enter Try.func34, Try.ntmps34
        go_wp2_with fail
        refine (right_any b r d m s _).mono ?_; rintro e w' ⟨rfl, hb⟩
        obtain ⟨hk, hbb⟩ := box_kept hb
        have c0 := hk.cell 0
        simp at c0
        rw [hr]
        go_wp2
        go_ret
        exact ⟨ret_u64q H.out, hbb⟩
      · have H : Hid (2 ^ (b - l).toNat = keysI b r d m l) := Lib.hid (keysI_yes hr (by omega) (by omega)).symm
        have hp := pow_le (b - l).toNat (by omega)
        have g0 : 0 ≤ l := by omega
        have g1 : l ≤ b := by omega
        have g2 : 0 ≤ b - l := by omega
        have g3 : b - l ≤ 59 := by omega
        go_enter Try.func34, Try.ntmps34
        go_wp2_with fail
        refine (right_any b r d m s _).mono ?_; rintro e w' ⟨rfl, hb⟩
        obtain ⟨hk, hbb⟩ := box_kept hb
        have c0 := hk.cell 0
        simp at c0
        rw [hr]
        go_wp2
        go_ways
        go_ret
        go_show
        exact ⟨ret_u64q H.out, hbb⟩
end Go.Proofs.Ythbkljeibmkimaa
