import Derived.WalkKit
import Derived.ProofKit
import Derived.Below
import Derived.Lib.Hide
import Derived.Laws.OwnMore
import Derived.Laws.Rows
import Derived.Deep.Draws
import Derived.Test.YtfeficdndjiijaaGreatDoorProg
import Derived.Outline
import Derived.WalkSmall
import Derived.Deep.OwnRows
import Derived.OwnWalk
import Derived.Maps.AppendAt
import Derived.Deep.QuietTactic
import Derived.BigQuiet
import Derived.LoopN
import Derived.Deep.DeepCutAuto
import Derived.Deep.RegionHeld3
import Derived.Lib.SliceRun
import Derived.ChangeKeysEq
import Derived.Deep.LoopGhost
import Derived.WalkMore
import Derived.OrdersHeld
/-
  Contracts of the functions that TopWindow reaches, and the plain laws that it leans on. Conditions: none beyond those stated at each theorem.
-/
namespace Go.Proofs.YtfeficdndjiijaaGreatDoor
open Go
theorem z1 {α : Type _} (l : List α) (i : Nat) (a : α) : l.toArray.setIfInBounds i a = (l.set i a).toArray := List.setIfInBounds_toArray l i a
theorem z2 {α : Type _} {x : α} {xs : List α} {a : α} : (x :: xs).set 0 a = a :: xs := rfl
theorem z3 {α : Type _} {x : α} {xs : List α} {i : Nat} {a : α} : (x :: xs).set (i + 1) a = x :: xs.set i a := rfl
theorem z4 {α : Type _} {xs : List α} {i : Nat} (h : i < xs.toArray.size) : xs.toArray[i] = xs[i]'(by simpa using h) := List.getElem_toArray h
theorem z5 {α : Type _} {a : α} {xs : List α} (h : 0 < (a :: xs).length) : (a :: xs)[0] = a := rfl
theorem z6 {α : Type _} {a : α} {xs : List α} {i : Nat} (h : i + 1 < (a :: xs).length) : (a :: xs)[i+1] = xs[i]'(Nat.lt_of_succ_lt_succ h) := rfl
theorem tkH {P : Program} {md : Region.Mode} {ops : Array Oper} {Q : Exit → Act → World → Prop} {S : World → Prop} {i : Nat} {oi : Oper} {v : Value} {fuel : Nat} {listed : Array Bool} {a : Act} {w : World} (hi : ops[i]? = some oi)
    (hb : (Region.noSelect ops && (Region.free md ops listed i && (Region.ready md ops listed).contains i)) = true)
    (hQ : ∀ c a w, Q (.panic c) (a.put oi.dst v) w → Q (.panic c) a w) (hy : YieldsIf P ops S oi v a) (hS : S w)
    (h : wpAnyH P md ops Q S fuel (listed.setIfInBounds i true) (a.put oi.dst v) w) : wpAnyH P md ops Q S (fuel + 1) listed a w := by
  rw [Bool.and_eq_true, Bool.and_eq_true] at hb
  exact wpAnyH_take hi hb.1 hb.2.1 hb.2.2 hQ hy hS h
theorem tkA {P : Program} {md : Region.Mode} {ops : Array Oper} {Q : Exit → Act → World → Prop} {i : Nat} {oi : Oper} {v : Value} {fuel : Nat} {listed : Array Bool} {a : Act} {w : World} (hi : ops[i]? = some oi)
    (hb : (Region.noSelect ops && (Region.free md ops listed i && (Region.ready md ops listed).contains i)) = true)
    (hQ : ∀ c a w, Q (.panic c) (a.put oi.dst v) w → Q (.panic c) a w) (hy : Yields P ops oi v a)
    (h : wpAny P md ops Q fuel (listed.setIfInBounds i true) (a.put oi.dst v) w) : wpAny P md ops Q (fuel + 1) listed a w := by
  rw [Bool.and_eq_true, Bool.and_eq_true] at hb
  exact wpAny_take hi hb.1 hb.2.1 hb.2.2 hQ hy h
end Go.Proofs.YtfeficdndjiijaaGreatDoor
namespace Go.Proofs.YtfeficdndjiijaaGreatDoor
open Go.RowKit
set_option linter.unusedVariables false
set_option linter.unusedSimpArgs false

def In64 (x : Int) : Prop := -9223372036854775808 ≤ x ∧ x ≤ 9223372036854775807
theorem btr {w w1 w2 : World} (h : Below w.heap.size w w1) (k : Below w1.heap.size w1 w2) : Below w.heap.size w w2 := h.trans (k.mono h.size)
def Blk (w : World) (g : Nat) (t : TypeId) (cs : Array Value) : Prop := w.heap[g]? = some (.cells cs t (0, 0))
section
variable {w w' : World} {g : Nat} {t : TypeId} {cs : Array Value}
theorem Blk.lt (h : Blk w g t cs) : g < w.heap.size := by
  rcases Nat.lt_or_ge g w.heap.size with hlt | hge
  · exact hlt
  · unfold Blk at h; rw [Array.getElem?_eq_none hge] at h; cases h
theorem Blk.cell (h : Blk w g t cs) (i : Nat) : w.cell? ⟨g, i, none⟩ = cs[i]? := cell_of_row w g i cs t (0, 0) h
theorem Blk.frozen (h : Blk w g t cs) (i : Nat) : w.frozen? ⟨g, i, none⟩ = false := by
  unfold Blk at h
  simp [World.frozen?, h]
theorem Blk.new (w : World) (t : TypeId) (cs : Array Value) : Blk (w.alloc (.cells cs t)) w.heap.size t cs := heap_alloc_new w _
theorem Blk.drew (h : Blk w g t cs) : Blk w.drew g t cs := h
theorem Blk.drewN (h : Blk w g t cs) (n : Nat) : Blk (w.drewN n) g t cs := h
theorem Blk.alloc (h : Blk w g t cs) (o : Obj) : Blk (w.alloc o) g t cs := (Below.heap_alloc w o g h.lt).trans h
theorem Blk.set_ (h : Blk w g t cs) (i : Nat) (u : Value) : Blk (w.setCell ⟨g, i, none⟩ u) g t (cs.setIfInBounds i u) := by
  unfold Blk at h ⊢
  simp [World.setCell, Array.getElem?_modify, h]
theorem Blk.far (h : Blk w g t cs) {p : Addr} (hp : g ≠ p.block) (u : Value) : Blk (w.setCell p u) g t cs := (Below.heap_setCell w p u g hp).trans h
theorem Blk.below {B : Nat} (h : Blk w g t cs) (hb : Below B w w') (hg : g < B) : Blk w' g t cs := (hb.block g hg).trans h
theorem Blk.kept (h : Blk w g t cs) (hb : Below w.heap.size w w') : Blk w' g t cs := h.below hb h.lt
theorem Blk.grown {row : Option Nat} (h : Blk w g t cs) (hb : w.grownBy w' row) (hg : some g ≠ row) : Blk w' g t cs := (hb.block g h.lt hg).trans h
theorem Blk.ne_ {g' : Nat} {t' : TypeId} {cs' : Array Value} (h : Blk w g t cs) (h' : Blk w g' t' cs') (hne : t ≠ t') : g ≠ g' := by
  rintro rfl
  unfold Blk at h h'
  rw [h] at h'
  injection h' with h'
  injection h' with _ ht
  exact hne ht
end

theorem box_kept {w w1 : World} {cs : Array Value} {t : TypeId} (h : Below (w.alloc (.cells cs t)).heap.size (w.alloc (.cells cs t)) w1) :
    Blk w1 w.heap.size t cs ∧ Below w.heap.size w w1 :=
  ⟨(Blk.new w t cs).kept h, ((Below.refl _ _).alloc (Nat.le_refl _) _).trans (h.mono (by simp))⟩

theorem new_at (w : World) (o : Obj) (n : Nat) (h : n = w.heap.size) : (w.alloc o).heap[n]? = some o := by subst h; exact heap_alloc_new w o
theorem old_at (w : World) (o : Obj) (n : Nat) (h : n < w.heap.size) : (w.alloc o).heap[n]? = w.heap[n]? := Below.heap_alloc w o n h
theorem news1 (w : World) (a : Obj) : (w.alloc a).heap[w.heap.size]? = some a ∧ Below w.heap.size w (w.alloc a) ∧ (w.alloc a).heap.size = w.heap.size + 1 :=
  ⟨new_at _ _ _ rfl, (Below.refl _ _).alloc (Nat.le_refl _) _, by simp⟩
theorem news2 (w : World) (a b : Obj) : ((w.alloc a).alloc b).heap[w.heap.size]? = some a ∧ ((w.alloc a).alloc b).heap[w.heap.size + 1]? = some b ∧ Below w.heap.size w ((w.alloc a).alloc b) ∧ ((w.alloc a).alloc b).heap.size = w.heap.size + 2 := by
  obtain ⟨h1, h2, h3⟩ := news1 w a
  exact ⟨by rw [old_at _ _ _ (by omega)]; exact h1, new_at _ _ _ (by omega), h2.alloc (by omega) _, by simp⟩
theorem news3 (w : World) (a b c : Obj) : (((w.alloc a).alloc b).alloc c).heap[w.heap.size]? = some a ∧ (((w.alloc a).alloc b).alloc c).heap[w.heap.size + 1]? = some b ∧ (((w.alloc a).alloc b).alloc c).heap[w.heap.size + 1 + 1]? = some c ∧
    Below w.heap.size w (((w.alloc a).alloc b).alloc c) ∧ (((w.alloc a).alloc b).alloc c).heap.size = w.heap.size + 3 := by
  obtain ⟨h1, h2, h3, h4⟩ := news2 w a b
  exact ⟨by rw [old_at _ _ _ (by omega)]; exact h1, by rw [old_at _ _ _ (by omega)]; exact h2, new_at _ _ _ (by omega), h3.alloc (by omega) _, by simp⟩
theorem news4 (w : World) (a b c d : Obj) : ((((w.alloc a).alloc b).alloc c).alloc d).heap[w.heap.size]? = some a ∧ ((((w.alloc a).alloc b).alloc c).alloc d).heap[w.heap.size + 1]? = some b ∧ ((((w.alloc a).alloc b).alloc c).alloc d).heap[w.heap.size + 1 + 1]? = some c ∧
    ((((w.alloc a).alloc b).alloc c).alloc d).heap[w.heap.size + 1 + 1 + 1]? = some d ∧ Below w.heap.size w ((((w.alloc a).alloc b).alloc c).alloc d) ∧ ((((w.alloc a).alloc b).alloc c).alloc d).heap.size = w.heap.size + 4 := by
  obtain ⟨h1, h2, h3, h4, h5⟩ := news3 w a b c
  exact ⟨by rw [old_at _ _ _ (by omega)]; exact h1, by rw [old_at _ _ _ (by omega)]; exact h2, by rw [old_at _ _ _ (by omega)]; exact h3, new_at _ _ _ (by omega), h4.alloc (by omega) _, by simp⟩
end Go.Proofs.YtfeficdndjiijaaGreatDoor


namespace Go.Proofs.YtfeficdndjiijaaGreatDoor
set_option linter.unusedVariables false
set_option linter.unusedSimpArgs false

def cLt (l : List Int) (v : Int) : Nat := (l.filter fun x => decide (x < v)).length
def cEq (l : List Int) (v : Int) : Nat := (l.filter fun x => decide (x = v)).length
def IsKth (l : List Int) (k : Nat) (v : Int) : Prop := v ∈ l ∧ cLt l v ≤ k ∧ k < cLt l v + cEq l v
def lessL (l : List Int) (b : Int) : List Int := l.filter fun x => decide (x < b)
def moreL (l : List Int) (b : Int) : List Int := l.filter fun x => decide (b < x)

theorem cLt_cons (x : Int) (l : List Int) (v : Int) : cLt (x :: l) v = cLt l v + if x < v then 1 else 0 := by
  simp only [cLt, List.filter_cons]
  by_cases h : x < v <;> simp [h]
theorem cEq_cons (x : Int) (l : List Int) (v : Int) : cEq (x :: l) v = cEq l v + if x = v then 1 else 0 := by
  simp only [cEq, List.filter_cons]
  by_cases h : x = v <;> simp [h]
theorem cLt_mono (l : List Int) {u v : Int} (h : u < v) : cLt l u + cEq l u ≤ cLt l v := by
  induction l with
  | nil => simp [cLt, cEq]
  | cons x l ih =>
    rw [cLt_cons, cEq_cons, cLt_cons]
    by_cases h1 : x < u
    · have : x < v := by omega
      have : ¬ x = u := by omega
      simp [*]; omega
    · by_cases h2 : x = u
      · subst h2; simp [h]; omega
      · simp [h1, h2]; split <;> omega
theorem IsKth.unique {l : List Int} {k : Nat} {u v : Int} (h1 : IsKth l k u) (h2 : IsKth l k v) : u = v := by
  rcases Int.lt_trichotomy u v with h | h | h
  · have := cLt_mono l h; have := h1.2.2; have := h2.2.1; omega
  · exact h
  · have := cLt_mono l h; have := h2.2.2; have := h1.2.1; omega
theorem parts_len (l : List Int) (b : Int) : (lessL l b).length + cEq l b + (moreL l b).length = l.length := by
  induction l with
  | nil => simp [lessL, moreL, cEq]
  | cons x l ih =>
    rw [cEq_cons]
    simp only [lessL, moreL, List.filter_cons, List.length_cons] at ih ⊢
    rcases Int.lt_trichotomy x b with h | h | h
    · have h1 : ¬ x = b := by omega
      have h2 : ¬ b < x := by omega
      simp [h, h1, h2]; omega
    · subst h; simp; omega
    · have h1 : ¬ x = b := by omega
      have h2 : ¬ x < b := by omega
      simp [h, h1, h2]; omega
theorem cEq_pos {l : List Int} {b : Int} (h : b ∈ l) : 0 < cEq l b := by
  unfold cEq
  exact List.length_pos_of_mem (List.mem_filter.2 ⟨h, by simp⟩)
theorem kth_here {l : List Int} {b : Int} {k : Nat} (hb : b ∈ l) (h1 : (lessL l b).length ≤ k) (h2 : k < (lessL l b).length + cEq l b) : IsKth l k b := ⟨hb, h1, h2⟩
theorem less_counts (l : List Int) (b v : Int) (hv : v < b) : cLt (lessL l b) v = cLt l v ∧ cEq (lessL l b) v = cEq l v := by
  induction l with
  | nil => simp [lessL, cLt, cEq]
  | cons x l ih =>
    by_cases h : x < b
    · have e : lessL (x :: l) b = x :: lessL l b := by simp [lessL, h]
      rw [e, cLt_cons, cEq_cons, cLt_cons, cEq_cons, ih.1, ih.2]; simp
    · have e : lessL (x :: l) b = lessL l b := by simp [lessL, h]
      have h1 : ¬ x < v := by omega
      have h2 : ¬ x = v := by omega
      rw [e, cLt_cons, cEq_cons, ih.1, ih.2]; simp [h1, h2]
theorem more_counts (l : List Int) (b v : Int) (hv : b < v) : cLt l v = (lessL l b).length + cEq l b + cLt (moreL l b) v ∧ cEq (moreL l b) v = cEq l v := by
  induction l with
  | nil => simp [lessL, moreL, cLt, cEq]
  | cons x l ih =>
    rw [cLt_cons, cEq_cons, cEq_cons]
    rcases Int.lt_trichotomy x b with h | h | h
    · have e1 : lessL (x :: l) b = x :: lessL l b := by simp [lessL, h]
      have h3 : ¬ b < x := by omega
      have e2 : moreL (x :: l) b = moreL l b := by simp [moreL, h3]
      have h1 : x < v := by omega
      have h2 : ¬ x = v := by omega
      have h4 : ¬ x = b := by omega
      rw [e1, e2, ih.1, ih.2]; simp [h1, h2, h4]; omega
    · subst h
      have e1 : lessL (x :: l) x = lessL l x := by simp [lessL]
      have e2 : moreL (x :: l) x = moreL l x := by simp [moreL]
      have h2 : ¬ x = v := by omega
      rw [e1, e2, ih.1, ih.2]; simp [hv, h2]; omega
    · have h3 : ¬ x < b := by omega
      have e1 : lessL (x :: l) b = lessL l b := by simp [lessL, h3]
      have e2 : moreL (x :: l) b = x :: moreL l b := by simp [moreL, h]
      have h4 : ¬ x = b := by omega
      rw [e1, e2, cLt_cons, cEq_cons, ih.1, ih.2]; simp [h4]; omega
theorem kth_less {l : List Int} {b : Int} {k : Nat} {v : Int} (h : IsKth (lessL l b) k v) : IsKth l k v := by
  have hm := List.mem_filter.1 h.1
  have hv : v < b := by simpa using hm.2
  obtain ⟨c1, c2⟩ := less_counts l b v hv
  exact ⟨hm.1, by rw [← c1]; exact h.2.1, by rw [← c1, ← c2]; exact h.2.2⟩
theorem kth_more {l : List Int} {b : Int} {k : Nat} {v : Int} (h : IsKth (moreL l b) k v) : IsKth l (k + ((lessL l b).length + cEq l b)) v := by
  have hm := List.mem_filter.1 h.1
  have hv : b < v := by simpa using hm.2
  obtain ⟨c1, c2⟩ := more_counts l b v hv
  have := h.2.1
  have := h.2.2
  exact ⟨hm.1, by omega, by omega⟩
theorem IsKth.lt {l : List Int} {k : Nat} {v : Int} (h : IsKth l k v) : k < l.length := by
  have h1 := parts_len l v
  have : cLt l v = (lessL l v).length := rfl
  have := h.2.2
  omega
theorem kth_zero {l : List Int} {v : Int} (h : IsKth l 0 v) : v ∈ l ∧ ∀ x ∈ l, v ≤ x := by
  refine ⟨h.1, fun x hx => ?_⟩
  have h0 : cLt l v = 0 := by have := h.2.1; omega
  rcases Int.lt_or_le x v with hlt | hle
  · exfalso
    have : 0 < cLt l v := by
      unfold cLt
      exact List.length_pos_of_mem (List.mem_filter.2 ⟨hx, by simpa using hlt⟩)
    omega
  · exact hle
end Go.Proofs.YtfeficdndjiijaaGreatDoor


namespace Go.Proofs.YtfeficdndjiijaaGreatDoor
open Go.RowKit
set_option linter.unusedVariables false
set_option linter.unusedSimpArgs false

def IntsAt (w : World) (v : Value) (zs : List Int) : Prop :=
  ∃ (ao : Option Addr) (cap : Nat), v = .slice ao zs.length cap ∧ zs.length ≤ cap ∧ (0 < zs.length → ∃ g, ao = some ⟨g, 0, none⟩ ∧ g < w.heap.size ∧ ∀ i u, zs[i]? = some u → w.cell? ⟨g, i, none⟩ = some (.int .i64 u))
theorem IntsAt.kept {w w' : World} {v : Value} {zs : List Int} (h : IntsAt w v zs) (hb : Below w.heap.size w w') : IntsAt w' v zs := by
  obtain ⟨ao, cap, e, hc, h⟩ := h
  refine ⟨ao, cap, e, hc, fun h0 => ?_⟩
  obtain ⟨g, e2, hg, hc⟩ := h h0
  exact ⟨g, e2, Nat.lt_of_lt_of_le hg hb.size, fun i u hu => (hb.cell (p := ⟨g, i, none⟩) hg).trans (hc i u hu)⟩
theorem IntsAt.drewN {w : World} {v : Value} {zs : List Int} (h : IntsAt w v zs) (n : Nat) : IntsAt (w.drewN n) v zs := h.kept (below_drewN (Below.refl _ _) n)
theorem IntsAt.of_row {w : World} {g : Nat} {t : TypeId} {n : Nat} {f : Nat → Int} (h : w.rowIs g t n (fun i => .int .i64 (f i))) : IntsAt w (.slice (some ⟨g, 0, none⟩) n n) ((List.range n).map f) := by
  refine ⟨some ⟨g, 0, none⟩, n, by simp, by simp, fun _ => ⟨g, rfl, h.lt, fun i u hu => ?_⟩⟩
  have hi : i < n := by
    have := (List.getElem?_eq_some_iff.1 hu).1
    simpa using this
  rw [h.cell hi]
  simp [hi] at hu
  rw [hu]
theorem IntsAt.of_own {w : World} {base : Nat} {e : TypeId} {v : Value} {n : Nat} {zs : List Int} (h : w.ownsRow base e 1 v n (zs.map (Value.int .i64))) (hn : zs.length = n) : IntsAt w v zs := by
  rcases h.2 with ⟨rfl, h0⟩ | ⟨g, cap, cur, rfl, hb, hg, hnc, hcm, hsz, htake⟩
  · subst h0
    exact ⟨none, 0, by rw [hn], by omega, fun h => by omega⟩
  · refine ⟨some ⟨g, 0, none⟩, cap, by rw [hn], by omega, fun _ => ⟨g, rfl, (Array.getElem?_eq_some_iff.1 hg).1, fun i u hu => ?_⟩⟩
    have hi : i < n := by
      have := (List.getElem?_eq_some_iff.1 hu).1
      omega
    rw [cell_of_row w g i cur e (0, 0) hg]
    have h2 : (cur.toList.take (n * 1))[i]? = (zs.map (Value.int .i64))[i]? := by rw [htake]
    rw [List.getElem?_take, if_pos (by omega)] at h2
    simp only [List.getElem?_map, hu, Option.map_some] at h2
    simpa using h2

theorem ret_boolq {a b : Bool} (h : a = b) : Ending.returned (.bool a) = .returned (.bool b) := by rw [h]

end Go.Proofs.YtfeficdndjiijaaGreatDoor


namespace Go.Proofs.YtfeficdndjiijaaGreatDoor
open Go.RowKit
set_option linter.unusedVariables false
set_option linter.unusedSimpArgs false

def Fit (zs : List Int) : Prop := ∀ u ∈ zs, -9223372036854775808 ≤ u ∧ u ≤ 9223372036854775807
theorem Fit.get {zs : List Int} (h : Fit zs) {i : Nat} {u : Int} (e : zs[i]? = some u) : -9223372036854775808 ≤ u ∧ u ≤ 9223372036854775807 := h u (List.mem_of_getElem? e)
theorem Fit.set {zs : List Int} (h : Fit zs) (i : Nat) {u : Int} (h0 : -9223372036854775808 ≤ u) (h1 : u ≤ 9223372036854775807) : Fit (zs.set i u) := by
  intro v hv
  rcases List.mem_or_eq_of_mem_set hv with hv | rfl
  · exact h v hv
  · exact ⟨h0, h1⟩
structure GridIs (w : World) (G C R W : Nat) (zs : List Int) : Prop where
  fields : ∃ cap : Nat, Blk w G 337 #[.int .i64 (R : Int), .int .i64 (W : Int), .slice (some ⟨C, 0, none⟩) (R * W) cap] ∧ R * W ≤ cap
  len : zs.length = R * W
  cells : ∃ cur : Array Value, Blk w C 2 cur ∧ ∀ (i : Nat) (u : Int), zs[i]? = some u → cur[i]? = some (Value.int .i64 u)
  rows : R ≤ 8
  width : W ≤ 128
  fit : Fit zs

theorem placeBd {R W r c : Nat} (hr : r < R) (hc : c < W) (hR : R ≤ 8) (hW : W ≤ 128) : r * W + c < R * W ∧ r * W ≤ 1024 ∧ R * W ≤ 1024 := by
  have h1 : (r + 1) * W ≤ R * W := Nat.mul_le_mul_right W hr
  have h2 : R * W ≤ 8 * 128 := Nat.mul_le_mul hR hW
  rw [Nat.add_mul] at h1
  omega
theorem ret_placeq {a b : Int} (h : a = b) : Ending.returned (.tuple #[.int .i64 a, .bool true]) = .returned (.tuple #[.int .i64 b, .bool true]) := by rw [h]

theorem place_in (w : World) (G C R W r c : Nat) (zs : List Int) (h : GridIs w G C R W zs) (hr : r < R) (hc : c < W) :
  Calls Tryz.prog 283 #[.pointer (some ⟨G, 0, none⟩), .int .i64 (r : Int), .int .i64 (c : Int)] w fun e w' => e = .returned (.tuple #[.int .i64 ((r * W + c : Nat) : Int), .bool true]) ∧ w = w' := by
 obtain ⟨b1, b2, b3⟩ := placeBd hr hc h.rows h.width
 have hR := h.rows
 have hW := h.width
 obtain ⟨cap, hb, _⟩ := h.fields
 have c0 := hb.cell 0
 have c1 := hb.cell 1
 simp at c0 c1
 clear h hb
 have d1 : decide ((r : Int) < 0) = false := decide_eq_false (by omega)
 have d2 : decide ((R : Int) ≤ (r : Int)) = false := decide_eq_false (by omega)
 have d3 : decide ((c : Int) < 0) = false := decide_eq_false (by omega)
 have d4 : decide ((W : Int) ≤ (c : Int)) = false := decide_eq_false (by omega)
 have hm0 : (r : Int) * (W : Int) = ((r * W : Nat) : Int) := by simp
 have hf : ((r * W + c : Nat) : Int) = ((r * W : Nat) : Int) + (c : Int) := by omega
 generalize ((r * W + c : Nat) : Int) = f at *
 generalize r * W = p at *
 have hm : (r : Int) * (W : Int) = (p : Int) := hm0
 clear hm0
 go_enter Tryz.func283, Tryz.ntmps283
 go_wp2
 go_ret2
 exact ⟨ret_placeq hf.symm, rfl⟩

theorem GridIs.ne {w : World} {G C R W : Nat} {zs : List Int} (h : GridIs w G C R W zs) : G ≠ C := by
  obtain ⟨cap, hb, _⟩ := h.fields
  obtain ⟨cur, hc, _⟩ := h.cells
  exact hb.ne_ hc (by decide)
theorem GridIs.ltG {w : World} {G C R W : Nat} {zs : List Int} (h : GridIs w G C R W zs) : G < w.heap.size := by
  obtain ⟨cap, hb, _⟩ := h.fields
  exact hb.lt
theorem GridIs.ltC {w : World} {G C R W : Nat} {zs : List Int} (h : GridIs w G C R W zs) : C < w.heap.size := by
  obtain ⟨cur, hc, _⟩ := h.cells
  exact hc.lt
theorem GridIs.below {w w' : World} {G C R W B : Nat} {zs : List Int} (h : GridIs w G C R W zs) (hb : Below B w w') (h1 : G < B) (h2 : C < B) : GridIs w' G C R W zs := by
  obtain ⟨cap, hg, hc⟩ := h.fields
  obtain ⟨cur, hcc, hcur⟩ := h.cells
  exact ⟨⟨cap, hg.below hb h1, hc⟩, h.len, ⟨cur, hcc.below hb h2, hcur⟩, h.rows, h.width, h.fit⟩
theorem GridIs.kept {w w' : World} {G C R W : Nat} {zs : List Int} (h : GridIs w G C R W zs) (hb : Below w.heap.size w w') : GridIs w' G C R W zs := h.below hb h.ltG h.ltC
theorem GridIs.grown {w w' : World} {G C R W : Nat} {zs : List Int} {row : Option Nat} (h : GridIs w G C R W zs) (hb : w.grownBy w' row) (h1 : some G ≠ row) (h2 : some C ≠ row) : GridIs w' G C R W zs := by
  obtain ⟨cap, hg, hc⟩ := h.fields
  obtain ⟨cur, hcc, hcur⟩ := h.cells
  exact ⟨⟨cap, hg.grown hb h1, hc⟩, h.len, ⟨cur, hcc.grown hb h2, hcur⟩, h.rows, h.width, h.fit⟩
theorem GridIs.far {w : World} {G C R W : Nat} {zs : List Int} {p : Addr} (h : GridIs w G C R W zs) (h1 : G ≠ p.block) (h2 : C ≠ p.block) (u : Value) : GridIs (w.setCell p u) G C R W zs := by
  obtain ⟨cap, hg, hc⟩ := h.fields
  obtain ⟨cur, hcc, hcur⟩ := h.cells
  exact ⟨⟨cap, hg.far h1 u, hc⟩, h.len, ⟨cur, hcc.far h2 u, hcur⟩, h.rows, h.width, h.fit⟩
theorem GridIs.drewN {w : World} {G C R W : Nat} {zs : List Int} (h : GridIs w G C R W zs) (n : Nat) : GridIs (w.drewN n) G C R W zs := h.kept (below_drewN (Below.refl _ _) n)
theorem GridIs.set {w : World} {G C R W : Nat} {zs : List Int} (h : GridIs w G C R W zs) (i : Nat) (u : Int) (u0 : -9223372036854775808 ≤ u) (u1 : u ≤ 9223372036854775807) : GridIs (w.setCell ⟨C, i, none⟩ (.int .i64 u)) G C R W (zs.set i u) := by
  have hne := h.ne
  obtain ⟨cap, hg, h1⟩ := h.fields
  obtain ⟨cur, hc, hcur⟩ := h.cells
  refine ⟨⟨cap, hg.far hne _, h1⟩, by simp [h.len], ⟨_, hc.set_ i _, fun j v hv => ?_⟩, h.rows, h.width, h.fit.set i u0 u1⟩
  have hj : j < zs.length := by
    have := (List.getElem?_eq_some_iff.1 hv).1
    simpa using this
  obtain ⟨z, hz⟩ : ∃ z, zs[j]? = some z := ⟨_, List.getElem?_eq_getElem hj⟩
  have hcj := hcur j z hz
  have hjc : j < cur.size := (Array.getElem?_eq_some_iff.1 hcj).1
  rw [List.getElem?_set] at hv
  rw [Array.getElem?_setIfInBounds]
  by_cases e : i = j
  · subst e
    simp [hj] at hv
    simp [hjc, hv]
  · simp [e] at hv ⊢
    exact hcur j v hv

theorem grown_set (w : World) (C i : Nat) (u : Value) : w.grownBy (w.setCell ⟨C, i, none⟩ u) (some C) :=
  ⟨rfl, rfl, rfl, by simp [World.setCell], fun k hk hne => Below.heap_setCell _ _ _ _ (by simpa using hne)⟩
def cellD (zs : List Int) (i : Nat) : Int := (zs[i]?).getD 0

theorem at_in (w : World) (G C R W r c : Nat) (zs : List Int) (h : GridIs w G C R W zs) (hr : r < R) (hc : c < W) :
    Calls Tryz.prog 281 #[.pointer (some ⟨G, 0, none⟩), .int .i64 (r : Int), .int .i64 (c : Int)] w fun e w' => e = .returned (.int .i64 (cellD zs (r * W + c))) ∧ w = w' := by
  obtain ⟨b1, b2, b3⟩ := placeBd hr hc h.rows h.width
  have h0 : 0 < R * W := by omega
  obtain ⟨cap, hb, hcap⟩ := h.fields
  obtain ⟨cur, hC, hcur⟩ := h.cells
  have c2 := hb.cell 2
  simp at c2
  have hz : zs[r * W + c]? = some (cellD zs (r * W + c)) := by
    have : r * W + c < zs.length := by rw [h.len]; omega
    simp [cellD, this]
  have cc := (hC.cell (r * W + c)).trans (hcur _ _ hz)
  have H := Lib.hid h
  clear h hb hC hcur hz h0
  have hlt : r * W + c < R * W := b1
  have PL := place_in w G C R W r c zs H.out hr hc
  clear hr hc b2
  generalize cellD zs (r * W + c) = z at *
  generalize r * W + c = f at *
  generalize R * W = n at *
  go_enter Tryz.func281, Tryz.ntmps281
  go_wp2_with (go_at_call 283; refine PL.mono ?_; rintro e w' ⟨rfl, rfl⟩)
  go_ret
  exact ⟨rfl, rfl⟩
theorem put_in (w : World) (G C R W r c : Nat) (u : Int) (zs : List Int) (h : GridIs w G C R W zs) (hr : r < R) (hc : c < W) :
    Calls Tryz.prog 282 #[.pointer (some ⟨G, 0, none⟩), .int .i64 (r : Int), .int .i64 (c : Int), .int .i64 u] w fun e w' => e = .returned (.bool true) ∧ w' = w.setCell ⟨C, r * W + c, none⟩ (.int .i64 u) := by
  obtain ⟨b1, b2, b3⟩ := placeBd hr hc h.rows h.width
  have h0 : 0 < R * W := by omega
  obtain ⟨cap, hb, hcap⟩ := h.fields
  obtain ⟨cur, hC, hcur⟩ := h.cells
  have c2 := hb.cell 2
  simp at c2
  have hz : zs[r * W + c]? = some (cellD zs (r * W + c)) := by
    have : r * W + c < zs.length := by rw [h.len]; omega
    simp [cellD, this]
  have cc := (hC.cell (r * W + c)).trans (hcur _ _ hz)
  have hfz := hC.frozen (r * W + c)
  have H := Lib.hid h
  clear h hb hC hcur hz h0
  have hlt : r * W + c < R * W := b1
  have PL := place_in w G C R W r c zs H.out hr hc
  clear hr hc b2
  generalize cellD zs (r * W + c) = z at *
  generalize r * W + c = f at *
  generalize R * W = n at *
  go_enter Tryz.func282, Tryz.ntmps282
  go_wp2_with (go_at_call 283; refine PL.mono ?_; rintro e w' ⟨rfl, rfl⟩)
  go_ret
  exact ⟨rfl, rfl⟩
end Go.Proofs.YtfeficdndjiijaaGreatDoor


namespace Go.Proofs.YtfeficdndjiijaaGreatDoor
open Go.RowKit
set_option linter.unusedVariables false
set_option linter.unusedSimpArgs false

def clampN (n : Int) (top : Nat) : Nat := min n.toNat top
theorem clampN_le (n : Int) (top : Nat) : clampN n top ≤ top := Nat.min_le_right _ _

theorem rows_any (w : World) (G C R W : Nat) (zs : List Int) (h : GridIs w G C R W zs) :
    Calls Tryz.prog 304 #[.pointer (some ⟨G, 0, none⟩)] w fun e w' => e = .returned (.int .i64 (R : Int)) ∧ w' = w := by
  obtain ⟨cap, hb, _⟩ := h.fields
  have c0 := hb.cell 0
  simp at c0
  clear h hb
  go_enter Tryz.func304, Tryz.ntmps304
  go_wp2
  go_ret
  exact ⟨rfl, rfl⟩
theorem width_any (w : World) (G C R W : Nat) (zs : List Int) (h : GridIs w G C R W zs) :
    Calls Tryz.prog 280 #[.pointer (some ⟨G, 0, none⟩)] w fun e w' => e = .returned (.int .i64 (W : Int)) ∧ w' = w := by
  obtain ⟨cap, hb, _⟩ := h.fields
  have c0 := hb.cell 1
  simp at c0
  clear h hb
  go_enter Tryz.func280, Tryz.ntmps280
  go_wp2
  go_ret
  exact ⟨rfl, rfl⟩

theorem Tryz.info64 : (Tryz.prog.info? 2).map (fun i => (i.zero, i.size, i.bytes)) = some (some (.int .i64 0), 1, 8) := by kernel_rfl

def NewPost (w : World) (R W : Nat) (e : Ending) (w' : World) : Prop :=
  ∃ G C, e = .returned (.pointer (some ⟨G, 0, none⟩)) ∧ w.heap.size ≤ G ∧ w.heap.size ≤ C ∧ GridIs w' G C R W (List.replicate (R * W) 0) ∧ Below w.heap.size w w'

set_option maxRecDepth 100000 in
theorem new_any (r c : Int) (w : World) : Calls Tryz.prog 159 #[.int .i64 r, .int .i64 c] w (NewPost w (clampN r 8) (clampN c 128)) := by
 have hr := clampN_le r 8
 have hc := clampN_le c 128
 obtain ⟨mr, er⟩ : ∃ m, (if r < 0 then 0 else r) = m := ⟨_, rfl⟩
 obtain ⟨mc, ec⟩ : ∃ m, (if c < 0 then 0 else c) = m := ⟨_, rfl⟩
 have fr : (if 8 < mr then 8 else mr) = (clampN r 8 : Int) := by simp only [clampN]; split at er <;> split <;> omega
 have fc : (if 128 < mc then 128 else mc) = (clampN c 128 : Int) := by simp only [clampN]; split at ec <;> split <;> omega
 generalize clampN r 8 = R at *
 generalize clampN c 128 = W at *
 obtain ⟨n, hn⟩ : ∃ n, n = R * W := ⟨_, rfl⟩
 have hm : (R : Int) * (W : Int) = (n : Int) := by simp [hn]
 have hp : n ≤ 1024 := by rw [hn]; exact Nat.mul_le_mul hr hc
 have HN := Lib.hid hn
 clear hn
 have hmk := fun W => run_make_row' (P := Tryz.prog) 93 2 (.int .i64 0) 8 Tryz.underlying93 Tryz.info64 rfl .i64 .i64 n (by omega) (by omega) W
 go_enter Tryz.func159, Tryz.ntmps159
 go_wp2_with fail
 go_ret
 have hn := HN.out
 refine ⟨w.heap.size + 1, w.heap.size, rfl, by omega, by omega, ⟨⟨n, ?_, by omega⟩, by simp, ⟨madeCells #[.int .i64 0] n, (Blk.new _ _ _).alloc _, fun i u hi => ?_⟩, hr, hc, fun u hu => by simp at hu; omega⟩, ((Below.refl _ _).alloc (Nat.le_refl _) _).alloc (by simp) _⟩
 ·have := Blk.new (w.alloc (.cells (madeCells #[.int .i64 0] n) 2)) 337 #[.int .i64 (R : Int), .int .i64 (W : Int), .slice (some ⟨w.heap.size, 0, none⟩) n n]
  rw [← hn]
  simpa using this
 ·have hin : i < n := by
   have := (List.getElem?_eq_some_iff.1 hi).1
   simp at this
   omega
  have hu : u = 0 := by
   have := List.mem_of_getElem? hi
   simp at this
   exact this.2
  subst hu
  have h1 := (World.rowIs_made w (.int .i64 0) n 2).cell hin
  rw [(Blk.new w 2 (madeCells #[.int .i64 0] n)).cell i] at h1
  exact h1
end Go.Proofs.YtfeficdndjiijaaGreatDoor


namespace Go.Proofs.YtfeficdndjiijaaGreatDoor
open Go.RowKit
set_option linter.unusedVariables false
set_option linter.unusedSimpArgs false

theorem Tryz.sl64 (w : World) (a : Option Addr) (n c : Nat) : Sem.run Tryz.prog (binOp .eql 93 (.slice a n c) (.slice none 0 0)) w = .ok (.bool a.isNone) w := Go.Lib.run_eql_slice_nil w 93 2 a n c 0 0 Tryz.underlying93

def ClonePost (w : World) (zs : List Int) (e : Ending) (w' : World) : Prop :=
  ∃ v, e = .returned v ∧ w'.ownsRow w.heap.size 2 1 v zs.length (zs.map (Value.int .i64)) ∧ v ≠ .slice none 0 0 ∧ Below w.heap.size w w'

set_option maxRecDepth 100000 in
theorem clone_any (w : World) (C cap : Nat) (zs : List Int) (hn : zs.length ≤ 1024) (hC : ∀ i u, zs[i]? = some u → w.cell? ⟨C, i, none⟩ = some (.int .i64 u)) (hCw : C < w.heap.size) :
  Calls Tryz.prog 237 #[.slice (some ⟨C, 0, none⟩) zs.length cap] w (ClonePost w zs) := by
 have he := Tryz.sl64 w (some ⟨C, 0, none⟩) zs.length cap
 simp only [Option.isNone_some] at he
 have HC := Lib.hid hC
 have HW := Lib.hid hCw
 obtain ⟨n, hl⟩ : ∃ n, n = zs.length := ⟨_, rfl⟩
 rw [← hl] at he ⊢
 have HL := Lib.hid hl
 clear hC hCw
 have hown0 := World.ownsRow_lit (base := w.heap.size) (e := 2) (size := 1) w #[] 0 (by simp) (by unfold maxLen; omega) (by simp)
 have HO := Lib.hid hown0
 clear hl hown0
 go_enter Tryz.func237, Tryz.ntmps237
 obtain ⟨i0, hi, hz0, hz1, hz2⟩ := info_parts Tryz.info64
 go_wp2_with (at_builtin; refine wpList_append_own_at _ rfl _ _ 93 rfl w.heap.size 2 i0 (.int .i64 0) 1 8 Tryz.underlying93 hi hz0 hz1 hz2 rfl (by decide) _ 0 [] rfl HO.out ⟨C, 0, none⟩ n cap (zs.map (Value.int .i64)) rfl ?c1 ?c2 ?c3 ?c4 ?c5 (by simp) ?_)
 case c1 => simp [HL.out]
 case c2 =>
  intro j u hu
  have := HC.out j u hu
  rw [← this]
  exact ((Below.refl w.heap.size w).alloc (Nat.le_refl _) _).cell (p := ⟨C, j, none⟩) HW.out
 case c3 =>
  intro u hu
  simp [Value.oneCell']
 case c4 => rw [HL.out]; unfold maxLen; omega
 case c5 => rw [HL.out]; omega
 intro v' w3 hown' hgrow hnil hq9
 have HNE : Hid (v' ≠ .slice none 0 0) := Lib.hid hnil
 have HO3 := Lib.hid hown'
 have HG3 := Lib.hid hgrow
 clear hown' hgrow hnil hq9
 go_wp2
 go_ret
 refine ⟨v', rfl, ?_, HNE.out, ?_⟩
 ·have := HO3.out
  simpa [HL.out] using this
 ·exact ((Below.refl _ _).alloc (Nat.le_refl _) _).grown HG3.out (by simp) (fun g hg => by simp [Value.ownBlock] at hg; omega)

def CellsPost (w : World) (zs : List Int) (e : Ending) (w' : World) : Prop :=
  ∃ v, e = .returned v ∧ w'.ownsRow w.heap.size 2 1 v zs.length (zs.map (Value.int .i64)) ∧ v ≠ .slice none 0 0 ∧ Below w.heap.size w w'
theorem cells_any (w : World) (G C R W : Nat) (zs : List Int) (h : GridIs w G C R W zs) :
    Calls Tryz.prog 223 #[.pointer (some ⟨G, 0, none⟩)] w (CellsPost w zs) := by
  obtain ⟨cap, hb, hcap⟩ := h.fields
  obtain ⟨cur, hC, hcur⟩ := h.cells
  have c2 := hb.cell 2
  simp at c2
  have hle : zs.length ≤ 1024 := by rw [h.len]; exact Nat.mul_le_mul h.rows h.width
  have hcl := clone_any w C cap zs hle (fun i u hu => (hC.cell i).trans (hcur i u hu)) hC.lt
  rw [h.len] at hcl
  have HL := Lib.hid h.len
  clear h hb hC hcur hle
  generalize R * W = n at *
  go_enter Tryz.func223, Tryz.ntmps223
  go_wp2_with (go_at_call 237; refine hcl.mono ?_; rintro e w' ⟨v, rfl, hown, hne, hbel⟩)
  go_ret
  exact ⟨v, rfl, hown, hne, hbel⟩
theorem own_row {w : World} {base : Nat} {v : Value} {zs : List Int} (h : w.ownsRow base 2 1 v zs.length (zs.map (Value.int .i64))) (hv : v ≠ .slice none 0 0) :
    ∃ g cap, v = .slice (some ⟨g, 0, none⟩) zs.length cap ∧ base ≤ g ∧ zs.length ≤ cap ∧ ∃ cur : Array Value, Blk w g 2 cur ∧ ∀ (i : Nat) (u : Int), zs[i]? = some u → cur[i]? = some (Value.int .i64 u) := by
  rcases h.2 with ⟨rfl, h0⟩ | ⟨g, cap, cur, rfl, hb, hg, hnc, hcm, hsz, htake⟩
  · exact absurd rfl hv
  · refine ⟨g, cap, rfl, hb, hnc, cur, hg, fun i u hu => ?_⟩
    have hi : i < zs.length := (List.getElem?_eq_some_iff.1 hu).1
    have h2 : (cur.toList.take (zs.length * 1))[i]? = (zs.map (Value.int .i64))[i]? := by rw [htake]
    rw [List.getElem?_take, if_pos (by omega)] at h2
    simp only [List.getElem?_map, hu, Option.map_some] at h2
    simpa using h2

def CopyPost (w : World) (R W : Nat) (zs : List Int) (e : Ending) (w' : World) : Prop :=
  ∃ G C, e = .returned (.pointer (some ⟨G, 0, none⟩)) ∧ w.heap.size ≤ G ∧ w.heap.size ≤ C ∧ GridIs w' G C R W zs ∧ Below w.heap.size w w'
set_option maxRecDepth 100000 in
theorem copy_any (w : World) (G C R W : Nat) (zs : List Int) (h : GridIs w G C R W zs) :
  Calls Tryz.prog 235 #[.pointer (some ⟨G, 0, none⟩)] w (CopyPost w R W zs) := by
 obtain ⟨cap, hb, hcap⟩ := h.fields
 have hcl : ∀ w', GridIs w' G C R W zs → Calls Tryz.prog 237 #[.slice (some ⟨C, 0, none⟩) (R * W) cap] w' (ClonePost w' zs) := by
  intro w' h'
  obtain ⟨cur, hC, hcur⟩ := h'.cells
  have hle : zs.length ≤ 1024 := by rw [h'.len]; exact Nat.mul_le_mul h'.rows h'.width
  rw [← h'.len]
  exact clone_any w' C cap zs hle (fun i u hu => (hC.cell i).trans (hcur i u hu)) hC.lt
 have HL := Lib.hid h.len
 have HR := Lib.hid h.rows
 have HW := Lib.hid h.width
 have HF := Lib.hid h.fit
 go_enter Tryz.func235, Tryz.ntmps235
 go_wp2_with fail
 have HH := Lib.hid h
 have HB := Lib.hid hb
 have HCL := Lib.hid hcl
 clear h hb hcl
 generalize hn : R * W = n at *
 have HN := Lib.hid hn
 clear hn
 refine wp_region_held_drew (S := fun w' => Blk w' G 337 #[.int .i64 (R : Int), .int .i64 (W : Int), .slice (some ⟨C, 0, none⟩) n cap] ∧ GridIs w' G C R W zs ∧ Below w.heap.size w w') (by kernel_rfl) (by exact ⟨HB.out.drew, HH.out.drewN 1, (Below.refl _ _).drew⟩) (fun hHeld => ?_)
 refine tkH (i := 0) (v := ?_) rfl (by kernel_rfl) (fun _ _ _ h => h) (Or.inl ⟨by rfl, ?_⟩) (by assumption) ?_
 rotate_left
 ·intro w hSw
  try dsimp only at hSw
  go_simp
  try with_reducible rfl
 simp only [Act.put, z1, z2, z3, z4, z5, z6]
 refine tkH (i := 1) (v := ?_) rfl (by kernel_rfl) (fun _ _ _ h => h) (Or.inl ⟨by rfl, ?_⟩) (by assumption) ?_
 rotate_left
 ·intro w hSw
  try dsimp only at hSw
  go_simp
  try with_reducible rfl
 simp only [Act.put, z1, z2, z3, z4, z5, z6]
 refine tkH (i := 2) (v := ?_) rfl (by kernel_rfl) (fun _ _ _ h => h) (Or.inl ⟨by rfl, ?_⟩) (by assumption) ?_
 rotate_left
 ·intro w hSw
  try dsimp only at hSw
  go_simp
  try with_reducible rfl
 simp only [Act.put, z1, z2, z3, z4, z5, z6]
 refine tkH (i := 3) (v := ?_) rfl (by kernel_rfl) (fun _ _ _ h => h) (Or.inl ⟨by rfl, ?_⟩) (by assumption) ?_
 rotate_left
 ·intro w hSw
  have q0 := hSw.1.cell 0
  have q1 := hSw.1.cell 1
  have q2 := hSw.1.cell 2
  simp at q0 q1 q2
  go_simp
  try with_reducible rfl
 simp only [Act.put, z1, z2, z3, z4, z5, z6]
 refine tkH (i := 4) (v := ?_) rfl (by kernel_rfl) (fun _ _ _ h => h) (Or.inl ⟨by rfl, ?_⟩) (by assumption) ?_
 rotate_left
 ·intro w hSw
  try dsimp only at hSw
  go_simp
  try with_reducible rfl
 simp only [Act.put, z1, z2, z3, z4, z5, z6]
 refine tkH (i := 5) (v := ?_) rfl (by kernel_rfl) (fun _ _ _ h => h) (Or.inl ⟨by rfl, ?_⟩) (by assumption) ?_
 rotate_left
 ·intro w hSw
  try dsimp only at hSw
  go_simp
  try with_reducible rfl
 simp only [Act.put, z1, z2, z3, z4, z5, z6]
 refine tkH (i := 6) (v := ?_) rfl (by kernel_rfl) (fun _ _ _ h => h) (Or.inl ⟨by rfl, ?_⟩) (by assumption) ?_
 rotate_left
 ·intro w hSw
  try dsimp only at hSw
  go_simp
  try with_reducible rfl
 simp only [Act.put, z1, z2, z3, z4, z5, z6]
 refine tkH (i := 7) (v := ?_) rfl (by kernel_rfl) (fun _ _ _ h => h) (Or.inl ⟨by rfl, ?_⟩) (by assumption) ?_
 rotate_left
 ·intro w hSw
  have q0 := hSw.1.cell 0
  have q1 := hSw.1.cell 1
  have q2 := hSw.1.cell 2
  simp at q0 q1 q2
  go_simp
  try with_reducible rfl
 simp only [Act.put, z1, z2, z3, z4, z5, z6]
 refine tkH (i := 8) (v := ?_) rfl (by kernel_rfl) (fun _ _ _ h => h) (Or.inl ⟨by rfl, ?_⟩) (by assumption) ?_
 rotate_left
 ·intro w hSw
  try dsimp only at hSw
  go_simp
  try with_reducible rfl
 simp only [Act.put, z1, z2, z3, z4, z5, z6]
 refine tkH (i := 9) (v := ?_) rfl (by kernel_rfl) (fun _ _ _ h => h) (Or.inl ⟨by rfl, ?_⟩) (by assumption) ?_
 rotate_left
 ·intro w hSw
  try dsimp only at hSw
  go_simp
  try with_reducible rfl
 simp only [Act.put, z1, z2, z3, z4, z5, z6]
 refine tkH (i := 10) (v := ?_) rfl (by kernel_rfl) (fun _ _ _ h => h) (Or.inl ⟨by rfl, ?_⟩) (by assumption) ?_
 rotate_left
 ·intro w hSw
  try dsimp only at hSw
  go_simp
  try with_reducible rfl
 simp only [Act.put, z1, z2, z3, z4, z5, z6]
 refine tkH (i := 11) (v := ?_) rfl (by kernel_rfl) (fun _ _ _ h => h) (Or.inl ⟨by rfl, ?_⟩) (by assumption) ?_
 rotate_left
 ·intro w hSw
  have q0 := hSw.1.cell 0
  have q1 := hSw.1.cell 1
  have q2 := hSw.1.cell 2
  simp at q0 q1 q2
  go_simp
  try with_reducible rfl
 simp only [Act.put, z1, z2, z3, z4, z5, z6]
 refine wpAnyH_ready (rs := [12]) (by kernel_rfl) (by simp) ?_
 refine AllReadyH.cons rfl (fun Kc hKc => ?_) AllReadyH.nil
 go_simp
 go_wp2_with (go_at_call 237; refine (HCL.out _ hHeld.2.1).mono ?_; rintro e w' ⟨v, rfl, hown, hne, hb'⟩; obtain ⟨g, cp, rfl, hg0, hgc, cur, hcur, hcc⟩ := own_row hown hne; clear hown hne)
 refine hKc.out _ _ ?_ (fun hHeld => ?_)
 ·first | assumption | exact ⟨hHeld.1.kept hb', hHeld.2.1.kept hb', btr hHeld.2.2 hb'⟩ | exact ⟨hHeld.1.alloc _, hHeld.2.1.kept ((Below.refl _ _).alloc (Nat.le_refl _) _), hHeld.2.2.alloc hHeld.2.2.size _⟩
 clear hKc Kc
 refine tkH (i := 13) (v := ?_) rfl (by kernel_rfl) (fun _ _ _ h => h) (Or.inl ⟨by rfl, ?_⟩) (by assumption) ?_
 rotate_left
 ·intro w hSw
  try dsimp only at hSw
  go_simp
  try with_reducible rfl
 simp only [Act.put, z1, z2, z3, z4, z5, z6]
 refine wpAnyH_ready (rs := [14]) (by kernel_rfl) (by simp) ?_
 refine AllReadyH.cons rfl (fun Kc hKc => ?_) AllReadyH.nil
 go_simp
 refine hKc.out _ _ ?_ (fun hHeld => ?_)
 ·first | assumption | exact ⟨hHeld.1.kept hb', hHeld.2.1.kept hb', btr hHeld.2.2 hb'⟩ | exact ⟨hHeld.1.alloc _, hHeld.2.1.kept ((Below.refl _ _).alloc (Nat.le_refl _) _), hHeld.2.2.alloc hHeld.2.2.size _⟩
 clear hKc Kc
 refine tkH (i := 15) (v := ?_) rfl (by kernel_rfl) (fun _ _ _ h => h) (Or.inl ⟨by rfl, ?_⟩) (by assumption) ?_
 rotate_left
 ·intro w hSw
  try dsimp only at hSw
  go_simp
  try with_reducible rfl
 simp only [Act.put, z1, z2, z3, z4, z5, z6]
 refine wpAnyH_done (by kernel_rfl) ?_ _
 have hnew := Blk.new w' 337 #[.int .i64 (R : Int), .int .i64 (W : Int), .slice (some ⟨g, 0, none⟩) zs.length cp]
 have hcur2 := hcur.alloc (.cells #[.int .i64 (R : Int), .int .i64 (W : Int), .slice (some ⟨g, 0, none⟩) zs.length cp] 337)
 have hsz := hb'.size
 have HK : Hid (CopyPost w R W zs (.returned (.pointer (some ⟨w'.heap.size, 0, none⟩))) (w'.alloc (.cells #[.int .i64 (R : Int), .int .i64 (W : Int), .slice (some ⟨g, 0, none⟩) zs.length cp] 337))) :=
  ⟨w'.heap.size, g, rfl, hsz, hg0, ⟨⟨cp, by rw [← HL.out.trans HN.out.symm]; exact hnew, by rw [← HL.out.trans HN.out.symm]; exact hgc⟩, HL.out.trans HN.out.symm, ⟨cur, hcur2, hcc⟩, HR.out, HW.out, HF.out⟩, hHeld.2.2⟩
 clear hnew hcur2 hcur hcc hHeld hb' hsz
 go_wp2
 go_ret
 exact HK.out
end Go.Proofs.YtfeficdndjiijaaGreatDoor


namespace Go.Proofs.YtfeficdndjiijaaGreatDoor
open Go.RowKit
set_option linter.unusedVariables false
set_option linter.unusedSimpArgs false

def digit (x : Int) (i : Nat) : Int := x / 65536 ^ i % 65536
theorem digit_bd (x : Int) (i : Nat) : 0 ≤ digit x i ∧ digit x i ≤ 65535 := by unfold digit; omega
theorem pw_pos (i : Nat) : (0 : Int) < 65536 ^ i := Int.pow_pos (by decide)

def lows (x : Int) (j : Nat) : Int := x % 65536 ^ j
theorem lows_bd (x : Int) (j : Nat) : 0 ≤ lows x j ∧ lows x j < 65536 ^ j :=
  ⟨Int.emod_nonneg _ (by have := pw_pos j; omega), Int.emod_lt_of_pos _ (pw_pos j)⟩
theorem split_at (x : Int) (j : Nat) : x = 65536 ^ j * (x / 65536 ^ j) + lows x j := (Int.mul_ediv_add_emod x _).symm
theorem div_next (x : Int) (j : Nat) : x / 65536 ^ (j + 1) = x / 65536 ^ j / 65536 := by
  rw [Int.pow_succ, Int.ediv_ediv_of_nonneg (by have := pw_pos j; omega)]
theorem lows_succ (x : Int) (j : Nat) : lows x (j + 1) = lows x j + 65536 ^ j * digit x j := by
  have h1 := split_at x j
  have h2 := split_at x (j + 1)
  have h3 : x / 65536 ^ j = 65536 * (x / 65536 ^ j / 65536) + digit x j := (Int.mul_ediv_add_emod _ _).symm
  rw [div_next, Int.pow_succ] at h2
  have h4 : (65536 : Int) ^ j * (x / 65536 ^ j) = 65536 ^ j * 65536 * (x / 65536 ^ j / 65536) + 65536 ^ j * digit x j := by
    conv => lhs; rw [h3]
    rw [Int.mul_add, ← Int.mul_assoc]
  omega
theorem lows_zero (x : Int) : lows x 0 = 0 := by simp [lows, Int.emod_one]

def carryI (x y : Int) (j : Nat) : Int := (lows x j + lows y j) / 65536 ^ j
theorem carryI_bd (x y : Int) (j : Nat) : 0 ≤ carryI x y j ∧ carryI x y j ≤ 1 := by
  have hp := pw_pos j
  have h1 := lows_bd x j
  have h2 := lows_bd y j
  refine ⟨Int.ediv_nonneg (by omega) (by omega), ?_⟩
  have : carryI x y j < 2 := Int.ediv_lt_of_lt_mul hp (by omega)
  omega
theorem carryI_zero (x y : Int) : carryI x y 0 = 0 := by simp [carryI, lows_zero]
theorem carryI_succ (x y : Int) (j : Nat) : carryI x y (j + 1) = (digit x j + digit y j + carryI x y j) / 65536 := by
  have hp := pw_pos j
  unfold carryI
  rw [lows_succ, lows_succ, Int.pow_succ, ← Int.ediv_ediv_of_nonneg (by omega)]
  congr 1
  rw [show lows x j + 65536 ^ j * digit x j + (lows y j + 65536 ^ j * digit y j) = (lows x j + lows y j) + 65536 ^ j * (digit x j + digit y j) by rw [Int.mul_add]; omega,
    Int.add_mul_ediv_left _ _ (by omega)]
  omega
theorem digit_add (x y : Int) (j : Nat) : digit (x + y) j = (digit x j + digit y j + carryI x y j) % 65536 := by
  have hp := pw_pos j
  have h1 := split_at x j
  have h2 := split_at y j
  have h3 : (x + y) / 65536 ^ j = x / 65536 ^ j + y / 65536 ^ j + carryI x y j := by
    conv => lhs; rw [h1, h2]
    rw [show 65536 ^ j * (x / 65536 ^ j) + lows x j + (65536 ^ j * (y / 65536 ^ j) + lows y j) = (lows x j + lows y j) + 65536 ^ j * (x / 65536 ^ j + y / 65536 ^ j) by rw [Int.mul_add]; omega,
      Int.add_mul_ediv_left _ _ (by omega)]
    unfold carryI
    omega
  unfold digit
  rw [h3]
  omega
theorem digit_not (x : Int) (j : Nat) : digit (-1 - x) j = 65535 - digit x j := by
  have hp := pw_pos j
  have h1 := split_at x j
  have h2 := lows_bd x j
  have h3 : (-1 - x) / 65536 ^ j = -1 - x / 65536 ^ j := by
    have e : -1 - x = (65536 ^ j - 1 - lows x j) + 65536 ^ j * (-1 - x / 65536 ^ j) := by
      rw [Int.mul_sub]
      omega
    rw [e, Int.add_mul_ediv_left _ _ (by omega), Int.ediv_eq_zero_of_lt (by omega) (by omega)]
    omega
  unfold digit
  rw [h3]
  omega

def dig (x : Int) : List Int := (List.range 10).map (digit x)
theorem dig_len (x : Int) : (dig x).length = 10 := by simp [dig]
theorem dig_get (x : Int) (i : Nat) (h : i < 10) : (dig x)[i]? = some (digit x i) := by simp [dig, h]
theorem and_lo16 (a : Int) (h0 : 0 ≤ a) (h1 : a ≤ 18446744073709551615) : bits BinOp.and IntKind.u64 a 65535 = a % 65536 := by
  have h := u64_and a 65535 h0 (by omega) (by omega) (by omega)
  rw [h]
  have : (65535 : Int).toNat = 2 ^ 16 - 1 := by decide +kernel
  rw [this, Nat.and_two_pow_sub_one_eq_mod]
  have e : ((a.toNat % 2 ^ 16 : Nat) : Int) = (a.toNat : Int) % 65536 := by
    rw [Int.natCast_emod]; rfl
  rw [e, Int.toNat_of_nonneg h0]
theorem wrapI_eq64 (x : Int) : IntKind.i64.wrap x = wrap64 x := by
  simp [IntKind.wrap, IntKind.bits, IntKind.signed]; unfold wrap64; split <;> omega
theorem wrapU_mod (x : Int) : IntKind.u64.wrap x = x % 18446744073709551616 := by simp [IntKind.wrap, IntKind.bits, IntKind.signed]
theorem wrap64_small (x : Int) (h0 : 0 ≤ x) (h1 : x ≤ 65535) : wrap64 x = x := by unfold wrap64; omega
theorem ofd0 (n : Int) : wrap64 (bits BinOp.and IntKind.u64 (IntKind.u64.wrap n) 65535) = digit n 0 := by
  rw [wrapU_mod, and_lo16 _ (by omega) (by omega), wrap64_small _ (by omega) (by omega)]
  unfold digit; simp
theorem ofd1 (n : Int) : wrap64 (bits BinOp.and IntKind.u64 (IntKind.u64.wrap n / 65536) 65535) = digit n 1 := by
  rw [wrapU_mod, and_lo16 _ (by omega) (by omega), wrap64_small _ (by omega) (by omega)]
  unfold digit; simp; omega
theorem ofd2 (n : Int) : wrap64 (bits BinOp.and IntKind.u64 (IntKind.u64.wrap n / 4294967296) 65535) = digit n 2 := by
  rw [wrapU_mod, and_lo16 _ (by omega) (by omega), wrap64_small _ (by omega) (by omega)]
  unfold digit; simp; omega
theorem ofd3 (n : Int) : wrap64 (bits BinOp.and IntKind.u64 (IntKind.u64.wrap n / 281474976710656) 65535) = digit n 3 := by
  rw [wrapU_mod, and_lo16 _ (by omega) (by omega), wrap64_small _ (by omega) (by omega)]
  unfold digit; simp; omega
theorem digit_hi (n : Int) (n0 : -9223372036854775808 ≤ n) (n1 : n ≤ 9223372036854775807) (j : Nat) (hj : 4 ≤ j) : digit n j = if n < 0 then 65535 else 0 := by
  have hp : (18446744073709551616 : Int) ≤ 65536 ^ j := by
    obtain ⟨k, rfl⟩ : ∃ k, j = 4 + k := ⟨j - 4, by omega⟩
    rw [Int.pow_add]
    have := pw_pos k
    have : (65536 : Int) ^ 4 * 1 ≤ 65536 ^ 4 * 65536 ^ k := Int.mul_le_mul_of_nonneg_left (by omega) (by decide)
    omega
  unfold digit
  split
  · have : n / 65536 ^ j = -1 := by
      have h1 := split_at n j
      have h2 := lows_bd n j
      have h3 : n / 65536 ^ j < 0 := Int.ediv_neg_of_neg_of_pos (by omega) (by omega)
      have h4 : -1 ≤ n / 65536 ^ j := Int.le_ediv_of_mul_le (by omega) (by omega)
      omega
    rw [this]; rfl
  · rw [Int.ediv_eq_zero_of_lt (by omega) (by omega)]; rfl

def intsV (l : List Int) : Array Value := (l.map (Value.int .i64)).toArray
theorem intsV_get (l : List Int) (i : Nat) : (intsV l)[i]? = (l[i]?).map (Value.int .i64) := by simp [intsV]
theorem intsV_size (l : List Int) : (intsV l).size = l.length := by simp [intsV]
def longA (x : Int) : Array Value := intsV (dig x)
theorem longA_size (x : Int) : (longA x).size = 10 := by rw [longA, intsV_size, dig_len]
theorem longA_get (x : Int) (i : Nat) (h : i < 10) : (longA x)[i]? = some (.int .i64 (digit x i)) := by rw [longA, intsV_get, dig_get x i h]; rfl

theorem Blk.of_row {w : World} {b : Nat} {t : TypeId} {f : Nat → Value} {cs : Array Value} (h : w.rowIs b t cs.size f) (e : ∀ i, i < cs.size → cs[i]? = some (f i)) : Blk w b t cs := by
  obtain ⟨c, hb, hn, hc⟩ := h
  have : c = cs := by
    apply Array.ext_getElem?
    intro i
    by_cases hi : i < cs.size
    · rw [hc i hi, e i hi]
    · rw [Array.getElem?_eq_none (by omega), Array.getElem?_eq_none (by omega)]
  rw [← this]
  exact hb
theorem Blk.row {w : World} {b : Nat} {t : TypeId} {f : Nat → Value} {cs : Array Value} (h : Blk w b t cs) (e : ∀ i, i < cs.size → cs[i]? = some (f i)) : w.rowIs b t cs.size f := ⟨cs, h, rfl, e⟩

def RowUpTo (w : World) (b : Nat) (t : TypeId) (n : Nat) (f : Nat → Int) (j : Nat) : Prop := ∃ g : Nat → Int, w.rowIs b t n (fun k => .int .i64 (g k)) ∧ ∀ k, k < j → g k = f k
section
variable {w w' : World} {b : Nat} {t : TypeId} {n : Nat} {f : Nat → Int} {j : Nat}
theorem RowUpTo.any (h : RowUpTo w b t n f j) (v : Int) : RowUpTo (w.setCell ⟨b, j, none⟩ (.int .i64 v)) b t n f j := by
  obtain ⟨g, h1, h2⟩ := h
  refine ⟨fun k => if k = j then v else g k, (h1.set j _).congr (fun k _ => by by_cases e : k = j <;> simp [e]), fun k hk => ?_⟩
  show (if k = j then v else g k) = f k
  rw [if_neg (by omega)]; exact h2 k hk
theorem RowUpTo.put (h : RowUpTo w b t n f j) {v : Int} (hv : v = f j) : RowUpTo (w.setCell ⟨b, j, none⟩ (.int .i64 v)) b t n f (j + 1) := by
  obtain ⟨g, h1, h2⟩ := h
  refine ⟨fun k => if k = j then v else g k, (h1.set j _).congr (fun k _ => by by_cases e : k = j <;> simp [e]), fun k hk => ?_⟩
  show (if k = j then v else g k) = f k
  by_cases e : k = j
  · subst e; rw [if_pos rfl, hv]
  · rw [if_neg e]; exact h2 k (by omega)
theorem RowUpTo.lt (h : RowUpTo w b t n f j) : b < w.heap.size := by obtain ⟨g, h1, _⟩ := h; exact h1.lt
theorem RowUpTo.far (h : RowUpTo w b t n f j) {p : Addr} (hp : b ≠ p.block) (u : Value) : RowUpTo (w.setCell p u) b t n f j := by obtain ⟨g, h1, h2⟩ := h; exact ⟨g, h1.setOther hp u, h2⟩
theorem RowUpTo.kept (h : RowUpTo w b t n f j) (hb : Below w.heap.size w w') : RowUpTo w' b t n f j := by obtain ⟨g, h1, h2⟩ := h; exact ⟨g, h1.of_block (hb.block b h1.lt), h2⟩
theorem RowUpTo.drewN (h : RowUpTo w b t n f j) (q : Nat) : RowUpTo (w.drewN q) b t n f j := by obtain ⟨g, h1, h2⟩ := h; exact ⟨g, h1, h2⟩
theorem RowUpTo.cell (h : RowUpTo w b t n f j) {i : Nat} (hi : i < n) : ∃ v : Int, w.cell? ⟨b, i, none⟩ = some (.int .i64 v) := by obtain ⟨g, h1, h2⟩ := h; exact ⟨_, h1.cell hi⟩
theorem RowUpTo.frozen (h : RowUpTo w b t n f j) (i : Nat) : w.frozen? ⟨b, i, none⟩ = false := by obtain ⟨g, h1, h2⟩ := h; exact h1.frozen i
theorem RowUpTo.zeros (h : w.rowIs b t n (fun _ => .int .i64 0)) (f : Nat → Int) : RowUpTo w b t n f 0 := ⟨fun _ => 0, h, fun k hk => by omega⟩
theorem RowUpTo.full (h : RowUpTo w b t n f n) : w.rowIs b t n (fun k => .int .i64 (f k)) := by
  obtain ⟨g, h1, h2⟩ := h
  exact h1.congr (fun k hk => by rw [h2 k hk])
end

section
variable {P : Program}
end
section
variable {P : Program}
theorem exec_load_row {o : Oper} {a : Act} {w : World} (ty : TypeId) (x : Operand) (ho : o.op = .load ty x)
    (g : Nat) (hx : a.eval x = .pointer (some ⟨g, 0, none⟩)) (t : TypeId) (cs : Array Value) (fr : Nat × Nat) (d : TypeDesc) (hg : w.heap[g]? = some (.cells cs t fr))
    (hu : P.underlying ty = some d) (hd : (match d with | .struct _ | .array _ _ => true | _ => false) = true) (hi : (P.info? ty).map (·.size) = some cs.size) :
    (execOp a.eval o).run P w = .ok (.value (.agg cs)) w := by
  unfold execOp
  simp only [ho, hx, Instr.loadAt, Instr.sureAddr, Sem.run_bind, Sem.run_pure, Result.andThen_ok, run_loadVar_row w g t ty cs fr d hg hu hd hi]
end
end Go.Proofs.YtfeficdndjiijaaGreatDoor


namespace Go.Proofs.YtfeficdndjiijaaGreatDoor
open Go.RowKit
set_option linter.unusedVariables false
set_option linter.unusedSimpArgs false

theorem Blk.setRow_same {w : World} {g : Nat} {t : TypeId} {cs : Array Value} (h : Blk w g t cs) : w.setRow g cs = w := by
  have h2 : (w.setRow g cs).heap = w.heap := by
    apply Array.ext_getElem?
    intro i
    unfold World.setRow
    simp only
    rw [Array.getElem?_modify]
    by_cases e : g = i
    · subst e
      unfold Blk at h
      simp [h]
    · simp [e]
  calc w.setRow g cs = { w with heap := (w.setRow g cs).heap } := rfl
    _ = w := by rw [h2]
theorem grown_cell_far (w : World) (p : Addr) (u : Value) {g : Nat} (h : g ≠ p.block) (i : Nat) : (w.setCell p u).cell? ⟨g, i, none⟩ = w.cell? ⟨g, i, none⟩ := by
  have hg : w.grownBy (w.setCell p u) (some p.block) := ⟨rfl, rfl, rfl, by simp [World.setCell], fun k hk hne => Below.heap_setCell _ _ _ _ (by simpa using hne)⟩
  cases hc : w.cell? ⟨g, i, none⟩ with
  | some x => exact hg.cell hc (by simpa using h)
  | none => simp only [World.cell?] at hc ⊢; rw [Below.heap_setCell _ _ _ _ h]; exact hc
theorem IntsAt.far {w : World} {v : Value} {zs : List Int} {p : Addr} (h : IntsAt w v zs) (hne : v.ownBlock ≠ some p.block) (u : Value) : IntsAt (w.setCell p u) v zs := by
  obtain ⟨ao, cap, rfl, hc, h⟩ := h
  refine ⟨ao, cap, rfl, hc, fun h0 => ?_⟩
  obtain ⟨g, rfl, hg, hc⟩ := h h0
  have hne : g ≠ p.block := fun e => hne (by simp [Value.ownBlock, e])
  exact ⟨g, rfl, by simpa [World.setCell] using hg, fun i u' hu => (grown_cell_far w p u hne i).trans (hc i u' hu)⟩
theorem results_row2_tmp {P : Program} {fn : Func} {p q u : Tmp} {ty : TypeId} (h : fn.results = #[.cell p ty, .cell q ty, .tmp u]) (tmps : Array Value) (w : World) (g g' : Nat) (t t' : TypeId) (cs cs' : Array Value) (fr fr' : Nat × Nat) (d : TypeDesc)
    (hp : tmps.getD p undef = .pointer (some ⟨g, 0, none⟩)) (hq : tmps.getD q undef = .pointer (some ⟨g', 0, none⟩)) (hg : w.heap[g]? = some (.cells cs t fr)) (hg' : w.heap[g']? = some (.cells cs' t' fr'))
    (hu : P.underlying ty = some d) (hd : (match d with | .struct _ | .array _ _ => true | _ => false) = true) (hi : (P.info? ty).map (·.size) = some cs.size) (hi' : (P.info? ty).map (·.size) = some cs'.size) :
    (results fn tmps).run P w = .ok (.tuple #[.agg cs, .agg cs', tmps.getD u undef]) w := by
  have hp' : tmps[p]?.getD undef = .pointer (some ⟨g, 0, none⟩) := by simpa using hp
  have hq' : tmps[q]?.getD undef = .pointer (some ⟨g', 0, none⟩) := by simpa using hq
  simp [results, h, hp', hq', asAddr, run_loadVar_row w g t ty cs fr d hg hu hd hi, run_loadVar_row w g' t' ty cs' fr' d hg' hu hd hi']
structure PartSt (w : World) (A : Nat) (lv mv : Value) (ls ms : List Int) : Prop where
  b1 : Blk w (A + 1) 409 #[lv]
  b2 : Blk w (A + 1 + 1) 409 #[mv]
  o1 : w.ownsRow (A + 3) 2 1 lv ls.length (ls.map (Value.int .i64))
  o2 : w.ownsRow (A + 3) 2 1 mv ms.length (ms.map (Value.int .i64))
  apart : ∀ k, lv.ownBlock = some k → mv.ownBlock ≠ some k
theorem own_slice {w : World} {base : Nat} {e : TypeId} {v : Value} {n : Nat} {xs : List Value} (h : w.ownsRow base e 1 v n xs) : ∃ ao cap, v = .slice ao n cap := by
  rcases h.2 with ⟨rfl, rfl⟩ | ⟨g, cap, cur, h1, _⟩
  · exact ⟨none, 0, rfl⟩
  · exact ⟨_, _, h1⟩
theorem PartSt.kept {w w' : World} {A : Nat} {lv mv : Value} {ls ms : List Int} (h : PartSt w A lv mv ls ms) (hb : Below w.heap.size w w') : PartSt w' A lv mv ls ms := by
  have hg : w.grownBy w' none := ⟨hb.os, hb.tape, hb.output, hb.size, fun k hk _ => hb.block k hk⟩
  exact ⟨h.b1.kept hb, h.b2.kept hb, h.o1.kept hg (by cases lv.ownBlock <;> simp), h.o2.kept hg (by cases mv.ownBlock <;> simp), h.apart⟩
theorem PartSt.drewN {w : World} {A : Nat} {lv mv : Value} {ls ms : List Int} (h : PartSt w A lv mv ls ms) (n : Nat) : PartSt (w.drewN n) A lv mv ls ms := h.kept (below_drewN (Below.refl _ _) n)
theorem PartSt.pushL {w w3 : World} {A : Nat} {lv mv v' : Value} {ls ms : List Int} {x : Int} (h : PartSt w A lv mv ls ms) (hg : w.grownBy w3 lv.ownBlock)
  (hown : w3.ownsRow (A + 3) 2 1 v' (ls.length + 1) (ls.map (Value.int .i64) ++ [.int .i64 x])) (hat : v'.ownBlock = lv.ownBlock ∨ v'.ownBlock = some w.heap.size) :
  PartSt (w3.setCell ⟨A + 1, 0, none⟩ v') A v' mv (ls ++ [x]) ms := by
 have hlo : ∀ k, lv.ownBlock = some k → A + 3 ≤ k := fun k hk => (h.o1.lt k hk).1
 have hlo' : ∀ k, v'.ownBlock = some k → A + 3 ≤ k := fun k hk => (hown.lt k hk).1
 have hmo : ∀ k, mv.ownBlock = some k → A + 3 ≤ k ∧ k < w.heap.size := fun k hk => h.o2.lt k hk
 have hgs := grown_set w3 (A + 1) 0 v'
 have b1 := h.b1.grown hg (fun e => by have := hlo _ e.symm; omega)
 have b2 := h.b2.grown hg (fun e => by have := hlo _ e.symm; omega)
 have o2 := h.o2.kept hg (by
  cases hm : mv.ownBlock with
  | none => exact .inl rfl
  | some k => exact .inr (fun e => h.apart k e.symm hm))
 refine ⟨by simpa using b1.set_ 0 v', b2.far (by simp) _, ?_, ?_, fun k hk hm => ?_⟩
 ·have := hown.kept hgs (.inr (fun e => by have := hlo' _ e; omega))
  simpa using this
 ·exact o2.kept hgs (by
   cases hm : mv.ownBlock with
   | none => exact .inl rfl
   | some k => exact .inr (fun e => by have := (hmo k hm).1; have := Option.some.inj e; omega))
 ·rcases hat with e | e
  ·exact h.apart k (e.symm.trans hk) hm
  ·have := (hmo k hm).2
   have := Option.some.inj (e.symm.trans hk)
   omega
theorem PartSt.pushM {w w3 : World} {A : Nat} {lv mv v' : Value} {ls ms : List Int} {x : Int} (h : PartSt w A lv mv ls ms) (hg : w.grownBy w3 mv.ownBlock)
  (hown : w3.ownsRow (A + 3) 2 1 v' (ms.length + 1) (ms.map (Value.int .i64) ++ [.int .i64 x])) (hat : v'.ownBlock = mv.ownBlock ∨ v'.ownBlock = some w.heap.size) :
  PartSt (w3.setCell ⟨A + 1 + 1, 0, none⟩ v') A lv v' ls (ms ++ [x]) := by
 have hlo : ∀ k, mv.ownBlock = some k → A + 3 ≤ k := fun k hk => (h.o2.lt k hk).1
 have hlo' : ∀ k, v'.ownBlock = some k → A + 3 ≤ k := fun k hk => (hown.lt k hk).1
 have hmo : ∀ k, lv.ownBlock = some k → A + 3 ≤ k ∧ k < w.heap.size := fun k hk => h.o1.lt k hk
 have hgs := grown_set w3 (A + 1 + 1) 0 v'
 have b1 := h.b1.grown hg (fun e => by have := hlo _ e.symm; omega)
 have b2 := h.b2.grown hg (fun e => by have := hlo _ e.symm; omega)
 have o1 := h.o1.kept hg (by
  cases hm : lv.ownBlock with
  | none => exact .inl rfl
  | some k => exact .inr (fun e => h.apart k hm e.symm))
 refine ⟨b1.far (by simp) _, by simpa using b2.set_ 0 v', ?_, ?_, fun k hk hm => ?_⟩
 ·exact o1.kept hgs (by
   cases hm : lv.ownBlock with
   | none => exact .inl rfl
   | some k => exact .inr (fun e => by have := (hmo k hm).1; have := Option.some.inj e; omega))
 ·have := hown.kept hgs (.inr (fun e => by have := hlo' _ e; omega))
  simpa using this
 ·rcases hat with e | e
  ·exact h.apart k hk (e.symm.trans hm)
  ·have := (hmo k hk).2
   have := Option.some.inj (e.symm.trans hm)
   omega

def PartPost (w : World) (zs : List Int) (by_ : Int) (e : Ending) (w' : World) : Prop :=
  ∃ lv mv, e = .returned (.tuple #[.agg #[lv], .agg #[mv], .int .i64 (cEq zs by_ : Int)]) ∧ IntsAt w' lv (lessL zs by_) ∧ IntsAt w' mv (moreL zs by_) ∧ (∀ k, lv.ownBlock = some k ∨ mv.ownBlock = some k → w.heap.size ≤ k) ∧ Below w.heap.size w w'

theorem take_less (zs : List Int) (b : Int) (j : Nat) (x : Int) (h : zs[j]? = some x) : lessL (zs.take (j + 1)) b = lessL (zs.take j) b ++ (if x < b then [x] else []) ∧ moreL (zs.take (j + 1)) b = moreL (zs.take j) b ++ (if b < x then [x] else []) ∧ cEq (zs.take (j + 1)) b = cEq (zs.take j) b + (if x = b then 1 else 0) := by
  rw [List.take_add_one, h]
  refine ⟨?_, ?_, ?_⟩
  · simp only [lessL, List.filter_append, Option.toList_some, List.filter_cons, List.filter_nil, decide_eq_true_eq]
  · simp only [moreL, List.filter_append, Option.toList_some, List.filter_cons, List.filter_nil, decide_eq_true_eq]
  · simp only [cEq, List.filter_append, Option.toList_some, List.filter_cons, List.filter_nil, List.length_append, decide_eq_true_eq]; split <;> simp

set_option maxRecDepth 100000 in
set_option maxHeartbeats 4000000 in
theorem part_any (v : Value) (zs : List Int) (b : Int) (w : World) (hv : IntsAt w v zs) (hn : zs.length ≤ 100000) :
  Calls Tryz.prog 307 #[.agg #[v], .int .i64 b] w (PartPost w zs b) := by
 obtain ⟨i0', hi, hz0, hz1, hz2⟩ := info_parts Tryz.info64
 have HV := Lib.hid hv
 obtain ⟨ao, cap, rfl, hcap, hcells⟩ := hv
 have HCL := Lib.hid hcells
 clear hcells
 obtain ⟨n, hlen⟩ : ∃ n, n = zs.length := ⟨_, rfl⟩
 rw [← hlen] at hcap hn ⊢
 have HLEN := Lib.hid hlen
 clear hlen
 go_enter Tryz.func307, Tryz.ntmps307
 go_wp2_with fail
 obtain ⟨g1, g2, g3, hbel, hsz⟩ := news3 w (.cells #[.slice ao n cap] 409) (.cells #[.slice none 0 0] 409) (.cells #[.slice none 0 0] 409)
 have hst : PartSt (((w.alloc (.cells #[.slice ao n cap] 409)).alloc (.cells #[.slice none 0 0] 409)).alloc (.cells #[.slice none 0 0] 409)) w.heap.size (.slice none 0 0) (.slice none 0 0) [] [] :=
  ⟨g2, g3, World.ownsRow_nil _ _ _ _, World.ownsRow_nil _ _ _ _, fun k hk => by simp [Value.ownBlock] at hk⟩
 generalize (((w.alloc (.cells #[.slice ao n cap] 409)).alloc (.cells #[.slice none 0 0] 409)).alloc (.cells #[.slice none 0 0] 409)) = wz at *
 have hszA : w.heap.size + 3 ≤ wz.heap.size := by omega
 clear g1 g2 g3 hsz
 generalize hA : w.heap.size = A at *
 have HA := Lib.hid hA
 have HS := Lib.hid hst
 have HB := Lib.hid hbel
 clear hA hst hbel
 go_loopw [6, 14] (fun s i wr => ∃ (j : Nat) (lv mv : Value), j ≤ n ∧ i = .int .i64 (j : Int) ∧ s = .int .i64 (cEq (zs.take j) b : Int) ∧ PartSt wr A lv mv (lessL (zs.take j) b) (moreL (zs.take j) b) ∧ Below A w wr ∧ A + 3 ≤ wr.heap.size) (fun _ i _ => n - (intOf i).toNat)
 case atStart => exact ⟨0, _, _, by omega, rfl, rfl, HS.out, HB.out, hszA⟩
 case round =>
  obtain ⟨j, lv, mv, hj, rfl, rfl, hst, hbel, hszA⟩ := hrel
  clear HS HB
  have HS := Lib.hid hst
  have HB := Lib.hid hbel
  clear hst hbel
  have hcq : cEq (zs.take j) b ≤ j := by
   have h1 := parts_len (zs.take j) b
   have h2 : (zs.take j).length ≤ j := by rw [List.length_take]; omega
   omega
  by_cases hlt : j < n
  ·obtain ⟨g, rfl, hgl, hgc⟩ := HCL.out (by rw [← HLEN.out]; omega)
   have hjz : zs[j]? = some (cellD zs j) := by
    have : j < zs.length := by rw [← HLEN.out]; exact hlt
    simp [cellD, this]
   have cx := (HB.out.cell (p := ⟨g, j, none⟩) hgl).trans (hgc j _ hjz)
   obtain ⟨t1, t2, t3⟩ := take_less zs b j _ hjz
   have T1 := Lib.hid t1
   have T2 := Lib.hid t2
   have T3 := Lib.hid t3
   clear t1 t2 t3 hgc hjz
   have LL : Hid ((lessL (zs.take j) b).length ≤ j ∧ (moreL (zs.take j) b).length ≤ j) := Lib.hid (by
    have h1 := parts_len (zs.take j) b
    have h2 : (zs.take j).length ≤ j := by rw [List.length_take]; omega
    omega)
   generalize lessL (zs.take j) b = L at *
   generalize moreL (zs.take j) b = M at *
   generalize cEq (zs.take j) b = q at *
   generalize cellD zs j = x at *
   have i0 : (0 : Int) ≤ (j : Int) := by omega
   have i1 : (j : Int) < (n : Int) := by omega
   rcases Int.lt_trichotomy x b with hxb | hxb | hxb
   ·have e1 : decide (x < b) = true := decide_eq_true hxb
    have e2 : ¬ b < x := by omega
    have e3 : ¬ x = b := by omega
    have HL1 : Hid (lessL (zs.take (j + 1)) b = L ++ [x] ∧ moreL (zs.take (j + 1)) b = M ∧ cEq (zs.take (j + 1)) b = q) := ⟨by rw [T1.out]; simp [hxb], by rw [T2.out]; simp [e2], by rw [T3.out]; simp [e3]⟩
    have l1 := HS.out.b1.cell 0
    simp at l1
    clear hxb e2 e3
    have hLl := LL.out
    have hmx : L.length + 1 ≤ maxLen := by unfold maxLen; omega
    go_wp2_with (at_builtin; refine wpList_append_own_at _ rfl _ _ 93 rfl (A + 3) 2 i0' (.int .i64 0) 1 8 Tryz.underlying93 hi hz0 hz1 hz2 rfl (by decide) _ L.length _ rfl (HS.out.o1.alloc _) ⟨wr.heap.size, 0, none⟩ 1 1 [.int .i64 x] rfl rfl (cell_one_new _ _ _) ?c2 hmx ?c4 ?c5 ?_)
    case c2 => simp [Value.oneCell']
    case c4 => omega
    case c5 => simp; omega
    intro v' w3 hown' hgrow hnil' hq9
    obtain ⟨ao', cap', rfl⟩ := own_slice hown'
    have hst3 := PartSt.pushL (HS.out.kept ((Below.refl _ _).alloc (Nat.le_refl _) (.cells #[.int .i64 x] 2))) hgrow hown' (by simpa using hq9)
    have hvk : ∀ k, Value.ownBlock lv = some k → A + 3 ≤ k := fun k hk => (HS.out.o1.lt k hk).1
    have HS3 := Lib.hid hst3
    have HB3 : Hid (Below A w w3) := Lib.hid ((HB.out.alloc (by omega) _).grown hgrow (by first | omega | (simp; done) | (simp; omega)) (fun k e => by have := hvk k e; omega))
    have hbk := (HS.out.b1.alloc (.cells #[.int .i64 x] 2)).grown hgrow (fun e => by have := hvk _ e.symm; omega)
    have hc3 := hbk.cell 0
    have hf3 := hbk.frozen 0
    simp at hc3
    have hsz3 : A + 3 ≤ w3.heap.size := by have := hgrow.size; simp at this; omega
    clear hown' hgrow hnil' hq9 hst3 hvk hbk
    go_wp2
    go_roundw
    case rel => exact ⟨j + 1, _, _, by omega, by go_num, by rw [HL1.out.2.2], by rw [HL1.out.1, HL1.out.2.1]; exact HS3.out, HB3.out.setCell (by first | (simp; done) | (simp; omega)) _, by simp [World.setCell]; omega⟩
    case measure => simp [intOf]; omega
   ·have e1 : decide (b < x) = false := decide_eq_false (by omega)
    have e0 : decide (x < b) = false := decide_eq_false (by omega)
    have e2 : ¬ x < b := by omega
    have e3 : ¬ b < x := by omega
    have HL1 : Hid (lessL (zs.take (j + 1)) b = L ∧ moreL (zs.take (j + 1)) b = M ∧ cEq (zs.take (j + 1)) b = q + 1) := ⟨by rw [T1.out]; simp [e2], by rw [T2.out]; simp [e3], by rw [T3.out]; simp [hxb]⟩
    clear hxb e2 e3
    go_wp2
    go_roundw
    case rel => exact ⟨j + 1, _, _, by omega, by go_num, by rw [HL1.out.2.2]; go_num, by rw [HL1.out.1, HL1.out.2.1]; exact HS.out, HB.out, hszA⟩
    case measure => simp [intOf]; omega
   ·have e1 : decide (b < x) = true := decide_eq_true hxb
    have e0 : decide (x < b) = false := decide_eq_false (by omega)
    have e2 : ¬ x < b := by omega
    have e3 : ¬ x = b := by omega
    have HL1 : Hid (lessL (zs.take (j + 1)) b = L ∧ moreL (zs.take (j + 1)) b = M ++ [x] ∧ cEq (zs.take (j + 1)) b = q) := ⟨by rw [T1.out]; simp [e2], by rw [T2.out]; simp [hxb], by rw [T3.out]; simp [e3]⟩
    have l1 := HS.out.b2.cell 0
    simp at l1
    clear hxb e2 e3
    have hLl := LL.out
    have hmx : M.length + 1 ≤ maxLen := by unfold maxLen; omega
    go_wp2_with (at_builtin; refine wpList_append_own_at _ rfl _ _ 93 rfl (A + 3) 2 i0' (.int .i64 0) 1 8 Tryz.underlying93 hi hz0 hz1 hz2 rfl (by decide) _ M.length _ rfl (HS.out.o2.alloc _) ⟨wr.heap.size, 0, none⟩ 1 1 [.int .i64 x] rfl rfl (cell_one_new _ _ _) ?c2 hmx ?c4 ?c5 ?_)
    case c2 => simp [Value.oneCell']
    case c4 => omega
    case c5 => simp; omega
    intro v' w3 hown' hgrow hnil' hq9
    obtain ⟨ao', cap', rfl⟩ := own_slice hown'
    have hst3 := PartSt.pushM (HS.out.kept ((Below.refl _ _).alloc (Nat.le_refl _) (.cells #[.int .i64 x] 2))) hgrow hown' (by simpa using hq9)
    have hvk : ∀ k, Value.ownBlock mv = some k → A + 3 ≤ k := fun k hk => (HS.out.o2.lt k hk).1
    have HS3 := Lib.hid hst3
    have HB3 : Hid (Below A w w3) := Lib.hid ((HB.out.alloc (by omega) _).grown hgrow (by first | omega | (simp; done) | (simp; omega)) (fun k e => by have := hvk k e; omega))
    have hbk := (HS.out.b2.alloc (.cells #[.int .i64 x] 2)).grown hgrow (fun e => by have := hvk _ e.symm; omega)
    have hc3 := hbk.cell 0
    have hf3 := hbk.frozen 0
    simp at hc3
    have hsz3 : A + 3 ≤ w3.heap.size := by have := hgrow.size; simp at this; omega
    clear hown' hgrow hnil' hq9 hst3 hvk hbk
    go_wp2
    go_roundw
    case rel => exact ⟨j + 1, _, _, by omega, by go_num, by rw [HL1.out.2.2], by rw [HL1.out.1, HL1.out.2.1]; exact HS3.out, HB3.out.setCell (by first | (simp; done) | (simp; omega)) _, by simp [World.setCell]; omega⟩
    case measure => simp [intOf]; omega
  ·obtain rfl : j = n := by omega
   have HE : Hid (zs.take j = zs) := Lib.hid (by rw [HLEN.out, List.take_length])
   rw [HE.out] at HS hcq ⊢
   obtain ⟨ao1, cap1, rfl⟩ := own_slice HS.out.o1
   obtain ⟨ao2, cap2, rfl⟩ := own_slice HS.out.o2
   have HO1 : Hid (IntsAt wr (.slice ao1 (lessL zs b).length cap1) (lessL zs b)) := Lib.hid (IntsAt.of_own HS.out.o1 rfl)
   have HO2 : Hid (IntsAt wr (.slice ao2 (moreL zs b).length cap2) (moreL zs b)) := Lib.hid (IntsAt.of_own HS.out.o2 rfl)
   have HFR : Hid (∀ k, Value.ownBlock (.slice ao1 (lessL zs b).length cap1) = some k ∨ Value.ownBlock (.slice ao2 (moreL zs b).length cap2) = some k → A ≤ k) := Lib.hid (fun k hk => by rcases hk with hk | hk; exact Nat.le_trans (by omega) (HS.out.o1.lt k hk).1; exact Nat.le_trans (by omega) (HS.out.o2.lt k hk).1)
   have HB1 : Hid (Blk (wr.drewN 1) (A + 1) 409 #[.slice ao1 (lessL zs b).length cap1]) := Lib.hid (HS.out.b1.drewN 1)
   have HB2 : Hid (Blk (wr.drewN 1) (A + 1 + 1) 409 #[.slice ao2 (moreL zs b).length cap2]) := Lib.hid (HS.out.b2.drewN 1)
   generalize (lessL zs b).length = nl at *
   generalize (moreL zs b).length = nm at *
   go_wp2_with fail
   refine wp_region_held_drew (S := fun w' => Blk w' (A + 1) 409 #[.slice ao1 nl cap1] ∧ Blk w' (A + 1 + 1) 409 #[.slice ao2 nm cap2]) (by kernel_rfl) (by exact ⟨HB1.out, HB2.out⟩) (fun hHeld => ?_)
   refine tkH (i := 0) (v := ?_) rfl (by kernel_rfl) (fun _ _ _ h => h) (Or.inl ⟨by rfl, ?_⟩) (by assumption) ?_
   rotate_left
   ·intro w hSw
    first | refine (exec_load_row 409 _ rfl (A + 1) rfl 409 #[.slice ao1 nl cap1] (0, 0) _ hSw.1 Tryz.underlying409 rfl (by kernel_rfl)).trans ?_ | refine (exec_load_row 409 _ rfl (A + 1 + 1) rfl 409 #[.slice ao2 nm cap2] (0, 0) _ hSw.2 Tryz.underlying409 rfl (by kernel_rfl)).trans ?_
    go_simp
    try with_reducible rfl
   simp only [Act.put, z1, z2, z3, z4, z5, z6]
   refine tkH (i := 1) (v := ?_) rfl (by kernel_rfl) (fun _ _ _ h => h) (Or.inl ⟨by rfl, ?_⟩) (by assumption) ?_
   rotate_left
   ·intro w hSw
    first | refine (exec_load_row 409 _ rfl (A + 1) rfl 409 #[.slice ao1 nl cap1] (0, 0) _ hSw.1 Tryz.underlying409 rfl (by kernel_rfl)).trans ?_ | refine (exec_load_row 409 _ rfl (A + 1 + 1) rfl 409 #[.slice ao2 nm cap2] (0, 0) _ hSw.2 Tryz.underlying409 rfl (by kernel_rfl)).trans ?_
    go_simp
    try with_reducible rfl
   simp only [Act.put, z1, z2, z3, z4, z5, z6]
   refine tkH (i := 2) (v := ?_) rfl (by kernel_rfl) (fun _ _ _ h => h) (Or.inl ⟨by rfl, ?_⟩) (by assumption) ?_
   rotate_left
   ·intro w hSw
    try dsimp only at hSw
    go_simp
    try with_reducible rfl
   simp only [Act.put, z1, z2, z3, z4, z5, z6]
   refine wpAnyH_ready (rs := [3]) (by kernel_rfl) (by simp) ?_
   refine AllReadyH.cons rfl (fun Kc hKc => ?_) AllReadyH.nil
   first | (refine wp_store_row 409 _ _ rfl (A + 1) #[.slice ao1 nl cap1] rfl rfl 409 _ hHeld.1 (by kernel_rfl) rfl (by simp [Value.oneCell']) ?_; rw [Blk.setRow_same hHeld.1]) | (refine wp_store_row 409 _ _ rfl (A + 1 + 1) #[.slice ao2 nm cap2] rfl rfl 409 _ hHeld.2 (by kernel_rfl) rfl (by simp [Value.oneCell']) ?_; rw [Blk.setRow_same hHeld.2])
   refine hKc.out _ _ ?_ (fun hHeld => ?_)
   ·first | assumption | (rw [Blk.setRow_same hHeld.1]; exact hHeld) | (rw [Blk.setRow_same hHeld.2]; exact hHeld)
   clear hKc Kc
   refine wpAnyH_ready (rs := [4]) (by kernel_rfl) (by simp) ?_
   refine AllReadyH.cons rfl (fun Kc hKc => ?_) AllReadyH.nil
   first | (refine wp_store_row 409 _ _ rfl (A + 1) #[.slice ao1 nl cap1] rfl rfl 409 _ hHeld.1 (by kernel_rfl) rfl (by simp [Value.oneCell']) ?_; rw [Blk.setRow_same hHeld.1]) | (refine wp_store_row 409 _ _ rfl (A + 1 + 1) #[.slice ao2 nm cap2] rfl rfl 409 _ hHeld.2 (by kernel_rfl) rfl (by simp [Value.oneCell']) ?_; rw [Blk.setRow_same hHeld.2])
   refine hKc.out _ _ ?_ (fun hHeld => ?_)
   ·first | assumption | (rw [Blk.setRow_same hHeld.1]; exact hHeld) | (rw [Blk.setRow_same hHeld.2]; exact hHeld)
   clear hKc Kc
   refine tkH (i := 5) (v := ?_) rfl (by kernel_rfl) (fun _ _ _ h => h) (Or.inl ⟨by rfl, ?_⟩) (by assumption) ?_
   rotate_left
   ·intro w hSw
    try dsimp only at hSw
    go_simp
    try with_reducible rfl
   simp only [Act.put, z1, z2, z3, z4, z5, z6]
   refine wpAnyH_done (by kernel_rfl) ?_ _
   clear hHeld
   have HB9 := Lib.hid (below_drewN HB.out 1)
   have HQ : Hid (PartPost w zs b (.returned (.tuple #[.agg #[.slice ao1 nl cap1], .agg #[.slice ao2 nm cap2], .int .i64 (cEq zs b : Int)])) (wr.drewN 1)) := ⟨_, _, rfl, HO1.out.drewN 1, HO2.out.drewN 1, by rw [HA.out]; exact HFR.out, by rw [HA.out]; exact HB9.out⟩
   go_wp2_with fail
   refine bodyPost_ret (results_row2_tmp rfl _ _ (A + 1) (A + 1 + 1) 409 409 _ _ (0, 0) (0, 0) _ rfl rfl HB1.out HB2.out Tryz.underlying409 rfl (by kernel_rfl) (by kernel_rfl)) rfl ?_
   exact HQ.out
end Go.Proofs.YtfeficdndjiijaaGreatDoor


namespace Go.Proofs.YtfeficdndjiijaaGreatDoor
open Go.RowKit
set_option linter.unusedVariables false
set_option linter.unusedSimpArgs false

theorem zeros_row {w : World} {b : Nat} {t : TypeId} (h : w.heap[b]? = some (.cells #[.int .i64 0, .int .i64 0, .int .i64 0, .int .i64 0, .int .i64 0, .int .i64 0, .int .i64 0, .int .i64 0, .int .i64 0, .int .i64 0] t)) : w.rowIs b t 10 (fun _ => .int .i64 0) :=
  ⟨_, h, rfl, fun i hi => by
    match i, hi with
    | 0, _ => rfl | 1, _ => rfl | 2, _ => rfl | 3, _ => rfl | 4, _ => rfl | 5, _ => rfl | 6, _ => rfl | 7, _ => rfl | 8, _ => rfl | 9, _ => rfl⟩
theorem long_info (n : Int) : (Tryz.prog.info? 163).map (·.size) = some (longA n).size := by rw [longA_size]; kernel_rfl
theorem longA_one (n : Int) : (longA n).all (·.oneCell') = true := by
  rw [Array.all_eq_true_iff_forall_mem]
  intro v hv
  simp [longA, intsV] at hv
  obtain ⟨a, _, rfl⟩ := hv
  rfl
theorem below_setRow {B : Nat} {a w : World} (h : Below B a w) {g : Nat} (hg : B ≤ g) (cs : Array Value) : Below B a (w.setRow g cs) :=
  h.trans ⟨rfl, rfl, rfl, by simp, fun k hk => setRow_other w g k cs (by omega)⟩
theorem Blk.of_digits {w : World} {b : Nat} {t : TypeId} {f : Nat → Value} (x : Int) (h : w.rowIs b t 10 f) (e : ∀ i, i < 10 → f i = .int .i64 (digit x i)) : Blk w b t (longA x) := by
  rw [← longA_size x] at h
  exact Blk.of_row h (fun i hi => by rw [longA_size] at hi; rw [longA_get x i hi, e i hi])

set_option maxRecDepth 100000 in
set_option maxHeartbeats 2000000 in
theorem ofint_any (n : Int) (n0 : -9223372036854775808 ≤ n) (n1 : n ≤ 9223372036854775807) (w : World) :
  Calls Tryz.prog 60 #[.int .i64 n] w fun e w' => e = .returned (.agg (longA n)) ∧ Below w.heap.size w w' := by
 have HN0 := Lib.hid n0
 have HN1 := Lib.hid n1
 clear n0 n1
 go_enter Tryz.func60, Tryz.ntmps60
 go_wp2
 obtain ⟨g1, g2, hbel, hsz⟩ := news2 w (.cells #[.int .i64 0, .int .i64 0, .int .i64 0, .int .i64 0, .int .i64 0, .int .i64 0, .int .i64 0, .int .i64 0, .int .i64 0, .int .i64 0] 163) (.cells #[.int .i64 0, .int .i64 0, .int .i64 0, .int .i64 0, .int .i64 0, .int .i64 0, .int .i64 0, .int .i64 0, .int .i64 0, .int .i64 0] 163)
 have hrow := RowUpTo.zeros (zeros_row g2) (digit n)
 generalize ((w.alloc (.cells #[.int .i64 0, .int .i64 0, .int .i64 0, .int .i64 0, .int .i64 0, .int .i64 0, .int .i64 0, .int .i64 0, .int .i64 0, .int .i64 0] 163)).alloc (.cells #[.int .i64 0, .int .i64 0, .int .i64 0, .int .i64 0, .int .i64 0, .int .i64 0, .int .i64 0, .int .i64 0, .int .i64 0, .int .i64 0] 163)) = wz at *
 generalize hA : w.heap.size = A at *
 have HA := Lib.hid hA
 have HG := Lib.hid g1
 have HR := Lib.hid hrow
 have HB := Lib.hid hbel
 clear hA g1 g2 hrow hbel
 go_loopw [4] (fun i wr => ∃ j : Nat, j ≤ 10 ∧ i = .int .i64 (j : Int) ∧ RowUpTo wr (A + 1) 163 10 (digit n) j ∧ wr.heap[A]? = some (.cells #[.int .i64 0, .int .i64 0, .int .i64 0, .int .i64 0, .int .i64 0, .int .i64 0, .int .i64 0, .int .i64 0, .int .i64 0, .int .i64 0] 163) ∧ Below A w wr) (fun i _ => 10 - (intOf i).toNat)
 case atStart => exact ⟨0, by omega, rfl, HR.out, HG.out, HB.out⟩
 case round =>
  obtain ⟨j, hj, rfl, hrow, hg, hbel⟩ := hrel
  clear HR HG HB
  have HR := Lib.hid hrow
  have HG := Lib.hid hg
  have HB := Lib.hid hbel
  clear hrow hg hbel
  by_cases hlt : j < 10
  ·obtain ⟨v0, hc⟩ := HR.out.cell hlt
   have hf := HR.out.frozen j
   have hG1 : A ≠ A + 1 := by omega
   by_cases h4 : j < 4
   ·have hjj : j = 0 ∨ j = 1 ∨ j = 2 ∨ j = 3 := by omega
    rcases hjj with rfl | rfl | rfl | rfl
    ·have hv := Lib.hid (ofd0 n)
     by_cases hn : n < 0
     ·go_wp2
      go_roundw
      case rel => exact ⟨0 + 1, by omega, rfl, ((HR.out.any _).any _).put hv.out, Blk.far (Blk.far (Blk.far HG.out hG1 _) hG1 _) hG1 _, ((HB.out.setCell (by simp) _).setCell (by simp) _).setCell (by simp) _⟩
      case measure => simp [intOf]
     ·go_wp2
      go_roundw
      case rel => exact ⟨0 + 1, by omega, rfl, (HR.out.any _).put hv.out, Blk.far (Blk.far HG.out hG1 _) hG1 _, (HB.out.setCell (by simp) _).setCell (by simp) _⟩
      case measure => simp [intOf]
    ·have hv := Lib.hid (ofd1 n)
     by_cases hn : n < 0
     ·go_wp2
      go_roundw
      case rel => exact ⟨1 + 1, by omega, rfl, ((HR.out.any _).any _).put hv.out, Blk.far (Blk.far (Blk.far HG.out hG1 _) hG1 _) hG1 _, ((HB.out.setCell (by simp) _).setCell (by simp) _).setCell (by simp) _⟩
      case measure => simp [intOf]
     ·go_wp2
      go_roundw
      case rel => exact ⟨1 + 1, by omega, rfl, (HR.out.any _).put hv.out, Blk.far (Blk.far HG.out hG1 _) hG1 _, (HB.out.setCell (by simp) _).setCell (by simp) _⟩
      case measure => simp [intOf]
    ·have hv := Lib.hid (ofd2 n)
     by_cases hn : n < 0
     ·go_wp2
      go_roundw
      case rel => exact ⟨2 + 1, by omega, rfl, ((HR.out.any _).any _).put hv.out, Blk.far (Blk.far (Blk.far HG.out hG1 _) hG1 _) hG1 _, ((HB.out.setCell (by simp) _).setCell (by simp) _).setCell (by simp) _⟩
      case measure => simp [intOf]
     ·go_wp2
      go_roundw
      case rel => exact ⟨2 + 1, by omega, rfl, (HR.out.any _).put hv.out, Blk.far (Blk.far HG.out hG1 _) hG1 _, (HB.out.setCell (by simp) _).setCell (by simp) _⟩
      case measure => simp [intOf]
    ·have hv := Lib.hid (ofd3 n)
     by_cases hn : n < 0
     ·go_wp2
      go_roundw
      case rel => exact ⟨3 + 1, by omega, rfl, ((HR.out.any _).any _).put hv.out, Blk.far (Blk.far (Blk.far HG.out hG1 _) hG1 _) hG1 _, ((HB.out.setCell (by simp) _).setCell (by simp) _).setCell (by simp) _⟩
      case measure => simp [intOf]
     ·go_wp2
      go_roundw
      case rel => exact ⟨3 + 1, by omega, rfl, (HR.out.any _).put hv.out, Blk.far (Blk.far HG.out hG1 _) hG1 _, (HB.out.setCell (by simp) _).setCell (by simp) _⟩
      case measure => simp [intOf]
   ·have hdj := digit_hi n HN0.out HN1.out j (by omega)
    by_cases hn : n < 0
    ·rw [if_pos hn] at hdj
     have HD : Hid (65535 = digit n j) := hdj.symm
     clear hdj
     go_wp2
     go_roundw
     case rel =>
      exact ⟨j + 1, by omega, by go_num, (HR.out.any _).put HD.out, Blk.far (Blk.far HG.out hG1 _) hG1 _, (HB.out.setCell (by simp) _).setCell (by simp) _⟩
     case measure => simp [intOf]; omega
    ·rw [if_neg hn] at hdj
     have HD : Hid (0 = digit n j) := hdj.symm
     clear hdj
     go_wp2
     go_roundw
     case rel =>
      exact ⟨j + 1, by omega, by go_num, HR.out.put HD.out, Blk.far HG.out hG1 _, HB.out.setCell (by simp) _⟩
     case measure => simp [intOf]; omega
  ·obtain rfl : j = 10 := by omega
   have hblk := Blk.of_digits n HR.out.full (fun i _ => rfl)
   have HR9 := Lib.hid hblk
   clear hblk
   have HIn := long_info n
   go_wp2_with (first | refine wpList_load_row rfl 163 _ rfl (A + 1) rfl 163 (longA n) (0, 0) _ HR9.out Tryz.underlying163 rfl HIn ?_ | refine wpList_store_row rfl 163 _ _ rfl A (longA n) rfl rfl 163 _ HG.out HIn (by rw [longA_size]; rfl) (longA_one n) ?_)
   have HZ : (wr.setRow A (longA n)).heap[A]? = some (.cells (longA n) 163 (0, 0)) := setRow_heap wr A _ _ _ _ HG.out
   have HB9 : Below A w (wr.setRow A (longA n)) := below_setRow HB.out (Nat.le_refl _) _
   generalize wr.setRow A (longA n) = w9 at *
   exact bodyPost_ret (results_cell_row rfl _ _ A 163 (longA n) (0, 0) _ rfl HZ Tryz.underlying163 rfl HIn) rfl ⟨rfl, by rw [HA.out]; exact HB9⟩

theorem wrapI_of (x : Int) (h0 : -9223372036854775808 ≤ x) (h1 : x ≤ 9223372036854775807) : IntKind.i64.wrap x = x := by
  simp [IntKind.wrap, IntKind.bits, IntKind.signed]; split <;> omega
set_option maxRecDepth 100000 in
set_option maxHeartbeats 2000000 in
theorem lplus_any (x y : Int) (w : World) :
  Calls Tryz.prog 148 #[.agg (longA x), .agg (longA y)] w fun e w' => e = .returned (.agg (longA (x + y))) ∧ Below w.heap.size w w' := by
 go_enter Tryz.func148, Tryz.ntmps148
 go_wp2
 obtain ⟨g1, g2, g3, g4, hbel, hsz⟩ := news4 w (.cells (longA x) 163) (.cells (longA y) 163) (.cells #[.int .i64 0, .int .i64 0, .int .i64 0, .int .i64 0, .int .i64 0, .int .i64 0, .int .i64 0, .int .i64 0, .int .i64 0, .int .i64 0] 163) (.cells #[.int .i64 0, .int .i64 0, .int .i64 0, .int .i64 0, .int .i64 0, .int .i64 0, .int .i64 0, .int .i64 0, .int .i64 0, .int .i64 0] 163)
 have hrow := RowUpTo.zeros (zeros_row g4) (digit (x + y))
 have h1 : Blk _ w.heap.size 163 (longA x) := g1
 have h2 : Blk _ (w.heap.size + 1) 163 (longA y) := g2
 clear g1 g2 g4
 generalize ((((w.alloc (.cells (longA x) 163)).alloc (.cells (longA y) 163)).alloc (.cells #[.int .i64 0, .int .i64 0, .int .i64 0, .int .i64 0, .int .i64 0, .int .i64 0, .int .i64 0, .int .i64 0, .int .i64 0, .int .i64 0] 163)).alloc (.cells #[.int .i64 0, .int .i64 0, .int .i64 0, .int .i64 0, .int .i64 0, .int .i64 0, .int .i64 0, .int .i64 0, .int .i64 0, .int .i64 0] 163)) = wz at *
 generalize hA : w.heap.size = A at *
 have HA := Lib.hid hA
 have HG := Lib.hid g3
 have HX := Lib.hid h1
 have HY := Lib.hid h2
 have HR := Lib.hid hrow
 have HB := Lib.hid hbel
 clear hA h1 h2 g3 hrow hbel
 go_loopw [6, 7] (fun c i wr => ∃ j : Nat, j ≤ 10 ∧ i = .int .i64 (j : Int) ∧ c = .int .i64 (carryI x y j) ∧ RowUpTo wr (A + 1 + 1 + 1) 163 10 (digit (x + y)) j ∧ Blk wr A 163 (longA x) ∧ Blk wr (A + 1) 163 (longA y) ∧
  wr.heap[A + 1 + 1]? = some (.cells #[.int .i64 0, .int .i64 0, .int .i64 0, .int .i64 0, .int .i64 0, .int .i64 0, .int .i64 0, .int .i64 0, .int .i64 0, .int .i64 0] 163) ∧ Below A w wr) (fun _ i _ => 10 - (intOf i).toNat)
 case atStart => exact ⟨0, by omega, rfl, by rw [carryI_zero], HR.out, HX.out, HY.out, HG.out, HB.out⟩
 case round =>
  obtain ⟨j, hj, rfl, rfl, hrow, hx, hy, hg, hbel⟩ := hrel
  clear HR HG HB HX HY
  have HR := Lib.hid hrow
  have HG := Lib.hid hg
  have HB := Lib.hid hbel
  have HX := Lib.hid hx
  have HY := Lib.hid hy
  clear hrow hg hbel hx hy
  by_cases hlt : j < 10
  ·obtain ⟨v0, hc⟩ := HR.out.cell hlt
   have hf := HR.out.frozen j
   have cx := (HX.out.cell j).trans (longA_get x j hlt)
   have cy := (HY.out.cell j).trans (longA_get y j hlt)
   have bx := digit_bd x j
   have bY := digit_bd y j
   have bc := carryI_bd x y j
   have HD := Lib.hid (digit_add x y j)
   have HC := Lib.hid (carryI_succ x y j)
   generalize digit x j = dx at *
   generalize digit y j = dy at *
   generalize carryI x y j = cc at *
   have e1 : IntKind.i64.wrap (dx + dy) = dx + dy := wrapI_of _ (by omega) (by omega)
   have e2 : IntKind.i64.wrap (dx + dy + cc) = dx + dy + cc := wrapI_of _ (by omega) (by omega)
   have i0 : (0 : Int) ≤ (j : Int) := by omega
   have i1 : (j : Int) < 10 := by omega
   go_wp2_with fail
   go_quiet (fail)
   clear e1 e2
   go_wp2
   go_roundw
   case rel => exact ⟨j + 1, by omega, by go_num, by rw [HC.out], ((HR.out.drewN nq).put HD.out.symm), Blk.far (HX.out.drewN nq) (by simp; omega) _, Blk.far (HY.out.drewN nq) (by simp) _, Blk.far (Blk.drewN HG.out nq) (by simp) _, (below_drewN HB.out nq).setCell (by simp; omega) _⟩
   case measure => simp [intOf]; omega
  ·obtain rfl : j = 10 := by omega
   have HR9 := Lib.hid (Blk.of_digits (x + y) HR.out.full (fun i _ => rfl))
   have HIn := long_info (x + y)
   go_wp2_with (first | refine wpList_load_row rfl 163 _ rfl (A + 1 + 1 + 1) rfl 163 (longA (x + y)) (0, 0) _ HR9.out Tryz.underlying163 rfl HIn ?_ | refine wpList_store_row rfl 163 _ _ rfl (A + 1 + 1) (longA (x + y)) rfl rfl 163 _ HG.out HIn (by rw [longA_size]; rfl) (longA_one _) ?_)
   have HZ : (wr.setRow (A + 1 + 1) (longA (x + y))).heap[A + 1 + 1]? = some (.cells (longA (x + y)) 163 (0, 0)) := setRow_heap wr _ _ _ _ _ HG.out
   have HB9 : Below A w (wr.setRow (A + 1 + 1) (longA (x + y))) := below_setRow HB.out (by omega) _
   generalize wr.setRow (A + 1 + 1) (longA (x + y)) = w9 at *
   exact bodyPost_ret (results_cell_row rfl _ _ (A + 1 + 1) 163 (longA (x + y)) (0, 0) _ rfl HZ Tryz.underlying163 rfl HIn) rfl ⟨rfl, by rw [HA.out]; exact HB9⟩

theorem longA_1 : longA 1 = #[.int .i64 1, .int .i64 0, .int .i64 0, .int .i64 0, .int .i64 0, .int .i64 0, .int .i64 0, .int .i64 0, .int .i64 0, .int .i64 0] := by kernel_rfl
set_option maxRecDepth 100000 in
set_option maxHeartbeats 2000000 in
theorem lminus_any (x : Int) (w : World) :
  Calls Tryz.prog 107 #[.agg (longA x)] w fun e w' => e = .returned (.agg (longA (-x))) ∧ Below w.heap.size w w' := by
 have hpl := fun w => lplus_any (-1 - x) 1 w
 rw [show -1 - x + 1 = -x by omega] at hpl
 generalize hD : -1 - x = D at *
 generalize -x = E at *
 go_enter Tryz.func107, Tryz.ntmps107
 go_wp2_with fail
 obtain ⟨g1, g3, g4, hbel, hsz⟩ := news3 w (.cells (longA x) 163) (.cells #[.int .i64 0, .int .i64 0, .int .i64 0, .int .i64 0, .int .i64 0, .int .i64 0, .int .i64 0, .int .i64 0, .int .i64 0, .int .i64 0] 163) (.cells #[.int .i64 0, .int .i64 0, .int .i64 0, .int .i64 0, .int .i64 0, .int .i64 0, .int .i64 0, .int .i64 0, .int .i64 0, .int .i64 0] 163)
 have hrow := RowUpTo.zeros (zeros_row g4) (digit D)
 have h1 : Blk _ w.heap.size 163 (longA x) := g1
 clear g1 g4
 generalize ((((w.alloc (.cells (longA x) 163)).alloc (.cells #[.int .i64 0, .int .i64 0, .int .i64 0, .int .i64 0, .int .i64 0, .int .i64 0, .int .i64 0, .int .i64 0, .int .i64 0, .int .i64 0] 163))).alloc (.cells #[.int .i64 0, .int .i64 0, .int .i64 0, .int .i64 0, .int .i64 0, .int .i64 0, .int .i64 0, .int .i64 0, .int .i64 0, .int .i64 0] 163)) = wz at *
 generalize hA : w.heap.size = A at *
 have HA := Lib.hid hA
 have HG := Lib.hid g3
 have HX := Lib.hid h1
 have HR := Lib.hid hrow
 have HB := Lib.hid hbel
 have HDD := Lib.hid hD
 have HPL := Lib.hid hpl
 clear hA h1 g3 hrow hbel hD hpl
 go_loopw [4] (fun i wr => ∃ j : Nat, j ≤ 10 ∧ i = .int .i64 (j : Int) ∧ RowUpTo wr (A + 1 + 1) 163 10 (digit D) j ∧ Blk wr A 163 (longA x) ∧
  wr.heap[A + 1]? = some (.cells #[.int .i64 0, .int .i64 0, .int .i64 0, .int .i64 0, .int .i64 0, .int .i64 0, .int .i64 0, .int .i64 0, .int .i64 0, .int .i64 0] 163) ∧ Below A w wr) (fun i _ => 10 - (intOf i).toNat)
 case atStart => exact ⟨0, by omega, rfl, HR.out, HX.out, HG.out, HB.out⟩
 case round =>
  obtain ⟨j, hj, rfl, hrow, hx, hg, hbel⟩ := hrel
  clear HR HG HB HX
  have HR := Lib.hid hrow
  have HG := Lib.hid hg
  have HB := Lib.hid hbel
  have HX := Lib.hid hx
  clear hrow hg hbel hx
  by_cases hlt : j < 10
  ·obtain ⟨v0, hc⟩ := HR.out.cell hlt
   have hf := HR.out.frozen j
   have cx := (HX.out.cell j).trans (longA_get x j hlt)
   have bx := digit_bd x j
   have HDJ : Hid (65535 - digit x j = digit D j) := by rw [← HDD.out]; exact (digit_not x j).symm
   generalize digit x j = dx at *
   go_wp2
   go_roundw
   case rel => exact ⟨j + 1, by omega, by go_num, HR.out.put HDJ.out, Blk.far HX.out (by simp; omega) _, Blk.far HG.out (by simp) _, HB.out.setCell (by simp; omega) _⟩
   case measure => simp [intOf]; omega
  ·obtain rfl : j = 10 := by omega
   have HR9 := Lib.hid (Blk.of_digits D HR.out.full (fun i _ => rfl))
   have HI1 := long_info D
   have HI2 := long_info 1
   have HI3 := long_info E
   have HN := news1 wr (.cells #[.int .i64 1, .int .i64 0, .int .i64 0, .int .i64 0, .int .i64 0, .int .i64 0, .int .i64 0, .int .i64 0, .int .i64 0, .int .i64 0] 163)
   rw [← longA_1] at HN
   have HH1 := Lib.hid (HR9.out.alloc (.cells (longA 1) 163))
   have HH2 := Lib.hid HN.1
   have HH3 := Lib.hid (Blk.alloc HG.out (.cells (longA 1) 163))
   have HH4 : Hid (Below A w (wr.alloc (.cells (longA 1) 163))) := Lib.hid (HB.out.alloc (by have := HX.out.lt; omega) _)
   have HH5 := HR.out.lt
   clear HN
   go_wp2_with (first
    | refine wpList_load_row rfl 163 _ rfl (A + 1 + 1) rfl 163 (longA D) (0, 0) _ HH1.out Tryz.underlying163 rfl HI1 ?_
    | refine wpList_load_row rfl 163 _ rfl wr.heap.size rfl 163 (longA 1) (0, 0) _ HH2.out Tryz.underlying163 rfl HI2 ?_
    | (go_at_call 148; refine (HPL.out _).mono ?_; rintro e w2 ⟨rfl, hb2⟩; have HH6 := Lib.hid (HH3.out.kept hb2); have HH7 : Hid (Below A w w2) := Lib.hid (HH4.out.trans (hb2.mono (by simp; omega))); clear hb2)
    | refine wpList_store_row rfl 163 _ _ rfl (A + 1) (longA E) rfl rfl 163 _ HH6.out HI3 (by rw [longA_size]; rfl) (longA_one _) ?_)
   have HZ : (w2.setRow (A + 1) (longA E)).heap[A + 1]? = some (.cells (longA E) 163 (0, 0)) := setRow_heap w2 _ _ _ _ _ HH6.out
   have HB9 : Below A w (w2.setRow (A + 1) (longA E)) := below_setRow HH7.out (by omega) _
   generalize w2.setRow (A + 1) (longA E) = w9 at *
   exact bodyPost_ret (results_cell_row rfl _ _ (A + 1) 163 (longA E) (0, 0) _ rfl HZ Tryz.underlying163 rfl HI3) rfl ⟨rfl, by rw [HA.out]; exact HB9⟩
end Go.Proofs.YtfeficdndjiijaaGreatDoor


namespace Go.Proofs.YtfeficdndjiijaaGreatDoor
open Go.RowKit
set_option linter.unusedVariables false
set_option linter.unusedSimpArgs false

set_option maxRecDepth 100000 in
set_option maxHeartbeats 4000000 in
theorem kth_any (v : Value) (zs : List Int) (k : Nat) (w : World) (hv : IntsAt w v zs) (hk : k < zs.length) (hn : zs.length ≤ 100000) :
  Calls Tryz.prog 305 #[v, .int .i64 (k : Int)] w fun e w' => ∃ u, e = .returned (.tuple #[.int .i64 u, .bool true]) ∧ IsKth zs k u ∧ Below w.heap.size w w' := by
 have HV := Lib.hid hv
 obtain ⟨ao, cap, rfl, hcap, hcells⟩ := hv
 clear hcells
 have d0 : decide ((k : Int) < 0) = false := decide_eq_false (by omega)
 have d1 : decide ((zs.length : Int) ≤ (k : Int)) = false := decide_eq_false (by omega)
 obtain ⟨n, hlen⟩ : ∃ n, n = zs.length := ⟨_, rfl⟩
 rw [← hlen] at hcap hn d1 hk
 have HLEN := Lib.hid hlen
 rw [← hlen]
 clear hlen
 go_enter Tryz.func305, Tryz.ntmps305
 go_wp2
 go_step3
 go_wp2_with (refine wpList_store_row rfl 409 _ _ rfl w.heap.size #[.slice ao n cap] rfl rfl 409 #[.slice none 0 0] (Blk.new _ _ _) (by kernel_rfl) rfl (by simp [Value.oneCell']) ?_)
 go_step3
 go_wp2
 obtain ⟨g1, hbel, hsz⟩ := news1 w (.cells #[.slice none 0 0] 409)
 have hb1 : Blk ((w.alloc (.cells #[.slice none 0 0] 409)).setRow w.heap.size #[.slice ao n cap]) w.heap.size 409 #[.slice ao n cap] := setRow_heap _ _ _ _ _ _ g1
 have hbel2 : Below w.heap.size w ((w.alloc (.cells #[.slice none 0 0] 409)).setRow w.heap.size #[.slice ao n cap]) := below_setRow hbel (Nat.le_refl _) _
 clear g1 hbel hsz
 generalize ((w.alloc (.cells #[.slice none 0 0] 409)).setRow w.heap.size #[.slice ao n cap]) = wz at *
 have HV0 : Hid (IntsAt wz (.slice ao n cap) zs) := Lib.hid (by rw [HLEN.out]; have := HV.out.kept hbel2; exact this)
 generalize hA : w.heap.size = A at *
 have HA := Lib.hid hA
 have HB0 := Lib.hid hb1
 have HBL0 := Lib.hid hbel2
 clear hA hb1 hbel2 d0 d1
 have hdk : decide (n ≤ k) = false := decide_eq_false (by omega)
 simp only [Act.put, hdk]
 go_loopg [1] n (fun g s wr => ∃ (kk : Nat) (ys : List Int) (a : Option Addr) (c : Nat), s = .int .i64 (kk : Int) ∧ ys.length = g ∧ g ≤ n ∧ kk < g ∧ Blk wr A 409 #[.slice a g c] ∧ IntsAt wr (.slice a g c) ys ∧ (∀ u, IsKth ys kk u → IsKth zs k u) ∧ Below A w wr)
 case atStart => exact ⟨k, zs, ao, cap, rfl, HLEN.out.symm, Nat.le_refl _, hk, HB0.out, HV0.out, fun u h => h, HBL0.out⟩
 case round =>
  obtain ⟨kk, ys, a, c, rfl, hyl, hgn, hkk, hbk, hin, himp, hbel⟩ := hrel
  clear HB0 HBL0 HV0
  have HIN := Lib.hid hin
  have HBK := Lib.hid hbk
  have HIMP := Lib.hid himp
  have HB := Lib.hid hbel
  have HYL := Lib.hid hyl
  have c0 := hbk.cell 0
  simp at c0
  obtain ⟨a', c', e1, hc, hcells⟩ := hin
  simp only [Value.slice.injEq] at e1
  obtain ⟨rfl, -, rfl⟩ := e1
  obtain ⟨gb, rfl, hgb, hcl⟩ := hcells (by omega)
  obtain ⟨q, hq⟩ : ∃ q, q = gk / 2 := ⟨_, rfl⟩
  have hqg : q < gk := by omega
  have hyq : ys[q]? = some (cellD ys q) := by
   have : q < ys.length := by omega
   simp [cellD, this]
  have cq := hcl q _ hyq
  have HBY := Lib.hid (List.mem_of_getElem? hyq)
  clear hcells hcl hyq hbk himp hbel hyl
  generalize cellD ys q = b at *
  have dq : Int.tdiv (gk : Int) 2 = (q : Int) := by rw [Int.tdiv_eq_ediv_of_nonneg (by omega)]; omega
  have hq0 : (0 : Int) ≤ (q : Int) := by omega
  have hq1 : (q : Int) < (gk : Int) := by omega
  clear hq
  have hbk := HBK.out
  have hAw := hbk.lt
  have hpl := parts_len ys b
  have hpos := cEq_pos HBY.out
  rw [HYL.out] at hpl
  have ew : wrap64 (((lessL ys b).length : Int) + (cEq ys b : Int)) = ((lessL ys b).length : Int) + (cEq ys b : Int) := by unfold wrap64; omega
  have HPL : Hid ((lessL ys b).length + cEq ys b + (moreL ys b).length = gk ∧ 0 < cEq ys b) := ⟨hpl, hpos⟩
  clear hpl hpos
  rcases Nat.lt_or_ge kk (lessL ys b).length with h1 | h1
  ·have d1 : decide ((kk : Int) < ((lessL ys b).length : Int)) = true := decide_eq_true (by omega)
   have d1' : decide (kk < (lessL ys b).length) = true := decide_eq_true h1
   have H1 := Lib.hid h1
   clear h1
   go_wp2_with (first
   | refine wpList_load_row rfl 409 _ rfl A rfl 409 _ (0, 0) _ hbk Tryz.underlying409 rfl (by kernel_rfl) ?_
   | (go_at_call 307; refine (part_any _ ys b _ HIN.out (by have := HYL.out; omega)).mono ?_; rintro e w2 ⟨lv, mv, rfl, hl, hm, hfr, hb⟩; have HFR := Lib.hid hfr; clear hfr; have HL2 := Lib.hid hl; have HM2 := Lib.hid hm; have HB2 := Lib.hid hb; obtain ⟨la, lc, rfl, -, -⟩ := hl; obtain ⟨ma, mc, rfl, -, -⟩ := hm; have hk2 := ((hbk.kept hb).alloc (.cells #[.slice la (lessL ys b).length lc] 409)).alloc (.cells #[.slice ma (moreL ys b).length mc] 409); have hc2 := hk2.cell 0; have hf2 := hk2.frozen 0; simp at hc2; have HK2 := Lib.hid hk2; have HA2 : Hid (Below A w ((w2.alloc (.cells #[.slice la (lessL ys b).length lc] 409)).alloc (.cells #[.slice ma (moreL ys b).length mc] 409))) := Lib.hid (((HB.out.trans (hb.mono (by omega))).alloc (by have := hb.size; omega) _).alloc (by have := hb.size; simp; omega) _); have HL3 := Lib.hid ((HL2.out.kept ((Below.refl _ _).alloc (Nat.le_refl _) (.cells #[.slice la (lessL ys b).length lc] 409))).kept ((Below.refl _ _).alloc (Nat.le_refl _) (.cells #[.slice ma (moreL ys b).length mc] 409))); have HM3 := Lib.hid ((HM2.out.kept ((Below.refl _ _).alloc (Nat.le_refl _) (.cells #[.slice la (lessL ys b).length lc] 409))).kept ((Below.refl _ _).alloc (Nat.le_refl _) (.cells #[.slice ma (moreL ys b).length mc] 409))); clear hb hk2))
   go_roundg (lessL ys b).length
   case measure => have := HPL.out; omega
   case rel => exact ⟨kk, lessL ys b, la, lc, rfl, rfl, by have := HPL.out; omega, H1.out, by simpa using HK2.out.set_ 0 _, HL3.out.far (fun e => by have := HFR.out _ (.inl e); simp at this; omega) _, fun u hu => HIMP.out u (kth_less hu), HA2.out.setCell (Nat.le_refl _) _⟩
  ·have d1 : decide ((kk : Int) < ((lessL ys b).length : Int)) = false := decide_eq_false (by omega)
   have d1' : decide (kk < (lessL ys b).length) = false := decide_eq_false (by omega)
   rcases Nat.lt_or_ge kk ((lessL ys b).length + cEq ys b) with h2 | h2
   ·have d2 : decide ((kk : Int) < ((lessL ys b).length : Int) + (cEq ys b : Int)) = true := decide_eq_true (by omega)
    have H1 := Lib.hid h1
    have H2 := Lib.hid h2
    clear h1 h2
    go_wp2_with (first
   | refine wpList_load_row rfl 409 _ rfl A rfl 409 _ (0, 0) _ hbk Tryz.underlying409 rfl (by kernel_rfl) ?_
   | (go_at_call 307; refine (part_any _ ys b _ HIN.out (by have := HYL.out; omega)).mono ?_; rintro e w2 ⟨lv, mv, rfl, hl, hm, hfr, hb⟩; have HFR := Lib.hid hfr; clear hfr; have HL2 := Lib.hid hl; have HM2 := Lib.hid hm; have HB2 := Lib.hid hb; obtain ⟨la, lc, rfl, -, -⟩ := hl; obtain ⟨ma, mc, rfl, -, -⟩ := hm; have hk2 := ((hbk.kept hb).alloc (.cells #[.slice la (lessL ys b).length lc] 409)).alloc (.cells #[.slice ma (moreL ys b).length mc] 409); have hc2 := hk2.cell 0; have hf2 := hk2.frozen 0; simp at hc2; have HK2 := Lib.hid hk2; have HA2 : Hid (Below A w ((w2.alloc (.cells #[.slice la (lessL ys b).length lc] 409)).alloc (.cells #[.slice ma (moreL ys b).length mc] 409))) := Lib.hid (((HB.out.trans (hb.mono (by omega))).alloc (by have := hb.size; omega) _).alloc (by have := hb.size; simp; omega) _); have HL3 := Lib.hid ((HL2.out.kept ((Below.refl _ _).alloc (Nat.le_refl _) (.cells #[.slice la (lessL ys b).length lc] 409))).kept ((Below.refl _ _).alloc (Nat.le_refl _) (.cells #[.slice ma (moreL ys b).length mc] 409))); have HM3 := Lib.hid ((HM2.out.kept ((Below.refl _ _).alloc (Nat.le_refl _) (.cells #[.slice la (lessL ys b).length lc] 409))).kept ((Below.refl _ _).alloc (Nat.le_refl _) (.cells #[.slice ma (moreL ys b).length mc] 409))); clear hb hk2))
    rw [Exit.noGoto_ret]
    go_ret2
    exact ⟨b, rfl, HIMP.out b (kth_here HBY.out H1.out H2.out), by rw [HA.out]; exact HA2.out⟩
   ·have d2 : decide ((kk : Int) < ((lessL ys b).length : Int) + (cEq ys b : Int)) = false := decide_eq_false (by omega)
    have ew2 : wrap64 ((kk : Int) - (((lessL ys b).length : Int) + (cEq ys b : Int))) = ((kk - ((lessL ys b).length + cEq ys b) : Nat) : Int) := by unfold wrap64; omega
    have H1 := Lib.hid h1
    have H2 := Lib.hid h2
    clear h1 h2
    go_wp2_with (first
   | refine wpList_load_row rfl 409 _ rfl A rfl 409 _ (0, 0) _ hbk Tryz.underlying409 rfl (by kernel_rfl) ?_
   | (go_at_call 307; refine (part_any _ ys b _ HIN.out (by have := HYL.out; omega)).mono ?_; rintro e w2 ⟨lv, mv, rfl, hl, hm, hfr, hb⟩; have HFR := Lib.hid hfr; clear hfr; have HL2 := Lib.hid hl; have HM2 := Lib.hid hm; have HB2 := Lib.hid hb; obtain ⟨la, lc, rfl, -, -⟩ := hl; obtain ⟨ma, mc, rfl, -, -⟩ := hm; have hk2 := ((hbk.kept hb).alloc (.cells #[.slice la (lessL ys b).length lc] 409)).alloc (.cells #[.slice ma (moreL ys b).length mc] 409); have hc2 := hk2.cell 0; have hf2 := hk2.frozen 0; simp at hc2; have HK2 := Lib.hid hk2; have HA2 : Hid (Below A w ((w2.alloc (.cells #[.slice la (lessL ys b).length lc] 409)).alloc (.cells #[.slice ma (moreL ys b).length mc] 409))) := Lib.hid (((HB.out.trans (hb.mono (by omega))).alloc (by have := hb.size; omega) _).alloc (by have := hb.size; simp; omega) _); have HL3 := Lib.hid ((HL2.out.kept ((Below.refl _ _).alloc (Nat.le_refl _) (.cells #[.slice la (lessL ys b).length lc] 409))).kept ((Below.refl _ _).alloc (Nat.le_refl _) (.cells #[.slice ma (moreL ys b).length mc] 409))); have HM3 := Lib.hid ((HM2.out.kept ((Below.refl _ _).alloc (Nat.le_refl _) (.cells #[.slice la (lessL ys b).length lc] 409))).kept ((Below.refl _ _).alloc (Nat.le_refl _) (.cells #[.slice ma (moreL ys b).length mc] 409))); clear hb hk2))
    go_roundg (moreL ys b).length
    case measure => have := HPL.out; omega
    case rel => exact ⟨kk - ((lessL ys b).length + cEq ys b), moreL ys b, ma, mc, by first | rfl | rw [ew2] | simp [ew2], rfl, by have := HPL.out; omega, by have := HPL.out; have := H2.out; omega, by simpa using HK2.out.set_ 0 _, HM3.out.far (fun e => by have := HFR.out _ (.inr e); simp at this; omega) _, fun u hu => HIMP.out u (by have := kth_more hu; rwa [Nat.sub_add_cancel H2.out] at this), HA2.out.setCell (Nat.le_refl _) _⟩
theorem min_any (v : Value) (zs : List Int) (w : World) (hv : IntsAt w v zs) (hk : 0 < zs.length) (hn : zs.length ≤ 100000) :
    Calls Tryz.prog 298 #[v] w fun e w' => ∃ u, e = .returned (.tuple #[.int .i64 u, .bool true]) ∧ IsKth zs 0 u ∧ Below w.heap.size w w' := by
  have P1 := kth_any v zs 0 w hv hk hn
  go_enter Tryz.func298, Tryz.ntmps298
  go_wp2_with (go_at_call 305; refine P1.mono ?_; rintro e w' ⟨u, rfl, hu, hb⟩; have HU := Lib.hid hu; clear hu)
  go_ret2
  exact ⟨u, rfl, HU.out, hb⟩
theorem median_any (v : Value) (zs : List Int) (w : World) (hv : IntsAt w v zs) (hk : 0 < zs.length) (hn : zs.length ≤ 100000) :
    Calls Tryz.prog 300 #[v] w fun e w' => ∃ u, e = .returned (.tuple #[.int .i64 u, .bool true]) ∧ IsKth zs ((zs.length - 1) / 2) u ∧ Below w.heap.size w w' := by
  have P1 := kth_any v zs ((zs.length - 1) / 2) w hv (by omega) hn
  obtain ⟨ao, cap, rfl, hcap, hcells⟩ := hv
  clear hcells
  obtain ⟨q, hq⟩ : ∃ q, q = (zs.length - 1) / 2 := ⟨_, rfl⟩
  rw [← hq] at P1 ⊢
  have e1 : wrap64 ((zs.length : Int) - 1) = (zs.length : Int) - 1 := by unfold wrap64; omega
  have e2 : Int.tdiv ((zs.length : Int) - 1) 2 = (q : Int) := by rw [Int.tdiv_eq_ediv_of_nonneg (by omega)]; omega
  have e3 : ((zs.length : Int) - 1) / 2 = (q : Int) := by omega
  clear hq
  go_enter Tryz.func300, Tryz.ntmps300
  go_wp2_with (go_at_call 305; refine P1.mono ?_; rintro e w' ⟨u, rfl, hu, hb⟩; have HU := Lib.hid hu; clear hu)
  go_ret2
  exact ⟨u, rfl, HU.out, hb⟩
end Go.Proofs.YtfeficdndjiijaaGreatDoor

