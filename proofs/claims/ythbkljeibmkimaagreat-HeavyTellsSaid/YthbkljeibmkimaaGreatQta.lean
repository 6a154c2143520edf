import Derived.WalkKit
import Derived.ProofKit
import Derived.Below
import Derived.Lib.Hide
import Derived.Laws.OwnMore
import Derived.Laws.Rows
import Derived.Deep.Draws
import Derived.Test.YthbkljeibmkimaaGreatProg
import Derived.Outline
import Derived.WalkSmall
import Derived.Deep.OwnRows
import Derived.OwnWalk
import Derived.Maps.AppendAt
import Derived.Deep.QuietTactic
import Derived.BigQuiet
import Derived.LoopN
import Derived.Deep.DeepCutAuto
import Derived.Deep.RegionHeld3
import Derived.Lib.SliceRun
import Derived.ChangeKeysEq
import Derived.Deep.LoopGhost
import Derived.WalkMore
import Derived.Laws.Externs
import Derived.Shelf.Spec.BitsCarry
import Derived.IntWalk
import Derived.RegionCalls
import Derived.Laws.CopyOwn
import Derived.Laws.BytesArg
import Derived.Laws.IdiomStrings
import Derived.StillTailTactics
import Derived.Laws.BitsAllLaws
import Derived.OpenShut
import Derived.ChangeOld
import Derived.Deep.Slices
import Derived.Laws.StructEq
import Derived.OrdersHeld
/-
  Contracts of the functions that HeavyTells reaches, and the plain laws that it leans on. Conditions: none beyond those stated at each theorem.
-/
namespace Go.Proofs.YthbkljeibmkimaaGreat
open Go
theorem z1 {α : Type _} (l : List α) (i : Nat) (a : α) : l.toArray.setIfInBounds i a = (l.set i a).toArray := List.setIfInBounds_toArray l i a
theorem z2 {α : Type _} {x : α} {xs : List α} {a : α} : (x :: xs).set 0 a = a :: xs := rfl
theorem z3 {α : Type _} {x : α} {xs : List α} {i : Nat} {a : α} : (x :: xs).set (i + 1) a = x :: xs.set i a := rfl
theorem z4 {α : Type _} {xs : List α} {i : Nat} (h : i < xs.toArray.size) : xs.toArray[i] = xs[i]'(by simpa using h) := List.getElem_toArray h
theorem z5 {α : Type _} {a : α} {xs : List α} (h : 0 < (a :: xs).length) : (a :: xs)[0] = a := rfl
theorem z6 {α : Type _} {a : α} {xs : List α} {i : Nat} (h : i + 1 < (a :: xs).length) : (a :: xs)[i+1] = xs[i]'(Nat.lt_of_succ_lt_succ h) := rfl
theorem tkH {P : Program} {md : Region.Mode} {ops : Array Oper} {Q : Exit → Act → World → Prop} {S : World → Prop} {i : Nat} {oi : Oper} {v : Value} {fuel : Nat} {listed : Array Bool} {a : Act} {w : World} (hi : ops[i]? = some oi)
    (hb : (Region.noSelect ops && (Region.free md ops listed i && (Region.ready md ops listed).contains i)) = true)
    (hQ : ∀ c a w, Q (.panic c) (a.put oi.dst v) w → Q (.panic c) a w) (hy : YieldsIf P ops S oi v a) (hS : S w)
    (h : wpAnyH P md ops Q S fuel (listed.setIfInBounds i true) (a.put oi.dst v) w) : wpAnyH P md ops Q S (fuel + 1) listed a w := by
  rw [Bool.and_eq_true, Bool.and_eq_true] at hb
  exact wpAnyH_take hi hb.1 hb.2.1 hb.2.2 hQ hy hS h
theorem tkA {P : Program} {md : Region.Mode} {ops : Array Oper} {Q : Exit → Act → World → Prop} {i : Nat} {oi : Oper} {v : Value} {fuel : Nat} {listed : Array Bool} {a : Act} {w : World} (hi : ops[i]? = some oi)
    (hb : (Region.noSelect ops && (Region.free md ops listed i && (Region.ready md ops listed).contains i)) = true)
    (hQ : ∀ c a w, Q (.panic c) (a.put oi.dst v) w → Q (.panic c) a w) (hy : Yields P ops oi v a)
    (h : wpAny P md ops Q fuel (listed.setIfInBounds i true) (a.put oi.dst v) w) : wpAny P md ops Q (fuel + 1) listed a w := by
  rw [Bool.and_eq_true, Bool.and_eq_true] at hb
  exact wpAny_take hi hb.1 hb.2.1 hb.2.2 hQ hy h
end Go.Proofs.YthbkljeibmkimaaGreat
namespace Go.Proofs.YthbkljeibmkimaaGreat
open Go.RowKit
set_option linter.unusedVariables false
set_option linter.unusedSimpArgs false

def In64 (x : Int) : Prop := -9223372036854775808 ≤ x ∧ x ≤ 9223372036854775807
theorem btr {w w1 w2 : World} (h : Below w.heap.size w w1) (k : Below w1.heap.size w1 w2) : Below w.heap.size w w2 := h.trans (k.mono h.size)
def Blk (w : World) (g : Nat) (t : TypeId) (cs : Array Value) : Prop := w.heap[g]? = some (.cells cs t (0, 0))
section
variable {w w' : World} {g : Nat} {t : TypeId} {cs : Array Value}
theorem Blk.lt (h : Blk w g t cs) : g < w.heap.size := by
  rcases Nat.lt_or_ge g w.heap.size with hlt | hge
  · exact hlt
  · unfold Blk at h; rw [Array.getElem?_eq_none hge] at h; cases h
theorem Blk.cell (h : Blk w g t cs) (i : Nat) : w.cell? ⟨g, i, none⟩ = cs[i]? := cell_of_row w g i cs t (0, 0) h
theorem Blk.frozen (h : Blk w g t cs) (i : Nat) : w.frozen? ⟨g, i, none⟩ = false := by
  unfold Blk at h
  simp [World.frozen?, h]
theorem Blk.new (w : World) (t : TypeId) (cs : Array Value) : Blk (w.alloc (.cells cs t)) w.heap.size t cs := heap_alloc_new w _
theorem Blk.drew (h : Blk w g t cs) : Blk w.drew g t cs := h
theorem Blk.drewN (h : Blk w g t cs) (n : Nat) : Blk (w.drewN n) g t cs := h
theorem Blk.alloc (h : Blk w g t cs) (o : Obj) : Blk (w.alloc o) g t cs := (Below.heap_alloc w o g h.lt).trans h
theorem Blk.set_ (h : Blk w g t cs) (i : Nat) (u : Value) : Blk (w.setCell ⟨g, i, none⟩ u) g t (cs.setIfInBounds i u) := by
  unfold Blk at h ⊢
  simp [World.setCell, Array.getElem?_modify, h]
theorem Blk.far (h : Blk w g t cs) {p : Addr} (hp : g ≠ p.block) (u : Value) : Blk (w.setCell p u) g t cs := (Below.heap_setCell w p u g hp).trans h
theorem Blk.below {B : Nat} (h : Blk w g t cs) (hb : Below B w w') (hg : g < B) : Blk w' g t cs := (hb.block g hg).trans h
theorem Blk.kept (h : Blk w g t cs) (hb : Below w.heap.size w w') : Blk w' g t cs := h.below hb h.lt
theorem Blk.grown {row : Option Nat} (h : Blk w g t cs) (hb : w.grownBy w' row) (hg : some g ≠ row) : Blk w' g t cs := (hb.block g h.lt hg).trans h
theorem Blk.ne_ {g' : Nat} {t' : TypeId} {cs' : Array Value} (h : Blk w g t cs) (h' : Blk w g' t' cs') (hne : t ≠ t') : g ≠ g' := by
  rintro rfl
  unfold Blk at h h'
  rw [h] at h'
  injection h' with h'
  injection h' with _ ht
  exact hne ht
end

theorem box_kept {w w1 : World} {cs : Array Value} {t : TypeId} (h : Below (w.alloc (.cells cs t)).heap.size (w.alloc (.cells cs t)) w1) :
    Blk w1 w.heap.size t cs ∧ Below w.heap.size w w1 :=
  ⟨(Blk.new w t cs).kept h, ((Below.refl _ _).alloc (Nat.le_refl _) _).trans (h.mono (by simp))⟩

theorem new_at (w : World) (o : Obj) (n : Nat) (h : n = w.heap.size) : (w.alloc o).heap[n]? = some o := by subst h; exact heap_alloc_new w o
theorem old_at (w : World) (o : Obj) (n : Nat) (h : n < w.heap.size) : (w.alloc o).heap[n]? = w.heap[n]? := Below.heap_alloc w o n h
theorem news1 (w : World) (a : Obj) : (w.alloc a).heap[w.heap.size]? = some a ∧ Below w.heap.size w (w.alloc a) ∧ (w.alloc a).heap.size = w.heap.size + 1 :=
  ⟨new_at _ _ _ rfl, (Below.refl _ _).alloc (Nat.le_refl _) _, by simp⟩
theorem news2 (w : World) (a b : Obj) : ((w.alloc a).alloc b).heap[w.heap.size]? = some a ∧ ((w.alloc a).alloc b).heap[w.heap.size + 1]? = some b ∧ Below w.heap.size w ((w.alloc a).alloc b) ∧ ((w.alloc a).alloc b).heap.size = w.heap.size + 2 := by
  obtain ⟨h1, h2, h3⟩ := news1 w a
  exact ⟨by rw [old_at _ _ _ (by omega)]; exact h1, new_at _ _ _ (by omega), h2.alloc (by omega) _, by simp⟩
theorem news3 (w : World) (a b c : Obj) : (((w.alloc a).alloc b).alloc c).heap[w.heap.size]? = some a ∧ (((w.alloc a).alloc b).alloc c).heap[w.heap.size + 1]? = some b ∧ (((w.alloc a).alloc b).alloc c).heap[w.heap.size + 1 + 1]? = some c ∧
    Below w.heap.size w (((w.alloc a).alloc b).alloc c) ∧ (((w.alloc a).alloc b).alloc c).heap.size = w.heap.size + 3 := by
  obtain ⟨h1, h2, h3, h4⟩ := news2 w a b
  exact ⟨by rw [old_at _ _ _ (by omega)]; exact h1, by rw [old_at _ _ _ (by omega)]; exact h2, new_at _ _ _ (by omega), h3.alloc (by omega) _, by simp⟩
theorem news4 (w : World) (a b c d : Obj) : ((((w.alloc a).alloc b).alloc c).alloc d).heap[w.heap.size]? = some a ∧ ((((w.alloc a).alloc b).alloc c).alloc d).heap[w.heap.size + 1]? = some b ∧ ((((w.alloc a).alloc b).alloc c).alloc d).heap[w.heap.size + 1 + 1]? = some c ∧
    ((((w.alloc a).alloc b).alloc c).alloc d).heap[w.heap.size + 1 + 1 + 1]? = some d ∧ Below w.heap.size w ((((w.alloc a).alloc b).alloc c).alloc d) ∧ ((((w.alloc a).alloc b).alloc c).alloc d).heap.size = w.heap.size + 4 := by
  obtain ⟨h1, h2, h3, h4, h5⟩ := news3 w a b c
  exact ⟨by rw [old_at _ _ _ (by omega)]; exact h1, by rw [old_at _ _ _ (by omega)]; exact h2, by rw [old_at _ _ _ (by omega)]; exact h3, new_at _ _ _ (by omega), h4.alloc (by omega) _, by simp⟩
end Go.Proofs.YthbkljeibmkimaaGreat


namespace Go.Proofs.YthbkljeibmkimaaGreat
set_option linter.unusedVariables false
set_option linter.unusedSimpArgs false

def cLt (l : List Int) (v : Int) : Nat := (l.filter fun x => decide (x < v)).length
def cEq (l : List Int) (v : Int) : Nat := (l.filter fun x => decide (x = v)).length
def IsKth (l : List Int) (k : Nat) (v : Int) : Prop := v ∈ l ∧ cLt l v ≤ k ∧ k < cLt l v + cEq l v
def lessL (l : List Int) (b : Int) : List Int := l.filter fun x => decide (x < b)
def moreL (l : List Int) (b : Int) : List Int := l.filter fun x => decide (b < x)

theorem cLt_cons (x : Int) (l : List Int) (v : Int) : cLt (x :: l) v = cLt l v + if x < v then 1 else 0 := by
  simp only [cLt, List.filter_cons]
  by_cases h : x < v <;> simp [h]
theorem cEq_cons (x : Int) (l : List Int) (v : Int) : cEq (x :: l) v = cEq l v + if x = v then 1 else 0 := by
  simp only [cEq, List.filter_cons]
  by_cases h : x = v <;> simp [h]
theorem cLt_mono (l : List Int) {u v : Int} (h : u < v) : cLt l u + cEq l u ≤ cLt l v := by
  induction l with
  | nil => simp [cLt, cEq]
  | cons x l ih =>
    rw [cLt_cons, cEq_cons, cLt_cons]
    by_cases h1 : x < u
    · have : x < v := by omega
      have : ¬ x = u := by omega
      simp [*]; omega
    · by_cases h2 : x = u
      · subst h2; simp [h]; omega
      · simp [h1, h2]; split <;> omega
theorem IsKth.unique {l : List Int} {k : Nat} {u v : Int} (h1 : IsKth l k u) (h2 : IsKth l k v) : u = v := by
  rcases Int.lt_trichotomy u v with h | h | h
  · have := cLt_mono l h; have := h1.2.2; have := h2.2.1; omega
  · exact h
  · have := cLt_mono l h; have := h2.2.2; have := h1.2.1; omega
theorem parts_len (l : List Int) (b : Int) : (lessL l b).length + cEq l b + (moreL l b).length = l.length := by
  induction l with
  | nil => simp [lessL, moreL, cEq]
  | cons x l ih =>
    rw [cEq_cons]
    simp only [lessL, moreL, List.filter_cons, List.length_cons] at ih ⊢
    rcases Int.lt_trichotomy x b with h | h | h
    · have h1 : ¬ x = b := by omega
      have h2 : ¬ b < x := by omega
      simp [h, h1, h2]; omega
    · subst h; simp; omega
    · have h1 : ¬ x = b := by omega
      have h2 : ¬ x < b := by omega
      simp [h, h1, h2]; omega
theorem cEq_pos {l : List Int} {b : Int} (h : b ∈ l) : 0 < cEq l b := by
  unfold cEq
  exact List.length_pos_of_mem (List.mem_filter.2 ⟨h, by simp⟩)
theorem kth_here {l : List Int} {b : Int} {k : Nat} (hb : b ∈ l) (h1 : (lessL l b).length ≤ k) (h2 : k < (lessL l b).length + cEq l b) : IsKth l k b := ⟨hb, h1, h2⟩
theorem less_counts (l : List Int) (b v : Int) (hv : v < b) : cLt (lessL l b) v = cLt l v ∧ cEq (lessL l b) v = cEq l v := by
  induction l with
  | nil => simp [lessL, cLt, cEq]
  | cons x l ih =>
    by_cases h : x < b
    · have e : lessL (x :: l) b = x :: lessL l b := by simp [lessL, h]
      rw [e, cLt_cons, cEq_cons, cLt_cons, cEq_cons, ih.1, ih.2]; simp
    · have e : lessL (x :: l) b = lessL l b := by simp [lessL, h]
      have h1 : ¬ x < v := by omega
      have h2 : ¬ x = v := by omega
      rw [e, cLt_cons, cEq_cons, ih.1, ih.2]; simp [h1, h2]
theorem more_counts (l : List Int) (b v : Int) (hv : b < v) : cLt l v = (lessL l b).length + cEq l b + cLt (moreL l b) v ∧ cEq (moreL l b) v = cEq l v := by
  induction l with
  | nil => simp [lessL, moreL, cLt, cEq]
  | cons x l ih =>
    rw [cLt_cons, cEq_cons, cEq_cons]
    rcases Int.lt_trichotomy x b with h | h | h
    · have e1 : lessL (x :: l) b = x :: lessL l b := by simp [lessL, h]
      have h3 : ¬ b < x := by omega
      have e2 : moreL (x :: l) b = moreL l b := by simp [moreL, h3]
      have h1 : x < v := by omega
      have h2 : ¬ x = v := by omega
      have h4 : ¬ x = b := by omega
      rw [e1, e2, ih.1, ih.2]; simp [h1, h2, h4]; omega
    · subst h
      have e1 : lessL (x :: l) x = lessL l x := by simp [lessL]
      have e2 : moreL (x :: l) x = moreL l x := by simp [moreL]
      have h2 : ¬ x = v := by omega
      rw [e1, e2, ih.1, ih.2]; simp [hv, h2]; omega
    · have h3 : ¬ x < b := by omega
      have e1 : lessL (x :: l) b = lessL l b := by simp [lessL, h3]
      have e2 : moreL (x :: l) b = x :: moreL l b := by simp [moreL, h]
      have h4 : ¬ x = b := by omega
      rw [e1, e2, cLt_cons, cEq_cons, ih.1, ih.2]; simp [h4]; omega
theorem kth_less {l : List Int} {b : Int} {k : Nat} {v : Int} (h : IsKth (lessL l b) k v) : IsKth l k v := by
  have hm := List.mem_filter.1 h.1
  have hv : v < b := by simpa using hm.2
  obtain ⟨c1, c2⟩ := less_counts l b v hv
  exact ⟨hm.1, by rw [← c1]; exact h.2.1, by rw [← c1, ← c2]; exact h.2.2⟩
theorem kth_more {l : List Int} {b : Int} {k : Nat} {v : Int} (h : IsKth (moreL l b) k v) : IsKth l (k + ((lessL l b).length + cEq l b)) v := by
  have hm := List.mem_filter.1 h.1
  have hv : b < v := by simpa using hm.2
  obtain ⟨c1, c2⟩ := more_counts l b v hv
  have := h.2.1
  have := h.2.2
  exact ⟨hm.1, by omega, by omega⟩
theorem IsKth.lt {l : List Int} {k : Nat} {v : Int} (h : IsKth l k v) : k < l.length := by
  have h1 := parts_len l v
  have : cLt l v = (lessL l v).length := rfl
  have := h.2.2
  omega
theorem kth_zero {l : List Int} {v : Int} (h : IsKth l 0 v) : v ∈ l ∧ ∀ x ∈ l, v ≤ x := by
  refine ⟨h.1, fun x hx => ?_⟩
  have h0 : cLt l v = 0 := by have := h.2.1; omega
  rcases Int.lt_or_le x v with hlt | hle
  · exfalso
    have : 0 < cLt l v := by
      unfold cLt
      exact List.length_pos_of_mem (List.mem_filter.2 ⟨hx, by simpa using hlt⟩)
    omega
  · exact hle
theorem kth_zero_of {l : List Int} {v : Int} (hm : v ∈ l) (h : ∀ x ∈ l, v ≤ x) : IsKth l 0 v := by
  have : cLt l v = 0 := by
    unfold cLt
    rw [List.length_eq_zero_iff, List.filter_eq_nil_iff]
    intro x hx
    have := h x hx
    simp; omega
  exact ⟨hm, by omega, by have := cEq_pos hm; omega⟩
end Go.Proofs.YthbkljeibmkimaaGreat


namespace Go.Proofs.YthbkljeibmkimaaGreat
open Go.RowKit
set_option linter.unusedVariables false
set_option linter.unusedSimpArgs false

def IntsAt (w : World) (v : Value) (zs : List Int) : Prop :=
  ∃ (ao : Option Addr) (cap : Nat), v = .slice ao zs.length cap ∧ zs.length ≤ cap ∧ (0 < zs.length → ∃ g, ao = some ⟨g, 0, none⟩ ∧ g < w.heap.size ∧ ∀ i u, zs[i]? = some u → w.cell? ⟨g, i, none⟩ = some (.int .i64 u))
theorem IntsAt.kept {w w' : World} {v : Value} {zs : List Int} (h : IntsAt w v zs) (hb : Below w.heap.size w w') : IntsAt w' v zs := by
  obtain ⟨ao, cap, e, hc, h⟩ := h
  refine ⟨ao, cap, e, hc, fun h0 => ?_⟩
  obtain ⟨g, e2, hg, hc⟩ := h h0
  exact ⟨g, e2, Nat.lt_of_lt_of_le hg hb.size, fun i u hu => (hb.cell (p := ⟨g, i, none⟩) hg).trans (hc i u hu)⟩
theorem IntsAt.drewN {w : World} {v : Value} {zs : List Int} (h : IntsAt w v zs) (n : Nat) : IntsAt (w.drewN n) v zs := h.kept (below_drewN (Below.refl _ _) n)
theorem IntsAt.of_row {w : World} {g : Nat} {t : TypeId} {n : Nat} {f : Nat → Int} (h : w.rowIs g t n (fun i => .int .i64 (f i))) : IntsAt w (.slice (some ⟨g, 0, none⟩) n n) ((List.range n).map f) := by
  refine ⟨some ⟨g, 0, none⟩, n, by simp, by simp, fun _ => ⟨g, rfl, h.lt, fun i u hu => ?_⟩⟩
  have hi : i < n := by
    have := (List.getElem?_eq_some_iff.1 hu).1
    simpa using this
  rw [h.cell hi]
  simp [hi] at hu
  rw [hu]
theorem IntsAt.of_own {w : World} {base : Nat} {e : TypeId} {v : Value} {n : Nat} {zs : List Int} (h : w.ownsRow base e 1 v n (zs.map (Value.int .i64))) (hn : zs.length = n) : IntsAt w v zs := by
  rcases h.2 with ⟨rfl, h0⟩ | ⟨g, cap, cur, rfl, hb, hg, hnc, hcm, hsz, htake⟩
  · subst h0
    exact ⟨none, 0, by rw [hn], by omega, fun h => by omega⟩
  · refine ⟨some ⟨g, 0, none⟩, cap, by rw [hn], by omega, fun _ => ⟨g, rfl, (Array.getElem?_eq_some_iff.1 hg).1, fun i u hu => ?_⟩⟩
    have hi : i < n := by
      have := (List.getElem?_eq_some_iff.1 hu).1
      omega
    rw [cell_of_row w g i cur e (0, 0) hg]
    have h2 : (cur.toList.take (n * 1))[i]? = (zs.map (Value.int .i64))[i]? := by rw [htake]
    rw [List.getElem?_take, if_pos (by omega)] at h2
    simp only [List.getElem?_map, hu, Option.map_some] at h2
    simpa using h2

theorem ret_boolq {a b : Bool} (h : a = b) : Ending.returned (.bool a) = .returned (.bool b) := by rw [h]

end Go.Proofs.YthbkljeibmkimaaGreat


namespace Go.Proofs.YthbkljeibmkimaaGreat
open Go.RowKit
set_option linter.unusedVariables false
set_option linter.unusedSimpArgs false

def Fit (zs : List Int) : Prop := ∀ u ∈ zs, -9223372036854775808 ≤ u ∧ u ≤ 9223372036854775807
theorem Fit.get {zs : List Int} (h : Fit zs) {i : Nat} {u : Int} (e : zs[i]? = some u) : -9223372036854775808 ≤ u ∧ u ≤ 9223372036854775807 := h u (List.mem_of_getElem? e)
theorem Fit.set {zs : List Int} (h : Fit zs) (i : Nat) {u : Int} (h0 : -9223372036854775808 ≤ u) (h1 : u ≤ 9223372036854775807) : Fit (zs.set i u) := by
  intro v hv
  rcases List.mem_or_eq_of_mem_set hv with hv | rfl
  · exact h v hv
  · exact ⟨h0, h1⟩
structure GridIs (w : World) (G C R W : Nat) (zs : List Int) : Prop where
  fields : ∃ cap : Nat, Blk w G 164 #[.int .i64 (R : Int), .int .i64 (W : Int), .slice (some ⟨C, 0, none⟩) (R * W) cap] ∧ R * W ≤ cap
  len : zs.length = R * W
  cells : ∃ cur : Array Value, Blk w C 2 cur ∧ ∀ (i : Nat) (u : Int), zs[i]? = some u → cur[i]? = some (Value.int .i64 u)
  rows : R ≤ 8
  width : W ≤ 128
  fit : Fit zs

theorem placeBd {R W r c : Nat} (hr : r < R) (hc : c < W) (hR : R ≤ 8) (hW : W ≤ 128) : r * W + c < R * W ∧ r * W ≤ 1024 ∧ R * W ≤ 1024 := by
  have h1 : (r + 1) * W ≤ R * W := Nat.mul_le_mul_right W hr
  have h2 : R * W ≤ 8 * 128 := Nat.mul_le_mul hR hW
  rw [Nat.add_mul] at h1
  omega
theorem ret_placeq {a b : Int} (h : a = b) : Ending.returned (.tuple #[.int .i64 a, .bool true]) = .returned (.tuple #[.int .i64 b, .bool true]) := by rw [h]

theorem place_in (w : World) (G C R W r c : Nat) (zs : List Int) (h : GridIs w G C R W zs) (hr : r < R) (hc : c < W) :
  Calls Tryz.prog 125 #[.pointer (some ⟨G, 0, none⟩), .int .i64 (r : Int), .int .i64 (c : Int)] w fun e w' => e = .returned (.tuple #[.int .i64 ((r * W + c : Nat) : Int), .bool true]) ∧ w = w' := by
 obtain ⟨b1, b2, b3⟩ := placeBd hr hc h.rows h.width
 have hR := h.rows
 have hW := h.width
 obtain ⟨cap, hb, _⟩ := h.fields
 have c0 := hb.cell 0
 have c1 := hb.cell 1
 simp at c0 c1
 clear h hb
 have d1 : decide ((r : Int) < 0) = false := decide_eq_false (by omega)
 have d2 : decide ((R : Int) ≤ (r : Int)) = false := decide_eq_false (by omega)
 have d3 : decide ((c : Int) < 0) = false := decide_eq_false (by omega)
 have d4 : decide ((W : Int) ≤ (c : Int)) = false := decide_eq_false (by omega)
 have hm0 : (r : Int) * (W : Int) = ((r * W : Nat) : Int) := by simp
 have hf : ((r * W + c : Nat) : Int) = ((r * W : Nat) : Int) + (c : Int) := by omega
 generalize ((r * W + c : Nat) : Int) = f at *
 generalize r * W = p at *
 have hm : (r : Int) * (W : Int) = (p : Int) := hm0
 clear hm0
 go_enter Tryz.func125, Tryz.ntmps125
 go_wp2
 go_ret2
 exact ⟨ret_placeq hf.symm, rfl⟩

theorem GridIs.ne {w : World} {G C R W : Nat} {zs : List Int} (h : GridIs w G C R W zs) : G ≠ C := by
  obtain ⟨cap, hb, _⟩ := h.fields
  obtain ⟨cur, hc, _⟩ := h.cells
  exact hb.ne_ hc (by decide)
theorem GridIs.ltG {w : World} {G C R W : Nat} {zs : List Int} (h : GridIs w G C R W zs) : G < w.heap.size := by
  obtain ⟨cap, hb, _⟩ := h.fields
  exact hb.lt
theorem GridIs.ltC {w : World} {G C R W : Nat} {zs : List Int} (h : GridIs w G C R W zs) : C < w.heap.size := by
  obtain ⟨cur, hc, _⟩ := h.cells
  exact hc.lt
theorem GridIs.below {w w' : World} {G C R W B : Nat} {zs : List Int} (h : GridIs w G C R W zs) (hb : Below B w w') (h1 : G < B) (h2 : C < B) : GridIs w' G C R W zs := by
  obtain ⟨cap, hg, hc⟩ := h.fields
  obtain ⟨cur, hcc, hcur⟩ := h.cells
  exact ⟨⟨cap, hg.below hb h1, hc⟩, h.len, ⟨cur, hcc.below hb h2, hcur⟩, h.rows, h.width, h.fit⟩
theorem GridIs.kept {w w' : World} {G C R W : Nat} {zs : List Int} (h : GridIs w G C R W zs) (hb : Below w.heap.size w w') : GridIs w' G C R W zs := h.below hb h.ltG h.ltC
theorem GridIs.grown {w w' : World} {G C R W : Nat} {zs : List Int} {row : Option Nat} (h : GridIs w G C R W zs) (hb : w.grownBy w' row) (h1 : some G ≠ row) (h2 : some C ≠ row) : GridIs w' G C R W zs := by
  obtain ⟨cap, hg, hc⟩ := h.fields
  obtain ⟨cur, hcc, hcur⟩ := h.cells
  exact ⟨⟨cap, hg.grown hb h1, hc⟩, h.len, ⟨cur, hcc.grown hb h2, hcur⟩, h.rows, h.width, h.fit⟩
theorem GridIs.far {w : World} {G C R W : Nat} {zs : List Int} {p : Addr} (h : GridIs w G C R W zs) (h1 : G ≠ p.block) (h2 : C ≠ p.block) (u : Value) : GridIs (w.setCell p u) G C R W zs := by
  obtain ⟨cap, hg, hc⟩ := h.fields
  obtain ⟨cur, hcc, hcur⟩ := h.cells
  exact ⟨⟨cap, hg.far h1 u, hc⟩, h.len, ⟨cur, hcc.far h2 u, hcur⟩, h.rows, h.width, h.fit⟩
theorem GridIs.drewN {w : World} {G C R W : Nat} {zs : List Int} (h : GridIs w G C R W zs) (n : Nat) : GridIs (w.drewN n) G C R W zs := h.kept (below_drewN (Below.refl _ _) n)
theorem GridIs.set {w : World} {G C R W : Nat} {zs : List Int} (h : GridIs w G C R W zs) (i : Nat) (u : Int) (u0 : -9223372036854775808 ≤ u) (u1 : u ≤ 9223372036854775807) : GridIs (w.setCell ⟨C, i, none⟩ (.int .i64 u)) G C R W (zs.set i u) := by
  have hne := h.ne
  obtain ⟨cap, hg, h1⟩ := h.fields
  obtain ⟨cur, hc, hcur⟩ := h.cells
  refine ⟨⟨cap, hg.far hne _, h1⟩, by simp [h.len], ⟨_, hc.set_ i _, fun j v hv => ?_⟩, h.rows, h.width, h.fit.set i u0 u1⟩
  have hj : j < zs.length := by
    have := (List.getElem?_eq_some_iff.1 hv).1
    simpa using this
  obtain ⟨z, hz⟩ : ∃ z, zs[j]? = some z := ⟨_, List.getElem?_eq_getElem hj⟩
  have hcj := hcur j z hz
  have hjc : j < cur.size := (Array.getElem?_eq_some_iff.1 hcj).1
  rw [List.getElem?_set] at hv
  rw [Array.getElem?_setIfInBounds]
  by_cases e : i = j
  · subst e
    simp [hj] at hv
    simp [hjc, hv]
  · simp [e] at hv ⊢
    exact hcur j v hv

theorem grown_set (w : World) (C i : Nat) (u : Value) : w.grownBy (w.setCell ⟨C, i, none⟩ u) (some C) :=
  ⟨rfl, rfl, rfl, by simp [World.setCell], fun k hk hne => Below.heap_setCell _ _ _ _ (by simpa using hne)⟩
def cellD (zs : List Int) (i : Nat) : Int := (zs[i]?).getD 0

theorem at_in (w : World) (G C R W r c : Nat) (zs : List Int) (h : GridIs w G C R W zs) (hr : r < R) (hc : c < W) :
    Calls Tryz.prog 122 #[.pointer (some ⟨G, 0, none⟩), .int .i64 (r : Int), .int .i64 (c : Int)] w fun e w' => e = .returned (.int .i64 (cellD zs (r * W + c))) ∧ w = w' := by
  obtain ⟨b1, b2, b3⟩ := placeBd hr hc h.rows h.width
  have h0 : 0 < R * W := by omega
  obtain ⟨cap, hb, hcap⟩ := h.fields
  obtain ⟨cur, hC, hcur⟩ := h.cells
  have c2 := hb.cell 2
  simp at c2
  have hz : zs[r * W + c]? = some (cellD zs (r * W + c)) := by
    have : r * W + c < zs.length := by rw [h.len]; omega
    simp [cellD, this]
  have cc := (hC.cell (r * W + c)).trans (hcur _ _ hz)
  have H := Lib.hid h
  clear h hb hC hcur hz h0
  have hlt : r * W + c < R * W := b1
  have PL := place_in w G C R W r c zs H.out hr hc
  clear hr hc b2
  generalize cellD zs (r * W + c) = z at *
  generalize r * W + c = f at *
  generalize R * W = n at *
  go_enter Tryz.func122, Tryz.ntmps122
  go_wp2_with (go_at_call 125; refine PL.mono ?_; rintro e w' ⟨rfl, rfl⟩)
  go_ret
  exact ⟨rfl, rfl⟩
theorem put_in (w : World) (G C R W r c : Nat) (u : Int) (zs : List Int) (h : GridIs w G C R W zs) (hr : r < R) (hc : c < W) :
    Calls Tryz.prog 123 #[.pointer (some ⟨G, 0, none⟩), .int .i64 (r : Int), .int .i64 (c : Int), .int .i64 u] w fun e w' => e = .returned (.bool true) ∧ w' = w.setCell ⟨C, r * W + c, none⟩ (.int .i64 u) := by
  obtain ⟨b1, b2, b3⟩ := placeBd hr hc h.rows h.width
  have h0 : 0 < R * W := by omega
  obtain ⟨cap, hb, hcap⟩ := h.fields
  obtain ⟨cur, hC, hcur⟩ := h.cells
  have c2 := hb.cell 2
  simp at c2
  have hz : zs[r * W + c]? = some (cellD zs (r * W + c)) := by
    have : r * W + c < zs.length := by rw [h.len]; omega
    simp [cellD, this]
  have cc := (hC.cell (r * W + c)).trans (hcur _ _ hz)
  have hfz := hC.frozen (r * W + c)
  have H := Lib.hid h
  clear h hb hC hcur hz h0
  have hlt : r * W + c < R * W := b1
  have PL := place_in w G C R W r c zs H.out hr hc
  clear hr hc b2
  generalize cellD zs (r * W + c) = z at *
  generalize r * W + c = f at *
  generalize R * W = n at *
  go_enter Tryz.func123, Tryz.ntmps123
  go_wp2_with (go_at_call 125; refine PL.mono ?_; rintro e w' ⟨rfl, rfl⟩)
  go_ret
  exact ⟨rfl, rfl⟩
end Go.Proofs.YthbkljeibmkimaaGreat


namespace Go.Proofs.YthbkljeibmkimaaGreat
open Go.RowKit
set_option linter.unusedVariables false
set_option linter.unusedSimpArgs false

def clampN (n : Int) (top : Nat) : Nat := min n.toNat top
theorem clampN_le (n : Int) (top : Nat) : clampN n top ≤ top := Nat.min_le_right _ _

theorem rows_any (w : World) (G C R W : Nat) (zs : List Int) (h : GridIs w G C R W zs) :
    Calls Tryz.prog 149 #[.pointer (some ⟨G, 0, none⟩)] w fun e w' => e = .returned (.int .i64 (R : Int)) ∧ w' = w := by
  obtain ⟨cap, hb, _⟩ := h.fields
  have c0 := hb.cell 0
  simp at c0
  clear h hb
  go_enter Tryz.func149, Tryz.ntmps149
  go_wp2
  go_ret
  exact ⟨rfl, rfl⟩
theorem width_any (w : World) (G C R W : Nat) (zs : List Int) (h : GridIs w G C R W zs) :
    Calls Tryz.prog 120 #[.pointer (some ⟨G, 0, none⟩)] w fun e w' => e = .returned (.int .i64 (W : Int)) ∧ w' = w := by
  obtain ⟨cap, hb, _⟩ := h.fields
  have c0 := hb.cell 1
  simp at c0
  clear h hb
  go_enter Tryz.func120, Tryz.ntmps120
  go_wp2
  go_ret
  exact ⟨rfl, rfl⟩

theorem Tryz.info64 : (Tryz.prog.info? 2).map (fun i => (i.zero, i.size, i.bytes)) = some (some (.int .i64 0), 1, 8) := by kernel_rfl

def NewPost (w : World) (R W : Nat) (e : Ending) (w' : World) : Prop :=
  ∃ G C, e = .returned (.pointer (some ⟨G, 0, none⟩)) ∧ w.heap.size ≤ G ∧ w.heap.size ≤ C ∧ GridIs w' G C R W (List.replicate (R * W) 0) ∧ Below w.heap.size w w'

set_option maxRecDepth 100000 in
theorem new_any (r c : Int) (w : World) : Calls Tryz.prog 64 #[.int .i64 r, .int .i64 c] w (NewPost w (clampN r 8) (clampN c 128)) := by
 have hr := clampN_le r 8
 have hc := clampN_le c 128
 obtain ⟨mr, er⟩ : ∃ m, (if r < 0 then 0 else r) = m := ⟨_, rfl⟩
 obtain ⟨mc, ec⟩ : ∃ m, (if c < 0 then 0 else c) = m := ⟨_, rfl⟩
 have fr : (if 8 < mr then 8 else mr) = (clampN r 8 : Int) := by simp only [clampN]; split at er <;> split <;> omega
 have fc : (if 128 < mc then 128 else mc) = (clampN c 128 : Int) := by simp only [clampN]; split at ec <;> split <;> omega
 generalize clampN r 8 = R at *
 generalize clampN c 128 = W at *
 obtain ⟨n, hn⟩ : ∃ n, n = R * W := ⟨_, rfl⟩
 have hm : (R : Int) * (W : Int) = (n : Int) := by simp [hn]
 have hp : n ≤ 1024 := by rw [hn]; exact Nat.mul_le_mul hr hc
 have HN := Lib.hid hn
 clear hn
 have hmk := fun W => run_make_row' (P := Tryz.prog) 54 2 (.int .i64 0) 8 Tryz.underlying54 Tryz.info64 rfl .i64 .i64 n (by omega) (by omega) W
 go_enter Tryz.func64, Tryz.ntmps64
 go_wp2_with fail
 go_ret
 have hn := HN.out
 refine ⟨w.heap.size + 1, w.heap.size, rfl, by omega, by omega, ⟨⟨n, ?_, by omega⟩, by simp, ⟨madeCells #[.int .i64 0] n, (Blk.new _ _ _).alloc _, fun i u hi => ?_⟩, hr, hc, fun u hu => by simp at hu; omega⟩, ((Below.refl _ _).alloc (Nat.le_refl _) _).alloc (by simp) _⟩
 ·have := Blk.new (w.alloc (.cells (madeCells #[.int .i64 0] n) 2)) 164 #[.int .i64 (R : Int), .int .i64 (W : Int), .slice (some ⟨w.heap.size, 0, none⟩) n n]
  rw [← hn]
  simpa using this
 ·have hin : i < n := by
   have := (List.getElem?_eq_some_iff.1 hi).1
   simp at this
   omega
  have hu : u = 0 := by
   have := List.mem_of_getElem? hi
   simp at this
   exact this.2
  subst hu
  have h1 := (World.rowIs_made w (.int .i64 0) n 2).cell hin
  rw [(Blk.new w 2 (madeCells #[.int .i64 0] n)).cell i] at h1
  exact h1
end Go.Proofs.YthbkljeibmkimaaGreat


namespace Go.Proofs.YthbkljeibmkimaaGreat
open Go.RowKit
set_option linter.unusedVariables false
set_option linter.unusedSimpArgs false

theorem own_row {w : World} {base : Nat} {v : Value} {zs : List Int} (h : w.ownsRow base 2 1 v zs.length (zs.map (Value.int .i64))) (hv : v ≠ .slice none 0 0) :
    ∃ g cap, v = .slice (some ⟨g, 0, none⟩) zs.length cap ∧ base ≤ g ∧ zs.length ≤ cap ∧ ∃ cur : Array Value, Blk w g 2 cur ∧ ∀ (i : Nat) (u : Int), zs[i]? = some u → cur[i]? = some (Value.int .i64 u) := by
  rcases h.2 with ⟨rfl, h0⟩ | ⟨g, cap, cur, rfl, hb, hg, hnc, hcm, hsz, htake⟩
  · exact absurd rfl hv
  · refine ⟨g, cap, rfl, hb, hnc, cur, hg, fun i u hu => ?_⟩
    have hi : i < zs.length := (List.getElem?_eq_some_iff.1 hu).1
    have h2 : (cur.toList.take (zs.length * 1))[i]? = (zs.map (Value.int .i64))[i]? := by rw [htake]
    rw [List.getElem?_take, if_pos (by omega)] at h2
    simp only [List.getElem?_map, hu, Option.map_some] at h2
    simpa using h2

end Go.Proofs.YthbkljeibmkimaaGreat


namespace Go.Proofs.YthbkljeibmkimaaGreat
open Go.RowKit
set_option linter.unusedVariables false
set_option linter.unusedSimpArgs false

def digit (x : Int) (i : Nat) : Int := x / 65536 ^ i % 65536
theorem digit_bd (x : Int) (i : Nat) : 0 ≤ digit x i ∧ digit x i ≤ 65535 := by unfold digit; omega
theorem pw_pos (i : Nat) : (0 : Int) < 65536 ^ i := Int.pow_pos (by decide)

def lows (x : Int) (j : Nat) : Int := x % 65536 ^ j
theorem lows_bd (x : Int) (j : Nat) : 0 ≤ lows x j ∧ lows x j < 65536 ^ j :=
  ⟨Int.emod_nonneg _ (by have := pw_pos j; omega), Int.emod_lt_of_pos _ (pw_pos j)⟩
theorem split_at (x : Int) (j : Nat) : x = 65536 ^ j * (x / 65536 ^ j) + lows x j := (Int.mul_ediv_add_emod x _).symm
theorem div_next (x : Int) (j : Nat) : x / 65536 ^ (j + 1) = x / 65536 ^ j / 65536 := by
  rw [Int.pow_succ, Int.ediv_ediv_of_nonneg (by have := pw_pos j; omega)]
theorem lows_succ (x : Int) (j : Nat) : lows x (j + 1) = lows x j + 65536 ^ j * digit x j := by
  have h1 := split_at x j
  have h2 := split_at x (j + 1)
  have h3 : x / 65536 ^ j = 65536 * (x / 65536 ^ j / 65536) + digit x j := (Int.mul_ediv_add_emod _ _).symm
  rw [div_next, Int.pow_succ] at h2
  have h4 : (65536 : Int) ^ j * (x / 65536 ^ j) = 65536 ^ j * 65536 * (x / 65536 ^ j / 65536) + 65536 ^ j * digit x j := by
    conv => lhs; rw [h3]
    rw [Int.mul_add, ← Int.mul_assoc]
  omega
theorem lows_zero (x : Int) : lows x 0 = 0 := by simp [lows, Int.emod_one]

def carryI (x y : Int) (j : Nat) : Int := (lows x j + lows y j) / 65536 ^ j
theorem carryI_bd (x y : Int) (j : Nat) : 0 ≤ carryI x y j ∧ carryI x y j ≤ 1 := by
  have hp := pw_pos j
  have h1 := lows_bd x j
  have h2 := lows_bd y j
  refine ⟨Int.ediv_nonneg (by omega) (by omega), ?_⟩
  have : carryI x y j < 2 := Int.ediv_lt_of_lt_mul hp (by omega)
  omega
theorem carryI_zero (x y : Int) : carryI x y 0 = 0 := by simp [carryI, lows_zero]
theorem carryI_succ (x y : Int) (j : Nat) : carryI x y (j + 1) = (digit x j + digit y j + carryI x y j) / 65536 := by
  have hp := pw_pos j
  unfold carryI
  rw [lows_succ, lows_succ, Int.pow_succ, ← Int.ediv_ediv_of_nonneg (by omega)]
  congr 1
  rw [show lows x j + 65536 ^ j * digit x j + (lows y j + 65536 ^ j * digit y j) = (lows x j + lows y j) + 65536 ^ j * (digit x j + digit y j) by rw [Int.mul_add]; omega,
    Int.add_mul_ediv_left _ _ (by omega)]
  omega
theorem digit_add (x y : Int) (j : Nat) : digit (x + y) j = (digit x j + digit y j + carryI x y j) % 65536 := by
  have hp := pw_pos j
  have h1 := split_at x j
  have h2 := split_at y j
  have h3 : (x + y) / 65536 ^ j = x / 65536 ^ j + y / 65536 ^ j + carryI x y j := by
    conv => lhs; rw [h1, h2]
    rw [show 65536 ^ j * (x / 65536 ^ j) + lows x j + (65536 ^ j * (y / 65536 ^ j) + lows y j) = (lows x j + lows y j) + 65536 ^ j * (x / 65536 ^ j + y / 65536 ^ j) by rw [Int.mul_add]; omega,
      Int.add_mul_ediv_left _ _ (by omega)]
    unfold carryI
    omega
  unfold digit
  rw [h3]
  omega
theorem digit_not (x : Int) (j : Nat) : digit (-1 - x) j = 65535 - digit x j := by
  have hp := pw_pos j
  have h1 := split_at x j
  have h2 := lows_bd x j
  have h3 : (-1 - x) / 65536 ^ j = -1 - x / 65536 ^ j := by
    have e : -1 - x = (65536 ^ j - 1 - lows x j) + 65536 ^ j * (-1 - x / 65536 ^ j) := by
      rw [Int.mul_sub]
      omega
    rw [e, Int.add_mul_ediv_left _ _ (by omega), Int.ediv_eq_zero_of_lt (by omega) (by omega)]
    omega
  unfold digit
  rw [h3]
  omega

def dig (x : Int) : List Int := (List.range 10).map (digit x)
theorem dig_len (x : Int) : (dig x).length = 10 := by simp [dig]
theorem dig_get (x : Int) (i : Nat) (h : i < 10) : (dig x)[i]? = some (digit x i) := by simp [dig, h]
theorem lows_of_dig {x y : Int} (h : dig x = dig y) (j : Nat) (hj : j ≤ 10) : lows x j = lows y j := by
  induction j with
  | zero => rw [lows_zero, lows_zero]
  | succ j ih =>
    rw [lows_succ, lows_succ, ih (by omega)]
    have h1 := dig_get x j (by omega)
    rw [h, dig_get y j (by omega)] at h1
    rw [Option.some.inj h1]
theorem dig_inj {x y : Int} (h : dig x = dig y) : x % 1461501637330902918203684832716283019655932542976 = y % 1461501637330902918203684832716283019655932542976 := by
  have := lows_of_dig h 10 (Nat.le_refl _)
  simpa [lows] using this

def low64 (x : Int) : Int := wrap64 (x % 18446744073709551616)
theorem low64_bd (x : Int) : -9223372036854775808 ≤ low64 x ∧ low64 x ≤ 9223372036854775807 := by unfold low64 wrap64; omega
theorem low64_fit {x : Int} (x0 : -9223372036854775808 ≤ x) (x1 : x ≤ 9223372036854775807) : low64 x = x := by unfold low64 wrap64; omega
theorem dig_low64_ne {x : Int} (h0 : -365375409332725729550921208179070754913983135744 ≤ x) (h1 : x ≤ 365375409332725729550921208179070754913983135744) (h : ¬ (-9223372036854775808 ≤ x ∧ x ≤ 9223372036854775807)) : ¬ dig (low64 x) = dig x := by
  intro e
  have h2 := dig_inj e
  have h3 := low64_bd x
  omega

theorem and_lo16 (a : Int) (h0 : 0 ≤ a) (h1 : a ≤ 18446744073709551615) : bits BinOp.and IntKind.u64 a 65535 = a % 65536 := by
  have h := u64_and a 65535 h0 (by omega) (by omega) (by omega)
  rw [h]
  have : (65535 : Int).toNat = 2 ^ 16 - 1 := by decide +kernel
  rw [this, Nat.and_two_pow_sub_one_eq_mod]
  have e : ((a.toNat % 2 ^ 16 : Nat) : Int) = (a.toNat : Int) % 65536 := by
    rw [Int.natCast_emod]; rfl
  rw [e, Int.toNat_of_nonneg h0]
theorem or_at (S d : Int) (i : Nat) (h0 : 0 ≤ S) (h1 : S < 2 ^ i) (d0 : 0 ≤ d) (ht : 2 ^ i * d < 18446744073709551616) (hi : (2 : Int) ^ i < 18446744073709551616) : bits BinOp.or IntKind.u64 S (d * 2 ^ i) = S + 2 ^ i * d := by
  obtain ⟨s, rfl⟩ := Int.eq_ofNat_of_zero_le h0
  obtain ⟨e, rfl⟩ := Int.eq_ofNat_of_zero_le d0
  have c1 : ((2 ^ i : Nat) : Int) = (2 : Int) ^ i := Int.natCast_pow ..
  have c2 : ((2 ^ i * e : Nat) : Int) = (2 : Int) ^ i * (e : Int) := by rw [Int.natCast_mul, c1]
  have hs : s < 2 ^ i := by omega
  rw [Int.mul_comm, ← c2, u64_or_nat _ _ (by omega) (by omega), Nat.or_comm, ← Nat.two_pow_add_eq_or_of_lt hs]
  omega
theorem wrapI_eq64 (x : Int) : IntKind.i64.wrap x = wrap64 x := by
  simp [IntKind.wrap, IntKind.bits, IntKind.signed]; unfold wrap64; split <;> omega
theorem wrapU_mod (x : Int) : IntKind.u64.wrap x = x % 18446744073709551616 := by simp [IntKind.wrap, IntKind.bits, IntKind.signed]
theorem wrap64_small (x : Int) (h0 : 0 ≤ x) (h1 : x ≤ 65535) : wrap64 x = x := by unfold wrap64; omega
theorem ofd0 (n : Int) : wrap64 (bits BinOp.and IntKind.u64 (IntKind.u64.wrap n) 65535) = digit n 0 := by
  rw [wrapU_mod, and_lo16 _ (by omega) (by omega), wrap64_small _ (by omega) (by omega)]
  unfold digit; simp
theorem ofd1 (n : Int) : wrap64 (bits BinOp.and IntKind.u64 (IntKind.u64.wrap n / 65536) 65535) = digit n 1 := by
  rw [wrapU_mod, and_lo16 _ (by omega) (by omega), wrap64_small _ (by omega) (by omega)]
  unfold digit; simp; omega
theorem ofd2 (n : Int) : wrap64 (bits BinOp.and IntKind.u64 (IntKind.u64.wrap n / 4294967296) 65535) = digit n 2 := by
  rw [wrapU_mod, and_lo16 _ (by omega) (by omega), wrap64_small _ (by omega) (by omega)]
  unfold digit; simp; omega
theorem ofd3 (n : Int) : wrap64 (bits BinOp.and IntKind.u64 (IntKind.u64.wrap n / 281474976710656) 65535) = digit n 3 := by
  rw [wrapU_mod, and_lo16 _ (by omega) (by omega), wrap64_small _ (by omega) (by omega)]
  unfold digit; simp; omega
theorem digit_hi (n : Int) (n0 : -9223372036854775808 ≤ n) (n1 : n ≤ 9223372036854775807) (j : Nat) (hj : 4 ≤ j) : digit n j = if n < 0 then 65535 else 0 := by
  have hp : (18446744073709551616 : Int) ≤ 65536 ^ j := by
    obtain ⟨k, rfl⟩ : ∃ k, j = 4 + k := ⟨j - 4, by omega⟩
    rw [Int.pow_add]
    have := pw_pos k
    have : (65536 : Int) ^ 4 * 1 ≤ 65536 ^ 4 * 65536 ^ k := Int.mul_le_mul_of_nonneg_left (by omega) (by decide)
    omega
  unfold digit
  split
  · have : n / 65536 ^ j = -1 := by
      have h1 := split_at n j
      have h2 := lows_bd n j
      have h3 : n / 65536 ^ j < 0 := Int.ediv_neg_of_neg_of_pos (by omega) (by omega)
      have h4 : -1 ≤ n / 65536 ^ j := Int.le_ediv_of_mul_le (by omega) (by omega)
      omega
    rw [this]; rfl
  · rw [Int.ediv_eq_zero_of_lt (by omega) (by omega)]; rfl

theorem lor0 (x : Int) : bits BinOp.or IntKind.u64 (lows x 0) (digit x 0) = lows x 1 := by
  have h1 := lows_bd x 0; have h2 := digit_bd x 0
  have := or_at (lows x 0) (digit x 0) 0 (by omega) (by simpa using h1.2) (by omega) (by simp; omega) (by decide)
  rw [lows_succ]; simpa using this
theorem lor1 (x : Int) : bits BinOp.or IntKind.u64 (lows x 1) (digit x 1 * 65536) = lows x 2 := by
  have h1 := lows_bd x 1; have h2 := digit_bd x 1
  have := or_at (lows x 1) (digit x 1) 16 (by omega) (by simpa using h1.2) (by omega) (by simp; omega) (by decide)
  rw [lows_succ x 1]; simpa using this
theorem lor2 (x : Int) : bits BinOp.or IntKind.u64 (lows x 2) (digit x 2 * 4294967296) = lows x 3 := by
  have h1 := lows_bd x 2; have h2 := digit_bd x 2
  have := or_at (lows x 2) (digit x 2) 32 (by omega) (by simpa using h1.2) (by omega) (by simp; omega) (by decide)
  rw [lows_succ x 2]; simpa using this
theorem lor3 (x : Int) : bits BinOp.or IntKind.u64 (lows x 3) (digit x 3 * 281474976710656) = lows x 4 := by
  have h1 := lows_bd x 3; have h2 := digit_bd x 3
  have := or_at (lows x 3) (digit x 3) 48 (by omega) (by simpa using h1.2) (by omega) (by simp; omega) (by decide)
  rw [lows_succ x 3]; simpa using this
theorem low64_lows (x : Int) : wrap64 (lows x 4) = low64 x := by unfold low64 lows; rfl

def intsV (l : List Int) : Array Value := (l.map (Value.int .i64)).toArray
theorem intsV_get (l : List Int) (i : Nat) : (intsV l)[i]? = (l[i]?).map (Value.int .i64) := by simp [intsV]
theorem intsV_size (l : List Int) : (intsV l).size = l.length := by simp [intsV]
def longA (x : Int) : Array Value := intsV (dig x)
theorem longA_size (x : Int) : (longA x).size = 10 := by rw [longA, intsV_size, dig_len]
theorem longA_get (x : Int) (i : Nat) (h : i < 10) : (longA x)[i]? = some (.int .i64 (digit x i)) := by rw [longA, intsV_get, dig_get x i h]; rfl

theorem Blk.of_row {w : World} {b : Nat} {t : TypeId} {f : Nat → Value} {cs : Array Value} (h : w.rowIs b t cs.size f) (e : ∀ i, i < cs.size → cs[i]? = some (f i)) : Blk w b t cs := by
  obtain ⟨c, hb, hn, hc⟩ := h
  have : c = cs := by
    apply Array.ext_getElem?
    intro i
    by_cases hi : i < cs.size
    · rw [hc i hi, e i hi]
    · rw [Array.getElem?_eq_none (by omega), Array.getElem?_eq_none (by omega)]
  rw [← this]
  exact hb
theorem Blk.row {w : World} {b : Nat} {t : TypeId} {f : Nat → Value} {cs : Array Value} (h : Blk w b t cs) (e : ∀ i, i < cs.size → cs[i]? = some (f i)) : w.rowIs b t cs.size f := ⟨cs, h, rfl, e⟩

def RowUpTo (w : World) (b : Nat) (t : TypeId) (n : Nat) (f : Nat → Int) (j : Nat) : Prop := ∃ g : Nat → Int, w.rowIs b t n (fun k => .int .i64 (g k)) ∧ ∀ k, k < j → g k = f k
section
variable {w w' : World} {b : Nat} {t : TypeId} {n : Nat} {f : Nat → Int} {j : Nat}
theorem RowUpTo.any (h : RowUpTo w b t n f j) (v : Int) : RowUpTo (w.setCell ⟨b, j, none⟩ (.int .i64 v)) b t n f j := by
  obtain ⟨g, h1, h2⟩ := h
  refine ⟨fun k => if k = j then v else g k, (h1.set j _).congr (fun k _ => by by_cases e : k = j <;> simp [e]), fun k hk => ?_⟩
  show (if k = j then v else g k) = f k
  rw [if_neg (by omega)]; exact h2 k hk
theorem RowUpTo.put (h : RowUpTo w b t n f j) {v : Int} (hv : v = f j) : RowUpTo (w.setCell ⟨b, j, none⟩ (.int .i64 v)) b t n f (j + 1) := by
  obtain ⟨g, h1, h2⟩ := h
  refine ⟨fun k => if k = j then v else g k, (h1.set j _).congr (fun k _ => by by_cases e : k = j <;> simp [e]), fun k hk => ?_⟩
  show (if k = j then v else g k) = f k
  by_cases e : k = j
  · subst e; rw [if_pos rfl, hv]
  · rw [if_neg e]; exact h2 k (by omega)
theorem RowUpTo.lt (h : RowUpTo w b t n f j) : b < w.heap.size := by obtain ⟨g, h1, _⟩ := h; exact h1.lt
theorem RowUpTo.far (h : RowUpTo w b t n f j) {p : Addr} (hp : b ≠ p.block) (u : Value) : RowUpTo (w.setCell p u) b t n f j := by obtain ⟨g, h1, h2⟩ := h; exact ⟨g, h1.setOther hp u, h2⟩
theorem RowUpTo.kept (h : RowUpTo w b t n f j) (hb : Below w.heap.size w w') : RowUpTo w' b t n f j := by obtain ⟨g, h1, h2⟩ := h; exact ⟨g, h1.of_block (hb.block b h1.lt), h2⟩
theorem RowUpTo.drewN (h : RowUpTo w b t n f j) (q : Nat) : RowUpTo (w.drewN q) b t n f j := by obtain ⟨g, h1, h2⟩ := h; exact ⟨g, h1, h2⟩
theorem RowUpTo.cell (h : RowUpTo w b t n f j) {i : Nat} (hi : i < n) : ∃ v : Int, w.cell? ⟨b, i, none⟩ = some (.int .i64 v) := by obtain ⟨g, h1, h2⟩ := h; exact ⟨_, h1.cell hi⟩
theorem RowUpTo.frozen (h : RowUpTo w b t n f j) (i : Nat) : w.frozen? ⟨b, i, none⟩ = false := by obtain ⟨g, h1, h2⟩ := h; exact h1.frozen i
theorem RowUpTo.zeros (h : w.rowIs b t n (fun _ => .int .i64 0)) (f : Nat → Int) : RowUpTo w b t n f 0 := ⟨fun _ => 0, h, fun k hk => by omega⟩
theorem RowUpTo.full (h : RowUpTo w b t n f n) : w.rowIs b t n (fun k => .int .i64 (f k)) := by
  obtain ⟨g, h1, h2⟩ := h
  exact h1.congr (fun k hk => by rw [h2 k hk])
end

section
variable {P : Program}
theorem run_eqItems_ints (d : Nat) {e : TypeId} {k : IntKind} (hu : P.underlying e = some (.int k)) (xs ys : List Int) (w : World) :
  ∀ (is : List Nat), (∀ i ∈ is, i < xs.length ∧ i < ys.length) → (Op.eqItems (d + 1) e 1 (intsV xs) (intsV ys) is).run P w = .ok (is.all fun i => xs[i]? == ys[i]?) w := by
 have hagg : (isAgg e).run P w = .ok false w := by
  unfold isAgg
  rw [Sem.run_bind, run_underlying hu w]
  rfl
 have hp : ∀ (l : List Int) (i : Nat), i < l.length → (part e (intsV l) i).run P w = .ok (.int .i64 (l[i]?.getD 0)) w := by
  intro l i hi
  unfold part
  rw [Sem.run_bind, hagg]
  simp [intsV_get, hi]
 intro is
 induction is with
 | nil => intro _; simp [Op.eqItems]
 | cons i is ih =>
  intro h
  obtain ⟨hx, hy⟩ := h i (by simp)
  have ih := ih (fun j hj => h j (by simp [hj]))
  simp only [Op.eqItems, Sem.run_bind, Nat.mul_one, hp xs i hx, hp ys i hy, Result.andThen_ok, run_equalIn_int w d e .i64 k _ _ hu]
  have e1 : xs[i]? = some xs[i] := List.getElem?_eq_getElem hx
  have e2 : ys[i]? = some ys[i] := List.getElem?_eq_getElem hy
  simp only [e1, e2, Option.getD_some, List.all_cons]
  by_cases e3 : xs[i] = ys[i]
  ·simp [e3, ih]
  ·simp [e3]
end
section
variable {P : Program}
theorem all_eq_iff (xs ys : List Int) (hl : xs.length = ys.length) : ((List.range xs.length).all fun i => xs[i]? == ys[i]?) = decide (xs = ys) := by
  rw [Bool.eq_iff_iff]
  simp only [List.all_eq_true, List.mem_range, beq_iff_eq, decide_eq_true_eq]
  constructor
  · intro h
    apply List.ext_getElem?
    intro i
    by_cases hi : i < xs.length
    · exact h i hi
    · rw [List.getElem?_eq_none (by omega), List.getElem?_eq_none (by omega)]
  · rintro rfl i _; rfl
theorem run_equalIn_ints (d : Nat) {t e : TypeId} {n : Nat} {k : IntKind} {i : TypeInfo} (hu : P.underlying t = some (.array n e)) (hue : P.underlying e = some (.int k)) (hi : P.info? e = some i) (hc : P.cellsOf e = 1)
    (xs ys : List Int) (hx : xs.length = n) (hy : ys.length = n) (w : World) :
    (Op.equalIn (d + 2) t (.agg (intsV xs)) (.agg (intsV ys))).run P w = .ok (decide (xs = ys)) w := by
  rw [run_equalIn_array w (d + 1) (intsV xs) (intsV ys) hu hi, hc, run_eqItems_ints d hue xs ys w _ (fun i hi => by rw [List.mem_range] at hi; omega), ← hx, all_eq_iff xs ys (by omega)]
theorem exec_load_row {o : Oper} {a : Act} {w : World} (ty : TypeId) (x : Operand) (ho : o.op = .load ty x)
    (g : Nat) (hx : a.eval x = .pointer (some ⟨g, 0, none⟩)) (t : TypeId) (cs : Array Value) (fr : Nat × Nat) (d : TypeDesc) (hg : w.heap[g]? = some (.cells cs t fr))
    (hu : P.underlying ty = some d) (hd : (match d with | .struct _ | .array _ _ => true | _ => false) = true) (hi : (P.info? ty).map (·.size) = some cs.size) :
    (execOp a.eval o).run P w = .ok (.value (.agg cs)) w := by
  unfold execOp
  simp only [ho, hx, Instr.loadAt, Instr.sureAddr, Sem.run_bind, Sem.run_pure, Result.andThen_ok, run_loadVar_row w g t ty cs fr d hg hu hd hi]
end
end Go.Proofs.YthbkljeibmkimaaGreat


namespace Go.Proofs.YthbkljeibmkimaaGreat
open Go.RowKit
set_option linter.unusedVariables false
set_option linter.unusedSimpArgs false

theorem Blk.setRow_same {w : World} {g : Nat} {t : TypeId} {cs : Array Value} (h : Blk w g t cs) : w.setRow g cs = w := by
  have h2 : (w.setRow g cs).heap = w.heap := by
    apply Array.ext_getElem?
    intro i
    unfold World.setRow
    simp only
    rw [Array.getElem?_modify]
    by_cases e : g = i
    · subst e
      unfold Blk at h
      simp [h]
    · simp [e]
  calc w.setRow g cs = { w with heap := (w.setRow g cs).heap } := rfl
    _ = w := by rw [h2]
theorem grown_cell_far (w : World) (p : Addr) (u : Value) {g : Nat} (h : g ≠ p.block) (i : Nat) : (w.setCell p u).cell? ⟨g, i, none⟩ = w.cell? ⟨g, i, none⟩ := by
  have hg : w.grownBy (w.setCell p u) (some p.block) := ⟨rfl, rfl, rfl, by simp [World.setCell], fun k hk hne => Below.heap_setCell _ _ _ _ (by simpa using hne)⟩
  cases hc : w.cell? ⟨g, i, none⟩ with
  | some x => exact hg.cell hc (by simpa using h)
  | none => simp only [World.cell?] at hc ⊢; rw [Below.heap_setCell _ _ _ _ h]; exact hc
theorem IntsAt.far {w : World} {v : Value} {zs : List Int} {p : Addr} (h : IntsAt w v zs) (hne : v.ownBlock ≠ some p.block) (u : Value) : IntsAt (w.setCell p u) v zs := by
  obtain ⟨ao, cap, rfl, hc, h⟩ := h
  refine ⟨ao, cap, rfl, hc, fun h0 => ?_⟩
  obtain ⟨g, rfl, hg, hc⟩ := h h0
  have hne : g ≠ p.block := fun e => hne (by simp [Value.ownBlock, e])
  exact ⟨g, rfl, by simpa [World.setCell] using hg, fun i u' hu => (grown_cell_far w p u hne i).trans (hc i u' hu)⟩
theorem results_row2_tmp {P : Program} {fn : Func} {p q u : Tmp} {ty : TypeId} (h : fn.results = #[.cell p ty, .cell q ty, .tmp u]) (tmps : Array Value) (w : World) (g g' : Nat) (t t' : TypeId) (cs cs' : Array Value) (fr fr' : Nat × Nat) (d : TypeDesc)
    (hp : tmps.getD p undef = .pointer (some ⟨g, 0, none⟩)) (hq : tmps.getD q undef = .pointer (some ⟨g', 0, none⟩)) (hg : w.heap[g]? = some (.cells cs t fr)) (hg' : w.heap[g']? = some (.cells cs' t' fr'))
    (hu : P.underlying ty = some d) (hd : (match d with | .struct _ | .array _ _ => true | _ => false) = true) (hi : (P.info? ty).map (·.size) = some cs.size) (hi' : (P.info? ty).map (·.size) = some cs'.size) :
    (results fn tmps).run P w = .ok (.tuple #[.agg cs, .agg cs', tmps.getD u undef]) w := by
  have hp' : tmps[p]?.getD undef = .pointer (some ⟨g, 0, none⟩) := by simpa using hp
  have hq' : tmps[q]?.getD undef = .pointer (some ⟨g', 0, none⟩) := by simpa using hq
  simp [results, h, hp', hq', asAddr, run_loadVar_row w g t ty cs fr d hg hu hd hi, run_loadVar_row w g' t' ty cs' fr' d hg' hu hd hi']
structure PartSt (w : World) (A : Nat) (lv mv : Value) (ls ms : List Int) : Prop where
  b1 : Blk w (A + 1) 210 #[lv]
  b2 : Blk w (A + 1 + 1) 210 #[mv]
  o1 : w.ownsRow (A + 3) 2 1 lv ls.length (ls.map (Value.int .i64))
  o2 : w.ownsRow (A + 3) 2 1 mv ms.length (ms.map (Value.int .i64))
  apart : ∀ k, lv.ownBlock = some k → mv.ownBlock ≠ some k
theorem own_slice {w : World} {base : Nat} {e : TypeId} {v : Value} {n : Nat} {xs : List Value} (h : w.ownsRow base e 1 v n xs) : ∃ ao cap, v = .slice ao n cap := by
  rcases h.2 with ⟨rfl, rfl⟩ | ⟨g, cap, cur, h1, _⟩
  · exact ⟨none, 0, rfl⟩
  · exact ⟨_, _, h1⟩
theorem PartSt.kept {w w' : World} {A : Nat} {lv mv : Value} {ls ms : List Int} (h : PartSt w A lv mv ls ms) (hb : Below w.heap.size w w') : PartSt w' A lv mv ls ms := by
  have hg : w.grownBy w' none := ⟨hb.os, hb.tape, hb.output, hb.size, fun k hk _ => hb.block k hk⟩
  exact ⟨h.b1.kept hb, h.b2.kept hb, h.o1.kept hg (by cases lv.ownBlock <;> simp), h.o2.kept hg (by cases mv.ownBlock <;> simp), h.apart⟩
theorem PartSt.drewN {w : World} {A : Nat} {lv mv : Value} {ls ms : List Int} (h : PartSt w A lv mv ls ms) (n : Nat) : PartSt (w.drewN n) A lv mv ls ms := h.kept (below_drewN (Below.refl _ _) n)
theorem PartSt.pushL {w w3 : World} {A : Nat} {lv mv v' : Value} {ls ms : List Int} {x : Int} (h : PartSt w A lv mv ls ms) (hg : w.grownBy w3 lv.ownBlock)
  (hown : w3.ownsRow (A + 3) 2 1 v' (ls.length + 1) (ls.map (Value.int .i64) ++ [.int .i64 x])) (hat : v'.ownBlock = lv.ownBlock ∨ v'.ownBlock = some w.heap.size) :
  PartSt (w3.setCell ⟨A + 1, 0, none⟩ v') A v' mv (ls ++ [x]) ms := by
 have hlo : ∀ k, lv.ownBlock = some k → A + 3 ≤ k := fun k hk => (h.o1.lt k hk).1
 have hlo' : ∀ k, v'.ownBlock = some k → A + 3 ≤ k := fun k hk => (hown.lt k hk).1
 have hmo : ∀ k, mv.ownBlock = some k → A + 3 ≤ k ∧ k < w.heap.size := fun k hk => h.o2.lt k hk
 have hgs := grown_set w3 (A + 1) 0 v'
 have b1 := h.b1.grown hg (fun e => by have := hlo _ e.symm; omega)
 have b2 := h.b2.grown hg (fun e => by have := hlo _ e.symm; omega)
 have o2 := h.o2.kept hg (by
  cases hm : mv.ownBlock with
  | none => exact .inl rfl
  | some k => exact .inr (fun e => h.apart k e.symm hm))
 refine ⟨by simpa using b1.set_ 0 v', b2.far (by simp) _, ?_, ?_, fun k hk hm => ?_⟩
 ·have := hown.kept hgs (.inr (fun e => by have := hlo' _ e; omega))
  simpa using this
 ·exact o2.kept hgs (by
   cases hm : mv.ownBlock with
   | none => exact .inl rfl
   | some k => exact .inr (fun e => by have := (hmo k hm).1; have := Option.some.inj e; omega))
 ·rcases hat with e | e
  ·exact h.apart k (e.symm.trans hk) hm
  ·have := (hmo k hm).2
   have := Option.some.inj (e.symm.trans hk)
   omega
theorem PartSt.pushM {w w3 : World} {A : Nat} {lv mv v' : Value} {ls ms : List Int} {x : Int} (h : PartSt w A lv mv ls ms) (hg : w.grownBy w3 mv.ownBlock)
  (hown : w3.ownsRow (A + 3) 2 1 v' (ms.length + 1) (ms.map (Value.int .i64) ++ [.int .i64 x])) (hat : v'.ownBlock = mv.ownBlock ∨ v'.ownBlock = some w.heap.size) :
  PartSt (w3.setCell ⟨A + 1 + 1, 0, none⟩ v') A lv v' ls (ms ++ [x]) := by
 have hlo : ∀ k, mv.ownBlock = some k → A + 3 ≤ k := fun k hk => (h.o2.lt k hk).1
 have hlo' : ∀ k, v'.ownBlock = some k → A + 3 ≤ k := fun k hk => (hown.lt k hk).1
 have hmo : ∀ k, lv.ownBlock = some k → A + 3 ≤ k ∧ k < w.heap.size := fun k hk => h.o1.lt k hk
 have hgs := grown_set w3 (A + 1 + 1) 0 v'
 have b1 := h.b1.grown hg (fun e => by have := hlo _ e.symm; omega)
 have b2 := h.b2.grown hg (fun e => by have := hlo _ e.symm; omega)
 have o1 := h.o1.kept hg (by
  cases hm : lv.ownBlock with
  | none => exact .inl rfl
  | some k => exact .inr (fun e => h.apart k hm e.symm))
 refine ⟨b1.far (by simp) _, by simpa using b2.set_ 0 v', ?_, ?_, fun k hk hm => ?_⟩
 ·exact o1.kept hgs (by
   cases hm : lv.ownBlock with
   | none => exact .inl rfl
   | some k => exact .inr (fun e => by have := (hmo k hm).1; have := Option.some.inj e; omega))
 ·have := hown.kept hgs (.inr (fun e => by have := hlo' _ e; omega))
  simpa using this
 ·rcases hat with e | e
  ·exact h.apart k hk (e.symm.trans hm)
  ·have := (hmo k hk).2
   have := Option.some.inj (e.symm.trans hm)
   omega

def PartPost (w : World) (zs : List Int) (by_ : Int) (e : Ending) (w' : World) : Prop :=
  ∃ lv mv, e = .returned (.tuple #[.agg #[lv], .agg #[mv], .int .i64 (cEq zs by_ : Int)]) ∧ IntsAt w' lv (lessL zs by_) ∧ IntsAt w' mv (moreL zs by_) ∧ (∀ k, lv.ownBlock = some k ∨ mv.ownBlock = some k → w.heap.size ≤ k) ∧ Below w.heap.size w w'

theorem take_less (zs : List Int) (b : Int) (j : Nat) (x : Int) (h : zs[j]? = some x) : lessL (zs.take (j + 1)) b = lessL (zs.take j) b ++ (if x < b then [x] else []) ∧ moreL (zs.take (j + 1)) b = moreL (zs.take j) b ++ (if b < x then [x] else []) ∧ cEq (zs.take (j + 1)) b = cEq (zs.take j) b + (if x = b then 1 else 0) := by
  rw [List.take_add_one, h]
  refine ⟨?_, ?_, ?_⟩
  · simp only [lessL, List.filter_append, Option.toList_some, List.filter_cons, List.filter_nil, decide_eq_true_eq]
  · simp only [moreL, List.filter_append, Option.toList_some, List.filter_cons, List.filter_nil, decide_eq_true_eq]
  · simp only [cEq, List.filter_append, Option.toList_some, List.filter_cons, List.filter_nil, List.length_append, decide_eq_true_eq]; split <;> simp

set_option maxRecDepth 100000 in
set_option maxHeartbeats 4000000 in
theorem part_any (v : Value) (zs : List Int) (b : Int) (w : World) (hv : IntsAt w v zs) (hn : zs.length ≤ 100000) :
  Calls Tryz.prog 154 #[.agg #[v], .int .i64 b] w (PartPost w zs b) := by
 obtain ⟨i0', hi, hz0, hz1, hz2⟩ := info_parts Tryz.info64
 have HV := Lib.hid hv
 obtain ⟨ao, cap, rfl, hcap, hcells⟩ := hv
 have HCL := Lib.hid hcells
 clear hcells
 obtain ⟨n, hlen⟩ : ∃ n, n = zs.length := ⟨_, rfl⟩
 rw [← hlen] at hcap hn ⊢
 have HLEN := Lib.hid hlen
 clear hlen
 go_enter Tryz.func154, Tryz.ntmps154
 go_wp2_with fail
 obtain ⟨g1, g2, g3, hbel, hsz⟩ := news3 w (.cells #[.slice ao n cap] 210) (.cells #[.slice none 0 0] 210) (.cells #[.slice none 0 0] 210)
 have hst : PartSt (((w.alloc (.cells #[.slice ao n cap] 210)).alloc (.cells #[.slice none 0 0] 210)).alloc (.cells #[.slice none 0 0] 210)) w.heap.size (.slice none 0 0) (.slice none 0 0) [] [] :=
  ⟨g2, g3, World.ownsRow_nil _ _ _ _, World.ownsRow_nil _ _ _ _, fun k hk => by simp [Value.ownBlock] at hk⟩
 generalize (((w.alloc (.cells #[.slice ao n cap] 210)).alloc (.cells #[.slice none 0 0] 210)).alloc (.cells #[.slice none 0 0] 210)) = wz at *
 have hszA : w.heap.size + 3 ≤ wz.heap.size := by omega
 clear g1 g2 g3 hsz
 generalize hA : w.heap.size = A at *
 have HA := Lib.hid hA
 have HS := Lib.hid hst
 have HB := Lib.hid hbel
 clear hA hst hbel
 go_loopw [6, 14] (fun s i wr => ∃ (j : Nat) (lv mv : Value), j ≤ n ∧ i = .int .i64 (j : Int) ∧ s = .int .i64 (cEq (zs.take j) b : Int) ∧ PartSt wr A lv mv (lessL (zs.take j) b) (moreL (zs.take j) b) ∧ Below A w wr ∧ A + 3 ≤ wr.heap.size) (fun _ i _ => n - (intOf i).toNat)
 case atStart => exact ⟨0, _, _, by omega, rfl, rfl, HS.out, HB.out, hszA⟩
 case round =>
  obtain ⟨j, lv, mv, hj, rfl, rfl, hst, hbel, hszA⟩ := hrel
  clear HS HB
  have HS := Lib.hid hst
  have HB := Lib.hid hbel
  clear hst hbel
  have hcq : cEq (zs.take j) b ≤ j := by
   have h1 := parts_len (zs.take j) b
   have h2 : (zs.take j).length ≤ j := by rw [List.length_take]; omega
   omega
  by_cases hlt : j < n
  ·obtain ⟨g, rfl, hgl, hgc⟩ := HCL.out (by rw [← HLEN.out]; omega)
   have hjz : zs[j]? = some (cellD zs j) := by
    have : j < zs.length := by rw [← HLEN.out]; exact hlt
    simp [cellD, this]
   have cx := (HB.out.cell (p := ⟨g, j, none⟩) hgl).trans (hgc j _ hjz)
   obtain ⟨t1, t2, t3⟩ := take_less zs b j _ hjz
   have T1 := Lib.hid t1
   have T2 := Lib.hid t2
   have T3 := Lib.hid t3
   clear t1 t2 t3 hgc hjz
   have LL : Hid ((lessL (zs.take j) b).length ≤ j ∧ (moreL (zs.take j) b).length ≤ j) := Lib.hid (by
    have h1 := parts_len (zs.take j) b
    have h2 : (zs.take j).length ≤ j := by rw [List.length_take]; omega
    omega)
   generalize lessL (zs.take j) b = L at *
   generalize moreL (zs.take j) b = M at *
   generalize cEq (zs.take j) b = q at *
   generalize cellD zs j = x at *
   have i0 : (0 : Int) ≤ (j : Int) := by omega
   have i1 : (j : Int) < (n : Int) := by omega
   rcases Int.lt_trichotomy x b with hxb | hxb | hxb
   ·have e1 : decide (x < b) = true := decide_eq_true hxb
    have e2 : ¬ b < x := by omega
    have e3 : ¬ x = b := by omega
    have HL1 : Hid (lessL (zs.take (j + 1)) b = L ++ [x] ∧ moreL (zs.take (j + 1)) b = M ∧ cEq (zs.take (j + 1)) b = q) := ⟨by rw [T1.out]; simp [hxb], by rw [T2.out]; simp [e2], by rw [T3.out]; simp [e3]⟩
    have l1 := HS.out.b1.cell 0
    simp at l1
    clear hxb e2 e3
    have hLl := LL.out
    have hmx : L.length + 1 ≤ maxLen := by unfold maxLen; omega
    go_wp2_with (at_builtin; refine wpList_append_own_at _ rfl _ _ 54 rfl (A + 3) 2 i0' (.int .i64 0) 1 8 Tryz.underlying54 hi hz0 hz1 hz2 rfl (by decide) _ L.length _ rfl (HS.out.o1.alloc _) ⟨wr.heap.size, 0, none⟩ 1 1 [.int .i64 x] rfl rfl (cell_one_new _ _ _) ?c2 hmx ?c4 ?c5 ?_)
    case c2 => simp [Value.oneCell']
    case c4 => omega
    case c5 => simp; omega
    intro v' w3 hown' hgrow hnil' hq9
    obtain ⟨ao', cap', rfl⟩ := own_slice hown'
    have hst3 := PartSt.pushL (HS.out.kept ((Below.refl _ _).alloc (Nat.le_refl _) (.cells #[.int .i64 x] 2))) hgrow hown' (by simpa using hq9)
    have hvk : ∀ k, Value.ownBlock lv = some k → A + 3 ≤ k := fun k hk => (HS.out.o1.lt k hk).1
    have HS3 := Lib.hid hst3
    have HB3 : Hid (Below A w w3) := Lib.hid ((HB.out.alloc (by omega) _).grown hgrow (by first | omega | (simp; done) | (simp; omega)) (fun k e => by have := hvk k e; omega))
    have hbk := (HS.out.b1.alloc (.cells #[.int .i64 x] 2)).grown hgrow (fun e => by have := hvk _ e.symm; omega)
    have hc3 := hbk.cell 0
    have hf3 := hbk.frozen 0
    simp at hc3
    have hsz3 : A + 3 ≤ w3.heap.size := by have := hgrow.size; simp at this; omega
    clear hown' hgrow hnil' hq9 hst3 hvk hbk
    go_wp2
    go_roundw
    case rel => exact ⟨j + 1, _, _, by omega, by go_num, by rw [HL1.out.2.2], by rw [HL1.out.1, HL1.out.2.1]; exact HS3.out, HB3.out.setCell (by first | (simp; done) | (simp; omega)) _, by simp [World.setCell]; omega⟩
    case measure => simp [intOf]; omega
   ·have e1 : decide (b < x) = false := decide_eq_false (by omega)
    have e0 : decide (x < b) = false := decide_eq_false (by omega)
    have e2 : ¬ x < b := by omega
    have e3 : ¬ b < x := by omega
    have HL1 : Hid (lessL (zs.take (j + 1)) b = L ∧ moreL (zs.take (j + 1)) b = M ∧ cEq (zs.take (j + 1)) b = q + 1) := ⟨by rw [T1.out]; simp [e2], by rw [T2.out]; simp [e3], by rw [T3.out]; simp [hxb]⟩
    clear hxb e2 e3
    go_wp2
    go_roundw
    case rel => exact ⟨j + 1, _, _, by omega, by go_num, by rw [HL1.out.2.2]; go_num, by rw [HL1.out.1, HL1.out.2.1]; exact HS.out, HB.out, hszA⟩
    case measure => simp [intOf]; omega
   ·have e1 : decide (b < x) = true := decide_eq_true hxb
    have e0 : decide (x < b) = false := decide_eq_false (by omega)
    have e2 : ¬ x < b := by omega
    have e3 : ¬ x = b := by omega
    have HL1 : Hid (lessL (zs.take (j + 1)) b = L ∧ moreL (zs.take (j + 1)) b = M ++ [x] ∧ cEq (zs.take (j + 1)) b = q) := ⟨by rw [T1.out]; simp [e2], by rw [T2.out]; simp [hxb], by rw [T3.out]; simp [e3]⟩
    have l1 := HS.out.b2.cell 0
    simp at l1
    clear hxb e2 e3
    have hLl := LL.out
    have hmx : M.length + 1 ≤ maxLen := by unfold maxLen; omega
    go_wp2_with (at_builtin; refine wpList_append_own_at _ rfl _ _ 54 rfl (A + 3) 2 i0' (.int .i64 0) 1 8 Tryz.underlying54 hi hz0 hz1 hz2 rfl (by decide) _ M.length _ rfl (HS.out.o2.alloc _) ⟨wr.heap.size, 0, none⟩ 1 1 [.int .i64 x] rfl rfl (cell_one_new _ _ _) ?c2 hmx ?c4 ?c5 ?_)
    case c2 => simp [Value.oneCell']
    case c4 => omega
    case c5 => simp; omega
    intro v' w3 hown' hgrow hnil' hq9
    obtain ⟨ao', cap', rfl⟩ := own_slice hown'
    have hst3 := PartSt.pushM (HS.out.kept ((Below.refl _ _).alloc (Nat.le_refl _) (.cells #[.int .i64 x] 2))) hgrow hown' (by simpa using hq9)
    have hvk : ∀ k, Value.ownBlock mv = some k → A + 3 ≤ k := fun k hk => (HS.out.o2.lt k hk).1
    have HS3 := Lib.hid hst3
    have HB3 : Hid (Below A w w3) := Lib.hid ((HB.out.alloc (by omega) _).grown hgrow (by first | omega | (simp; done) | (simp; omega)) (fun k e => by have := hvk k e; omega))
    have hbk := (HS.out.b2.alloc (.cells #[.int .i64 x] 2)).grown hgrow (fun e => by have := hvk _ e.symm; omega)
    have hc3 := hbk.cell 0
    have hf3 := hbk.frozen 0
    simp at hc3
    have hsz3 : A + 3 ≤ w3.heap.size := by have := hgrow.size; simp at this; omega
    clear hown' hgrow hnil' hq9 hst3 hvk hbk
    go_wp2
    go_roundw
    case rel => exact ⟨j + 1, _, _, by omega, by go_num, by rw [HL1.out.2.2], by rw [HL1.out.1, HL1.out.2.1]; exact HS3.out, HB3.out.setCell (by first | (simp; done) | (simp; omega)) _, by simp [World.setCell]; omega⟩
    case measure => simp [intOf]; omega
  ·obtain rfl : j = n := by omega
   have HE : Hid (zs.take j = zs) := Lib.hid (by rw [HLEN.out, List.take_length])
   rw [HE.out] at HS hcq ⊢
   obtain ⟨ao1, cap1, rfl⟩ := own_slice HS.out.o1
   obtain ⟨ao2, cap2, rfl⟩ := own_slice HS.out.o2
   have HO1 : Hid (IntsAt wr (.slice ao1 (lessL zs b).length cap1) (lessL zs b)) := Lib.hid (IntsAt.of_own HS.out.o1 rfl)
   have HO2 : Hid (IntsAt wr (.slice ao2 (moreL zs b).length cap2) (moreL zs b)) := Lib.hid (IntsAt.of_own HS.out.o2 rfl)
   have HFR : Hid (∀ k, Value.ownBlock (.slice ao1 (lessL zs b).length cap1) = some k ∨ Value.ownBlock (.slice ao2 (moreL zs b).length cap2) = some k → A ≤ k) := Lib.hid (fun k hk => by rcases hk with hk | hk; exact Nat.le_trans (by omega) (HS.out.o1.lt k hk).1; exact Nat.le_trans (by omega) (HS.out.o2.lt k hk).1)
   have HB1 : Hid (Blk (wr.drewN 1) (A + 1) 210 #[.slice ao1 (lessL zs b).length cap1]) := Lib.hid (HS.out.b1.drewN 1)
   have HB2 : Hid (Blk (wr.drewN 1) (A + 1 + 1) 210 #[.slice ao2 (moreL zs b).length cap2]) := Lib.hid (HS.out.b2.drewN 1)
   generalize (lessL zs b).length = nl at *
   generalize (moreL zs b).length = nm at *
   go_wp2_with fail
   refine wp_region_held_drew (S := fun w' => Blk w' (A + 1) 210 #[.slice ao1 nl cap1] ∧ Blk w' (A + 1 + 1) 210 #[.slice ao2 nm cap2]) (by kernel_rfl) (by exact ⟨HB1.out, HB2.out⟩) (fun hHeld => ?_)
   refine tkH (i := 0) (v := ?_) rfl (by kernel_rfl) (fun _ _ _ h => h) (Or.inl ⟨by rfl, ?_⟩) (by assumption) ?_
   rotate_left
   ·intro w hSw
    first | refine (exec_load_row 210 _ rfl (A + 1) rfl 210 #[.slice ao1 nl cap1] (0, 0) _ hSw.1 Tryz.underlying210 rfl (by kernel_rfl)).trans ?_ | refine (exec_load_row 210 _ rfl (A + 1 + 1) rfl 210 #[.slice ao2 nm cap2] (0, 0) _ hSw.2 Tryz.underlying210 rfl (by kernel_rfl)).trans ?_
    go_simp
    try with_reducible rfl
   simp only [Act.put, z1, z2, z3, z4, z5, z6]
   refine tkH (i := 1) (v := ?_) rfl (by kernel_rfl) (fun _ _ _ h => h) (Or.inl ⟨by rfl, ?_⟩) (by assumption) ?_
   rotate_left
   ·intro w hSw
    first | refine (exec_load_row 210 _ rfl (A + 1) rfl 210 #[.slice ao1 nl cap1] (0, 0) _ hSw.1 Tryz.underlying210 rfl (by kernel_rfl)).trans ?_ | refine (exec_load_row 210 _ rfl (A + 1 + 1) rfl 210 #[.slice ao2 nm cap2] (0, 0) _ hSw.2 Tryz.underlying210 rfl (by kernel_rfl)).trans ?_
    go_simp
    try with_reducible rfl
   simp only [Act.put, z1, z2, z3, z4, z5, z6]
   refine tkH (i := 2) (v := ?_) rfl (by kernel_rfl) (fun _ _ _ h => h) (Or.inl ⟨by rfl, ?_⟩) (by assumption) ?_
   rotate_left
   ·intro w hSw
    try dsimp only at hSw
    go_simp
    try with_reducible rfl
   simp only [Act.put, z1, z2, z3, z4, z5, z6]
   refine wpAnyH_ready (rs := [3]) (by kernel_rfl) (by simp) ?_
   refine AllReadyH.cons rfl (fun Kc hKc => ?_) AllReadyH.nil
   first | (refine wp_store_row 210 _ _ rfl (A + 1) #[.slice ao1 nl cap1] rfl rfl 210 _ hHeld.1 (by kernel_rfl) rfl (by simp [Value.oneCell']) ?_; rw [Blk.setRow_same hHeld.1]) | (refine wp_store_row 210 _ _ rfl (A + 1 + 1) #[.slice ao2 nm cap2] rfl rfl 210 _ hHeld.2 (by kernel_rfl) rfl (by simp [Value.oneCell']) ?_; rw [Blk.setRow_same hHeld.2])
   refine hKc.out _ _ ?_ (fun hHeld => ?_)
   ·first | assumption | (rw [Blk.setRow_same hHeld.1]; exact hHeld) | (rw [Blk.setRow_same hHeld.2]; exact hHeld)
   clear hKc Kc
   refine wpAnyH_ready (rs := [4]) (by kernel_rfl) (by simp) ?_
   refine AllReadyH.cons rfl (fun Kc hKc => ?_) AllReadyH.nil
   first | (refine wp_store_row 210 _ _ rfl (A + 1) #[.slice ao1 nl cap1] rfl rfl 210 _ hHeld.1 (by kernel_rfl) rfl (by simp [Value.oneCell']) ?_; rw [Blk.setRow_same hHeld.1]) | (refine wp_store_row 210 _ _ rfl (A + 1 + 1) #[.slice ao2 nm cap2] rfl rfl 210 _ hHeld.2 (by kernel_rfl) rfl (by simp [Value.oneCell']) ?_; rw [Blk.setRow_same hHeld.2])
   refine hKc.out _ _ ?_ (fun hHeld => ?_)
   ·first | assumption | (rw [Blk.setRow_same hHeld.1]; exact hHeld) | (rw [Blk.setRow_same hHeld.2]; exact hHeld)
   clear hKc Kc
   refine tkH (i := 5) (v := ?_) rfl (by kernel_rfl) (fun _ _ _ h => h) (Or.inl ⟨by rfl, ?_⟩) (by assumption) ?_
   rotate_left
   ·intro w hSw
    try dsimp only at hSw
    go_simp
    try with_reducible rfl
   simp only [Act.put, z1, z2, z3, z4, z5, z6]
   refine wpAnyH_done (by kernel_rfl) ?_ _
   clear hHeld
   have HB9 := Lib.hid (below_drewN HB.out 1)
   have HQ : Hid (PartPost w zs b (.returned (.tuple #[.agg #[.slice ao1 nl cap1], .agg #[.slice ao2 nm cap2], .int .i64 (cEq zs b : Int)])) (wr.drewN 1)) := ⟨_, _, rfl, HO1.out.drewN 1, HO2.out.drewN 1, by rw [HA.out]; exact HFR.out, by rw [HA.out]; exact HB9.out⟩
   go_wp2_with fail
   refine bodyPost_ret (results_row2_tmp rfl _ _ (A + 1) (A + 1 + 1) 210 210 _ _ (0, 0) (0, 0) _ rfl rfl HB1.out HB2.out Tryz.underlying210 rfl (by kernel_rfl) (by kernel_rfl)) rfl ?_
   exact HQ.out
end Go.Proofs.YthbkljeibmkimaaGreat


namespace Go.Proofs.YthbkljeibmkimaaGreat
open Go.RowKit
set_option linter.unusedVariables false
set_option linter.unusedSimpArgs false

theorem zeros_row {w : World} {b : Nat} {t : TypeId} (h : w.heap[b]? = some (.cells #[.int .i64 0, .int .i64 0, .int .i64 0, .int .i64 0, .int .i64 0, .int .i64 0, .int .i64 0, .int .i64 0, .int .i64 0, .int .i64 0] t)) : w.rowIs b t 10 (fun _ => .int .i64 0) :=
  ⟨_, h, rfl, fun i hi => by
    match i, hi with
    | 0, _ => rfl | 1, _ => rfl | 2, _ => rfl | 3, _ => rfl | 4, _ => rfl | 5, _ => rfl | 6, _ => rfl | 7, _ => rfl | 8, _ => rfl | 9, _ => rfl⟩
theorem long_info (n : Int) : (Tryz.prog.info? 103).map (·.size) = some (longA n).size := by rw [longA_size]; kernel_rfl
theorem longA_one (n : Int) : (longA n).all (·.oneCell') = true := by
  rw [Array.all_eq_true_iff_forall_mem]
  intro v hv
  simp [longA, intsV] at hv
  obtain ⟨a, _, rfl⟩ := hv
  rfl
theorem below_setRow {B : Nat} {a w : World} (h : Below B a w) {g : Nat} (hg : B ≤ g) (cs : Array Value) : Below B a (w.setRow g cs) :=
  h.trans ⟨rfl, rfl, rfl, by simp, fun k hk => setRow_other w g k cs (by omega)⟩
theorem Blk.of_digits {w : World} {b : Nat} {t : TypeId} {f : Nat → Value} (x : Int) (h : w.rowIs b t 10 f) (e : ∀ i, i < 10 → f i = .int .i64 (digit x i)) : Blk w b t (longA x) := by
  rw [← longA_size x] at h
  exact Blk.of_row h (fun i hi => by rw [longA_size] at hi; rw [longA_get x i hi, e i hi])

set_option maxRecDepth 100000 in
set_option maxHeartbeats 2000000 in
theorem ofint_any (n : Int) (n0 : -9223372036854775808 ≤ n) (n1 : n ≤ 9223372036854775807) (w : World) :
  Calls Tryz.prog 40 #[.int .i64 n] w fun e w' => e = .returned (.agg (longA n)) ∧ Below w.heap.size w w' := by
 have HN0 := Lib.hid n0
 have HN1 := Lib.hid n1
 clear n0 n1
 go_enter Tryz.func40, Tryz.ntmps40
 go_wp2
 obtain ⟨g1, g2, hbel, hsz⟩ := news2 w (.cells #[.int .i64 0, .int .i64 0, .int .i64 0, .int .i64 0, .int .i64 0, .int .i64 0, .int .i64 0, .int .i64 0, .int .i64 0, .int .i64 0] 103) (.cells #[.int .i64 0, .int .i64 0, .int .i64 0, .int .i64 0, .int .i64 0, .int .i64 0, .int .i64 0, .int .i64 0, .int .i64 0, .int .i64 0] 103)
 have hrow := RowUpTo.zeros (zeros_row g2) (digit n)
 generalize ((w.alloc (.cells #[.int .i64 0, .int .i64 0, .int .i64 0, .int .i64 0, .int .i64 0, .int .i64 0, .int .i64 0, .int .i64 0, .int .i64 0, .int .i64 0] 103)).alloc (.cells #[.int .i64 0, .int .i64 0, .int .i64 0, .int .i64 0, .int .i64 0, .int .i64 0, .int .i64 0, .int .i64 0, .int .i64 0, .int .i64 0] 103)) = wz at *
 generalize hA : w.heap.size = A at *
 have HA := Lib.hid hA
 have HG := Lib.hid g1
 have HR := Lib.hid hrow
 have HB := Lib.hid hbel
 clear hA g1 g2 hrow hbel
 go_loopw [4] (fun i wr => ∃ j : Nat, j ≤ 10 ∧ i = .int .i64 (j : Int) ∧ RowUpTo wr (A + 1) 103 10 (digit n) j ∧ wr.heap[A]? = some (.cells #[.int .i64 0, .int .i64 0, .int .i64 0, .int .i64 0, .int .i64 0, .int .i64 0, .int .i64 0, .int .i64 0, .int .i64 0, .int .i64 0] 103) ∧ Below A w wr) (fun i _ => 10 - (intOf i).toNat)
 case atStart => exact ⟨0, by omega, rfl, HR.out, HG.out, HB.out⟩
 case round =>
  obtain ⟨j, hj, rfl, hrow, hg, hbel⟩ := hrel
  clear HR HG HB
  have HR := Lib.hid hrow
  have HG := Lib.hid hg
  have HB := Lib.hid hbel
  clear hrow hg hbel
  by_cases hlt : j < 10
  ·obtain ⟨v0, hc⟩ := HR.out.cell hlt
   have hf := HR.out.frozen j
   have hG1 : A ≠ A + 1 := by omega
   by_cases h4 : j < 4
   ·have hjj : j = 0 ∨ j = 1 ∨ j = 2 ∨ j = 3 := by omega
    rcases hjj with rfl | rfl | rfl | rfl
    ·have hv := Lib.hid (ofd0 n)
     by_cases hn : n < 0
     ·go_wp2
      go_roundw
      case rel => exact ⟨0 + 1, by omega, rfl, ((HR.out.any _).any _).put hv.out, Blk.far (Blk.far (Blk.far HG.out hG1 _) hG1 _) hG1 _, ((HB.out.setCell (by simp) _).setCell (by simp) _).setCell (by simp) _⟩
      case measure => simp [intOf]
     ·go_wp2
      go_roundw
      case rel => exact ⟨0 + 1, by omega, rfl, (HR.out.any _).put hv.out, Blk.far (Blk.far HG.out hG1 _) hG1 _, (HB.out.setCell (by simp) _).setCell (by simp) _⟩
      case measure => simp [intOf]
    ·have hv := Lib.hid (ofd1 n)
     by_cases hn : n < 0
     ·go_wp2
      go_roundw
      case rel => exact ⟨1 + 1, by omega, rfl, ((HR.out.any _).any _).put hv.out, Blk.far (Blk.far (Blk.far HG.out hG1 _) hG1 _) hG1 _, ((HB.out.setCell (by simp) _).setCell (by simp) _).setCell (by simp) _⟩
      case measure => simp [intOf]
     ·go_wp2
      go_roundw
      case rel => exact ⟨1 + 1, by omega, rfl, (HR.out.any _).put hv.out, Blk.far (Blk.far HG.out hG1 _) hG1 _, (HB.out.setCell (by simp) _).setCell (by simp) _⟩
      case measure => simp [intOf]
    ·have hv := Lib.hid (ofd2 n)
     by_cases hn : n < 0
     ·go_wp2
      go_roundw
      case rel => exact ⟨2 + 1, by omega, rfl, ((HR.out.any _).any _).put hv.out, Blk.far (Blk.far (Blk.far HG.out hG1 _) hG1 _) hG1 _, ((HB.out.setCell (by simp) _).setCell (by simp) _).setCell (by simp) _⟩
      case measure => simp [intOf]
     ·go_wp2
      go_roundw
      case rel => exact ⟨2 + 1, by omega, rfl, (HR.out.any _).put hv.out, Blk.far (Blk.far HG.out hG1 _) hG1 _, (HB.out.setCell (by simp) _).setCell (by simp) _⟩
      case measure => simp [intOf]
    ·have hv := Lib.hid (ofd3 n)
     by_cases hn : n < 0
     ·go_wp2
      go_roundw
      case rel => exact ⟨3 + 1, by omega, rfl, ((HR.out.any _).any _).put hv.out, Blk.far (Blk.far (Blk.far HG.out hG1 _) hG1 _) hG1 _, ((HB.out.setCell (by simp) _).setCell (by simp) _).setCell (by simp) _⟩
      case measure => simp [intOf]
     ·go_wp2
      go_roundw
      case rel => exact ⟨3 + 1, by omega, rfl, (HR.out.any _).put hv.out, Blk.far (Blk.far HG.out hG1 _) hG1 _, (HB.out.setCell (by simp) _).setCell (by simp) _⟩
      case measure => simp [intOf]
   ·have hdj := digit_hi n HN0.out HN1.out j (by omega)
    by_cases hn : n < 0
    ·rw [if_pos hn] at hdj
     have HD : Hid (65535 = digit n j) := hdj.symm
     clear hdj
     go_wp2
     go_roundw
     case rel =>
      exact ⟨j + 1, by omega, by go_num, (HR.out.any _).put HD.out, Blk.far (Blk.far HG.out hG1 _) hG1 _, (HB.out.setCell (by simp) _).setCell (by simp) _⟩
     case measure => simp [intOf]; omega
    ·rw [if_neg hn] at hdj
     have HD : Hid (0 = digit n j) := hdj.symm
     clear hdj
     go_wp2
     go_roundw
     case rel =>
      exact ⟨j + 1, by omega, by go_num, HR.out.put HD.out, Blk.far HG.out hG1 _, HB.out.setCell (by simp) _⟩
     case measure => simp [intOf]; omega
  ·obtain rfl : j = 10 := by omega
   have hblk := Blk.of_digits n HR.out.full (fun i _ => rfl)
   have HR9 := Lib.hid hblk
   clear hblk
   have HIn := long_info n
   go_wp2_with (first | refine wpList_load_row rfl 103 _ rfl (A + 1) rfl 103 (longA n) (0, 0) _ HR9.out Tryz.underlying103 rfl HIn ?_ | refine wpList_store_row rfl 103 _ _ rfl A (longA n) rfl rfl 103 _ HG.out HIn (by rw [longA_size]; rfl) (longA_one n) ?_)
   have HZ : (wr.setRow A (longA n)).heap[A]? = some (.cells (longA n) 103 (0, 0)) := setRow_heap wr A _ _ _ _ HG.out
   have HB9 : Below A w (wr.setRow A (longA n)) := below_setRow HB.out (Nat.le_refl _) _
   generalize wr.setRow A (longA n) = w9 at *
   exact bodyPost_ret (results_cell_row rfl _ _ A 103 (longA n) (0, 0) _ rfl HZ Tryz.underlying103 rfl HIn) rfl ⟨rfl, by rw [HA.out]; exact HB9⟩

theorem wrapI_of (x : Int) (h0 : -9223372036854775808 ≤ x) (h1 : x ≤ 9223372036854775807) : IntKind.i64.wrap x = x := by
  simp [IntKind.wrap, IntKind.bits, IntKind.signed]; split <;> omega
set_option maxRecDepth 100000 in
set_option maxHeartbeats 2000000 in
theorem lplus_any (x y : Int) (w : World) :
  Calls Tryz.prog 42 #[.agg (longA x), .agg (longA y)] w fun e w' => e = .returned (.agg (longA (x + y))) ∧ Below w.heap.size w w' := by
 go_enter Tryz.func42, Tryz.ntmps42
 go_wp2
 obtain ⟨g1, g2, g3, g4, hbel, hsz⟩ := news4 w (.cells (longA x) 103) (.cells (longA y) 103) (.cells #[.int .i64 0, .int .i64 0, .int .i64 0, .int .i64 0, .int .i64 0, .int .i64 0, .int .i64 0, .int .i64 0, .int .i64 0, .int .i64 0] 103) (.cells #[.int .i64 0, .int .i64 0, .int .i64 0, .int .i64 0, .int .i64 0, .int .i64 0, .int .i64 0, .int .i64 0, .int .i64 0, .int .i64 0] 103)
 have hrow := RowUpTo.zeros (zeros_row g4) (digit (x + y))
 have h1 : Blk _ w.heap.size 103 (longA x) := g1
 have h2 : Blk _ (w.heap.size + 1) 103 (longA y) := g2
 clear g1 g2 g4
 generalize ((((w.alloc (.cells (longA x) 103)).alloc (.cells (longA y) 103)).alloc (.cells #[.int .i64 0, .int .i64 0, .int .i64 0, .int .i64 0, .int .i64 0, .int .i64 0, .int .i64 0, .int .i64 0, .int .i64 0, .int .i64 0] 103)).alloc (.cells #[.int .i64 0, .int .i64 0, .int .i64 0, .int .i64 0, .int .i64 0, .int .i64 0, .int .i64 0, .int .i64 0, .int .i64 0, .int .i64 0] 103)) = wz at *
 generalize hA : w.heap.size = A at *
 have HA := Lib.hid hA
 have HG := Lib.hid g3
 have HX := Lib.hid h1
 have HY := Lib.hid h2
 have HR := Lib.hid hrow
 have HB := Lib.hid hbel
 clear hA h1 h2 g3 hrow hbel
 go_loopw [6, 7] (fun c i wr => ∃ j : Nat, j ≤ 10 ∧ i = .int .i64 (j : Int) ∧ c = .int .i64 (carryI x y j) ∧ RowUpTo wr (A + 1 + 1 + 1) 103 10 (digit (x + y)) j ∧ Blk wr A 103 (longA x) ∧ Blk wr (A + 1) 103 (longA y) ∧
  wr.heap[A + 1 + 1]? = some (.cells #[.int .i64 0, .int .i64 0, .int .i64 0, .int .i64 0, .int .i64 0, .int .i64 0, .int .i64 0, .int .i64 0, .int .i64 0, .int .i64 0] 103) ∧ Below A w wr) (fun _ i _ => 10 - (intOf i).toNat)
 case atStart => exact ⟨0, by omega, rfl, by rw [carryI_zero], HR.out, HX.out, HY.out, HG.out, HB.out⟩
 case round =>
  obtain ⟨j, hj, rfl, rfl, hrow, hx, hy, hg, hbel⟩ := hrel
  clear HR HG HB HX HY
  have HR := Lib.hid hrow
  have HG := Lib.hid hg
  have HB := Lib.hid hbel
  have HX := Lib.hid hx
  have HY := Lib.hid hy
  clear hrow hg hbel hx hy
  by_cases hlt : j < 10
  ·obtain ⟨v0, hc⟩ := HR.out.cell hlt
   have hf := HR.out.frozen j
   have cx := (HX.out.cell j).trans (longA_get x j hlt)
   have cy := (HY.out.cell j).trans (longA_get y j hlt)
   have bx := digit_bd x j
   have bY := digit_bd y j
   have bc := carryI_bd x y j
   have HD := Lib.hid (digit_add x y j)
   have HC := Lib.hid (carryI_succ x y j)
   generalize digit x j = dx at *
   generalize digit y j = dy at *
   generalize carryI x y j = cc at *
   have e1 : IntKind.i64.wrap (dx + dy) = dx + dy := wrapI_of _ (by omega) (by omega)
   have e2 : IntKind.i64.wrap (dx + dy + cc) = dx + dy + cc := wrapI_of _ (by omega) (by omega)
   have i0 : (0 : Int) ≤ (j : Int) := by omega
   have i1 : (j : Int) < 10 := by omega
   go_wp2_with fail
   go_quiet (fail)
   clear e1 e2
   go_wp2
   go_roundw
   case rel => exact ⟨j + 1, by omega, by go_num, by rw [HC.out], ((HR.out.drewN nq).put HD.out.symm), Blk.far (HX.out.drewN nq) (by simp; omega) _, Blk.far (HY.out.drewN nq) (by simp) _, Blk.far (Blk.drewN HG.out nq) (by simp) _, (below_drewN HB.out nq).setCell (by simp; omega) _⟩
   case measure => simp [intOf]; omega
  ·obtain rfl : j = 10 := by omega
   have HR9 := Lib.hid (Blk.of_digits (x + y) HR.out.full (fun i _ => rfl))
   have HIn := long_info (x + y)
   go_wp2_with (first | refine wpList_load_row rfl 103 _ rfl (A + 1 + 1 + 1) rfl 103 (longA (x + y)) (0, 0) _ HR9.out Tryz.underlying103 rfl HIn ?_ | refine wpList_store_row rfl 103 _ _ rfl (A + 1 + 1) (longA (x + y)) rfl rfl 103 _ HG.out HIn (by rw [longA_size]; rfl) (longA_one _) ?_)
   have HZ : (wr.setRow (A + 1 + 1) (longA (x + y))).heap[A + 1 + 1]? = some (.cells (longA (x + y)) 103 (0, 0)) := setRow_heap wr _ _ _ _ _ HG.out
   have HB9 : Below A w (wr.setRow (A + 1 + 1) (longA (x + y))) := below_setRow HB.out (by omega) _
   generalize wr.setRow (A + 1 + 1) (longA (x + y)) = w9 at *
   exact bodyPost_ret (results_cell_row rfl _ _ (A + 1 + 1) 103 (longA (x + y)) (0, 0) _ rfl HZ Tryz.underlying103 rfl HIn) rfl ⟨rfl, by rw [HA.out]; exact HB9⟩

theorem longA_1 : longA 1 = #[.int .i64 1, .int .i64 0, .int .i64 0, .int .i64 0, .int .i64 0, .int .i64 0, .int .i64 0, .int .i64 0, .int .i64 0, .int .i64 0] := by kernel_rfl
set_option maxRecDepth 100000 in
set_option maxHeartbeats 2000000 in
theorem lminus_any (x : Int) (w : World) :
  Calls Tryz.prog 43 #[.agg (longA x)] w fun e w' => e = .returned (.agg (longA (-x))) ∧ Below w.heap.size w w' := by
 have hpl := fun w => lplus_any (-1 - x) 1 w
 rw [show -1 - x + 1 = -x by omega] at hpl
 generalize hD : -1 - x = D at *
 generalize -x = E at *
 go_enter Tryz.func43, Tryz.ntmps43
 go_wp2_with fail
 obtain ⟨g1, g3, g4, hbel, hsz⟩ := news3 w (.cells (longA x) 103) (.cells #[.int .i64 0, .int .i64 0, .int .i64 0, .int .i64 0, .int .i64 0, .int .i64 0, .int .i64 0, .int .i64 0, .int .i64 0, .int .i64 0] 103) (.cells #[.int .i64 0, .int .i64 0, .int .i64 0, .int .i64 0, .int .i64 0, .int .i64 0, .int .i64 0, .int .i64 0, .int .i64 0, .int .i64 0] 103)
 have hrow := RowUpTo.zeros (zeros_row g4) (digit D)
 have h1 : Blk _ w.heap.size 103 (longA x) := g1
 clear g1 g4
 generalize ((((w.alloc (.cells (longA x) 103)).alloc (.cells #[.int .i64 0, .int .i64 0, .int .i64 0, .int .i64 0, .int .i64 0, .int .i64 0, .int .i64 0, .int .i64 0, .int .i64 0, .int .i64 0] 103))).alloc (.cells #[.int .i64 0, .int .i64 0, .int .i64 0, .int .i64 0, .int .i64 0, .int .i64 0, .int .i64 0, .int .i64 0, .int .i64 0, .int .i64 0] 103)) = wz at *
 generalize hA : w.heap.size = A at *
 have HA := Lib.hid hA
 have HG := Lib.hid g3
 have HX := Lib.hid h1
 have HR := Lib.hid hrow
 have HB := Lib.hid hbel
 have HDD := Lib.hid hD
 have HPL := Lib.hid hpl
 clear hA h1 g3 hrow hbel hD hpl
 go_loopw [4] (fun i wr => ∃ j : Nat, j ≤ 10 ∧ i = .int .i64 (j : Int) ∧ RowUpTo wr (A + 1 + 1) 103 10 (digit D) j ∧ Blk wr A 103 (longA x) ∧
  wr.heap[A + 1]? = some (.cells #[.int .i64 0, .int .i64 0, .int .i64 0, .int .i64 0, .int .i64 0, .int .i64 0, .int .i64 0, .int .i64 0, .int .i64 0, .int .i64 0] 103) ∧ Below A w wr) (fun i _ => 10 - (intOf i).toNat)
 case atStart => exact ⟨0, by omega, rfl, HR.out, HX.out, HG.out, HB.out⟩
 case round =>
  obtain ⟨j, hj, rfl, hrow, hx, hg, hbel⟩ := hrel
  clear HR HG HB HX
  have HR := Lib.hid hrow
  have HG := Lib.hid hg
  have HB := Lib.hid hbel
  have HX := Lib.hid hx
  clear hrow hg hbel hx
  by_cases hlt : j < 10
  ·obtain ⟨v0, hc⟩ := HR.out.cell hlt
   have hf := HR.out.frozen j
   have cx := (HX.out.cell j).trans (longA_get x j hlt)
   have bx := digit_bd x j
   have HDJ : Hid (65535 - digit x j = digit D j) := by rw [← HDD.out]; exact (digit_not x j).symm
   generalize digit x j = dx at *
   go_wp2
   go_roundw
   case rel => exact ⟨j + 1, by omega, by go_num, HR.out.put HDJ.out, Blk.far HX.out (by simp; omega) _, Blk.far HG.out (by simp) _, HB.out.setCell (by simp; omega) _⟩
   case measure => simp [intOf]; omega
  ·obtain rfl : j = 10 := by omega
   have HR9 := Lib.hid (Blk.of_digits D HR.out.full (fun i _ => rfl))
   have HI1 := long_info D
   have HI2 := long_info 1
   have HI3 := long_info E
   have HN := news1 wr (.cells #[.int .i64 1, .int .i64 0, .int .i64 0, .int .i64 0, .int .i64 0, .int .i64 0, .int .i64 0, .int .i64 0, .int .i64 0, .int .i64 0] 103)
   rw [← longA_1] at HN
   have HH1 := Lib.hid (HR9.out.alloc (.cells (longA 1) 103))
   have HH2 := Lib.hid HN.1
   have HH3 := Lib.hid (Blk.alloc HG.out (.cells (longA 1) 103))
   have HH4 : Hid (Below A w (wr.alloc (.cells (longA 1) 103))) := Lib.hid (HB.out.alloc (by have := HX.out.lt; omega) _)
   have HH5 := HR.out.lt
   clear HN
   go_wp2_with (first
    | refine wpList_load_row rfl 103 _ rfl (A + 1 + 1) rfl 103 (longA D) (0, 0) _ HH1.out Tryz.underlying103 rfl HI1 ?_
    | refine wpList_load_row rfl 103 _ rfl wr.heap.size rfl 103 (longA 1) (0, 0) _ HH2.out Tryz.underlying103 rfl HI2 ?_
    | (go_at_call 42; refine (HPL.out _).mono ?_; rintro e w2 ⟨rfl, hb2⟩; have HH6 := Lib.hid (HH3.out.kept hb2); have HH7 : Hid (Below A w w2) := Lib.hid (HH4.out.trans (hb2.mono (by simp; omega))); clear hb2)
    | refine wpList_store_row rfl 103 _ _ rfl (A + 1) (longA E) rfl rfl 103 _ HH6.out HI3 (by rw [longA_size]; rfl) (longA_one _) ?_)
   have HZ : (w2.setRow (A + 1) (longA E)).heap[A + 1]? = some (.cells (longA E) 103 (0, 0)) := setRow_heap w2 _ _ _ _ _ HH6.out
   have HB9 : Below A w (w2.setRow (A + 1) (longA E)) := below_setRow HH7.out (by omega) _
   generalize w2.setRow (A + 1) (longA E) = w9 at *
   exact bodyPost_ret (results_cell_row rfl _ _ (A + 1) 103 (longA E) (0, 0) _ rfl HZ Tryz.underlying103 rfl HI3) rfl ⟨rfl, by rw [HA.out]; exact HB9⟩
end Go.Proofs.YthbkljeibmkimaaGreat


namespace Go.Proofs.YthbkljeibmkimaaGreat
open Go.RowKit
set_option linter.unusedVariables false
set_option linter.unusedSimpArgs false

set_option maxRecDepth 100000 in
set_option maxHeartbeats 4000000 in
theorem kth_any (v : Value) (zs : List Int) (k : Nat) (w : World) (hv : IntsAt w v zs) (hk : k < zs.length) (hn : zs.length ≤ 100000) :
  Calls Tryz.prog 150 #[v, .int .i64 (k : Int)] w fun e w' => ∃ u, e = .returned (.tuple #[.int .i64 u, .bool true]) ∧ IsKth zs k u ∧ Below w.heap.size w w' := by
 have HV := Lib.hid hv
 obtain ⟨ao, cap, rfl, hcap, hcells⟩ := hv
 clear hcells
 have d0 : decide ((k : Int) < 0) = false := decide_eq_false (by omega)
 have d1 : decide ((zs.length : Int) ≤ (k : Int)) = false := decide_eq_false (by omega)
 obtain ⟨n, hlen⟩ : ∃ n, n = zs.length := ⟨_, rfl⟩
 rw [← hlen] at hcap hn d1 hk
 have HLEN := Lib.hid hlen
 rw [← hlen]
 clear hlen
 go_enter Tryz.func150, Tryz.ntmps150
 go_wp2
 go_step3
 go_wp2_with (refine wpList_store_row rfl 210 _ _ rfl w.heap.size #[.slice ao n cap] rfl rfl 210 #[.slice none 0 0] (Blk.new _ _ _) (by kernel_rfl) rfl (by simp [Value.oneCell']) ?_)
 go_step3
 go_wp2
 obtain ⟨g1, hbel, hsz⟩ := news1 w (.cells #[.slice none 0 0] 210)
 have hb1 : Blk ((w.alloc (.cells #[.slice none 0 0] 210)).setRow w.heap.size #[.slice ao n cap]) w.heap.size 210 #[.slice ao n cap] := setRow_heap _ _ _ _ _ _ g1
 have hbel2 : Below w.heap.size w ((w.alloc (.cells #[.slice none 0 0] 210)).setRow w.heap.size #[.slice ao n cap]) := below_setRow hbel (Nat.le_refl _) _
 clear g1 hbel hsz
 generalize ((w.alloc (.cells #[.slice none 0 0] 210)).setRow w.heap.size #[.slice ao n cap]) = wz at *
 have HV0 : Hid (IntsAt wz (.slice ao n cap) zs) := Lib.hid (by rw [HLEN.out]; have := HV.out.kept hbel2; exact this)
 generalize hA : w.heap.size = A at *
 have HA := Lib.hid hA
 have HB0 := Lib.hid hb1
 have HBL0 := Lib.hid hbel2
 clear hA hb1 hbel2 d0 d1
 have hdk : decide (n ≤ k) = false := decide_eq_false (by omega)
 simp only [Act.put, hdk]
 go_loopg [1] n (fun g s wr => ∃ (kk : Nat) (ys : List Int) (a : Option Addr) (c : Nat), s = .int .i64 (kk : Int) ∧ ys.length = g ∧ g ≤ n ∧ kk < g ∧ Blk wr A 210 #[.slice a g c] ∧ IntsAt wr (.slice a g c) ys ∧ (∀ u, IsKth ys kk u → IsKth zs k u) ∧ Below A w wr)
 case atStart => exact ⟨k, zs, ao, cap, rfl, HLEN.out.symm, Nat.le_refl _, hk, HB0.out, HV0.out, fun u h => h, HBL0.out⟩
 case round =>
  obtain ⟨kk, ys, a, c, rfl, hyl, hgn, hkk, hbk, hin, himp, hbel⟩ := hrel
  clear HB0 HBL0 HV0
  have HIN := Lib.hid hin
  have HBK := Lib.hid hbk
  have HIMP := Lib.hid himp
  have HB := Lib.hid hbel
  have HYL := Lib.hid hyl
  have c0 := hbk.cell 0
  simp at c0
  obtain ⟨a', c', e1, hc, hcells⟩ := hin
  simp only [Value.slice.injEq] at e1
  obtain ⟨rfl, -, rfl⟩ := e1
  obtain ⟨gb, rfl, hgb, hcl⟩ := hcells (by omega)
  obtain ⟨q, hq⟩ : ∃ q, q = gk / 2 := ⟨_, rfl⟩
  have hqg : q < gk := by omega
  have hyq : ys[q]? = some (cellD ys q) := by
   have : q < ys.length := by omega
   simp [cellD, this]
  have cq := hcl q _ hyq
  have HBY := Lib.hid (List.mem_of_getElem? hyq)
  clear hcells hcl hyq hbk himp hbel hyl
  generalize cellD ys q = b at *
  have dq : Int.tdiv (gk : Int) 2 = (q : Int) := by rw [Int.tdiv_eq_ediv_of_nonneg (by omega)]; omega
  have hq0 : (0 : Int) ≤ (q : Int) := by omega
  have hq1 : (q : Int) < (gk : Int) := by omega
  clear hq
  have hbk := HBK.out
  have hAw := hbk.lt
  have hpl := parts_len ys b
  have hpos := cEq_pos HBY.out
  rw [HYL.out] at hpl
  have ew : wrap64 (((lessL ys b).length : Int) + (cEq ys b : Int)) = ((lessL ys b).length : Int) + (cEq ys b : Int) := by unfold wrap64; omega
  have HPL : Hid ((lessL ys b).length + cEq ys b + (moreL ys b).length = gk ∧ 0 < cEq ys b) := ⟨hpl, hpos⟩
  clear hpl hpos
  rcases Nat.lt_or_ge kk (lessL ys b).length with h1 | h1
  ·have d1 : decide ((kk : Int) < ((lessL ys b).length : Int)) = true := decide_eq_true (by omega)
   have d1' : decide (kk < (lessL ys b).length) = true := decide_eq_true h1
   have H1 := Lib.hid h1
   clear h1
   go_wp2_with (first
   | refine wpList_load_row rfl 210 _ rfl A rfl 210 _ (0, 0) _ hbk Tryz.underlying210 rfl (by kernel_rfl) ?_
   | (go_at_call 154; refine (part_any _ ys b _ HIN.out (by have := HYL.out; omega)).mono ?_; rintro e w2 ⟨lv, mv, rfl, hl, hm, hfr, hb⟩; have HFR := Lib.hid hfr; clear hfr; have HL2 := Lib.hid hl; have HM2 := Lib.hid hm; have HB2 := Lib.hid hb; obtain ⟨la, lc, rfl, -, -⟩ := hl; obtain ⟨ma, mc, rfl, -, -⟩ := hm; have hk2 := ((hbk.kept hb).alloc (.cells #[.slice la (lessL ys b).length lc] 210)).alloc (.cells #[.slice ma (moreL ys b).length mc] 210); have hc2 := hk2.cell 0; have hf2 := hk2.frozen 0; simp at hc2; have HK2 := Lib.hid hk2; have HA2 : Hid (Below A w ((w2.alloc (.cells #[.slice la (lessL ys b).length lc] 210)).alloc (.cells #[.slice ma (moreL ys b).length mc] 210))) := Lib.hid (((HB.out.trans (hb.mono (by omega))).alloc (by have := hb.size; omega) _).alloc (by have := hb.size; simp; omega) _); have HL3 := Lib.hid ((HL2.out.kept ((Below.refl _ _).alloc (Nat.le_refl _) (.cells #[.slice la (lessL ys b).length lc] 210))).kept ((Below.refl _ _).alloc (Nat.le_refl _) (.cells #[.slice ma (moreL ys b).length mc] 210))); have HM3 := Lib.hid ((HM2.out.kept ((Below.refl _ _).alloc (Nat.le_refl _) (.cells #[.slice la (lessL ys b).length lc] 210))).kept ((Below.refl _ _).alloc (Nat.le_refl _) (.cells #[.slice ma (moreL ys b).length mc] 210))); clear hb hk2))
   go_roundg (lessL ys b).length
   case measure => have := HPL.out; omega
   case rel => exact ⟨kk, lessL ys b, la, lc, rfl, rfl, by have := HPL.out; omega, H1.out, by simpa using HK2.out.set_ 0 _, HL3.out.far (fun e => by have := HFR.out _ (.inl e); simp at this; omega) _, fun u hu => HIMP.out u (kth_less hu), HA2.out.setCell (Nat.le_refl _) _⟩
  ·have d1 : decide ((kk : Int) < ((lessL ys b).length : Int)) = false := decide_eq_false (by omega)
   have d1' : decide (kk < (lessL ys b).length) = false := decide_eq_false (by omega)
   rcases Nat.lt_or_ge kk ((lessL ys b).length + cEq ys b) with h2 | h2
   ·have d2 : decide ((kk : Int) < ((lessL ys b).length : Int) + (cEq ys b : Int)) = true := decide_eq_true (by omega)
    have H1 := Lib.hid h1
    have H2 := Lib.hid h2
    clear h1 h2
    go_wp2_with (first
   | refine wpList_load_row rfl 210 _ rfl A rfl 210 _ (0, 0) _ hbk Tryz.underlying210 rfl (by kernel_rfl) ?_
   | (go_at_call 154; refine (part_any _ ys b _ HIN.out (by have := HYL.out; omega)).mono ?_; rintro e w2 ⟨lv, mv, rfl, hl, hm, hfr, hb⟩; have HFR := Lib.hid hfr; clear hfr; have HL2 := Lib.hid hl; have HM2 := Lib.hid hm; have HB2 := Lib.hid hb; obtain ⟨la, lc, rfl, -, -⟩ := hl; obtain ⟨ma, mc, rfl, -, -⟩ := hm; have hk2 := ((hbk.kept hb).alloc (.cells #[.slice la (lessL ys b).length lc] 210)).alloc (.cells #[.slice ma (moreL ys b).length mc] 210); have hc2 := hk2.cell 0; have hf2 := hk2.frozen 0; simp at hc2; have HK2 := Lib.hid hk2; have HA2 : Hid (Below A w ((w2.alloc (.cells #[.slice la (lessL ys b).length lc] 210)).alloc (.cells #[.slice ma (moreL ys b).length mc] 210))) := Lib.hid (((HB.out.trans (hb.mono (by omega))).alloc (by have := hb.size; omega) _).alloc (by have := hb.size; simp; omega) _); have HL3 := Lib.hid ((HL2.out.kept ((Below.refl _ _).alloc (Nat.le_refl _) (.cells #[.slice la (lessL ys b).length lc] 210))).kept ((Below.refl _ _).alloc (Nat.le_refl _) (.cells #[.slice ma (moreL ys b).length mc] 210))); have HM3 := Lib.hid ((HM2.out.kept ((Below.refl _ _).alloc (Nat.le_refl _) (.cells #[.slice la (lessL ys b).length lc] 210))).kept ((Below.refl _ _).alloc (Nat.le_refl _) (.cells #[.slice ma (moreL ys b).length mc] 210))); clear hb hk2))
    rw [Exit.noGoto_ret]
    go_ret2
    exact ⟨b, rfl, HIMP.out b (kth_here HBY.out H1.out H2.out), by rw [HA.out]; exact HA2.out⟩
   ·have d2 : decide ((kk : Int) < ((lessL ys b).length : Int) + (cEq ys b : Int)) = false := decide_eq_false (by omega)
    have ew2 : wrap64 ((kk : Int) - (((lessL ys b).length : Int) + (cEq ys b : Int))) = ((kk - ((lessL ys b).length + cEq ys b) : Nat) : Int) := by unfold wrap64; omega
    have H1 := Lib.hid h1
    have H2 := Lib.hid h2
    clear h1 h2
    go_wp2_with (first
   | refine wpList_load_row rfl 210 _ rfl A rfl 210 _ (0, 0) _ hbk Tryz.underlying210 rfl (by kernel_rfl) ?_
   | (go_at_call 154; refine (part_any _ ys b _ HIN.out (by have := HYL.out; omega)).mono ?_; rintro e w2 ⟨lv, mv, rfl, hl, hm, hfr, hb⟩; have HFR := Lib.hid hfr; clear hfr; have HL2 := Lib.hid hl; have HM2 := Lib.hid hm; have HB2 := Lib.hid hb; obtain ⟨la, lc, rfl, -, -⟩ := hl; obtain ⟨ma, mc, rfl, -, -⟩ := hm; have hk2 := ((hbk.kept hb).alloc (.cells #[.slice la (lessL ys b).length lc] 210)).alloc (.cells #[.slice ma (moreL ys b).length mc] 210); have hc2 := hk2.cell 0; have hf2 := hk2.frozen 0; simp at hc2; have HK2 := Lib.hid hk2; have HA2 : Hid (Below A w ((w2.alloc (.cells #[.slice la (lessL ys b).length lc] 210)).alloc (.cells #[.slice ma (moreL ys b).length mc] 210))) := Lib.hid (((HB.out.trans (hb.mono (by omega))).alloc (by have := hb.size; omega) _).alloc (by have := hb.size; simp; omega) _); have HL3 := Lib.hid ((HL2.out.kept ((Below.refl _ _).alloc (Nat.le_refl _) (.cells #[.slice la (lessL ys b).length lc] 210))).kept ((Below.refl _ _).alloc (Nat.le_refl _) (.cells #[.slice ma (moreL ys b).length mc] 210))); have HM3 := Lib.hid ((HM2.out.kept ((Below.refl _ _).alloc (Nat.le_refl _) (.cells #[.slice la (lessL ys b).length lc] 210))).kept ((Below.refl _ _).alloc (Nat.le_refl _) (.cells #[.slice ma (moreL ys b).length mc] 210))); clear hb hk2))
    go_roundg (moreL ys b).length
    case measure => have := HPL.out; omega
    case rel => exact ⟨kk - ((lessL ys b).length + cEq ys b), moreL ys b, ma, mc, by first | rfl | rw [ew2] | simp [ew2], rfl, by have := HPL.out; omega, by have := HPL.out; have := H2.out; omega, by simpa using HK2.out.set_ 0 _, HM3.out.far (fun e => by have := HFR.out _ (.inr e); simp at this; omega) _, fun u hu => HIMP.out u (by have := kth_more hu; rwa [Nat.sub_add_cancel H2.out] at this), HA2.out.setCell (Nat.le_refl _) _⟩
theorem min_any (v : Value) (zs : List Int) (w : World) (hv : IntsAt w v zs) (hk : 0 < zs.length) (hn : zs.length ≤ 100000) :
    Calls Tryz.prog 143 #[v] w fun e w' => ∃ u, e = .returned (.tuple #[.int .i64 u, .bool true]) ∧ IsKth zs 0 u ∧ Below w.heap.size w w' := by
  have P1 := kth_any v zs 0 w hv hk hn
  go_enter Tryz.func143, Tryz.ntmps143
  go_wp2_with (go_at_call 150; refine P1.mono ?_; rintro e w' ⟨u, rfl, hu, hb⟩; have HU := Lib.hid hu; clear hu)
  go_ret2
  exact ⟨u, rfl, HU.out, hb⟩
theorem median_any (v : Value) (zs : List Int) (w : World) (hv : IntsAt w v zs) (hk : 0 < zs.length) (hn : zs.length ≤ 100000) :
    Calls Tryz.prog 145 #[v] w fun e w' => ∃ u, e = .returned (.tuple #[.int .i64 u, .bool true]) ∧ IsKth zs ((zs.length - 1) / 2) u ∧ Below w.heap.size w w' := by
  have P1 := kth_any v zs ((zs.length - 1) / 2) w hv (by omega) hn
  obtain ⟨ao, cap, rfl, hcap, hcells⟩ := hv
  clear hcells
  obtain ⟨q, hq⟩ : ∃ q, q = (zs.length - 1) / 2 := ⟨_, rfl⟩
  rw [← hq] at P1 ⊢
  have e1 : wrap64 ((zs.length : Int) - 1) = (zs.length : Int) - 1 := by unfold wrap64; omega
  have e2 : Int.tdiv ((zs.length : Int) - 1) 2 = (q : Int) := by rw [Int.tdiv_eq_ediv_of_nonneg (by omega)]; omega
  have e3 : ((zs.length : Int) - 1) / 2 = (q : Int) := by omega
  clear hq
  go_enter Tryz.func145, Tryz.ntmps145
  go_wp2_with (go_at_call 150; refine P1.mono ?_; rintro e w' ⟨u, rfl, hu, hb⟩; have HU := Lib.hid hu; clear hu)
  go_ret2
  exact ⟨u, rfl, HU.out, hb⟩
end Go.Proofs.YthbkljeibmkimaaGreat


namespace Go.Proofs.YthbkljeibmkimaaGreat
open Go.RowKit
set_option linter.unusedVariables false
set_option linter.unusedSimpArgs false

def bor64 (x y : Int) : Int := if x < y then 1 else 0
theorem bor64_bd (x y : Int) : 0 ≤ bor64 x y ∧ bor64 x y ≤ 1 := by unfold bor64; split <;> omega
theorem wrapU_eq (x : Int) : IntKind.u64.wrap x = x % 18446744073709551616 := by simp [IntKind.wrap, IntKind.bits, IntKind.signed]
theorem add64c (x y c : Int) (hx : 0 ≤ x) (hy : 0 ≤ y) (hc0 : 0 ≤ c) (hc : c ≤ 1) (w : World) : (callFunc 61 #[.int .u64 x, .int .u64 y, .int .u64 c]).run Tryz.prog w =
    .ok (.value (.tuple #[.int .u64 ((x + y + c) % 18446744073709551616), .int .u64 ((x + y + c) / 18446744073709551616)])) w := by
  rw [run_callFunc_extern Tryz.func61 (by kernel_rfl) (by kernel_rfl) (by kernel_rfl) (e := add64Entry) (by kernel_rfl), run_add64 x y c (by omega) (by omega) (by omega) (by omega)]
  rfl
theorem add64c0 (x y : Int) (hx : 0 ≤ x) (hy : 0 ≤ y) (w : World) : (callFunc 61 #[.int .u64 x, .int .u64 y, .int .u64 0]).run Tryz.prog w =
    .ok (.value (.tuple #[.int .u64 ((x + y) % 18446744073709551616), .int .u64 ((x + y) / 18446744073709551616)])) w := by
  simpa using add64c x y 0 hx hy (Int.le_refl 0) (by decide) w
theorem sub64c (x y b : Int) (hx : 0 ≤ x) (hy : 0 ≤ y) (hy' : y < 18446744073709551616) (hb0 : 0 ≤ b) (hb : b ≤ 1) (w : World) : (callFunc 63 #[.int .u64 x, .int .u64 y, .int .u64 b]).run Tryz.prog w =
    .ok (.value (.tuple #[.int .u64 ((x - y - b) % 18446744073709551616), .int .u64 (bor64 x (y + b))])) w := by
  obtain ⟨x, rfl⟩ := Int.eq_ofNat_of_zero_le hx
  obtain ⟨y, rfl⟩ := Int.eq_ofNat_of_zero_le hy
  obtain ⟨b, rfl⟩ := Int.eq_ofNat_of_zero_le hb0
  have e1 : (((x + 18446744073709551616 - y - b) % 18446744073709551616 : Nat) : Int) = ((x : Int) - y - b) % 18446744073709551616 := by omega
  have e2 : ((if x < y + b then 1 else 0 : Nat) : Int) = bor64 x ((y : Int) + b) := by unfold bor64; split <;> split <;> omega
  rw [← e1, ← e2]
  rw [run_callFunc_extern Tryz.func63 (by kernel_rfl) (by kernel_rfl) (by kernel_rfl) (e := sub64Entry) (by kernel_rfl), run_sub64 x y b (by omega)]
  rfl
theorem sub64c0 (x y : Int) (hx : 0 ≤ x) (hy : 0 ≤ y) (hy' : y < 18446744073709551616) (w : World) : (callFunc 63 #[.int .u64 x, .int .u64 y, .int .u64 0]).run Tryz.prog w =
    .ok (.value (.tuple #[.int .u64 ((x - y) % 18446744073709551616), .int .u64 (bor64 x y)])) w := by
  simpa using sub64c x y 0 hx hy hy' (Int.le_refl 0) (by decide) w

theorem of_any (n : Int) (n0 : -9223372036854775808 ≤ n) (n1 : n ≤ 9223372036854775807) (w : World) :
    Calls Tryz.prog 34 #[.int .i64 n] w fun e w' => e = .returned (.agg #[.int .i64 (n / 9223372036854775808), .int .u64 (IntKind.u64.wrap n)]) ∧ Below w.heap.size w w' := by
  go_enter Tryz.func34, Tryz.ntmps34
  go_wp2
  refine bodyPost_ret (results_cell_row rfl _ _ w.heap.size 94 #[.int .i64 (n / 9223372036854775808), .int .u64 (IntKind.u64.wrap n)] (0, 0) _ rfl (Blk.new w _ _) Tryz.underlying94 rfl (by kernel_rfl)) rfl ?_
  exact ⟨rfl, (Below.refl _ _).alloc (Nat.le_refl _) _⟩

set_option maxRecDepth 100000 in
theorem int_yes (hi lo x : Int) (hx : wrap64 lo = x) (x0 : -9223372036854775808 ≤ x) (x1 : x ≤ 9223372036854775807) (hhi : x / 9223372036854775808 = hi) (hlo : IntKind.u64.wrap x = lo) (w : World) :
  Calls Tryz.prog 39 #[.agg #[.int .i64 hi, .int .u64 lo]] w fun e w' => e = .returned (.tuple #[.int .i64 x, .bool true]) ∧ Below w.heap.size w w' := by
 have hb0 := Blk.new w 94 #[.int .i64 hi, .int .u64 lo]
 have hbel : Below w.heap.size w (w.alloc (.cells #[.int .i64 hi, .int .u64 lo] 94)) := (Below.refl _ _).alloc (Nat.le_refl _) _
 go_enter Tryz.func39, Tryz.ntmps39
 go_wp2_with fail
 refine wp_region_held_drew (S := fun w' => Blk w' w.heap.size 94 #[.int .i64 hi, .int .u64 lo] ∧ Below w.heap.size w w') (by kernel_rfl) (by exact ⟨hb0.drew, hbel.drew⟩) (fun hHeld => ?_)
 refine tkH (i := 0) (v := ?_) rfl (by kernel_rfl) (fun _ _ _ h => h) (Or.inl ⟨by rfl, ?_⟩) (by assumption) ?_
 rotate_left
 ·intro w hSw
  try dsimp only at hSw
  go_simp
  try with_reducible rfl
 simp only [Act.put, z1, z2, z3, z4, z5, z6]
 refine tkH (i := 2) (v := ?_) rfl (by kernel_rfl) (fun _ _ _ h => h) (Or.inl ⟨by rfl, ?_⟩) (by assumption) ?_
 rotate_left
 ·intro w hSw
  have q0 := hSw.1.cell 0
  have q1 := hSw.1.cell 1
  simp at q0 q1
  go_simp
  try with_reducible rfl
 simp only [Act.put, z1, z2, z3, z4, z5, z6]
 refine wpAnyH_ready (rs := [1]) (by kernel_rfl) (by simp) ?_
 refine AllReadyH.cons rfl (fun Kc hKc => ?_) AllReadyH.nil
 go_simp
 go_wp2_with (go_at_call 34; refine (of_any _ (by omega) (by omega) _).mono ?_; rintro e w' ⟨rfl, hb'⟩)
 refine hKc.out _ _ ?_ (fun hHeld => ?_)
 ·first | assumption | exact ⟨hHeld.1.kept hb', btr hHeld.2 hb'⟩
 clear hKc Kc
 refine tkH (i := 3) (v := ?_) rfl (by kernel_rfl) (fun _ _ _ h => h) (Or.inl ⟨by rfl, ?_⟩) (by assumption) ?_
 rotate_left
 ·intro w hSw
  try dsimp only at hSw
  go_simp
  try with_reducible rfl
 simp only [Act.put, z1, z2, z3, z4, z5, z6]
 refine wpAnyH_done (by kernel_rfl) ?_ _
 obtain ⟨_, hb9⟩ := hHeld
 have HB := Lib.hid hb9
 clear hb9
 go_wp2
 go_ret2
 exact ⟨rfl, HB.out⟩

set_option maxRecDepth 100000 in
theorem int_no (hi lo x : Int) (hx : wrap64 lo = x) (x0 : -9223372036854775808 ≤ x) (x1 : x ≤ 9223372036854775807) (hhi : ¬ x / 9223372036854775808 = hi) (w : World) :
  Calls Tryz.prog 39 #[.agg #[.int .i64 hi, .int .u64 lo]] w fun e w' => e = .returned (.tuple #[.int .i64 0, .bool false]) ∧ Below w.heap.size w w' := by
 have hb0 := Blk.new w 94 #[.int .i64 hi, .int .u64 lo]
 have hbel : Below w.heap.size w (w.alloc (.cells #[.int .i64 hi, .int .u64 lo] 94)) := (Below.refl _ _).alloc (Nat.le_refl _) _
 go_enter Tryz.func39, Tryz.ntmps39
 go_wp2_with fail
 refine wp_region_held_drew (S := fun w' => Blk w' w.heap.size 94 #[.int .i64 hi, .int .u64 lo] ∧ Below w.heap.size w w') (by kernel_rfl) (by exact ⟨hb0.drew, hbel.drew⟩) (fun hHeld => ?_)
 refine tkH (i := 0) (v := ?_) rfl (by kernel_rfl) (fun _ _ _ h => h) (Or.inl ⟨by rfl, ?_⟩) (by assumption) ?_
 rotate_left
 ·intro w hSw
  try dsimp only at hSw
  go_simp
  try with_reducible rfl
 simp only [Act.put, z1, z2, z3, z4, z5, z6]
 refine tkH (i := 2) (v := ?_) rfl (by kernel_rfl) (fun _ _ _ h => h) (Or.inl ⟨by rfl, ?_⟩) (by assumption) ?_
 rotate_left
 ·intro w hSw
  have q0 := hSw.1.cell 0
  have q1 := hSw.1.cell 1
  simp at q0 q1
  go_simp
  try with_reducible rfl
 simp only [Act.put, z1, z2, z3, z4, z5, z6]
 refine wpAnyH_ready (rs := [1]) (by kernel_rfl) (by simp) ?_
 refine AllReadyH.cons rfl (fun Kc hKc => ?_) AllReadyH.nil
 go_simp
 go_wp2_with (go_at_call 34; refine (of_any _ (by omega) (by omega) _).mono ?_; rintro e w' ⟨rfl, hb'⟩)
 refine hKc.out _ _ ?_ (fun hHeld => ?_)
 ·first | assumption | exact ⟨hHeld.1.kept hb', btr hHeld.2 hb'⟩
 clear hKc Kc
 refine tkH (i := 3) (v := ?_) rfl (by kernel_rfl) (fun _ _ _ h => h) (Or.inl ⟨by rfl, ?_⟩) (by assumption) ?_
 rotate_left
 ·intro w hSw
  try dsimp only at hSw
  go_simp
  try with_reducible rfl
 simp only [Act.put, z1, z2, z3, z4, z5, z6]
 refine wpAnyH_done (by kernel_rfl) ?_ _
 obtain ⟨_, hb9⟩ := hHeld
 have HB := Lib.hid hb9
 clear hb9
 go_wp2
 go_ret2
 exact ⟨rfl, HB.out⟩


end Go.Proofs.YthbkljeibmkimaaGreat


namespace Go.Proofs.YthbkljeibmkimaaGreat
open Go.RowKit
set_option linter.unusedVariables false
set_option linter.unusedSimpArgs false

theorem wrap64_of_mod (x : Int) (x0 : -9223372036854775808 ≤ x) (x1 : x ≤ 9223372036854775807) : wrap64 (x % 18446744073709551616) = x := by
  unfold wrap64; omega

set_option maxRecDepth 100000 in
set_option maxHeartbeats 4000000 in
theorem wadd_any (ah al bh bl s l : Int) (a0 : -9223372036854775808 ≤ ah) (a1 : ah ≤ 9223372036854775807) (b0 : -9223372036854775808 ≤ bh) (b1 : bh ≤ 9223372036854775807)
  (al0 : 0 ≤ al) (al1 : al ≤ 18446744073709551615) (bl0 : 0 ≤ bl) (bl1 : bl ≤ 18446744073709551615) (hs : s = ah + bh + (al + bl) / 18446744073709551616) (hl : l = (al + bl) % 18446744073709551616) (s0 : -9223372036854775808 ≤ s) (s1 : s ≤ 9223372036854775807) (w : World) :
  Calls Tryz.prog 35 #[.agg #[.int .i64 ah, .int .u64 al], .agg #[.int .i64 bh, .int .u64 bl]] w fun e w' => e = .returned (.tuple #[.agg #[.int .i64 s, .int .u64 l], .bool true]) ∧ Below w.heap.size w w' := by
 have k0 : 0 ≤ ((al + bl) / 18446744073709551616) ∧ ((al + bl) / 18446744073709551616) ≤ 1 := by omega
 obtain ⟨k0, k1⟩ := k0
 have A0 := fun w => add64c0 al bl al0 bl0 w
 have U1 : 0 ≤ IntKind.u64.wrap ah ∧ IntKind.u64.wrap ah ≤ 18446744073709551615 := by rw [wrapU_eq]; omega
 have U2 : 0 ≤ IntKind.u64.wrap bh ∧ IntKind.u64.wrap bh ≤ 18446744073709551615 := by rw [wrapU_eq]; omega
 have U3 : IntKind.u64.wrap ah = ah % 18446744073709551616 := wrapU_eq ah
 have U4 : IntKind.u64.wrap bh = bh % 18446744073709551616 := wrapU_eq bh
 rw [← hl] at A0
 generalize ((al + bl) / 18446744073709551616) = c at *
 have A1 := fun w => add64c (IntKind.u64.wrap ah) (IntKind.u64.wrap bh) c U1.1 U2.1 k0 k1 w
 have hq : wrap64 ((IntKind.u64.wrap ah + IntKind.u64.wrap bh + c) % 18446744073709551616) = s := by
  have e : ((IntKind.u64.wrap ah + IntKind.u64.wrap bh + c) % 18446744073709551616) = s % 18446744073709551616 := by rw [U3, U4, hs]; omega
  rw [e]; exact wrap64_of_mod s s0 s1
 generalize ((IntKind.u64.wrap ah + IntKind.u64.wrap bh + c) % 18446744073709551616) = q at *
 generalize (IntKind.u64.wrap ah + IntKind.u64.wrap bh + c) / 18446744073709551616 = q2 at *
 have hsum : (0 ≤ ah → 0 ≤ bh → 0 ≤ s) ∧ (ah < 0 → bh < 0 → s < 0) := ⟨by omega, by omega⟩
 clear al0 al1 bl0 bl1 hl U1 U2 U3 U4 k0 k1 hs
 have key : ∀ (p q r : Bool), decide (ah < 0) = p → decide (bh < 0) = q → decide (s < 0) = r → (p = q → r = p) → Calls Tryz.prog 35 #[.agg #[.int .i64 ah, .int .u64 al], .agg #[.int .i64 bh, .int .u64 bl]] w fun e w' => e = .returned (.tuple #[.agg #[.int .i64 s, .int .u64 l], .bool true]) ∧ Below w.heap.size w w' := by
  intro p q r D1 D2 D3 hk
  clear a0 a1 b0 b1 s0 s1
  cases p <;> cases q <;> cases r <;> (first | (exfalso; revert hk; decide) | skip) <;> clear hk
  all_goals
   go_enter Tryz.func35, Tryz.ntmps35
   go_wp2_with (first | simp only [A0] | simp only [A1])
  all_goals
   refine bodyPost_ret (v := .tuple #[.agg #[.int .i64 s, .int .u64 l], .bool true]) (by simp [results, Tryz.results35, go_sem]) rfl ⟨rfl, ?_⟩
   exact ((((Below.refl _ _).alloc (Nat.le_refl _) _).alloc (by simp) _).alloc (by simp; omega) _).alloc (by simp; omega) _
 exact key _ _ _ rfl rfl rfl (by by_cases h1 : ah < 0 <;> by_cases h2 : bh < 0 <;> by_cases h3 : s < 0 <;> simp [h1, h2, h3] <;> omega)

set_option maxRecDepth 100000 in
set_option maxHeartbeats 4000000 in
theorem wsub_any (ah al bh bl s l : Int) (a0 : -9223372036854775808 ≤ ah) (a1 : ah ≤ 9223372036854775807) (b0 : -9223372036854775808 ≤ bh) (b1 : bh ≤ 9223372036854775807)
  (al0 : 0 ≤ al) (al1 : al ≤ 18446744073709551615) (bl0 : 0 ≤ bl) (bl1 : bl ≤ 18446744073709551615) (hs : s = ah - bh - bor64 al bl) (hl : l = (al - bl) % 18446744073709551616) (s0 : -9223372036854775808 ≤ s) (s1 : s ≤ 9223372036854775807) (w : World) :
  Calls Tryz.prog 38 #[.agg #[.int .i64 ah, .int .u64 al], .agg #[.int .i64 bh, .int .u64 bl]] w fun e w' => e = .returned (.tuple #[.agg #[.int .i64 s, .int .u64 l], .bool true]) ∧ Below w.heap.size w w' := by
 have k0 : 0 ≤ (bor64 al bl) ∧ (bor64 al bl) ≤ 1 := by exact bor64_bd al bl
 obtain ⟨k0, k1⟩ := k0
 have A0 := fun w => sub64c0 al bl al0 bl0 (by omega) w
 have U1 : 0 ≤ IntKind.u64.wrap ah ∧ IntKind.u64.wrap ah ≤ 18446744073709551615 := by rw [wrapU_eq]; omega
 have U2 : 0 ≤ IntKind.u64.wrap bh ∧ IntKind.u64.wrap bh ≤ 18446744073709551615 := by rw [wrapU_eq]; omega
 have U3 : IntKind.u64.wrap ah = ah % 18446744073709551616 := wrapU_eq ah
 have U4 : IntKind.u64.wrap bh = bh % 18446744073709551616 := wrapU_eq bh
 rw [← hl] at A0
 generalize (bor64 al bl) = c at *
 have A1 := fun w => sub64c (IntKind.u64.wrap ah) (IntKind.u64.wrap bh) c U1.1 U2.1 (by omega) k0 k1 w
 have hq : wrap64 ((IntKind.u64.wrap ah - IntKind.u64.wrap bh - c) % 18446744073709551616) = s := by
  have e : ((IntKind.u64.wrap ah - IntKind.u64.wrap bh - c) % 18446744073709551616) = s % 18446744073709551616 := by rw [U3, U4, hs]; omega
  rw [e]; exact wrap64_of_mod s s0 s1
 generalize ((IntKind.u64.wrap ah - IntKind.u64.wrap bh - c) % 18446744073709551616) = q at *
 generalize bor64 (IntKind.u64.wrap ah) (IntKind.u64.wrap bh + c) = q2 at *
 have hsum : (0 ≤ ah → bh < 0 → 0 ≤ s) ∧ (ah < 0 → 0 ≤ bh → s < 0) := ⟨by omega, by omega⟩
 clear al0 al1 bl0 bl1 hl U1 U2 U3 U4 k0 k1 hs
 have key : ∀ (p q r : Bool), decide (ah < 0) = p → decide (bh < 0) = q → decide (s < 0) = r → (p = !q → r = p) → Calls Tryz.prog 38 #[.agg #[.int .i64 ah, .int .u64 al], .agg #[.int .i64 bh, .int .u64 bl]] w fun e w' => e = .returned (.tuple #[.agg #[.int .i64 s, .int .u64 l], .bool true]) ∧ Below w.heap.size w w' := by
  intro p q r D1 D2 D3 hk
  clear a0 a1 b0 b1 s0 s1
  cases p <;> cases q <;> cases r <;> (first | (exfalso; revert hk; decide) | skip) <;> clear hk
  all_goals
   go_enter Tryz.func38, Tryz.ntmps38
   go_wp2_with (first | simp only [A0] | simp only [A1])
  all_goals
   refine bodyPost_ret (v := .tuple #[.agg #[.int .i64 s, .int .u64 l], .bool true]) (by simp [results, Tryz.results38, go_sem]) rfl ⟨rfl, ?_⟩
   exact ((((Below.refl _ _).alloc (Nat.le_refl _) _).alloc (by simp) _).alloc (by simp; omega) _).alloc (by simp; omega) _
 exact key _ _ _ rfl rfl rfl (by by_cases h1 : ah < 0 <;> by_cases h2 : bh < 0 <;> by_cases h3 : s < 0 <;> simp [h1, h2, h3] <;> omega)

end Go.Proofs.YthbkljeibmkimaaGreat


namespace Go.Proofs.YthbkljeibmkimaaGreat
open Go.RowKit
set_option linter.unusedVariables false
set_option linter.unusedSimpArgs false

def sumL (zs : List Int) : Int := zs.foldl (· + ·) 0
theorem foldl_start (zs : List Int) (a : Int) : zs.foldl (· + ·) a = a + zs.foldl (· + ·) 0 := by
  induction zs generalizing a with
  | nil => simp
  | cons x l ih => rw [List.foldl_cons, List.foldl_cons, ih (a + x), ih (0 + x)]; omega
theorem sumL_cons (z : Int) (zs : List Int) : sumL (z :: zs) = z + sumL zs := by
  unfold sumL
  rw [List.foldl_cons, foldl_start]; omega
theorem sumL_bd (zs : List Int) (h : ∀ x ∈ zs, -9223372036854775808 ≤ x ∧ x ≤ 9223372036854775807) : -9223372036854775808 * (zs.length : Int) ≤ sumL zs ∧ sumL zs ≤ 9223372036854775807 * (zs.length : Int) := by
  induction zs with
  | nil => simp [sumL]
  | cons x l ih =>
    rw [sumL_cons]
    have h1 := ih (fun y hy => h y (by simp [hy]))
    have h2 := h x (by simp)
    simp only [List.length_cons]
    omega
def wHi (x : Int) : Int := x / 18446744073709551616
def wLo (x : Int) : Int := x % 18446744073709551616
theorem sumL_take (zs : List Int) (j : Nat) (x : Int) (h : zs[j]? = some x) : sumL (zs.take (j + 1)) = sumL (zs.take j) + x := by
  rw [List.take_add_one, h]; simp [sumL]

set_option maxRecDepth 100000 in
set_option maxHeartbeats 4000000 in
theorem sum_yes (zs : List Int) (C cap : Nat) (hn : zs.length ≤ 1000) (hz : ∀ x ∈ zs, -9223372036854775808 ≤ x ∧ x ≤ 9223372036854775807) (w : World)
  (hC : ∀ i u, zs[i]? = some u → w.cell? ⟨C, i, none⟩ = some (.int .i64 u)) (hCw : C < w.heap.size) (x : Int) (hx : x = sumL zs) (x0 : -9223372036854775808 ≤ x) (x1 : x ≤ 9223372036854775807) :
  Calls Tryz.prog 124 #[.slice (some ⟨C, 0, none⟩) zs.length cap] w fun e w' => e = .returned (.tuple #[.int .i64 x, .bool true]) ∧ Below w.heap.size w w' := by
 have HC := Lib.hid hC
 have HZ := Lib.hid hz
 have HX := Lib.hid hx
 clear hC hz hx
 go_enter Tryz.func124, Tryz.ntmps124
 go_wp2
 have hO := Blk.new w 94 #[.int .i64 0, .int .u64 0]
 have hbel : Below w.heap.size w (w.alloc (.cells #[.int .i64 0, .int .u64 0] 94)) := (Below.refl _ _).alloc (Nat.le_refl _) _
 have HO := Lib.hid hO
 have HBL := Lib.hid hbel
 clear hO hbel
 generalize hA : w.heap.size = A at *
 have HA := Lib.hid hA
 clear hA
 go_loopw [9] (fun i wr => ∃ j : Nat, j ≤ zs.length ∧ i = .int .i64 (j : Int) ∧ Blk wr A 94 #[.int .i64 (wHi (sumL (zs.take j))), .int .u64 (wLo (sumL (zs.take j)))] ∧ Below A w wr) (fun i _ => zs.length - (intOf i).toNat)
 case atStart => exact ⟨0, by omega, rfl, HO.out, HBL.out⟩
 case round =>
  obtain ⟨j, hj, rfl, hO, hbel⟩ := hrel
  clear HO HBL
  have HBL := Lib.hid hbel
  have HO := Lib.hid hO
  clear hbel
  by_cases hlt : j < zs.length
  ·have hzj : zs[j]? = some zs[j] := List.getElem?_eq_getElem hlt
   have hcj : wr.cell? ⟨C, j, none⟩ = some (.int .i64 zs[j]) := (HBL.out.cell (p := ⟨C, j, none⟩) hCw).trans (HC.out j _ hzj)
   have hb := HZ.out zs[j] (List.getElem_mem hlt)
   have hs := sumL_take zs j _ hzj
   obtain ⟨T, hT⟩ : ∃ T, T = sumL (zs.take (j + 1)) := ⟨_, rfl⟩
   have HT : Hid (sumL (zs.take (j + 1)) = T) := hT.symm
   rw [← hT] at hs
   clear hT
   have hbd := sumL_bd (zs.take j) (fun x hx => HZ.out x (List.mem_of_mem_take hx))
   have hl : (zs.take j).length ≤ 1000 := by simp; omega
   generalize sumL (zs.take j) = U at *
   generalize zs[j] = z at *
   have q0 := hO.cell 0
   have q1 := hO.cell 1
   simp at q0 q1
   go_wp2_with fail
   have W0 : -9223372036854775808 ≤ wHi U ∧ wHi U ≤ 9223372036854775807 := by unfold wHi; omega
   have W1 : 0 ≤ wLo U ∧ wLo U ≤ 18446744073709551615 := by unfold wLo; omega
   have W2 : 0 ≤ IntKind.u64.wrap z ∧ IntKind.u64.wrap z ≤ 18446744073709551615 := by rw [wrapU_eq]; omega
   have W3 : wHi T = wHi U + z / 9223372036854775808 + (wLo U + IntKind.u64.wrap z) / 18446744073709551616 := by rw [wrapU_eq, hs]; unfold wHi wLo; omega
   have W4 : wLo T = (wLo U + IntKind.u64.wrap z) % 18446744073709551616 := by rw [wrapU_eq, hs]; unfold wLo; omega
   have W5 : -9223372036854775808 ≤ wHi T ∧ wHi T ≤ 9223372036854775807 := by unfold wHi; omega
   have HADD : ∀ w, Calls Tryz.prog 35 #[.agg #[.int .i64 (wHi U), .int .u64 (wLo U)], .agg #[.int .i64 (z / 9223372036854775808), .int .u64 (IntKind.u64.wrap z)]] w fun e w' => e = .returned (.tuple #[.agg #[.int .i64 (wHi T), .int .u64 (wLo T)], .bool true]) ∧ Below w.heap.size w w' :=
    fun w => wadd_any _ _ _ _ _ _ W0.1 W0.2 (by omega) (by omega) W1.1 W1.2 W2.1 W2.2 W3 W4 W5.1 W5.2 w
   have HOF := fun w => of_any z hb.1 hb.2 w
   clear W0 W1 W2 W3 W4 W5 hs hbd hzj
   go_region_with (first | (go_at_call 34; refine (HOF _).mono ?_; rintro e w1 ⟨rfl, hb1⟩; have o1 := HO.out.drew.kept hb1; have q2 := o1.cell 0; have q3 := o1.cell 1; simp at q2 q3) | (go_at_call 35; refine (HADD _).mono ?_; rintro e w2 ⟨rfl, hb2⟩; have o2 := o1.kept hb2; have q4 := o2.cell 0; have q5 := o2.cell 1; have q6 := o2.frozen 0; have q7 := o2.frozen 1; simp at q4 q5))
   all_goals
    have HB9 : Hid (Below A w w2) := Lib.hid ((HBL.out.drew.trans (hb1.mono (by simp; have := HBL.out.size; have := HO.out.lt; omega))).trans (hb2.mono (by have := o1.lt; omega)))
    have HO9 := Lib.hid o2
    clear o1 o2 hb1 hb2 q0 q1 q2 q3 q4 q5 q6 q7
    go_wp2
    go_roundw
    case rel =>
     refine ⟨j + 1, by omega, by go_num, ?_, ?_⟩
     ·have := (HO9.out.set_ 0 (.int .i64 (wHi T))).set_ 1 (.int .u64 (wLo T))
      rw [HT.out]
      simpa using this
     ·exact (HB9.out.setCell (by simp) _).setCell (by simp) _
    case measure => simp [intOf]; omega
  ·obtain rfl : j = zs.length := by omega
   have e : sumL (zs.take zs.length) = x := by rw [List.take_length, HX.out]
   rw [e] at hO HO
   have q0 := hO.cell 0
   have q1 := hO.cell 1
   simp at q0 q1
   have hx1 : wrap64 (wLo x) = x := wrap64_of_mod x x0 x1
   have hx2 : x / 9223372036854775808 = wHi x := by unfold wHi; omega
   have hx3 : IntKind.u64.wrap x = wLo x := wrapU_eq x
   have HI : ∀ w, Calls Tryz.prog 39 #[.agg #[.int .i64 (wHi x), .int .u64 (wLo x)]] w fun e w' => e = .returned (.tuple #[.int .i64 x, .bool true]) ∧ Below w.heap.size w w' :=
    fun w => int_yes _ _ x hx1 x0 x1 hx2 hx3 w
   clear hx1 hx2 hx3 e
   go_wp2_with (go_at_call 39; refine (HI _).mono ?_; rintro e w1 ⟨rfl, hb1⟩)
   go_ret2
   exact ⟨rfl, by rw [HA.out]; exact HBL.out.trans (hb1.mono (by have := HO.out.lt; omega))⟩
set_option maxRecDepth 100000 in
set_option maxHeartbeats 4000000 in
theorem sum_no (zs : List Int) (C cap : Nat) (hn : zs.length ≤ 1000) (hz : ∀ x ∈ zs, -9223372036854775808 ≤ x ∧ x ≤ 9223372036854775807) (w : World)
  (hC : ∀ i u, zs[i]? = some u → w.cell? ⟨C, i, none⟩ = some (.int .i64 u)) (hCw : C < w.heap.size) (x : Int) (hx : x = sumL zs) (xn : ¬ (-9223372036854775808 ≤ x ∧ x ≤ 9223372036854775807)) :
  Calls Tryz.prog 124 #[.slice (some ⟨C, 0, none⟩) zs.length cap] w fun e w' => e = .returned (.tuple #[.int .i64 0, .bool false]) ∧ Below w.heap.size w w' := by
 have HC := Lib.hid hC
 have HZ := Lib.hid hz
 have HX := Lib.hid hx
 clear hC hz hx
 go_enter Tryz.func124, Tryz.ntmps124
 go_wp2
 have hO := Blk.new w 94 #[.int .i64 0, .int .u64 0]
 have hbel : Below w.heap.size w (w.alloc (.cells #[.int .i64 0, .int .u64 0] 94)) := (Below.refl _ _).alloc (Nat.le_refl _) _
 have HO := Lib.hid hO
 have HBL := Lib.hid hbel
 clear hO hbel
 generalize hA : w.heap.size = A at *
 have HA := Lib.hid hA
 clear hA
 go_loopw [9] (fun i wr => ∃ j : Nat, j ≤ zs.length ∧ i = .int .i64 (j : Int) ∧ Blk wr A 94 #[.int .i64 (wHi (sumL (zs.take j))), .int .u64 (wLo (sumL (zs.take j)))] ∧ Below A w wr) (fun i _ => zs.length - (intOf i).toNat)
 case atStart => exact ⟨0, by omega, rfl, HO.out, HBL.out⟩
 case round =>
  obtain ⟨j, hj, rfl, hO, hbel⟩ := hrel
  clear HO HBL
  have HBL := Lib.hid hbel
  have HO := Lib.hid hO
  clear hbel
  by_cases hlt : j < zs.length
  ·have hzj : zs[j]? = some zs[j] := List.getElem?_eq_getElem hlt
   have hcj : wr.cell? ⟨C, j, none⟩ = some (.int .i64 zs[j]) := (HBL.out.cell (p := ⟨C, j, none⟩) hCw).trans (HC.out j _ hzj)
   have hb := HZ.out zs[j] (List.getElem_mem hlt)
   have hs := sumL_take zs j _ hzj
   obtain ⟨T, hT⟩ : ∃ T, T = sumL (zs.take (j + 1)) := ⟨_, rfl⟩
   have HT : Hid (sumL (zs.take (j + 1)) = T) := hT.symm
   rw [← hT] at hs
   clear hT
   have hbd := sumL_bd (zs.take j) (fun x hx => HZ.out x (List.mem_of_mem_take hx))
   have hl : (zs.take j).length ≤ 1000 := by simp; omega
   generalize sumL (zs.take j) = U at *
   generalize zs[j] = z at *
   have q0 := hO.cell 0
   have q1 := hO.cell 1
   simp at q0 q1
   go_wp2_with fail
   have W0 : -9223372036854775808 ≤ wHi U ∧ wHi U ≤ 9223372036854775807 := by unfold wHi; omega
   have W1 : 0 ≤ wLo U ∧ wLo U ≤ 18446744073709551615 := by unfold wLo; omega
   have W2 : 0 ≤ IntKind.u64.wrap z ∧ IntKind.u64.wrap z ≤ 18446744073709551615 := by rw [wrapU_eq]; omega
   have W3 : wHi T = wHi U + z / 9223372036854775808 + (wLo U + IntKind.u64.wrap z) / 18446744073709551616 := by rw [wrapU_eq, hs]; unfold wHi wLo; omega
   have W4 : wLo T = (wLo U + IntKind.u64.wrap z) % 18446744073709551616 := by rw [wrapU_eq, hs]; unfold wLo; omega
   have W5 : -9223372036854775808 ≤ wHi T ∧ wHi T ≤ 9223372036854775807 := by unfold wHi; omega
   have HADD : ∀ w, Calls Tryz.prog 35 #[.agg #[.int .i64 (wHi U), .int .u64 (wLo U)], .agg #[.int .i64 (z / 9223372036854775808), .int .u64 (IntKind.u64.wrap z)]] w fun e w' => e = .returned (.tuple #[.agg #[.int .i64 (wHi T), .int .u64 (wLo T)], .bool true]) ∧ Below w.heap.size w w' :=
    fun w => wadd_any _ _ _ _ _ _ W0.1 W0.2 (by omega) (by omega) W1.1 W1.2 W2.1 W2.2 W3 W4 W5.1 W5.2 w
   have HOF := fun w => of_any z hb.1 hb.2 w
   clear W0 W1 W2 W3 W4 W5 hs hbd hzj
   go_region_with (first | (go_at_call 34; refine (HOF _).mono ?_; rintro e w1 ⟨rfl, hb1⟩; have o1 := HO.out.drew.kept hb1; have q2 := o1.cell 0; have q3 := o1.cell 1; simp at q2 q3) | (go_at_call 35; refine (HADD _).mono ?_; rintro e w2 ⟨rfl, hb2⟩; have o2 := o1.kept hb2; have q4 := o2.cell 0; have q5 := o2.cell 1; have q6 := o2.frozen 0; have q7 := o2.frozen 1; simp at q4 q5))
   all_goals
    have HB9 : Hid (Below A w w2) := Lib.hid ((HBL.out.drew.trans (hb1.mono (by simp; have := HBL.out.size; have := HO.out.lt; omega))).trans (hb2.mono (by have := o1.lt; omega)))
    have HO9 := Lib.hid o2
    clear o1 o2 hb1 hb2 q0 q1 q2 q3 q4 q5 q6 q7
    go_wp2
    go_roundw
    case rel =>
     refine ⟨j + 1, by omega, by go_num, ?_, ?_⟩
     ·have := (HO9.out.set_ 0 (.int .i64 (wHi T))).set_ 1 (.int .u64 (wLo T))
      rw [HT.out]
      simpa using this
     ·exact (HB9.out.setCell (by simp) _).setCell (by simp) _
    case measure => simp [intOf]; omega
  ·obtain rfl : j = zs.length := by omega
   have e : sumL (zs.take zs.length) = x := by rw [List.take_length, HX.out]
   rw [e] at hO HO
   have q0 := hO.cell 0
   have q1 := hO.cell 1
   simp at q0 q1
   have hbd := sumL_bd zs HZ.out
   have hxx := HX.out
   obtain ⟨y, hy⟩ : ∃ y, wrap64 (wLo x) = y := ⟨_, rfl⟩
   have hy0 : -9223372036854775808 ≤ y ∧ y ≤ 9223372036854775807 := by rw [← hy]; unfold wrap64; omega
   have hx2 : ¬ y / 9223372036854775808 = wHi x := by
    rw [← hy]; unfold wrap64 wHi wLo; omega
   have HI : ∀ w, Calls Tryz.prog 39 #[.agg #[.int .i64 (wHi x), .int .u64 (wLo x)]] w fun e w' => e = .returned (.tuple #[.int .i64 0, .bool false]) ∧ Below w.heap.size w w' :=
    fun w => int_no _ _ y hy hy0.1 hy0.2 hx2 w
   clear hy hx2 e hbd hxx
   go_wp2_with (go_at_call 39; refine (HI _).mono ?_; rintro e w1 ⟨rfl, hb1⟩)
   go_ret2
   exact ⟨rfl, by rw [HA.out]; exact HBL.out.trans (hb1.mono (by have := HO.out.lt; omega))⟩

def TwoPost (w : World) (x : Int) (b : Bool) (e : Ending) (w' : World) : Prop := e = .returned (.tuple #[.int .i64 x, .bool b]) ∧ Below w.heap.size w w'
theorem two_cells (w : World) (a b : Int) (t : TypeId) : ∀ i u, ([a, b] : List Int)[i]? = some u → (w.alloc (.cells #[.int .i64 a, .int .i64 b] t)).cell? ⟨w.heap.size, i, none⟩ = some (.int .i64 u) := by
  intro i u hu
  have h := (Blk.new w t #[.int .i64 a, .int .i64 b]).cell i
  rw [h]
  match i with
  | 0 => simp at hu; simp [hu]
  | 1 => simp at hu; simp [hu]
  | n + 2 => simp at hu
theorem plus_yes (a b : Int) (a0 : -9223372036854775808 ≤ a) (a1 : a ≤ 9223372036854775807) (b0 : -9223372036854775808 ≤ b) (b1 : b ≤ 9223372036854775807) (s0 : -9223372036854775808 ≤ a + b) (s1 : a + b ≤ 9223372036854775807) (w : World) :
    Calls Tryz.prog 121 #[.int .i64 a, .int .i64 b] w (TwoPost w (a + b) true) := by
  have HS := sum_yes [a, b] w.heap.size 2 (by simp) (by intro x hx; simp at hx; omega) (w.alloc (.cells #[.int .i64 a, .int .i64 b] 2)) (two_cells w a b _) (by simp) (a + b) (by simp [sumL]) s0 s1
  simp only [List.length_cons, List.length_nil, Nat.zero_add, Nat.reduceAdd] at HS
  generalize a + b = x at *
  go_enter Tryz.func121, Tryz.ntmps121
  go_wp2_with (go_at_call 124; refine HS.mono ?_; rintro e w1 ⟨rfl, hb1⟩)
  go_ret2
  exact ⟨rfl, ((Below.refl _ _).alloc (Nat.le_refl _) _).trans (hb1.mono (by simp))⟩
theorem plus_no (a b : Int) (a0 : -9223372036854775808 ≤ a) (a1 : a ≤ 9223372036854775807) (b0 : -9223372036854775808 ≤ b) (b1 : b ≤ 9223372036854775807) (sn : ¬ (-9223372036854775808 ≤ a + b ∧ a + b ≤ 9223372036854775807)) (w : World) :
    Calls Tryz.prog 121 #[.int .i64 a, .int .i64 b] w (TwoPost w 0 false) := by
  have HS := sum_no [a, b] w.heap.size 2 (by simp) (by intro x hx; simp at hx; omega) (w.alloc (.cells #[.int .i64 a, .int .i64 b] 2)) (two_cells w a b _) (by simp) (a + b) (by simp [sumL]) sn
  simp only [List.length_cons, List.length_nil, Nat.zero_add, Nat.reduceAdd] at HS
  clear sn
  go_enter Tryz.func121, Tryz.ntmps121
  go_wp2_with (go_at_call 124; refine HS.mono ?_; rintro e w1 ⟨rfl, hb1⟩)
  go_ret2
  exact ⟨rfl, ((Below.refl _ _).alloc (Nat.le_refl _) _).trans (hb1.mono (by simp))⟩


end Go.Proofs.YthbkljeibmkimaaGreat


namespace Go.Proofs.YthbkljeibmkimaaGreat
open Go.RowKit
set_option linter.unusedVariables false
set_option linter.unusedSimpArgs false

def OpOK (F : Nat) (f : Int → Int → Int) : Prop := ∀ (a b : Int) (w : World), In64 a → In64 b →
  (In64 (f a b) → Calls Tryz.prog F #[.int .i64 a, .int .i64 b] w (TwoPost w (f a b) true)) ∧ (¬ In64 (f a b) → Calls Tryz.prog F #[.int .i64 a, .int .i64 b] w (TwoPost w 0 false))
theorem opok_plus : OpOK 121 (fun a b => a + b) := fun a b w ha hb =>
  ⟨fun h => plus_yes a b ha.1 ha.2 hb.1 hb.2 h.1 h.2 w, fun h => plus_no a b ha.1 ha.2 hb.1 hb.2 h w⟩
end Go.Proofs.YthbkljeibmkimaaGreat


namespace Go.Proofs.YthbkljeibmkimaaGreat
open Go.RowKit
set_option linter.unusedVariables false
set_option linter.unusedSimpArgs false

def meetB (R W : Nat) (cs : List Int) : Bool := decide (0 < R) && (decide (cs.length = R) && cs.all fun c => decide (0 ≤ c) && decide (c < (W : Int)))
def colN (cs : List Int) (r : Nat) : Nat := (cellD cs r).toNat
def readZ (W : Nat) (zs cs : List Int) : List Int := (List.range cs.length).map fun r => cellD zs (r * W + colN cs r)
theorem meetB_of {R W : Nat} {cs : List Int} (h : meetB R W cs = true) : 0 < R ∧ cs.length = R ∧ ∀ r, r < R → cs[r]? = some (colN cs r : Int) ∧ colN cs r < W := by
  simp only [meetB, Bool.and_eq_true, decide_eq_true_eq, List.all_eq_true] at h
  obtain ⟨h0, h1, h2⟩ := h
  refine ⟨h0, h1, fun r hr => ?_⟩
  have hl : r < cs.length := by omega
  have e : cellD cs r = cs[r] := by simp [cellD, hl]
  have := h2 cs[r] (List.getElem_mem hl)
  unfold colN
  rw [e, List.getElem?_eq_getElem hl]
  exact ⟨by rw [Int.toNat_of_nonneg (by omega)], by omega⟩
theorem meetB_zero {W : Nat} {cs : List Int} : meetB 0 W cs = false := by simp [meetB]
theorem meetB_len {R W : Nat} {cs : List Int} (h : cs.length ≠ R) : meetB R W cs = false := by simp [meetB, h]
theorem meetB_bad {R W : Nat} {cs : List Int} {j : Nat} {c : Int} (hc : cs[j]? = some c) (h : c < 0 ∨ (W : Int) ≤ c) : meetB R W cs = false := by
  cases hm : meetB R W cs with
  | false => rfl
  | true =>
    simp only [meetB, Bool.and_eq_true, decide_eq_true_eq, List.all_eq_true] at hm
    have := hm.2.2 c (List.mem_of_getElem? hc)
    omega
theorem meetB_all {R W : Nat} {cs : List Int} (h0 : 0 < R) (h1 : cs.length = R) (h2 : ∀ (j : Nat) (c : Int), cs[j]? = some c → 0 ≤ c ∧ c < (W : Int)) : meetB R W cs = true := by
  simp only [meetB, Bool.and_eq_true, decide_eq_true_eq, List.all_eq_true]
  refine ⟨h0, h1, fun c hc => ?_⟩
  obtain ⟨j, hj⟩ := List.getElem?_of_mem hc
  exact h2 j c hj

set_option maxRecDepth 100000 in
set_option maxHeartbeats 4000000 in
theorem meet_any (w : World) (G C R W : Nat) (zs cs : List Int) (v : Value) (h : GridIs w G C R W zs) (hv : IntsAt w v cs) (hl : cs.length ≤ 100000) :
  Calls Tryz.prog 142 #[.pointer (some ⟨G, 0, none⟩), v] w fun e w' => e = .returned (.bool (meetB R W cs)) ∧ w = w' := by
 have P1 := rows_any w G C R W zs h
 have P2 := width_any w G C R W zs h
 clear h
 obtain ⟨ao, cap, rfl, hcap, hcells⟩ := hv
 have HC := Lib.hid hcells
 clear hcells
 obtain ⟨n, hlen⟩ : ∃ n, n = cs.length := ⟨_, rfl⟩
 rw [← hlen] at hcap hl ⊢
 have HLEN := Lib.hid hlen
 clear hlen
 by_cases hR : R = 0
 ·have HM : Hid (meetB R W cs = false) := Lib.hid (by rw [hR]; exact meetB_zero)
  have d0 : decide ((R : Int) < 1) = true := decide_eq_true (by omega)
  have d0' : decide (R < 1) = true := decide_eq_true (by omega)
  clear hR
  go_enter Tryz.func142, Tryz.ntmps142
  go_wp2_with (go_at_call 149; refine P1.mono ?_; rintro e w' ⟨rfl, rfl⟩)
  go_ret
  exact ⟨ret_boolq HM.out.symm, rfl⟩
 have d0 : decide ((R : Int) < 1) = false := decide_eq_false (by omega)
 have d0' : decide (R < 1) = false := decide_eq_false (by omega)
 by_cases hn : n = R
 ·have HN := Lib.hid hn
  have d1 : ((n : Int) != (R : Int)) = false := by simp [hn]
  have d1' : (n != R) = false := by simp [hn]
  have h0R : 0 < R := by omega
  clear hn hR
  go_enter Tryz.func142, Tryz.ntmps142
  go_wp2_with (go_at_call 149; refine P1.mono ?_; rintro e w' ⟨rfl, rfl⟩)
  go_loop [23] (fun i => ∃ j : Nat, j ≤ n ∧ i = .int .i64 (j : Int) ∧ ∀ k c, k < j → cs[k]? = some c → 0 ≤ c ∧ c < (W : Int)) (fun i => n - (intOf i).toNat)
  case atStart => exact ⟨0, by omega, rfl, fun k c hk => by omega⟩
  case round =>
   obtain ⟨j, hj, rfl, hok⟩ := hrel
   have HOK := Lib.hid hok
   clear hok
   by_cases hlt : j < n
   ·obtain ⟨g, rfl, hg, hc⟩ := HC.out (by have := HLEN.out; omega)
    have hcj : cs[j]? = some (cellD cs j) := by
     have : j < cs.length := by have := HLEN.out; omega
     simp [cellD, this]
    have cx := hc j _ hcj
    have HCJ := Lib.hid hcj
    clear hc hcj
    generalize cellD cs j = x at *
    by_cases h1 : x < 0
    ·have HM : Hid (meetB R W cs = false) := Lib.hid (meetB_bad HCJ.out (.inl h1))
     have e1 : decide (x < 0) = true := decide_eq_true h1
     clear h1
     go_wp2_with (go_at_call 120; refine P2.mono ?_; rintro e w' ⟨rfl, rfl⟩)
     go_ret
     exact ⟨ret_boolq HM.out.symm, rfl⟩
    by_cases h2 : (W : Int) ≤ x
    ·have HM : Hid (meetB R W cs = false) := Lib.hid (meetB_bad HCJ.out (.inr h2))
     have e1 : decide (x < 0) = false := decide_eq_false h1
     have e2 : decide ((W : Int) ≤ x) = true := decide_eq_true h2
     clear h1 h2
     go_wp2_with (go_at_call 120; refine P2.mono ?_; rintro e w' ⟨rfl, rfl⟩)
     go_ret
     exact ⟨ret_boolq HM.out.symm, rfl⟩
    have HX : Hid (∀ k c, k < j + 1 → cs[k]? = some c → 0 ≤ c ∧ c < (W : Int)) := Lib.hid (fun k c hk hc => by
     by_cases e : k = j
     ·subst e; rw [HCJ.out] at hc; have := Option.some.inj hc; omega
     ·exact HOK.out k c (by omega) hc)
    have e1 : decide (x < 0) = false := decide_eq_false h1
    have e2 : decide ((W : Int) ≤ x) = false := decide_eq_false h2
    clear h1 h2
    go_wp2_with (go_at_call 120; refine P2.mono ?_; rintro e w' ⟨rfl, rfl⟩)
    go_round
    case rel => exact ⟨j + 1, by omega, by go_num, HX.out⟩
    case measure => simp [intOf]; omega
   ·obtain rfl : j = n := by omega
    have HM : Hid (meetB R W cs = true) := Lib.hid (meetB_all h0R (by rw [← HLEN.out, HN.out]) (fun k c hc => HOK.out k c (by
     have := (List.getElem?_eq_some_iff.1 hc).1
     have := HLEN.out
     omega) hc))
    go_wp2
    go_ret
    exact ⟨ret_boolq HM.out.symm, rfl⟩
 ·have HM : Hid (meetB R W cs = false) := Lib.hid (meetB_len (by have := HLEN.out; omega))
  have d1 : ((n : Int) != (R : Int)) = true := by simp; omega
  have d1' : (n != R) = true := by simp; omega
  clear hn hR
  go_enter Tryz.func142, Tryz.ntmps142
  go_wp2_with (go_at_call 149; refine P1.mono ?_; rintro e w' ⟨rfl, rfl⟩)
  go_ret
  exact ⟨ret_boolq HM.out.symm, rfl⟩

def ReadPost (w : World) (W : Nat) (zs cs : List Int) (e : Ending) (w' : World) : Prop :=
  ∃ g, e = .returned (.tuple #[.slice (some ⟨g, 0, none⟩) cs.length cs.length, .int .i64 0]) ∧ w.heap.size ≤ g ∧ w'.rowIs g 2 cs.length (fun r => .int .i64 (cellD zs (r * W + colN cs r))) ∧ Below w.heap.size w w'

set_option maxRecDepth 100000 in
set_option maxHeartbeats 4000000 in
theorem read_yes (w : World) (G C R W : Nat) (zs cs : List Int) (v : Value) (h : GridIs w G C R W zs) (hv : IntsAt w v cs) (hm : meetB R W cs = true) :
  Calls Tryz.prog 134 #[.pointer (some ⟨G, 0, none⟩), v] w (ReadPost w W zs cs) := by
 have hRle := h.rows
 have P1 := fun hl => meet_any w G C R W zs cs v h hv hl
 obtain ⟨h0R, hlR, hcol⟩ := meetB_of hm
 rw [hm] at P1
 have HG := Lib.hid h
 have HV := Lib.hid hv
 have HCOL := Lib.hid hcol
 clear h hcol hm
 have P2 := P1 (by omega)
 clear P1
 obtain ⟨ao, cap, rfl, hcap, hcells⟩ := hv
 obtain ⟨g, rfl, hg, hc⟩ := hcells (by omega)
 have HC := Lib.hid hc
 clear hcells hc
 obtain ⟨n, hlen⟩ : ∃ n, n = cs.length := ⟨_, rfl⟩
 rw [← hlen] at hcap P2
 unfold ReadPost
 simp only [← hlen]
 have HLEN := Lib.hid hlen
 have hn8 : n ≤ 8 := by omega
 have hnR : Hid (n = R) := by show _ = _; omega
 clear hlen hlR hRle
 have hmk := fun W => run_make_row' (P := Tryz.prog) 54 2 (.int .i64 0) 8 Tryz.underlying54 Tryz.info64 rfl .i64 .i64 n (by omega) (by omega) W
 go_enter Tryz.func134, Tryz.ntmps134
 go_wp2_with (go_at_call 142; refine P2.mono ?_; rintro e w' ⟨rfl, hw'⟩; subst hw')
 obtain ⟨f, hf⟩ : ∃ f : Nat → Int, f = fun r => cellD zs (r * W + colN cs r) := ⟨_, rfl⟩
 have HF := Lib.hid hf
 clear hf
 have hrow := RowUpTo.zeros (f := f) (World.rowIs_made w (.int .i64 0) n 2)
 have hbel : Below w.heap.size w (w.alloc (.cells (madeCells #[.int .i64 0] n) 2)) := (Below.refl _ _).alloc (Nat.le_refl _) _
 have hszg : w.heap.size < (w.alloc (.cells (madeCells #[.int .i64 0] n) 2)).heap.size := by simp
 generalize (w.alloc (.cells (madeCells #[.int .i64 0] n) 2)) = wz at *
 have HRW := Lib.hid hrow
 have HB := Lib.hid hbel
 clear hrow hbel hmk
 generalize hA : w.heap.size = A at *
 have HA := Lib.hid hA
 clear hA
 go_loopw [18] (fun i wr => ∃ j : Nat, j ≤ n ∧ i = .int .i64 (j : Int) ∧ RowUpTo wr A 2 n f j ∧ Below A w wr) (fun i _ => n - (intOf i).toNat)
 case atStart => exact ⟨0, by omega, rfl, HRW.out, HB.out⟩
 case round =>
  obtain ⟨j, hj, rfl, hrow, hbel⟩ := hrel
  clear HRW HB
  have HRW := Lib.hid hrow
  have HB := Lib.hid hbel
  by_cases hlt : j < n
  ·obtain ⟨hcj, hcw⟩ := HCOL.out j (by have := hnR.out; omega)
   have cx := (hbel.cell (p := ⟨g, j, none⟩) hg).trans (HC.out j _ hcj)
   have hG := HG.out
   have hgk : GridIs wr G C R W zs := hG.below hbel (by have := hG.ltG; have := HA.out; omega) (by have := hG.ltC; have := HA.out; omega)
   have P3 := at_in wr G C R W j (colN cs j) zs hgk (by have := hnR.out; omega) hcw
   have HFJ : Hid (cellD zs (j * W + colN cs j) = f j) := Lib.hid (by rw [HF.out])
   obtain ⟨ov, hov⟩ := hrow.cell hlt
   have hfr := hrow.frozen j
   clear hG hgk hcj hcw hrow hbel
   generalize cellD zs (j * W + colN cs j) = x at *
   generalize colN cs j = y at *
   have i0 : (0 : Int) ≤ (j : Int) := by omega
   have i1 : (j : Int) < (n : Int) := by omega
   go_wp2_with (go_at_call 122; refine P3.mono ?_; rintro e w' ⟨rfl, hw'⟩; subst hw')
   go_roundw
   case rel => exact ⟨j + 1, by omega, by go_num, HRW.out.put HFJ.out, HB.out.setCell (Nat.le_refl _) _⟩
   case measure => simp [intOf]; omega
  ·obtain rfl : j = n := by omega
   have HFU : Hid (wr.rowIs A 2 j (fun r => .int .i64 (cellD zs (r * W + colN cs r)))) := Lib.hid (by have := HRW.out.full; rw [HF.out] at this; exact this)
   clear hrow hbel
   go_wp2
   go_ret2
   exact ⟨A, rfl, Nat.le_of_eq HA.out, HFU.out, by rw [HA.out]; exact HB.out⟩
end Go.Proofs.YthbkljeibmkimaaGreat


namespace Go.Proofs.YthbkljeibmkimaaGreat
open Go.RowKit
set_option linter.unusedVariables false
set_option linter.unusedSimpArgs false

structure RefIs (w : World) (N G : Nat) (v : Value) (B K : Nat → Nat) (R W : Nat) (zs : List Int) : Prop where
  box : Blk w G 121 #[v]
  own : w.ownsRow N 54 1 v R ((List.range R).map fun r => Value.slice (some ⟨B r, 0, none⟩) W (K r))
  cap : ∀ r, r < R → W ≤ K r
  cells : ∀ r, r < R → ∃ cur : Array Value, Blk w (B r) 2 cur ∧ ∀ (c : Nat) (u : Int), c < W → zs[r * W + c]? = some u → cur[c]? = some (Value.int .i64 u)
  inj : ∀ r r', r < R → r' < R → B r = B r' → r = r'
  lo : N ≤ G ∧ ∀ r, r < R → N ≤ B r
  len : zs.length = R * W
  rows : R ≤ 8
  width : W ≤ 128

theorem RefIs.ltG {w : World} {N G : Nat} {v : Value} {B K : Nat → Nat} {R W : Nat} {zs : List Int} (h : RefIs w N G v B K R W zs) : G < w.heap.size := h.box.lt
theorem RefIs.openG {w : World} {N G : Nat} {v : Value} {B K : Nat → Nat} {R W : Nat} {zs : List Int} (h : RefIs w N G v B K R W zs) : ∃ (ao : Option Addr) (cap : Nat), v = .slice ao R cap ∧ R ≤ cap ∧
    (0 < R → ∃ L cur, ao = some ⟨L, 0, none⟩ ∧ N ≤ L ∧ Blk w L 54 cur ∧ ∀ r, r < R → cur[r]? = some (Value.slice (some ⟨B r, 0, none⟩) W (K r))) := by
  rcases h.own.2 with ⟨rfl, rfl⟩ | ⟨g, cap, cur, rfl, hb, hg, hnc, hcm, hsz, htake⟩
  · exact ⟨none, 0, rfl, Nat.le_refl _, fun h => by omega⟩
  · refine ⟨_, _, rfl, hnc, fun _ => ⟨g, cur, rfl, hb, hg, fun r hr => ?_⟩⟩
    have h2 : (cur.toList.take (R * 1))[r]? = ((List.range R).map fun r => Value.slice (some ⟨B r, 0, none⟩) W (K r))[r]? := by rw [htake]
    rw [List.getElem?_take, if_pos (by omega)] at h2
    simpa [hr] using h2
theorem RefIs.grown {w w' : World} {N G : Nat} {v : Value} {B K : Nat → Nat} {R W : Nat} {zs : List Int} {row : Option Nat} (h : RefIs w N G v B K R W zs) (hb : w.grownBy w' row) (hr : ∀ k, row = some k → k < N) : RefIs w' N G v B K R W zs := by
  have hne : ∀ g, N ≤ g → some g ≠ row := fun g hg e => by have := hr g e.symm; omega
  refine ⟨h.box.grown hb (hne _ h.lo.1), h.own.kept hb ?_, h.cap, fun r hr' => ?_, h.inj, h.lo, h.len, h.rows, h.width⟩
  · cases ho : v.ownBlock with
    | none => exact .inl rfl
    | some k => exact .inr (hne k (h.own.lt k ho).1)
  · obtain ⟨cur, hc, hcur⟩ := h.cells r hr'
    exact ⟨cur, hc.grown hb (hne _ (h.lo.2 r hr')), hcur⟩
theorem RefIs.kept {w w' : World} {N G : Nat} {v : Value} {B K : Nat → Nat} {R W : Nat} {zs : List Int} (h : RefIs w N G v B K R W zs) (hb : Below w.heap.size w w') : RefIs w' N G v B K R W zs :=
  h.grown (row := none) ⟨hb.os, hb.tape, hb.output, hb.size, fun k hk _ => hb.block k hk⟩ (fun k e => by cases e)
theorem RefIs.drewN {w : World} {N G : Nat} {v : Value} {B K : Nat → Nat} {R W : Nat} {zs : List Int} (h : RefIs w N G v B K R W zs) (n : Nat) : RefIs (w.drewN n) N G v B K R W zs := h.kept (below_drewN (Below.refl _ _) n)

theorem place_eq {W a c b d : Nat} (hc : c < W) (hd : d < W) (h : a * W + c = b * W + d) : a = b ∧ c = d := by
  have h1 : (a * W + c) / W = a := by rw [Nat.mul_comm, Nat.mul_add_div (by omega), Nat.div_eq_of_lt hc]; rfl
  have h2 : (b * W + d) / W = b := by rw [Nat.mul_comm, Nat.mul_add_div (by omega), Nat.div_eq_of_lt hd]; rfl
  have h3 : a = b := by rw [← h1, ← h2, h]
  subst h3
  exact ⟨rfl, by omega⟩
theorem RefIs.set {w : World} {N G : Nat} {v : Value} {B K : Nat → Nat} {R W : Nat} {zs : List Int} (h : RefIs w N G v B K R W zs) (r c : Nat) (u : Int) (hr : r < R) (hc : c < W) :
  RefIs (w.setCell ⟨B r, c, none⟩ (.int .i64 u)) N G v B K R W (zs.set (r * W + c) u) := by
 obtain ⟨cur0, hC0, hcur0⟩ := h.cells r hr
 have hgr := grown_set w (B r) c (.int .i64 u)
 refine ⟨h.box.far (h.box.ne_ hC0 (by decide)) _, h.own.kept hgr ?_, h.cap, fun r' hr' => ?_, h.inj, h.lo, by simp [h.len], h.rows, h.width⟩
 ·rcases h.own.2 with ⟨rfl, rfl⟩ | ⟨g, cap, cur, rfl, hb, hg, _⟩
  ·exact .inl rfl
  ·right
   simp only [Value.ownBlock]
   intro e
   have e := Option.some.inj e
   have : g ≠ B r := Blk.ne_ (w := w) (g := g) (g' := B r) hg hC0 (by decide)
   exact this e
 ·by_cases e : r' = r
  ·subst e
   refine ⟨_, hC0.set_ c _, fun d v hd hv => ?_⟩
   have hlen : r' * W + d < zs.length := by
    have := (List.getElem?_eq_some_iff.1 hv).1
    simpa using this
   obtain ⟨z, hz⟩ : ∃ z, zs[r' * W + d]? = some z := ⟨_, List.getElem?_eq_getElem hlen⟩
   have hcd := hcur0 d z hd hz
   have hdc : d < cur0.size := (Array.getElem?_eq_some_iff.1 hcd).1
   rw [List.getElem?_set] at hv
   rw [Array.getElem?_setIfInBounds]
   by_cases e : c = d
   ·subst e
    simp [hlen] at hv
    simp [hdc, hv]
   ·have e2 : ¬ (r' * W + c = r' * W + d) := by omega
    simp [e, e2] at hv ⊢
    exact hcur0 d v hd hv
  ·obtain ⟨cur, hC, hcur⟩ := h.cells r' hr'
   refine ⟨cur, hC.far (fun k => e (h.inj r' r hr' hr k)) _, fun d v hd hv => ?_⟩
   have e2 : ¬ (r * W + c = r' * W + d) := fun k => e (place_eq hc hd k).1.symm
   rw [List.getElem?_set, if_neg e2] at hv
   exact hcur d v hd hv
end Go.Proofs.YthbkljeibmkimaaGreat


namespace Go.Proofs.YthbkljeibmkimaaGreat
open Go.RowKit
set_option linter.unusedVariables false
set_option linter.unusedSimpArgs false

def PO : BitVec 32 := 3988292384#32
end Go.Proofs.YthbkljeibmkimaaGreat


namespace Go.Proofs.YthbkljeibmkimaaGreat
open Go.RowKit
set_option linter.unusedVariables false
set_option linter.unusedSimpArgs false

def Byts (bs : List Int) : Prop := ∀ u ∈ bs, 0 ≤ u ∧ u ≤ 255
def BytesAt (w : World) (v : Value) (bs : List Int) : Prop :=
  ∃ (ao : Option Addr) (cap : Nat), v = .slice ao bs.length cap ∧ bs.length ≤ cap ∧ cap ≤ maxLen ∧ ((bs = [] ∧ ao = none) ∨ ∃ g off, ao = some ⟨g, off, none⟩ ∧ g < w.heap.size ∧ ∀ (i : Nat) (u : Int), bs[i]? = some u → w.cell? ⟨g, off + i, none⟩ = some (.int .u8 u))
theorem BytesAt.kept {w w' : World} {v : Value} {bs : List Int} (h : BytesAt w v bs) (hb : Below w.heap.size w w') : BytesAt w' v bs := by
  obtain ⟨ao, cap, e, h1, h2, h3⟩ := h
  refine ⟨ao, cap, e, h1, h2, ?_⟩
  rcases h3 with h3 | ⟨g, off, e2, hg, hc⟩
  · exact .inl h3
  · exact .inr ⟨g, off, e2, Nat.lt_of_lt_of_le hg hb.size, fun i u hu => (hb.cell (p := ⟨g, off + i, none⟩) hg).trans (hc i u hu)⟩
theorem BytesAt.below {w w' : World} {B : Nat} {v : Value} {bs : List Int} (h : BytesAt w v bs) (hb : Below B w w') (hB : ∀ g off, v = .slice (some ⟨g, off, none⟩) bs.length (match v with | .slice _ _ c => c | _ => 0) → g < B) : BytesAt w' v bs := by
  obtain ⟨ao, cap, e, h1, h2, h3⟩ := h
  refine ⟨ao, cap, e, h1, h2, ?_⟩
  rcases h3 with h3 | ⟨g, off, e2, hg, hc⟩
  · exact .inl h3
  · have hgB : g < B := hB g off (by subst e; subst e2; rfl)
    exact .inr ⟨g, off, e2, Nat.lt_of_lt_of_le hg hb.size, fun i u hu => (hb.cell (p := ⟨g, off + i, none⟩) hgB).trans (hc i u hu)⟩
theorem Byts.nil : Byts [] := fun u hu => by cases hu
theorem Byts.append {a b : List Int} (ha : Byts a) (hb : Byts b) : Byts (a ++ b) := fun u hu => by
  rcases List.mem_append.1 hu with h | h
  · exact ha u h
  · exact hb u h
theorem Byts.take {a : List Int} (ha : Byts a) (n : Nat) : Byts (a.take n) := fun u hu => ha u (List.mem_of_mem_take hu)
theorem Byts.drop {a : List Int} (ha : Byts a) (n : Nat) : Byts (a.drop n) := fun u hu => ha u (List.mem_of_mem_drop hu)
theorem Byts.get {a : List Int} (ha : Byts a) {i : Nat} {u : Int} (h : a[i]? = some u) : 0 ≤ u ∧ u ≤ 255 := ha u (List.mem_of_getElem? h)
theorem Byts.cellD {a : List Int} (ha : Byts a) (i : Nat) : 0 ≤ cellD a i ∧ cellD a i ≤ 255 := by
  unfold Go.Proofs.YthbkljeibmkimaaGreat.cellD
  cases hz : a[i]? with
  | none => exact ⟨by simp, by simp⟩
  | some x => simpa using ha.get hz
theorem BytesAt.of_own {w : World} {base : Nat} {v : Value} {bs : List Int} (h : w.ownsRow base 5 1 v bs.length (bs.map (Value.int .u8))) : BytesAt w v bs := by
  obtain ⟨h0, h1⟩ := h
  rcases h1 with ⟨rfl, hl⟩ | ⟨g, cap, cur, rfl, hg, hblk, hcap, hm, hsz, htk⟩
  · exact ⟨none, 0, by rw [hl], by omega, by unfold maxLen; omega, .inl ⟨List.eq_nil_of_length_eq_zero hl, rfl⟩⟩
  · refine ⟨_, cap, rfl, hcap, hm, .inr ⟨g, 0, rfl, (show Blk w g 5 cur from hblk).lt, fun i u hu => ?_⟩⟩
    rw [Nat.zero_add, (show Blk w g 5 cur from hblk).cell i]
    have h1 : (bs.map (Value.int .u8))[i]? = some (.int .u8 u) := by rw [List.getElem?_map, hu]; rfl
    rw [← htk, List.getElem?_take] at h1
    split at h1
    · simpa using h1
    · cases h1
theorem BytesAt.part {w : World} {ao : Option Addr} {cap : Nat} {bs : List Int} (h : BytesAt w (.slice ao bs.length cap) bs) (a b c : Nat) (hab : a ≤ b) (hb : b ≤ bs.length) (hbc : b ≤ c) (hc : c ≤ cap) (ao' : Option Addr) (he : ∀ g off, ao = some ⟨g, off, none⟩ → ao' = some ⟨g, off + a, none⟩) (hn : ao = none → ao' = none) : BytesAt w (.slice ao' (b - a) (c - a)) ((bs.take b).drop a) := by
  obtain ⟨ao2, cap2, e, h1, h2, h3⟩ := h
  simp only [Value.slice.injEq] at e
  obtain ⟨rfl, -, rfl⟩ := e
  have hl : ((bs.take b).drop a).length = b - a := by simp; omega
  refine ⟨ao', c - a, by rw [hl], by rw [hl]; omega, by omega, ?_⟩
  rcases h3 with ⟨rfl, rfl⟩ | ⟨g, off, rfl, hg, hcc⟩
  · exact .inl ⟨by simp, hn rfl⟩
  · refine .inr ⟨g, off + a, he g off rfl, hg, fun i u hu => ?_⟩
    rw [List.getElem?_drop, List.getElem?_take] at hu
    split at hu
    · rw [Nat.add_assoc]; exact hcc (a + i) u hu
    · cases hu
end Go.Proofs.YthbkljeibmkimaaGreat


namespace Go.Proofs.YthbkljeibmkimaaGreat

def PN : Nat := 2305843009213693951
end Go.Proofs.YthbkljeibmkimaaGreat


namespace Go.Proofs.YthbkljeibmkimaaGreat
open Go.RowKit

def P : Int := 2305843009213693951
theorem P_eq : P = 2305843009213693951 := rfl
def ffold (a : Int) : Int := a % P
def fadd (a b : Int) : Int := (a + b) % P
def fmul (a b : Int) : Int := (a * b) % P
theorem mod_bd (a : Int) : 0 ≤ a % P ∧ a % P ≤ 2305843009213693950 := by unfold P; omega
theorem ffold_bd (a : Int) : 0 ≤ ffold a ∧ ffold a ≤ 2305843009213693950 := mod_bd _
theorem fadd_bd (a b : Int) : 0 ≤ fadd a b ∧ fadd a b ≤ 2305843009213693950 := mod_bd _
theorem fmul_bd (a b : Int) : 0 ≤ fmul a b ∧ fmul a b ≤ 2305843009213693950 := mod_bd _
theorem mod_idem (a : Int) : a % P % P = a % P := Int.emod_emod_of_dvd a (Int.dvd_refl P)
theorem add_l (a b : Int) : (a % P + b) % P = (a + b) % P := Int.emod_add_emod ..
theorem add_r (a b : Int) : (a + b % P) % P = (a + b) % P := Int.add_emod_emod ..
theorem mul_l (a b : Int) : (a % P * b) % P = (a * b) % P := by rw [Int.mul_emod, mod_idem, ← Int.mul_emod]
theorem mul_r (a b : Int) : (a * (b % P)) % P = (a * b) % P := by rw [Int.mul_comm, mul_l, Int.mul_comm]
theorem and_P (a : Int) (h0 : 0 ≤ a) (h1 : a ≤ 18446744073709551615) : bits BinOp.and IntKind.u64 a 2305843009213693951 = a % 2305843009213693952 := by
  have h := u64_and a 2305843009213693951 h0 (by omega) (by omega) (by omega)
  rw [h]
  have : (2305843009213693951 : Int).toNat = 2 ^ 61 - 1 := by decide +kernel
  rw [this, Nat.and_two_pow_sub_one_eq_mod]
  have e : ((a.toNat % 2 ^ 61 : Nat) : Int) = (a.toNat : Int) % 2305843009213693952 := by
    rw [Int.natCast_emod]; rfl
  rw [e, Int.toNat_of_nonneg h0]
theorem fold_step (a : Int) (h0 : 0 ≤ a) (h1 : a ≤ 18446744073709551615) :
    (2305843009213693951 ≤ a % 2305843009213693952 + a / 2305843009213693952 → a % 2305843009213693952 + a / 2305843009213693952 - 2305843009213693951 = ffold a) ∧
    (a % 2305843009213693952 + a / 2305843009213693952 < 2305843009213693951 → a % 2305843009213693952 + a / 2305843009213693952 = ffold a) := by
  unfold ffold P; omega

theorem fadd_of (a b : Int) : ffold (ffold a + ffold b) = fadd a b := by
  unfold ffold fadd; rw [add_l, add_r]
theorem or_shift (h l : Nat) (hh : h < 288230376151711744) (hl : l < 18446744073709551616) :
    bits BinOp.or IntKind.u64 ((h : Int) * 8) ((l : Int) / 2305843009213693952) = (h : Int) * 8 + (l : Int) / 2305843009213693952 := by
  have e1 : ((h : Int) * 8) = ((h * 8 : Nat) : Int) := by omega
  have e2 : ((l : Int) / 2305843009213693952) = ((l / 2305843009213693952 : Nat) : Int) := by omega
  rw [e1, e2, u64_or_nat _ _ (by omega) (by omega)]
  have hb : l / 2305843009213693952 < 2 ^ 3 := by omega
  have := Nat.two_pow_add_eq_or_of_lt hb h
  have e3 : h * 8 ||| l / 2305843009213693952 = h * 8 + l / 2305843009213693952 := by
    rw [show h * 8 = 2 ^ 3 * h by omega, this]
  rw [e3]
  omega

theorem fmul_of (x y : Nat) (a b : Int) (hx : (x : Int) = ffold a) (hy : (y : Int) = ffold b) :
    fadd (((x * y / 18446744073709551616 : Nat) : Int) * 8 + ((x * y % 18446744073709551616 : Nat) : Int) / 2305843009213693952) (((x * y % 18446744073709551616 : Nat) : Int) % 2305843009213693952) = fmul a b := by
  have e : fmul a b = ((x * y : Nat) : Int) % P := by
    unfold fmul; rw [Int.natCast_mul, hx, hy]; unfold ffold; rw [mul_l, mul_r]
  rw [e]
  generalize x * y = z
  unfold fadd P
  omega

theorem hi_bd (x y : Nat) (a b : Int) (hx : (x : Int) = ffold a) (hy : (y : Int) = ffold b) : x * y / 18446744073709551616 < 288230376151711744 := by
  have h1 := ffold_bd a; have h2 := ffold_bd b
  have : x * y ≤ 2305843009213693950 * 2305843009213693950 := Nat.mul_le_mul (by omega) (by omega)
  omega

theorem fmul_comm (a b : Int) : fmul a b = fmul b a := by unfold fmul; rw [Int.mul_comm]
end Go.Proofs.YthbkljeibmkimaaGreat


namespace Go.Proofs.YthbkljeibmkimaaGreat
set_option linter.unusedVariables false

def lineI (a b x : Int) : Int := fadd (fmul a x) b
theorem lineI_bd (a b x : Int) : 0 ≤ lineI a b x ∧ lineI a b x ≤ 2305843009213693950 := fadd_bd _ _
end Go.Proofs.YthbkljeibmkimaaGreat


namespace Go.Proofs.YthbkljeibmkimaaGreat
open Go.RowKit
set_option linter.unusedVariables false

def bv (a : Int) : BitVec 64 := BitVec.ofInt 64 a
def nv (x : BitVec 64) : Int := (x.toNat : Int)

theorem nv_bd (x : BitVec 64) : 0 ≤ nv x ∧ nv x ≤ 18446744073709551615 := by
  have := x.isLt; unfold nv; omega
theorem nv_bv (a : Int) (h0 : 0 ≤ a) (h1 : a ≤ 18446744073709551615) : nv (bv a) = a := by
  unfold nv bv
  rw [BitVec.toNat_ofInt]
  have : a % ((2 ^ 64 : Nat) : Int) = a := Int.emod_eq_of_lt h0 (by omega)
  rw [this, Int.toNat_of_nonneg h0]
theorem wrap_bv (a : Int) : IntKind.u64.wrap a = nv (bv a) := by
  unfold nv bv
  rw [IntKind.wrap_u64, BitVec.toNat_ofInt]
  have : 0 ≤ a % ((2 ^ 64 : Nat) : Int) := Int.emod_nonneg _ (by decide)
  rw [Int.toNat_of_nonneg this]
  rfl
theorem bv_nv (x : BitVec 64) : bv (nv x) = x := by
  unfold nv bv; rw [BitVec.ofInt_natCast]; simp
theorem bv_add (a b : Int) : bv (a + b) = bv a + bv b := BitVec.ofInt_add ..
theorem bv_mul (a b : Int) : bv (a * b) = bv a * bv b := BitVec.ofInt_mul ..
theorem bv_wrap (a : Int) : bv (IntKind.u64.wrap a) = bv a := by rw [wrap_bv, bv_nv]
theorem xor_nv (x y : BitVec 64) : bits BinOp.xor IntKind.u64 (nv x) (nv y) = nv (x ^^^ y) := by
  unfold nv
  rw [u64_xor_nat _ _ (by have := x.isLt; omega) (by have := y.isLt; omega), BitVec.toNat_xor]
theorem shr_nv (x : BitVec 64) (k : Nat) : nv x / ((2 ^ k : Nat) : Int) = nv (x >>> k) := by
  unfold nv
  rw [BitVec.toNat_ushiftRight, Nat.shiftRight_eq_div_pow]
  exact (Int.natCast_ediv ..).symm

def sx (k : Nat) (z : BitVec 64) : BitVec 64 := z ^^^ z >>> k
def C1 : BitVec 64 := 13787848793156543929#64
def C2 : BitVec 64 := 10723151780598845931#64
def mixB (z : BitVec 64) : BitVec 64 := sx 31 (sx 27 (sx 30 z * C1) * C2)
def G : BitVec 64 := 11400714819323198485#64
def drawB (s i : BitVec 64) : BitVec 64 := mixB (s + (i + 1#64) * G)

def mixI (a : Int) : Int := nv (mixB (bv a))
def drawI (s i : Int) : Int := nv (drawB (bv s) (bv i))
theorem drawI_bd (a b : Int) : 0 ≤ drawI a b ∧ drawI a b ≤ 18446744073709551615 := nv_bd _

def pairN (l r : Int) : Int := 16 * l + 2 * r
def pairA (s l r : Int) : Int := 1 + drawI s (pairN l r) % 2305843009213693950
def pairB (s l r : Int) : Int := drawI s (pairN l r + 1) % 2305843009213693951
theorem pairA_bd (s l r : Int) : 1 ≤ pairA s l r ∧ pairA s l r ≤ 2305843009213693950 := by unfold pairA; omega
theorem pairB_bd (s l r : Int) : 0 ≤ pairB s l r ∧ pairB s l r ≤ 2305843009213693950 := by unfold pairB; omega

theorem shake30 (x : BitVec 64) : bits BinOp.xor IntKind.u64 (nv x) (nv x / 1073741824) = nv (sx 30 x) := by
  rw [show (1073741824 : Int) = ((2 ^ 30 : Nat) : Int) from rfl, shr_nv, xor_nv]; rfl
theorem shake27 (x : BitVec 64) : bits BinOp.xor IntKind.u64 (nv x) (nv x / 134217728) = nv (sx 27 x) := by
  rw [show (134217728 : Int) = ((2 ^ 27 : Nat) : Int) from rfl, shr_nv, xor_nv]; rfl
theorem shake31 (x : BitVec 64) : bits BinOp.xor IntKind.u64 (nv x) (nv x / 2147483648) = nv (sx 31 x) := by
  rw [show (2147483648 : Int) = ((2 ^ 31 : Nat) : Int) from rfl, shr_nv, xor_nv]; rfl
theorem wrap_mulC (x : BitVec 64) (c : Int) (C : BitVec 64) (h : bv c = C) : IntKind.u64.wrap (nv x * c) = nv (x * C) := by
  rw [wrap_bv, bv_mul, bv_nv, h]

theorem mix_walk (a : Int) (h0 : 0 ≤ a) (h1 : a ≤ 18446744073709551615) :
    IntKind.u64.wrap (bits BinOp.xor IntKind.u64 (IntKind.u64.wrap (bits BinOp.xor IntKind.u64 (IntKind.u64.wrap (bits BinOp.xor IntKind.u64 a (a / 1073741824) * 13787848793156543929)) (IntKind.u64.wrap (bits BinOp.xor IntKind.u64 a (a / 1073741824) * 13787848793156543929) / 134217728) * 10723151780598845931)) (IntKind.u64.wrap (bits BinOp.xor IntKind.u64 (IntKind.u64.wrap (bits BinOp.xor IntKind.u64 a (a / 1073741824) * 13787848793156543929)) (IntKind.u64.wrap (bits BinOp.xor IntKind.u64 a (a / 1073741824) * 13787848793156543929) / 134217728) * 10723151780598845931) / 2147483648)) = mixI a := by
  obtain ⟨x, rfl⟩ : ∃ x : BitVec 64, a = nv x := ⟨bv a, (nv_bv a h0 h1).symm⟩
  rw [shake30, wrap_mulC _ _ C1 (by decide), shake27, wrap_mulC _ _ C2 (by decide), shake31, wrap_bv, bv_nv]
  unfold mixI mixB
  rw [bv_nv]

theorem bitI (x : BitVec 64) (i : Nat) : bits BinOp.and IntKind.u64 (nv x / 2 ^ i) 1 = (((x.toNat.testBit i).toNat : Nat) : Int) := by
  have e : nv x / 2 ^ i = ((x.toNat / 2 ^ i : Nat) : Int) := by
    unfold nv
    rw [Int.natCast_ediv, Int.natCast_pow]; rfl
  have hlt : x.toNat / 2 ^ i < 18446744073709551616 := Nat.lt_of_le_of_lt (Nat.div_le_self _ _) x.isLt
  have h := u64_and_nat (x.toNat / 2 ^ i) 1 hlt (by omega)
  rw [e]
  rw [Nat.toNat_testBit, ← Nat.and_one_is_mod]
  exact h
theorem xorB (a b : Bool) : bits BinOp.xor IntKind.u64 ((a.toNat : Nat) : Int) ((b.toNat : Nat) : Int) = (((a ^^ b).toNat : Nat) : Int) := by
  rw [u64_xor_nat _ _ (by cases a <;> decide) (by cases b <;> decide)]
  cases a <;> cases b <;> rfl
theorem shlB (b : Bool) (i : Nat) (hi : i < 64) : IntKind.u64.wrap (((b.toNat : Nat) : Int) * 2 ^ i) = ((2 ^ i * b.toNat : Nat) : Int) := by
  rw [IntKind.wrap_u64]
  have hp : 2 ^ i < 2 ^ 64 := Nat.pow_lt_pow_right (by omega) hi
  have e : (((b.toNat : Nat) : Int) * 2 ^ i) = ((2 ^ i * b.toNat : Nat) : Int) := by
    rw [Int.natCast_mul, Int.natCast_pow, Int.mul_comm]; rfl
  rw [e]
  have : 2 ^ i * b.toNat < 2 ^ 64 := by cases b <;> simp <;> omega
  omega
theorem orB (S : Nat) (b : Bool) (i : Nat) (hi : i < 64) (hS : S < 2 ^ i) :
    bits BinOp.or IntKind.u64 (S : Int) ((2 ^ i * b.toNat : Nat) : Int) = ((S + 2 ^ i * b.toNat : Nat) : Int) := by
  have hp : 2 ^ i < 2 ^ 64 := Nat.pow_lt_pow_right (by omega) hi
  have : 2 ^ i * b.toNat < 2 ^ 64 := by cases b <;> simp <;> omega
  rw [u64_or_nat _ _ (by omega) (by omega)]
  congr 1
  rw [Nat.or_comm, ← Nat.two_pow_add_eq_or_of_lt hS, Nat.add_comm]
theorem mod_succ (s i : Nat) : s % 2 ^ (i + 1) = s % 2 ^ i + 2 ^ i * (s.testBit i).toNat := by
  rw [Nat.mod_pow_succ, Nat.toNat_testBit]

theorem sx_bit (x : BitVec 64) (k i : Nat) : (sx k x).toNat.testBit i = (x.toNat.testBit i ^^ x.toNat.testBit (i + k)) := by
  unfold sx
  rw [BitVec.toNat_xor, Nat.testBit_xor, BitVec.toNat_ushiftRight, Nat.testBit_shiftRight, Nat.add_comm k]
theorem high_bit (x : BitVec 64) (i : Nat) (h : 64 ≤ i) : x.toNat.testBit i = false :=
  Nat.testBit_lt_two_pow (Nat.lt_of_lt_of_le x.isLt (Nat.pow_le_pow_right (by omega) h))

theorem shaken_step1 (x : BitVec 64) (k i : Nat) (hi : i < 64) :
    bits BinOp.or IntKind.u64 (((sx k x).toNat % 2 ^ i : Nat) : Int) (IntKind.u64.wrap (bits BinOp.xor IntKind.u64 (bits BinOp.and IntKind.u64 (nv x / 2 ^ i) 1) (bits BinOp.and IntKind.u64 (nv x / 2 ^ (i + k)) 1) * 2 ^ i)) = (((sx k x).toNat % 2 ^ (i + 1) : Nat) : Int) := by
  rw [bitI, bitI, xorB, shlB _ _ hi, orB _ _ _ hi (Nat.mod_lt _ (Nat.two_pow_pos i)), mod_succ, sx_bit]
theorem shaken_step2 (x : BitVec 64) (k i : Nat) (hi : i < 64) (hk : 64 ≤ i + k) :
    bits BinOp.or IntKind.u64 (((sx k x).toNat % 2 ^ i : Nat) : Int) (IntKind.u64.wrap (bits BinOp.and IntKind.u64 (nv x / 2 ^ i) 1 * 2 ^ i)) = (((sx k x).toNat % 2 ^ (i + 1) : Nat) : Int) := by
  rw [bitI, shlB _ _ hi, orB _ _ _ hi (Nat.mod_lt _ (Nat.two_pow_pos i)), mod_succ, sx_bit, high_bit _ _ hk, Bool.xor_false]

def DivRel (z n : BitVec 64) (i : Nat) (o : Nat) (r : BitVec 64) : Prop := o < 2 ^ i ∧ r.toNat % 2 ^ i = 0 ∧ BitVec.ofNat 64 o * n + r = z
theorem div_one (z n : BitVec 64) (i o : Nat) (r : BitVec 64) (hi : i < 64) (hn : n.toNat % 2 = 1) (h : DivRel z n i o r) (hb : r.toNat.testBit i = true) :
  DivRel z n (i + 1) (o + 2 ^ i) (r - n * BitVec.ofNat 64 (2 ^ i)) := by
 obtain ⟨a, b, c⟩ := h
 have hp : 2 ^ i < 2 ^ 64 := Nat.pow_lt_pow_right (by omega) hi
 refine ⟨by rw [Nat.pow_succ]; omega, ?_, ?_⟩
 ·-- both r and n * 2^i are 2^i modulo 2^(i+1)
  have m1 : r.toNat % 2 ^ (i + 1) = 2 ^ i := by rw [mod_succ, b, hb]; simp
  have m2 : (n.toNat * 2 ^ i) % 2 ^ (i + 1) = 2 ^ i := by
   rw [Nat.pow_succ, Nat.mul_comm n.toNat, Nat.mul_mod_mul_left, hn, Nat.mul_one]
  have hd : 2 ^ (i + 1) ∣ 2 ^ 64 := Nat.pow_dvd_pow 2 (by omega)
  have e1 : (n * BitVec.ofNat 64 (2 ^ i)).toNat % 2 ^ (i + 1) = 2 ^ i := by
   rw [BitVec.toNat_mul, BitVec.toNat_ofNat, Nat.mod_eq_of_lt hp, Nat.mod_mod_of_dvd _ hd, m2]
  generalize n * BitVec.ofNat 64 (2 ^ i) = s at *
  rw [BitVec.toNat_sub, Nat.mod_mod_of_dvd _ hd]
  obtain ⟨q, hq⟩ := hd
  have hs := s.isLt
  have ha := Nat.div_add_mod s.toNat (2 ^ (i + 1))
  have hr := Nat.div_add_mod r.toNat (2 ^ (i + 1))
  rw [e1] at ha
  rw [m1] at hr
  have hqs : s.toNat / 2 ^ (i + 1) < q := by
   rw [Nat.div_lt_iff_lt_mul (Nat.two_pow_pos _), Nat.mul_comm, ← hq]; exact hs
  generalize s.toNat / 2 ^ (i + 1) = u at *
  generalize r.toNat / 2 ^ (i + 1) = v at *
  have hm : 2 ^ 64 - s.toNat + r.toNat = 2 ^ (i + 1) * (q - u + v) := by
   rw [Nat.mul_add, Nat.mul_sub, ← hq]
   omega
  rw [hm, Nat.mul_mod_right]
 ·rw [← c, show BitVec.ofNat 64 (o + 2 ^ i) = BitVec.ofNat 64 o + BitVec.ofNat 64 (2 ^ i) from BitVec.ofNat_add ..]
  rw [BitVec.add_mul, BitVec.mul_comm n, BitVec.add_assoc]
  congr 1
  rw [BitVec.add_comm, BitVec.sub_add_cancel]
end Go.Proofs.YthbkljeibmkimaaGreat


namespace Go.Proofs.YthbkljeibmkimaaGreat
set_option linter.unusedVariables false

def rightB (b r d m : Int) : Bool := decide (1 ≤ b ∧ b ≤ 59 ∧ 1 ≤ r ∧ r ≤ 8 ∧ 1 ≤ d ∧ d ≤ 128 ∧ 1 ≤ m ∧ m ≤ 3)
theorem right_of {b r d m : Int} (h : rightB b r d m = true) : 1 ≤ b ∧ b ≤ 59 ∧ 1 ≤ r ∧ r ≤ 8 ∧ 1 ≤ d ∧ d ≤ 128 ∧ 1 ≤ m ∧ m ≤ 3 := of_decide_eq_true h
theorem right_mk {b r d m : Int} (h : 1 ≤ b ∧ b ≤ 59 ∧ 1 ≤ r ∧ r ≤ 8 ∧ 1 ≤ d ∧ d ≤ 128 ∧ 1 ≤ m ∧ m ≤ 3) : rightB b r d m = true := decide_eq_true h

def keysI (b r d m l : Int) : Int := if rightB b r d m = true ∧ 0 ≤ l ∧ l ≤ b then 2 ^ (b - l).toNat else 0
theorem keysI_yes {b r d m l : Int} (h : rightB b r d m = true) (h0 : 0 ≤ l) (h1 : l ≤ b) : keysI b r d m l = 2 ^ (b - l).toNat := if_pos ⟨h, h0, h1⟩
theorem keysI_no {b r d m l : Int} (h : ¬ (rightB b r d m = true ∧ 0 ≤ l ∧ l ≤ b)) : keysI b r d m l = 0 := if_neg h
theorem pow_le (n : Nat) (h : n ≤ 59) : (1 : Int) ≤ 2 ^ n ∧ (2 : Int) ^ n ≤ 576460752303423488 := by
  have h1 : 2 ^ n ≤ 2 ^ 59 := Nat.pow_le_pow_right (by omega) h
  have h2 : 0 < 2 ^ n := Nat.two_pow_pos n
  have e : ((2 ^ n : Nat) : Int) = (2 : Int) ^ n := Int.natCast_pow ..
  omega
theorem keysI_bd (b r d m l : Int) : 0 ≤ keysI b r d m l ∧ keysI b r d m l ≤ 576460752303423488 := by
  unfold keysI
  by_cases c : rightB b r d m = true ∧ 0 ≤ l ∧ l ≤ b
  · rw [if_pos c]
    have := right_of c.1
    have := pow_le (b - l).toNat (by omega)
    omega
  · rw [if_neg c]; omega

def exactB (b r d m l : Int) : Bool := decide (0 < keysI b r d m l ∧ keysI b r d m l ≤ d)
def colI (d s l k i : Int) : Int := lineI (pairA s l i) (pairB s l i) k % d
end Go.Proofs.YthbkljeibmkimaaGreat


namespace Go.Proofs.YthbkljeibmkimaaGreat
open Go.RowKit
set_option linter.unusedVariables false
set_option linter.unusedSimpArgs false

def withinB (n0 m0 n1 m1 n2 m2 n3 m3 : Int) : Bool := decide (1 ≤ n0 ∧ n0 ≤ m0 ∧ 1 ≤ n1 ∧ n1 ≤ m1 ∧ 1 ≤ n2 ∧ n2 ≤ m2 ∧ 1 ≤ n3 ∧ n3 ≤ m3)

theorem ret_bool {a b : Bool} (h : a = b) : Ending.returned (.bool a) = .returned (.bool b) := by rw [h]

theorem within_any (B : Nat) (n0 m0 n1 m1 n2 m2 n3 m3 : Int) (w : World)
  (hB : Blk w B 127 #[.int .i64 n0, .int .i64 m0, .int .i64 n1, .int .i64 m1, .int .i64 n2, .int .i64 m2, .int .i64 n3, .int .i64 m3]) :
  Calls Tryz.prog 47 #[.slice (some ⟨B, 0, none⟩) 4 4] w fun e w' => e = .returned (.bool (withinB n0 m0 n1 m1 n2 m2 n3 m3)) ∧ Below w.heap.size w w' := by
 have HB := Lib.hid hB
 clear hB
 go_enter Tryz.func47, Tryz.ntmps47
 go_wp2
 go_loopw [7] (fun i wr => ∃ k : Nat, k ≤ 4 ∧ i = .int .i64 (k : Int) ∧ Blk wr B 127 #[.int .i64 n0, .int .i64 m0, .int .i64 n1, .int .i64 m1, .int .i64 n2, .int .i64 m2, .int .i64 n3, .int .i64 m3] ∧ Below w.heap.size w wr ∧
   (0 < k → 1 ≤ n0 ∧ n0 ≤ m0) ∧ (1 < k → 1 ≤ n1 ∧ n1 ≤ m1) ∧ (2 < k → 1 ≤ n2 ∧ n2 ≤ m2) ∧ (3 < k → 1 ≤ n3 ∧ n3 ≤ m3)) (fun i _ => 4 - (intOf i).toNat)
 case atStart => exact ⟨0, by omega, rfl, HB.out, Below.refl _ _, by omega, by omega, by omega, by omega⟩
 case round =>
  obtain ⟨k, hk, rfl, hU, hb, q0, q1, q2, q3⟩ := hrel
  rcases (show k = 0 ∨ k = 1 ∨ k = 2 ∨ k = 3 ∨ k = 4 by omega) with rfl | rfl | rfl | rfl | rfl
  ·have c0 := hU.cell 0
   have c1 := hU.cell 1
   simp at c0 c1
   have HU := Lib.hid hU
   have hlt := hU.lt
   have hsz := hb.size
   clear hU
   by_cases h0 : n0 < 1
   ·have H : Hid (false = withinB n0 m0 n1 m1 n2 m2 n3 m3) := Lib.hid (by unfold withinB; symm; simp; omega)
    go_wp2
    go_ret
    exact ⟨ret_bool H.out, hb.alloc hsz _⟩
   ·by_cases h1 : m0 < n0
    ·have H : Hid (false = withinB n0 m0 n1 m1 n2 m2 n3 m3) := Lib.hid (by unfold withinB; symm; simp; omega)
     go_wp2
     go_ret
     exact ⟨ret_bool H.out, hb.alloc hsz _⟩
    ·go_wp2
     exact ⟨⟨1, by omega, rfl, HU.out.alloc _, hb.alloc hsz _, by omega, by omega, by omega, by omega⟩, by simp [intOf]⟩
  ·have c0 := hU.cell 2
   have c1 := hU.cell 3
   simp at c0 c1
   have HU := Lib.hid hU
   have hlt := hU.lt
   have hsz := hb.size
   clear hU
   by_cases h0 : n1 < 1
   ·have H : Hid (false = withinB n0 m0 n1 m1 n2 m2 n3 m3) := Lib.hid (by unfold withinB; symm; simp; omega)
    go_wp2
    go_ret
    exact ⟨ret_bool H.out, hb.alloc hsz _⟩
   ·by_cases h1 : m1 < n1
    ·have H : Hid (false = withinB n0 m0 n1 m1 n2 m2 n3 m3) := Lib.hid (by unfold withinB; symm; simp; omega)
     go_wp2
     go_ret
     exact ⟨ret_bool H.out, hb.alloc hsz _⟩
    ·go_wp2
     exact ⟨⟨2, by omega, rfl, HU.out.alloc _, hb.alloc hsz _, by omega, by omega, by omega, by omega⟩, by simp [intOf]⟩
  ·have c0 := hU.cell 4
   have c1 := hU.cell 5
   simp at c0 c1
   have HU := Lib.hid hU
   have hlt := hU.lt
   have hsz := hb.size
   clear hU
   by_cases h0 : n2 < 1
   ·have H : Hid (false = withinB n0 m0 n1 m1 n2 m2 n3 m3) := Lib.hid (by unfold withinB; symm; simp; omega)
    go_wp2
    go_ret
    exact ⟨ret_bool H.out, hb.alloc hsz _⟩
   ·by_cases h1 : m2 < n2
    ·have H : Hid (false = withinB n0 m0 n1 m1 n2 m2 n3 m3) := Lib.hid (by unfold withinB; symm; simp; omega)
     go_wp2
     go_ret
     exact ⟨ret_bool H.out, hb.alloc hsz _⟩
    ·go_wp2
     exact ⟨⟨3, by omega, rfl, HU.out.alloc _, hb.alloc hsz _, by omega, by omega, by omega, by omega⟩, by simp [intOf]⟩
  ·have c0 := hU.cell 6
   have c1 := hU.cell 7
   simp at c0 c1
   have HU := Lib.hid hU
   have hlt := hU.lt
   have hsz := hb.size
   clear hU
   by_cases h0 : n3 < 1
   ·have H : Hid (false = withinB n0 m0 n1 m1 n2 m2 n3 m3) := Lib.hid (by unfold withinB; symm; simp; omega)
    go_wp2
    go_ret
    exact ⟨ret_bool H.out, hb.alloc hsz _⟩
   ·by_cases h1 : m3 < n3
    ·have H : Hid (false = withinB n0 m0 n1 m1 n2 m2 n3 m3) := Lib.hid (by unfold withinB; symm; simp; omega)
     go_wp2
     go_ret
     exact ⟨ret_bool H.out, hb.alloc hsz _⟩
    ·go_wp2
     exact ⟨⟨4, by omega, rfl, HU.out.alloc _, hb.alloc hsz _, by omega, by omega, by omega, by omega⟩, by simp [intOf]⟩
  ·have H : Hid (true = withinB n0 m0 n1 m1 n2 m2 n3 m3) := Lib.hid (by unfold withinB; symm; exact decide_eq_true (by omega))
   go_wp2
   go_ret
   exact ⟨ret_bool H.out, hb⟩

theorem right_any (b r d m s : Int) (w : World) :
    Calls Tryz.prog 20 #[.agg #[.int .i64 b, .int .i64 r, .int .i64 d, .int .i64 m, .int .u64 s]] w fun e w' => e = .returned (.bool (rightB b r d m)) ∧ Below w.heap.size w w' := by
  have H : Hid (withinB b 59 r 8 d 128 m 3 = rightB b r d m) := Lib.hid (by rfl)
  go_enter Tryz.func20, Tryz.ntmps20
  go_wp2_with fail
  refine (within_any (w.heap.size + 1) b 59 r 8 d 128 m 3 _ (by first | exact Blk.new _ _ _ | (have := Blk.new (w.alloc (.cells #[.int .i64 b, .int .i64 r, .int .i64 d, .int .i64 m, .int .u64 s] 24)) 127 #[.int .i64 b, .int .i64 59, .int .i64 r, .int .i64 8, .int .i64 d, .int .i64 128, .int .i64 m, .int .i64 3]; simpa using this))).mono ?_
  rintro e w' ⟨rfl, hb⟩
  go_wp2
  go_ret
  exact ⟨ret_bool H.out, (((Below.refl _ _).alloc (Nat.le_refl _) _).alloc (by simp) _).trans (hb.mono (by simp; omega))⟩

theorem ret_u64q {a b : Int} (h : a = b) : Ending.returned (.int .u64 a) = .returned (.int .u64 b) := by rw [h]

theorem keys_any (b r d m s l : Int) (w : World) :
  Calls Tryz.prog 23 #[.agg #[.int .i64 b, .int .i64 r, .int .i64 d, .int .i64 m, .int .u64 s], .int .i64 l] w fun e w' => e = .returned (.int .u64 (keysI b r d m l)) ∧ Below w.heap.size w w' := by
 cases hr : rightB b r d m
 ·have H : Hid (0 = keysI b r d m l) := Lib.hid (keysI_no (fun h => by rw [hr] at h; exact absurd h.1 (by decide))).symm
  go_enter Tryz.func23, Tryz.ntmps23
  go_wp2_with fail
  refine (right_any b r d m s _).mono ?_; rintro e w' ⟨rfl, hb⟩
  obtain ⟨hk, hbb⟩ := box_kept hb
  have c0 := hk.cell 0
  simp at c0
  rw [hr]
  go_wp2
  go_ret
  exact ⟨ret_u64q H.out, hbb⟩
 ·have HR := right_of hr
  by_cases h0 : l < 0
  ·have H : Hid (0 = keysI b r d m l) := Lib.hid (keysI_no (fun h => by omega)).symm
   go_enter Tryz.func23, Tryz.ntmps23
   go_wp2_with fail
   refine (right_any b r d m s _).mono ?_; rintro e w' ⟨rfl, hb⟩
   obtain ⟨hk, hbb⟩ := box_kept hb
   have c0 := hk.cell 0
   simp at c0
   rw [hr]
   go_wp2
   go_ret
   exact ⟨ret_u64q H.out, hbb⟩
  ·by_cases h1 : b < l
   ·have H : Hid (0 = keysI b r d m l) := Lib.hid (keysI_no (fun h => by omega)).symm
    go_enter Tryz.func23, Tryz.ntmps23
    go_wp2_with fail
    refine (right_any b r d m s _).mono ?_; rintro e w' ⟨rfl, hb⟩
    obtain ⟨hk, hbb⟩ := box_kept hb
    have c0 := hk.cell 0
    simp at c0
    rw [hr]
    go_wp2
    go_ret
    exact ⟨ret_u64q H.out, hbb⟩
   ·have H : Hid (2 ^ (b - l).toNat = keysI b r d m l) := Lib.hid (keysI_yes hr (by omega) (by omega)).symm
    have hp := pow_le (b - l).toNat (by omega)
    have g0 : 0 ≤ l := by omega
    have g1 : l ≤ b := by omega
    have g2 : 0 ≤ b - l := by omega
    have g3 : b - l ≤ 59 := by omega
    go_enter Tryz.func23, Tryz.ntmps23
    go_wp2_with fail
    refine (right_any b r d m s _).mono ?_; rintro e w' ⟨rfl, hb⟩
    obtain ⟨hk, hbb⟩ := box_kept hb
    have c0 := hk.cell 0
    simp at c0
    rw [hr]
    go_wp2
    go_ways
    go_ret
    go_show
    exact ⟨ret_u64q H.out, hbb⟩
end Go.Proofs.YthbkljeibmkimaaGreat


namespace Go.Proofs.YthbkljeibmkimaaGreat
open Go.RowKit
set_option linter.unusedVariables false
set_option linter.unusedSimpArgs false

def inB (x n : Int) : Bool := decide (1 ≤ x ∧ x ≤ n)
theorem inB_yes {x n : Int} (h : 1 ≤ x ∧ x ≤ n) : inB x n = true := decide_eq_true h
theorem inB_no {x n : Int} (h : ¬ (1 ≤ x ∧ x ≤ n)) : inB x n = false := decide_eq_false h

theorem rright_any (b r d m s : Int) (w : World) :
  Calls Tryz.prog 55 #[.agg #[.int .i64 b, .int .i64 r, .int .i64 d, .int .i64 m, .int .u64 s]] w fun e w' => e = .returned (.bool (rightB b r d m)) ∧ Below w.heap.size w w' := by
 go_enter Tryz.func55, Tryz.ntmps55
 go_upto_region 1 with fail
 go_cut [3] (fun s3 wx => s3 = .bool (inB b 59) ∧ wx = w.alloc (.cells #[.int .i64 b, .int .i64 r, .int .i64 d, .int .i64 m, .int .u64 s] 24))
 case first =>
  by_cases h1 : 1 ≤ b
  ·by_cases h2 : b ≤ 59
   ·have H : Hid (true = inB b 59) := Lib.hid (inB_yes (by omega)).symm
    go_wp2_with fail
    go_meet
    exact ⟨congrArg Value.bool H.out, rfl⟩
   ·have H : Hid (false = inB b 59) := Lib.hid (inB_no (by omega)).symm
    go_wp2_with fail
    go_meet
    exact ⟨congrArg Value.bool H.out, rfl⟩
  ·have H : Hid (false = inB b 59) := Lib.hid (inB_no (by omega)).symm
   go_wp2_with fail
   go_meet
   exact ⟨congrArg Value.bool H.out, rfl⟩
 case rest =>
  obtain ⟨rfl, rfl⟩ := hcut
  go_upto_region 2 with fail
  go_cut [4] (fun s3 wx => s3 = .bool (inB r 8) ∧ wx = w.alloc (.cells #[.int .i64 b, .int .i64 r, .int .i64 d, .int .i64 m, .int .u64 s] 24))
  case first =>
   by_cases h1 : 1 ≤ r
   ·by_cases h2 : r ≤ 8
    ·have H : Hid (true = inB r 8) := Lib.hid (inB_yes (by omega)).symm
     go_wp2_with fail
     go_meet
     exact ⟨congrArg Value.bool H.out, rfl⟩
    ·have H : Hid (false = inB r 8) := Lib.hid (inB_no (by omega)).symm
     go_wp2_with fail
     go_meet
     exact ⟨congrArg Value.bool H.out, rfl⟩
   ·have H : Hid (false = inB r 8) := Lib.hid (inB_no (by omega)).symm
    go_wp2_with fail
    go_meet
    exact ⟨congrArg Value.bool H.out, rfl⟩
  case rest =>
   obtain ⟨rfl, rfl⟩ := hcut
   go_upto_region 3 with fail
   go_cut [5] (fun s3 wx => s3 = .bool (inB d 128) ∧ wx = w.alloc (.cells #[.int .i64 b, .int .i64 r, .int .i64 d, .int .i64 m, .int .u64 s] 24))
   case first =>
    by_cases h1 : 1 ≤ d
    ·by_cases h2 : d ≤ 128
     ·have H : Hid (true = inB d 128) := Lib.hid (inB_yes (by omega)).symm
      go_wp2_with fail
      go_meet
      exact ⟨congrArg Value.bool H.out, rfl⟩
     ·have H : Hid (false = inB d 128) := Lib.hid (inB_no (by omega)).symm
      go_wp2_with fail
      go_meet
      exact ⟨congrArg Value.bool H.out, rfl⟩
    ·have H : Hid (false = inB d 128) := Lib.hid (inB_no (by omega)).symm
     go_wp2_with fail
     go_meet
     exact ⟨congrArg Value.bool H.out, rfl⟩
   case rest =>
    obtain ⟨rfl, rfl⟩ := hcut
    have hbel : Below w.heap.size w (w.alloc (.cells #[.int .i64 b, .int .i64 r, .int .i64 d, .int .i64 m, .int .u64 s] 24)) := (Below.refl _ _).alloc (Nat.le_refl _) _
    by_cases h1 : 1 ≤ b ∧ b ≤ 59
    ·by_cases h2 : 1 ≤ r ∧ r ≤ 8
     ·by_cases h3 : 1 ≤ d ∧ d ≤ 128
      ·have d1 : inB b 59 = true := inB_yes h1
       have d2 : inB r 8 = true := inB_yes h2
       have d3 : inB d 128 = true := inB_yes h3
       rw [d1, d2, d3]
       by_cases m1 : m = 1
       ·subst m1
        go_wp2
        go_ret
        exact ⟨ret_bool (right_mk (by omega)).symm, hbel⟩
       ·by_cases m2 : m = 2
        ·subst m2
         go_wp2
         go_ret
         exact ⟨ret_bool (right_mk (by omega)).symm, hbel⟩
        ·by_cases m3 : m = 3
         ·subst m3
          go_wp2
          go_ret
          exact ⟨ret_bool (right_mk (by omega)).symm, hbel⟩
         ·have e1 : (m == 1) = false := by simp [m1]
          have e2 : (m == 2) = false := by simp [m2]
          have e3 : (m == 3) = false := by simp [m3]
          have H : Hid (false = rightB b r d m) := Lib.hid (decide_eq_false (by omega)).symm
          clear m1 m2 m3
          go_wp2
          go_ret
          exact ⟨ret_bool H.out, hbel⟩
      ·have d1 : inB b 59 = true := inB_yes h1
       have d2 : inB r 8 = true := inB_yes h2
       have d3 : inB d 128 = false := inB_no h3
       rw [d1, d2, d3]
       have H : Hid (false = rightB b r d m) := Lib.hid (decide_eq_false (by omega)).symm
       clear h1 h2 h3
       go_wp2
       go_ret
       exact ⟨ret_bool H.out, hbel⟩
     ·have d1 : inB b 59 = true := inB_yes h1
      have d2 : inB r 8 = false := inB_no h2
      rw [d1, d2]
      have H : Hid (false = rightB b r d m) := Lib.hid (decide_eq_false (by omega)).symm
      clear h1 h2
      go_wp2
      go_ret
      exact ⟨ret_bool H.out, hbel⟩
    ·have d1 : inB b 59 = false := inB_no h1
     rw [d1]
     have H : Hid (false = rightB b r d m) := Lib.hid (decide_eq_false (by omega)).symm
     clear h1
     go_wp2
     go_ret
     exact ⟨ret_bool H.out, hbel⟩

theorem pow_succ' (n : Nat) : (2 : Int) ^ n * 2 = 2 ^ (n + 1) := (Int.pow_succ ..).symm
theorem rkeys_any (b r d m s l : Int) (w : World) :
  Calls Tryz.prog 26 #[.agg #[.int .i64 b, .int .i64 r, .int .i64 d, .int .i64 m, .int .u64 s], .int .i64 l] w fun e w' => e = .returned (.int .u64 (keysI b r d m l)) ∧ Below w.heap.size w w' := by
 cases hr : rightB b r d m
 ·have H : Hid (0 = keysI b r d m l) := Lib.hid (keysI_no (fun h => by rw [hr] at h; exact absurd h.1 (by decide))).symm
  go_enter Tryz.func26, Tryz.ntmps26
  go_wp2_with fail
  refine (rright_any b r d m s _).mono ?_; rintro e w' ⟨rfl, hb⟩
  obtain ⟨hk, hbb⟩ := box_kept hb
  have c0 := hk.cell 0
  simp at c0
  rw [hr]
  go_wp2
  go_ret
  exact ⟨ret_u64q H.out, hbb⟩
 ·have HR := right_of hr
  by_cases h0 : l < 0
  ·have H : Hid (0 = keysI b r d m l) := Lib.hid (keysI_no (fun h => by omega)).symm
   go_enter Tryz.func26, Tryz.ntmps26
   go_wp2_with fail
   refine (rright_any b r d m s _).mono ?_; rintro e w' ⟨rfl, hb⟩
   obtain ⟨hk, hbb⟩ := box_kept hb
   have c0 := hk.cell 0
   simp at c0
   rw [hr]
   go_wp2
   go_ret
   exact ⟨ret_u64q H.out, hbb⟩
  ·by_cases h1 : b < l
   ·have H : Hid (0 = keysI b r d m l) := Lib.hid (keysI_no (fun h => by omega)).symm
    go_enter Tryz.func26, Tryz.ntmps26
    go_wp2_with fail
    refine (rright_any b r d m s _).mono ?_; rintro e w' ⟨rfl, hb⟩
    obtain ⟨hk, hbb⟩ := box_kept hb
    have c0 := hk.cell 0
    simp at c0
    rw [hr]
    go_wp2
    go_ret
    exact ⟨ret_u64q H.out, hbb⟩
   ·have H : Hid (2 ^ (b - l).toNat = keysI b r d m l) := Lib.hid (keysI_yes hr (by omega) (by omega)).symm
    have g0 : 0 ≤ l := by omega
    have g1 : l ≤ b := by omega
    have g3 : b ≤ 59 := by omega
    go_enter Tryz.func26, Tryz.ntmps26
    go_wp2_with fail
    refine (rright_any b r d m s _).mono ?_; rintro e w' ⟨rfl, hb⟩
    obtain ⟨hk, hbb⟩ := box_kept hb
    have c0 := hk.cell 0
    simp at c0
    rw [hr]
    clear HR hk hb
    go_wp2
    go_loop [5, 6] (fun n i => ∃ k : Nat, (k : Int) ≤ b - l ∧ i = .int .i64 (l + (k : Int)) ∧ n = .int .u64 (2 ^ k)) (fun _ i => (b - intOf i).toNat)
    case atStart => exact ⟨0, by omega, by simp, by simp⟩
    case round =>
     obtain ⟨k, hk, rfl, rfl⟩ := hrel
     have hp := pow_le k (by omega)
     have HP := Lib.hid (pow_succ' k)
     by_cases hlt : l + (k : Int) < b
     ·have hp2 := pow_le (k + 1) (by omega)
      rw [← HP.out] at hp2
      go_wp2
      go_round
      case rel => exact ⟨k + 1, by omega, congrArg (Value.int IntKind.i64) (by omega), congrArg (Value.int IntKind.u64) HP.out⟩
      case measure => simp [intOf]; omega
     ·go_wp2
      go_ret
      refine ⟨ret_u64q ?_, hbb⟩
      rw [← H.out]
      congr 1
      omega
end Go.Proofs.YthbkljeibmkimaaGreat


namespace Go.Proofs.YthbkljeibmkimaaGreat
open Go.RowKit
set_option linter.unusedVariables false
set_option linter.unusedSimpArgs false

theorem keys_right {b r d m l : Int} (h : 0 < keysI b r d m l) : 1 ≤ d ∧ d ≤ 128 ∧ 1 ≤ b ∧ b ≤ 59 ∧ 0 ≤ l ∧ l ≤ b ∧ 1 ≤ r ∧ r ≤ 8 ∧ rightB b r d m = true := by
  unfold keysI at h
  by_cases c : rightB b r d m = true ∧ 0 ≤ l ∧ l ≤ b
  · have := right_of c.1
    exact ⟨by omega, by omega, by omega, by omega, by omega, by omega, by omega, by omega, c.1⟩
  · rw [if_neg c] at h; omega

theorem exact_any (b r d m s l : Int) (w : World) :
  Calls Tryz.prog 48 #[.agg #[.int .i64 b, .int .i64 r, .int .i64 d, .int .i64 m, .int .u64 s], .int .i64 l] w fun e w' => e = .returned (.bool (exactB b r d m l)) ∧ Below w.heap.size w w' := by
 obtain ⟨k0, k1⟩ := keysI_bd b r d m l
 by_cases hp : 0 < keysI b r d m l
 ·obtain ⟨d0, d1, _⟩ := keys_right hp
  by_cases hd : keysI b r d m l ≤ d
  ·have H : Hid (true = exactB b r d m l) := Lib.hid (decide_eq_true ⟨hp, hd⟩).symm
   go_enter Tryz.func48, Tryz.ntmps48
   go_wp2_with fail
   refine (keys_any b r d m s l _).mono ?_; rintro e w' ⟨rfl, hb⟩
   obtain ⟨hk, hbb⟩ := box_kept hb
   have c2 := hk.cell 2
   simp at c2
   go_wp2
   go_ret
   exact ⟨ret_bool H.out, hbb⟩
  ·have H : Hid (false = exactB b r d m l) := Lib.hid (decide_eq_false (fun h => hd h.2)).symm
   go_enter Tryz.func48, Tryz.ntmps48
   go_wp2_with fail
   refine (keys_any b r d m s l _).mono ?_; rintro e w' ⟨rfl, hb⟩
   obtain ⟨hk, hbb⟩ := box_kept hb
   have c2 := hk.cell 2
   simp at c2
   have dd : decide (keysI b r d m l ≤ d) = false := decide_eq_false (by omega)
   go_wp2
   go_ret
   exact ⟨ret_bool H.out, hbb⟩
 ·have H : Hid (false = exactB b r d m l) := Lib.hid (decide_eq_false (fun h => hp h.1)).symm
  go_enter Tryz.func48, Tryz.ntmps48
  go_wp2_with fail
  refine (keys_any b r d m s l _).mono ?_; rintro e w' ⟨rfl, hb⟩
  obtain ⟨hk, hbb⟩ := box_kept hb
  go_wp2
  go_ret
  exact ⟨ret_bool H.out, hbb⟩

theorem rexact_any (b r d m s l : Int) (w : World) :
  Calls Tryz.prog 51 #[.agg #[.int .i64 b, .int .i64 r, .int .i64 d, .int .i64 m, .int .u64 s], .int .i64 l] w fun e w' => e = .returned (.bool (exactB b r d m l)) ∧ Below w.heap.size w w' := by
 obtain ⟨k0, k1⟩ := keysI_bd b r d m l
 by_cases hp : 0 < keysI b r d m l
 ·obtain ⟨d0, d1, _⟩ := keys_right hp
  have hp1 : 1 ≤ keysI b r d m l := by omega
  by_cases hd : keysI b r d m l ≤ d
  ·have H : Hid (true = exactB b r d m l) := Lib.hid (decide_eq_true ⟨hp, hd⟩).symm
   go_enter Tryz.func51, Tryz.ntmps51
   go_wp2_with fail
   refine (rkeys_any b r d m s l _).mono ?_; rintro e w' ⟨rfl, hb⟩
   obtain ⟨hk, hbb⟩ := box_kept hb
   have c2 := hk.cell 2
   simp at c2
   go_wp2
   go_ret
   exact ⟨ret_bool H.out, hbb⟩
  ·have H : Hid (false = exactB b r d m l) := Lib.hid (decide_eq_false (fun h => hd h.2)).symm
   go_enter Tryz.func51, Tryz.ntmps51
   go_wp2_with fail
   refine (rkeys_any b r d m s l _).mono ?_; rintro e w' ⟨rfl, hb⟩
   obtain ⟨hk, hbb⟩ := box_kept hb
   have c2 := hk.cell 2
   simp at c2
   have dd : decide (keysI b r d m l ≤ d) = false := decide_eq_false (by omega)
   go_wp2
   go_ret
   exact ⟨ret_bool H.out, hbb⟩
 ·have H : Hid (false = exactB b r d m l) := Lib.hid (decide_eq_false (fun h => hp h.1)).symm
  go_enter Tryz.func51, Tryz.ntmps51
  go_wp2_with fail
  refine (rkeys_any b r d m s l _).mono ?_; rintro e w' ⟨rfl, hb⟩
  obtain ⟨hk, hbb⟩ := box_kept hb
  go_wp2
  go_ret
  exact ⟨ret_bool H.out, hbb⟩

theorem box_cells {w' : World} {g : Nat} {t : TypeId} {b r d m s : Int} (hk : Blk w' g t #[.int .i64 b, .int .i64 r, .int .i64 d, .int .i64 m, .int .u64 s]) :
    w'.cell? ⟨g, 0, none⟩ = some (.int .i64 b) ∧ w'.cell? ⟨g, 1, none⟩ = some (.int .i64 r) ∧ w'.cell? ⟨g, 2, none⟩ = some (.int .i64 d) ∧ w'.cell? ⟨g, 3, none⟩ = some (.int .i64 m) ∧ w'.cell? ⟨g, 4, none⟩ = some (.int .u64 s) :=
  ⟨hk.cell 0, hk.cell 1, hk.cell 2, hk.cell 3, hk.cell 4⟩


end Go.Proofs.YthbkljeibmkimaaGreat


namespace Go.Proofs.YthbkljeibmkimaaGreat
open Go.RowKit
set_option linter.unusedVariables false
set_option linter.unusedSimpArgs false

def ArrIs (w : World) (A G C : Nat) (b r d m s l : Int) (K : Nat) (zs : List Int) : Prop :=
  Blk w A 149 #[.int .i64 b, .int .i64 r, .int .i64 d, .int .i64 m, .int .u64 s, .int .i64 l, .pointer (some ⟨G, 0, none⟩)] ∧ GridIs w G C 1 K zs
def ExNewPost (w : World) (b r d m s l : Int) (e : Ending) (w' : World) : Prop :=
  ∃ A G C, e = .returned (.tuple #[.pointer (some ⟨A, 0, none⟩), .int .i64 0]) ∧ w.heap.size ≤ A ∧ w.heap.size ≤ G ∧ w.heap.size ≤ C ∧ ArrIs w' A G C b r d m s l (keysI b r d m l).toNat (List.replicate (1 * (keysI b r d m l).toNat) 0) ∧ Below w.heap.size w w'

set_option maxRecDepth 100000 in
set_option maxHeartbeats 4000000 in
theorem exnew_yes (b r d m s l : Int) (h : exactB b r d m l = true) (w : World) :
  Calls Tryz.prog 49 #[.agg #[.int .i64 b, .int .i64 r, .int .i64 d, .int .i64 m, .int .u64 s], .int .i64 l] w (ExNewPost w b r d m s l) := by
 have PE := fun w => exact_any b r d m s l w
 have hk := of_decide_eq_true h
 have hkr := keys_right hk.1
 have PK := Lib.hid (fun w => keys_any b r d m s l w)
 rw [h] at PE
 have HPE := Lib.hid PE
 clear PE h
 obtain ⟨K, hK⟩ : ∃ K : Nat, keysI b r d m l = (K : Int) := ⟨(keysI b r d m l).toNat, by omega⟩
 unfold ExNewPost
 rw [hK] at PK ⊢
 have hK1 : K ≤ 128 := by omega
 have PN := Lib.hid (fun w => new_any 1 (K : Int) w)
 have e1 : clampN 1 8 = 1 := rfl
 have e2 : clampN (K : Int) 128 = K := by unfold clampN; omega
 rw [e1, e2] at PN
 simp only [Int.toNat_natCast]
 clear hk hkr hK e1 e2
 obtain ⟨g1, hb1, hsz1⟩ := news1 w (.cells #[.int .i64 b, .int .i64 r, .int .i64 d, .int .i64 m, .int .u64 s] 24)
 have hx1 : Blk _ w.heap.size 24 #[.int .i64 b, .int .i64 r, .int .i64 d, .int .i64 m, .int .u64 s] := g1
 have HB1 := Lib.hid hb1
 have HX1 := Lib.hid hx1
 clear g1 hb1 hsz1
 go_enter Tryz.func49, Tryz.ntmps49
 go_wp2_with (refine wpList_load_row rfl 24 _ rfl w.heap.size rfl 24 _ (0, 0) _ hx1 Tryz.underlying24 rfl (by kernel_rfl) ?_)
 refine (HPE.out _).mono ?_
 rintro e w2 ⟨rfl, hb⟩
 have HB2 := Lib.hid (btr HB1.out hb)
 have HX2 := Lib.hid (HX1.out.kept hb)
 have ek : IntKind.i64.wrap (K : Int) = (K : Int) := by simp [IntKind.wrap, IntKind.bits, IntKind.signed]; split <;> omega
 clear hb hx1
 go_wp2_with fail
 refine wp_region_held_drew (S := fun w' => Blk w' w.heap.size 24 #[.int .i64 b, .int .i64 r, .int .i64 d, .int .i64 m, .int .u64 s] ∧ w.heap.size ≤ w'.heap.size) (by kernel_rfl) (by exact ⟨HX2.out.drewN 1, HB2.out.size⟩) (fun hHeld => ?_)
 refine tkH (i := 0) (v := ?_) rfl (by kernel_rfl) (fun _ _ _ h => h) (Or.inl ⟨by rfl, ?_⟩) (by assumption) ?_
 rotate_left
 ·intro w hSw
  refine (exec_load_row 24 _ rfl _ rfl 24 _ (0, 0) _ hSw.1 Tryz.underlying24 rfl (by kernel_rfl)).trans ?_
  go_simp
  try with_reducible rfl
 simp only [Act.put, z1, z2, z3, z4, z5, z6]
 refine tkH (i := 1) (v := ?_) rfl (by kernel_rfl) (fun _ _ _ h => h) (Or.inl ⟨by rfl, ?_⟩) (by assumption) ?_
 rotate_left
 ·intro w hSw
  try dsimp only at hSw
  go_simp
  try with_reducible rfl
 simp only [Act.put, z1, z2, z3, z4, z5, z6]
 refine tkH (i := 2) (v := ?_) rfl (by kernel_rfl) (fun _ _ _ h => h) (Or.inl ⟨by rfl, ?_⟩) (by assumption) ?_
 rotate_left
 ·intro w hSw
  refine (exec_load_row 24 _ rfl _ rfl 24 _ (0, 0) _ hSw.1 Tryz.underlying24 rfl (by kernel_rfl)).trans ?_
  go_simp
  try with_reducible rfl
 simp only [Act.put, z1, z2, z3, z4, z5, z6]
 refine tkH (i := 3) (v := ?_) rfl (by kernel_rfl) (fun _ _ _ h => h) (Or.inl ⟨by rfl, ?_⟩) (by assumption) ?_
 rotate_left
 ·intro w hSw
  try dsimp only at hSw
  go_simp
  try with_reducible rfl
 simp only [Act.put, z1, z2, z3, z4, z5, z6]
 refine wpAnyH_ready (rs := [4]) (by kernel_rfl) (by simp) ?_
 refine AllReadyH.cons rfl (fun Kc hKc => ?_) AllReadyH.nil
 go_simp
 go_wp2_with (first | (go_at_call 23; refine (PK.out _).mono ?_; rintro e w3 ⟨rfl, hb'⟩; have HB3 := Lib.hid (btr (below_drewN HB2.out 1) hb')) | (go_at_call 64; refine (PN.out _).mono ?_; rintro e w4 ⟨G, C, rfl, hG, hC, hg, hb'⟩; have HG4 := Lib.hid hg; have HB4 := Lib.hid (btr HB3.out hb'); have hGC : Hid (w.heap.size ≤ G ∧ w.heap.size ≤ C) := ⟨Nat.le_trans hHeld.2 hG, Nat.le_trans hHeld.2 hC⟩; clear hg))
 refine hKc.out _ _ ?_ (fun hHeld => ?_)
 ·first | assumption | exact ⟨hHeld.1.kept hb', Nat.le_trans hHeld.2 hb'.size⟩ | exact ⟨hHeld.1.alloc _, by have := hHeld.2; simp; omega⟩
 clear hKc Kc
 refine tkH (i := 5) (v := ?_) rfl (by kernel_rfl) (fun _ _ _ h => h) (Or.inl ⟨by rfl, ?_⟩) (by assumption) ?_
 rotate_left
 ·intro w hSw
  try dsimp only at hSw
  go_simp
  try with_reducible rfl
 simp only [Act.put, z1, z2, z3, z4, z5, z6]
 refine wpAnyH_ready (rs := [6]) (by kernel_rfl) (by simp) ?_
 refine AllReadyH.cons rfl (fun Kc hKc => ?_) AllReadyH.nil
 go_simp
 go_wp2_with (first | (go_at_call 23; refine (PK.out _).mono ?_; rintro e w3 ⟨rfl, hb'⟩; have HB3 := Lib.hid (btr (below_drewN HB2.out 1) hb')) | (go_at_call 64; refine (PN.out _).mono ?_; rintro e w4 ⟨G, C, rfl, hG, hC, hg, hb'⟩; have HG4 := Lib.hid hg; have HB4 := Lib.hid (btr HB3.out hb'); have hGC : Hid (w.heap.size ≤ G ∧ w.heap.size ≤ C) := ⟨Nat.le_trans hHeld.2 hG, Nat.le_trans hHeld.2 hC⟩; clear hg))
 refine hKc.out _ _ ?_ (fun hHeld => ?_)
 ·first | assumption | exact ⟨hHeld.1.kept hb', Nat.le_trans hHeld.2 hb'.size⟩ | exact ⟨hHeld.1.alloc _, by have := hHeld.2; simp; omega⟩
 clear hKc Kc
 refine tkH (i := 7) (v := ?_) rfl (by kernel_rfl) (fun _ _ _ h => h) (Or.inl ⟨by rfl, ?_⟩) (by assumption) ?_
 rotate_left
 ·intro w hSw
  try dsimp only at hSw
  go_simp
  try with_reducible rfl
 simp only [Act.put, z1, z2, z3, z4, z5, z6]
 refine wpAnyH_ready (rs := [8]) (by kernel_rfl) (by simp) ?_
 refine AllReadyH.cons rfl (fun Kc hKc => ?_) AllReadyH.nil
 go_simp
 refine hKc.out _ _ ?_ (fun hHeld => ?_)
 ·first | assumption | exact ⟨hHeld.1.kept hb', Nat.le_trans hHeld.2 hb'.size⟩ | exact ⟨hHeld.1.alloc _, by have := hHeld.2; simp; omega⟩
 clear hKc Kc
 refine tkH (i := 9) (v := ?_) rfl (by kernel_rfl) (fun _ _ _ h => h) (Or.inl ⟨by rfl, ?_⟩) (by assumption) ?_
 rotate_left
 ·intro w hSw
  try dsimp only at hSw
  go_simp
  try with_reducible rfl
 simp only [Act.put, z1, z2, z3, z4, z5, z6]
 refine tkH (i := 10) (v := ?_) rfl (by kernel_rfl) (fun _ _ _ h => h) (Or.inl ⟨by rfl, ?_⟩) (by assumption) ?_
 rotate_left
 ·intro w hSw
  try dsimp only at hSw
  go_simp
  try with_reducible rfl
 simp only [Act.put, z1, z2, z3, z4, z5, z6]
 refine wpAnyH_done (by kernel_rfl) ?_ _
 have HNEW := Lib.hid (Blk.new w4 149 #[.int .i64 b, .int .i64 r, .int .i64 d, .int .i64 m, .int .u64 s, .int .i64 l, .pointer (some ⟨G, 0, none⟩)])
 have HAL : Hid (Below w4.heap.size w4 (w4.alloc (.cells #[.int .i64 b, .int .i64 r, .int .i64 d, .int .i64 m, .int .u64 s, .int .i64 l, .pointer (some ⟨G, 0, none⟩)] 149))) := Lib.hid ((Below.refl _ _).alloc (Nat.le_refl _) _)
 have HG5 := Lib.hid (HG4.out.kept HAL.out)
 have HB5 := Lib.hid (btr HB4.out HAL.out)
 clear hHeld
 go_wp2_with fail
 go_ret2
 exact ⟨w4.heap.size, G, C, rfl, HB4.out.size, hGC.out.1, hGC.out.2, ⟨HNEW.out, HG5.out⟩, HB5.out⟩
theorem expoint_yes (w : World) (A G C : Nat) (b r d m s l : Int) (K k : Nat) (zs : List Int) (h : ArrIs w A G C b r d m s l K zs) (hk : k < K) :
  Calls Tryz.prog 118 #[.pointer (some ⟨A, 0, none⟩), .int .u64 (k : Int)] w fun e w' => e = .returned (.tuple #[.int .i64 (cellD zs k), .int .i64 0]) ∧ w = w' := by
 have c6 := h.1.cell 6
 simp at c6
 have hw := h.2.width
 have P := Lib.hid (width_any w G C 1 K zs h.2)
 have P2 : Calls Tryz.prog 122 #[.pointer (some ⟨G, 0, none⟩), .int .i64 0, .int .i64 (k : Int)] w fun e w' => e = .returned (.int .i64 (cellD zs k)) ∧ w = w' := by
  have := at_in w G C 1 K 0 k zs h.2 (by decide) hk
  simpa using this
 have P2 := Lib.hid P2
 have e1 : decide ((K : Int) ≤ (k : Int)) = false := decide_eq_false (by omega)
 have e1' : decide (K ≤ k) = false := decide_eq_false (by omega)
 have e2 : IntKind.u64.wrap (K : Int) = (K : Int) := by rw [wrapU_mod]; omega
 have e3 : IntKind.i64.wrap (k : Int) = (k : Int) := by simp [IntKind.wrap, IntKind.bits, IntKind.signed]; split <;> omega
 clear h
 go_enter Tryz.func118, Tryz.ntmps118
 go_wp2_with fail
 with_reducible refine P.out.mono ?_
 rintro e w2 ⟨rfl, hw2⟩
 subst hw2
 go_wp2_with fail
 with_reducible refine P2.out.mono ?_
 rintro e w2 ⟨rfl, hw2⟩
 subst hw2
 go_wp2
 go_ret2
 exact ⟨rfl, rfl⟩
end Go.Proofs.YthbkljeibmkimaaGreat


namespace Go.Proofs.YthbkljeibmkimaaGreat
open Go.RowKit
set_option linter.unusedVariables false
set_option linter.unusedSimpArgs false

theorem Tryz.infoI : (Tryz.prog.info? 3).map (fun i => (i.zero, i.size, i.bytes)) = some (some (.int .i64 0), 1, 8) := by kernel_rfl
set_option maxRecDepth 100000 in
set_option maxHeartbeats 2000000 in
theorem lint_yes (x : Int) (x0 : -9223372036854775808 ≤ x) (x1 : x ≤ 9223372036854775807) (w : World) :
  Calls Tryz.prog 44 #[.agg (longA x)] w fun e w' => e = .returned (.tuple #[.int .i64 x, .bool true]) ∧ Below w.heap.size w w' := by
 obtain ⟨q, hq⟩ : ∃ q, low64 x = q := ⟨_, rfl⟩
 have HQ := Lib.hid hq
 have hqx : q = x := by rw [← hq]; exact low64_fit x0 x1
 have HR : Hid (decide (dig q = dig x) = true) := by rw [hqx]; exact decide_eq_true rfl
 have HQX := Lib.hid hqx
 clear x0 x1 hqx hq
 go_enter Tryz.func44, Tryz.ntmps44
 go_wp2_with fail
 obtain ⟨g1, hbel, hsz⟩ := news1 w (.cells (longA x) 103)
 have h1 : Blk _ w.heap.size 103 (longA x) := g1
 clear g1
 generalize (w.alloc (.cells (longA x) 103)) = wz at *
 generalize hA : w.heap.size = A at *
 have HA := Lib.hid hA
 have HX := Lib.hid h1
 have HB := Lib.hid hbel
 clear hA h1 hbel
 go_loopw [4, 5] (fun n i wr => ∃ j : Nat, j ≤ 4 ∧ i = .int .i64 (j : Int) ∧ n = .int .u64 (lows x j) ∧ Blk wr A 103 (longA x) ∧ Below A w wr) (fun _ i _ => 4 - (intOf i).toNat)
 case atStart => exact ⟨0, by omega, rfl, by rw [lows_zero], HX.out, HB.out⟩
 case round =>
  obtain ⟨j, hj, rfl, rfl, hx, hbel⟩ := hrel
  clear HB HX
  have HB := Lib.hid hbel
  have HX := Lib.hid hx
  clear hbel hx
  by_cases hlt : j < 4
  ·have cx := (HX.out.cell j).trans (longA_get x j (by omega))
   have bx := digit_bd x j
   have bl := lows_bd x j
   have hjj : j = 0 ∨ j = 1 ∨ j = 2 ∨ j = 3 := by omega
   rcases hjj with rfl | rfl | rfl | rfl
   ·have HE := Lib.hid (lor0 x)
    generalize digit x 0 = d at *
    go_wp2
    go_roundw
    case rel => exact ⟨0 + 1, by omega, rfl, by rw [HE.out], HX.out, HB.out⟩
    case measure => simp [intOf]
   ·have HE := Lib.hid (lor1 x)
    generalize digit x 1 = d at *
    go_wp2
    go_roundw
    case rel => exact ⟨1 + 1, by omega, rfl, by rw [HE.out], HX.out, HB.out⟩
    case measure => simp [intOf]
   ·have HE := Lib.hid (lor2 x)
    generalize digit x 2 = d at *
    go_wp2
    go_roundw
    case rel => exact ⟨2 + 1, by omega, rfl, by rw [HE.out], HX.out, HB.out⟩
    case measure => simp [intOf]
   ·have HE := Lib.hid (lor3 x)
    generalize digit x 3 = d at *
    go_wp2
    go_roundw
    case rel => exact ⟨3 + 1, by omega, rfl, by rw [HE.out], HX.out, HB.out⟩
    case measure => simp [intOf]
  ·obtain rfl : j = 4 := by omega
   have hlow := low64_lows x
   rw [HQ.out] at hlow
   have hlow2 : IntKind.i64.wrap (lows x 4) = q := (wrapI_eq64 _).trans hlow
   have bl := lows_bd x 4
   have bl0 : 0 ≤ lows x 4 := bl.1
   have bl1 : lows x 4 ≤ 18446744073709551615 := by have := bl.2; simp at this; omega
   generalize lows x 4 = lo at *
   have hqb : -9223372036854775808 ≤ q ∧ q ≤ 9223372036854775807 := by rw [← HQ.out]; exact low64_bd x
   obtain ⟨q0, q1⟩ := hqb
   have HINT := ofint_any q q0 q1
   have heq : ∀ w, Sem.run Tryz.prog (Op.equalIn 10000 103 (.agg (longA q)) (.agg (longA x))) w = .ok true w := fun w => by
    have := run_equalIn_ints 9998 Tryz.underlying103 Tryz.underlying3 (info_parts Tryz.infoI).choose_spec.1 (by kernel_rfl) (dig q) (dig x) (dig_len q) (dig_len x) w
    rw [HR.out] at this
    exact this
   clear bl q0 q1 bl0 bl1
   go_wp2_with fail
   refine wp_region_held_drew (S := fun w' => Blk w' A 103 (longA x) ∧ Below A w w') (by kernel_rfl) (by exact ⟨HX.out.drew, HB.out.drew⟩) (fun hHeld => ?_)
   refine tkH (i := 0) (v := ?_) rfl (by kernel_rfl) (fun _ _ _ h => h) (Or.inl ⟨by rfl, ?_⟩) (by assumption) ?_
   rotate_left
   ·intro w hSw
    try dsimp only at hSw
    go_simp
    try with_reducible rfl
   simp only [Act.put, z1, z2, z3, z4, z5, z6]
   refine tkH (i := 1) (v := ?_) rfl (by kernel_rfl) (fun _ _ _ h => h) (Or.inl ⟨by rfl, ?_⟩) (by assumption) ?_
   rotate_left
   ·intro w hSw
    try dsimp only at hSw
    go_simp
    try with_reducible rfl
   simp only [Act.put, z1, z2, z3, z4, z5, z6]
   refine tkH (i := 3) (v := ?_) rfl (by kernel_rfl) (fun _ _ _ h => h) (Or.inl ⟨by rfl, ?_⟩) (by assumption) ?_
   rotate_left
   ·intro w hSw
    refine (exec_load_row 103 _ rfl A rfl 103 (longA x) (0, 0) _ hSw.1 Tryz.underlying103 rfl (long_info x)).trans ?_
    go_simp
    try with_reducible rfl
   simp only [Act.put, z1, z2, z3, z4, z5, z6]
   refine wpAnyH_ready (rs := [2]) (by kernel_rfl) (by simp) ?_
   refine AllReadyH.cons rfl (fun Kc hKc => ?_) AllReadyH.nil
   go_simp
   go_wp2_with (go_at_call 40; refine (HINT _).mono ?_; rintro e w' ⟨rfl, hb'⟩)
   refine hKc.out _ _ ?_ (fun hHeld => ?_)
   ·first | assumption | exact ⟨hHeld.1.kept hb', hHeld.2.trans (hb'.mono (by have := hHeld.1.lt; omega))⟩
   clear hKc Kc
   refine tkH (i := 4) (v := ?_) rfl (by kernel_rfl) (fun _ _ _ h => h) (Or.inl ⟨by rfl, ?_⟩) (by assumption) ?_
   rotate_left
   ·intro w hSw
    try dsimp only at hSw
    go_simp
    try with_reducible rfl
   simp only [Act.put, z1, z2, z3, z4, z5, z6]
   refine wpAnyH_done (by kernel_rfl) ?_ _
   have HB8 := Lib.hid hHeld.2
   clear hHeld
   go_wp2
   go_ret2
   exact ⟨by rw [HQX.out]; rfl, by rw [HA.out]; exact HB8.out⟩

set_option maxRecDepth 100000 in
set_option maxHeartbeats 2000000 in
theorem lint_no (x : Int) (x0 : -365375409332725729550921208179070754913983135744 ≤ x) (x1 : x ≤ 365375409332725729550921208179070754913983135744) (xn : ¬ (-9223372036854775808 ≤ x ∧ x ≤ 9223372036854775807)) (w : World) :
  Calls Tryz.prog 44 #[.agg (longA x)] w fun e w' => e = .returned (.tuple #[.int .i64 0, .bool false]) ∧ Below w.heap.size w w' := by
 obtain ⟨q, hq⟩ : ∃ q, low64 x = q := ⟨_, rfl⟩
 have HQ := Lib.hid hq
 have HR : Hid (decide (dig q = dig x) = false) := by rw [← hq]; exact decide_eq_false (dig_low64_ne x0 x1 xn)
 clear x0 x1 xn hq
 go_enter Tryz.func44, Tryz.ntmps44
 go_wp2_with fail
 obtain ⟨g1, hbel, hsz⟩ := news1 w (.cells (longA x) 103)
 have h1 : Blk _ w.heap.size 103 (longA x) := g1
 clear g1
 generalize (w.alloc (.cells (longA x) 103)) = wz at *
 generalize hA : w.heap.size = A at *
 have HA := Lib.hid hA
 have HX := Lib.hid h1
 have HB := Lib.hid hbel
 clear hA h1 hbel
 go_loopw [4, 5] (fun n i wr => ∃ j : Nat, j ≤ 4 ∧ i = .int .i64 (j : Int) ∧ n = .int .u64 (lows x j) ∧ Blk wr A 103 (longA x) ∧ Below A w wr) (fun _ i _ => 4 - (intOf i).toNat)
 case atStart => exact ⟨0, by omega, rfl, by rw [lows_zero], HX.out, HB.out⟩
 case round =>
  obtain ⟨j, hj, rfl, rfl, hx, hbel⟩ := hrel
  clear HB HX
  have HB := Lib.hid hbel
  have HX := Lib.hid hx
  clear hbel hx
  by_cases hlt : j < 4
  ·have cx := (HX.out.cell j).trans (longA_get x j (by omega))
   have bx := digit_bd x j
   have bl := lows_bd x j
   have hjj : j = 0 ∨ j = 1 ∨ j = 2 ∨ j = 3 := by omega
   rcases hjj with rfl | rfl | rfl | rfl
   ·have HE := Lib.hid (lor0 x)
    generalize digit x 0 = d at *
    go_wp2
    go_roundw
    case rel => exact ⟨0 + 1, by omega, rfl, by rw [HE.out], HX.out, HB.out⟩
    case measure => simp [intOf]
   ·have HE := Lib.hid (lor1 x)
    generalize digit x 1 = d at *
    go_wp2
    go_roundw
    case rel => exact ⟨1 + 1, by omega, rfl, by rw [HE.out], HX.out, HB.out⟩
    case measure => simp [intOf]
   ·have HE := Lib.hid (lor2 x)
    generalize digit x 2 = d at *
    go_wp2
    go_roundw
    case rel => exact ⟨2 + 1, by omega, rfl, by rw [HE.out], HX.out, HB.out⟩
    case measure => simp [intOf]
   ·have HE := Lib.hid (lor3 x)
    generalize digit x 3 = d at *
    go_wp2
    go_roundw
    case rel => exact ⟨3 + 1, by omega, rfl, by rw [HE.out], HX.out, HB.out⟩
    case measure => simp [intOf]
  ·obtain rfl : j = 4 := by omega
   have hlow := low64_lows x
   rw [HQ.out] at hlow
   have hlow2 : IntKind.i64.wrap (lows x 4) = q := (wrapI_eq64 _).trans hlow
   have bl := lows_bd x 4
   have bl0 : 0 ≤ lows x 4 := bl.1
   have bl1 : lows x 4 ≤ 18446744073709551615 := by have := bl.2; simp at this; omega
   generalize lows x 4 = lo at *
   have hqb : -9223372036854775808 ≤ q ∧ q ≤ 9223372036854775807 := by rw [← HQ.out]; exact low64_bd x
   obtain ⟨q0, q1⟩ := hqb
   have HINT := ofint_any q q0 q1
   have heq : ∀ w, Sem.run Tryz.prog (Op.equalIn 10000 103 (.agg (longA q)) (.agg (longA x))) w = .ok false w := fun w => by
    have := run_equalIn_ints 9998 Tryz.underlying103 Tryz.underlying3 (info_parts Tryz.infoI).choose_spec.1 (by kernel_rfl) (dig q) (dig x) (dig_len q) (dig_len x) w
    rw [HR.out] at this
    exact this
   clear bl q0 q1 bl0 bl1
   go_wp2_with fail
   refine wp_region_held_drew (S := fun w' => Blk w' A 103 (longA x) ∧ Below A w w') (by kernel_rfl) (by exact ⟨HX.out.drew, HB.out.drew⟩) (fun hHeld => ?_)
   refine tkH (i := 0) (v := ?_) rfl (by kernel_rfl) (fun _ _ _ h => h) (Or.inl ⟨by rfl, ?_⟩) (by assumption) ?_
   rotate_left
   ·intro w hSw
    try dsimp only at hSw
    go_simp
    try with_reducible rfl
   simp only [Act.put, z1, z2, z3, z4, z5, z6]
   refine tkH (i := 1) (v := ?_) rfl (by kernel_rfl) (fun _ _ _ h => h) (Or.inl ⟨by rfl, ?_⟩) (by assumption) ?_
   rotate_left
   ·intro w hSw
    try dsimp only at hSw
    go_simp
    try with_reducible rfl
   simp only [Act.put, z1, z2, z3, z4, z5, z6]
   refine tkH (i := 3) (v := ?_) rfl (by kernel_rfl) (fun _ _ _ h => h) (Or.inl ⟨by rfl, ?_⟩) (by assumption) ?_
   rotate_left
   ·intro w hSw
    refine (exec_load_row 103 _ rfl A rfl 103 (longA x) (0, 0) _ hSw.1 Tryz.underlying103 rfl (long_info x)).trans ?_
    go_simp
    try with_reducible rfl
   simp only [Act.put, z1, z2, z3, z4, z5, z6]
   refine wpAnyH_ready (rs := [2]) (by kernel_rfl) (by simp) ?_
   refine AllReadyH.cons rfl (fun Kc hKc => ?_) AllReadyH.nil
   go_simp
   go_wp2_with (go_at_call 40; refine (HINT _).mono ?_; rintro e w' ⟨rfl, hb'⟩)
   refine hKc.out _ _ ?_ (fun hHeld => ?_)
   ·first | assumption | exact ⟨hHeld.1.kept hb', hHeld.2.trans (hb'.mono (by have := hHeld.1.lt; omega))⟩
   clear hKc Kc
   refine tkH (i := 4) (v := ?_) rfl (by kernel_rfl) (fun _ _ _ h => h) (Or.inl ⟨by rfl, ?_⟩) (by assumption) ?_
   rotate_left
   ·intro w hSw
    try dsimp only at hSw
    go_simp
    try with_reducible rfl
   simp only [Act.put, z1, z2, z3, z4, z5, z6]
   refine wpAnyH_done (by kernel_rfl) ?_ _
   have HB8 := Lib.hid hHeld.2
   clear hHeld
   go_wp2
   go_ret2
   exact ⟨rfl, by rw [HA.out]; exact HB8.out⟩

end Go.Proofs.YthbkljeibmkimaaGreat


namespace Go.Proofs.YthbkljeibmkimaaGreat
open Go.RowKit
set_option linter.unusedVariables false
set_option linter.unusedSimpArgs false

theorem ArrIs.kept {w w' : World} {A G C : Nat} {b r d m s l : Int} {K : Nat} {zs : List Int} (h : ArrIs w A G C b r d m s l K zs) (hb : Below w.heap.size w w') : ArrIs w' A G C b r d m s l K zs := ⟨h.1.kept hb, h.2.kept hb⟩
theorem ArrIs.grown {w w' : World} {A G C : Nat} {b r d m s l : Int} {K : Nat} {zs : List Int} {row : Option Nat} (h : ArrIs w A G C b r d m s l K zs) (hb : w.grownBy w' row) (h0 : some A ≠ row) (h1 : some G ≠ row) (h2 : some C ≠ row) : ArrIs w' A G C b r d m s l K zs := ⟨h.1.grown hb h0, h.2.grown hb h1 h2⟩
theorem ArrIs.drewN {w : World} {A G C : Nat} {b r d m s l : Int} {K : Nat} {zs : List Int} (h : ArrIs w A G C b r d m s l K zs) (n : Nat) : ArrIs (w.drewN n) A G C b r d m s l K zs := h.kept (below_drewN (Below.refl _ _) n)
theorem ArrIs.neAC {w : World} {A G C : Nat} {b r d m s l : Int} {K : Nat} {zs : List Int} (h : ArrIs w A G C b r d m s l K zs) : A ≠ C := by
  obtain ⟨cur, hc, _⟩ := h.2.cells
  exact h.1.ne_ hc (by decide)
theorem ArrIs.put {w w' : World} {A G C : Nat} {b r d m s l : Int} {K : Nat} {zs zs' : List Int} (h : ArrIs w A G C b r d m s l K zs) (hb : w.grownBy w' (some C)) (hg : GridIs w' G C 1 K zs') : ArrIs w' A G C b r d m s l K zs' := ⟨h.1.grown hb (by simpa using h.neAC), hg⟩

instance (x : Int) : Decidable (In64 x) := by unfold In64; infer_instance
def chkI (K : Nat) (m : Int) (zs : List Int) (k : Nat) (d : Int) : Int := if K ≤ k then 2 else if m = 2 ∧ d < 0 then 3 else if In64 (cellD zs k + d) then 0 else 4
def updZ (K : Nat) (m : Int) (zs : List Int) (k : Nat) (d : Int) : List Int := if chkI K m zs k d = 0 then zs.set k (cellD zs k + d) else zs
theorem fitC {zs : List Int} (h : Fit zs) (i : Nat) : In64 (cellD zs i) := by
  unfold cellD
  cases hz : zs[i]? with
  | none => exact ⟨by simp, by simp⟩
  | some x => exact h.get hz
theorem ret_i64q {a b : Int} (h : a = b) : Ending.returned (.int .i64 a) = .returned (.int .i64 b) := by rw [h]

set_option maxHeartbeats 2000000 in
theorem excheck (w : World) (A G C : Nat) (b r d m s l : Int) (K k : Nat) (zs : List Int) (x : Int) (h : ArrIs w A G C b r d m s l K zs) (hx : In64 x) (hk64 : k < 18446744073709551616) :
  Calls Tryz.prog 114 #[.pointer (some ⟨A, 0, none⟩), .int .u64 (k : Int), .int .i64 x] w fun e w' => e = .returned (.int .i64 (chkI K m zs k x)) ∧ Below w.heap.size w w' := by
 have c3 := h.1.cell 3
 have c6 := h.1.cell 6
 simp at c3 c6
 have hw := h.2.width
 have P := Lib.hid (width_any w G C 1 K zs h.2)
 have e2 : IntKind.u64.wrap (K : Int) = (K : Int) := by rw [wrapU_mod]; omega
 by_cases hlt : k < K
 ·have P2 : Calls Tryz.prog 122 #[.pointer (some ⟨G, 0, none⟩), .int .i64 0, .int .i64 (k : Int)] w fun e w' => e = .returned (.int .i64 (cellD zs k)) ∧ w = w' := by
   have := at_in w G C 1 K 0 k zs h.2 (by decide) hlt
   simpa using this
  have P2 := Lib.hid P2
  have hz := fitC h.2.fit k
  have e1 : decide ((K : Int) ≤ (k : Int)) = false := decide_eq_false (by omega)
  have e1' : decide (K ≤ k) = false := decide_eq_false (by omega)
  have e3 : IntKind.i64.wrap (k : Int) = (k : Int) := by simp [IntKind.wrap, IntKind.bits, IntKind.signed]; split <;> omega
  obtain ⟨q, hq⟩ : ∃ q, q = chkI K m zs k x := ⟨_, rfl⟩
  rw [← hq]
  unfold chkI at hq
  rw [if_neg (by omega)] at hq
  clear h hlt hk64
  by_cases hm : m = 2 ∧ x < 0
  ·obtain ⟨rfl, hx0⟩ := hm
   have e4 : decide (x < 0) = true := decide_eq_true hx0
   have HQ : Hid (q = 3) := by show _ = _; rw [hq, if_pos ⟨rfl, hx0⟩]
   clear hq hx0
   go_enter Tryz.func114, Tryz.ntmps114
   go_wp2_with fail
   with_reducible refine P.out.mono ?_
   rintro e w2 ⟨rfl, hw2⟩
   subst hw2
   go_wp2
   go_ret
   exact ⟨ret_i64q HQ.out.symm, Below.refl _ _⟩
  ·rw [if_neg hm] at hq
   have hdec : (m ≠ 2 ∧ (m == 2) = false ∧ decide (m = 2) = false) ∨ ((m == 2) = true ∧ decide (m = 2) = true ∧ m = 2 ∧ decide (x < 0) = false) := by
    by_cases h2 : m = 2
    ·right; exact ⟨by simp [h2], by simp [h2], h2, decide_eq_false (fun hh => hm ⟨h2, hh⟩)⟩
    ·left; exact ⟨h2, by simp [h2], by simp [h2]⟩
   clear hm
   have P3 := fun w => opok_plus (cellD zs k) x w hz hx
   by_cases h64 : In64 (cellD zs k + x)
   ·have P3 := fun w => (P3 w).1 h64
    have P3 := Lib.hid P3
    have HQ : Hid (q = 0) := by show _ = _; rw [hq, if_pos h64]
    clear hq h64 hz
    generalize cellD zs k = z at *
    rcases hdec with ⟨hm2, d1, d2⟩ | ⟨d1, d2, hm2, d3⟩
    all_goals
     first | subst hm2 | skip
     go_enter Tryz.func114, Tryz.ntmps114
     go_wp2_with fail
     with_reducible refine P.out.mono ?_
     rintro e w2 ⟨rfl, hw2⟩
     subst hw2
     go_wp2_with fail
     with_reducible refine P2.out.mono ?_
     rintro e w2 ⟨rfl, hw2⟩
     subst hw2
     go_wp2_with fail
     with_reducible refine (P3.out _).mono ?_
     rintro e w3 ⟨rfl, hb⟩
     have HB := Lib.hid hb
     clear hb
     go_wp2
     go_ret
     exact ⟨ret_i64q HQ.out.symm, HB.out⟩
   ·have P3 := fun w => (P3 w).2 h64
    have P3 := Lib.hid P3
    have HQ : Hid (q = 4) := by show _ = _; rw [hq, if_neg h64]
    clear hq h64 hz
    generalize cellD zs k = z at *
    rcases hdec with ⟨hm2, d1, d2⟩ | ⟨d1, d2, hm2, d3⟩
    all_goals
     first | subst hm2 | skip
     go_enter Tryz.func114, Tryz.ntmps114
     go_wp2_with fail
     with_reducible refine P.out.mono ?_
     rintro e w2 ⟨rfl, hw2⟩
     subst hw2
     go_wp2_with fail
     with_reducible refine P2.out.mono ?_
     rintro e w2 ⟨rfl, hw2⟩
     subst hw2
     go_wp2_with fail
     with_reducible refine (P3.out _).mono ?_
     rintro e w3 ⟨rfl, hb⟩
     have HB := Lib.hid hb
     clear hb
     go_wp2
     go_ret
     exact ⟨ret_i64q HQ.out.symm, HB.out⟩
 ·have HQ : Hid (chkI K m zs k x = 2) := by show _ = _; unfold chkI; rw [if_pos (by omega)]
  have e1 : decide ((K : Int) ≤ (k : Int)) = true := decide_eq_true (by omega)
  have e1' : decide (K ≤ k) = true := decide_eq_true (by omega)
  clear h hlt
  go_enter Tryz.func114, Tryz.ntmps114
  go_wp2_with fail
  with_reducible refine P.out.mono ?_
  rintro e w2 ⟨rfl, hw2⟩
  subst hw2
  go_wp2
  go_ret
  exact ⟨ret_i64q HQ.out.symm, Below.refl _ _⟩

def UpdPost (w : World) (A G C : Nat) (b r d m s l : Int) (K : Nat) (zs : List Int) (k : Nat) (x : Int) (e : Ending) (w' : World) : Prop :=
  e = .returned (.int .i64 (chkI K m zs k x)) ∧ ArrIs w' A G C b r d m s l K (updZ K m zs k x) ∧ w.grownBy w' (some C)
theorem below_gr {w w' : World} {row : Option Nat} (h : Below w.heap.size w w') : w.grownBy w' row := ⟨h.os, h.tape, h.output, h.size, fun k hk _ => h.block k hk⟩
theorem gr_trans {w w1 w2 : World} {row : Option Nat} (h : w.grownBy w1 row) (k : w1.grownBy w2 row) : w.grownBy w2 row :=
  ⟨k.os.trans h.os, k.tape.trans h.tape, k.output.trans h.output, Nat.le_trans h.size k.size, fun j hj hne => (k.block j (Nat.lt_of_lt_of_le hj h.size) hne).trans (h.block j hj hne)⟩
theorem chkI_ok {K : Nat} {m : Int} {zs : List Int} {k : Nat} {x : Int} (h : chkI K m zs k x = 0) : k < K ∧ In64 (cellD zs k + x) := by
  unfold chkI at h
  split at h
  · omega
  split at h
  · omega
  split at h
  · exact ⟨by omega, by assumption⟩
  · omega

set_option maxRecDepth 100000 in
set_option maxHeartbeats 4000000 in
theorem exupdate (w : World) (A G C : Nat) (b r d m s l : Int) (K k : Nat) (zs : List Int) (x : Int) (h : ArrIs w A G C b r d m s l K zs) (hx : In64 x) (hk64 : k < 18446744073709551616) :
  Calls Tryz.prog 119 #[.pointer (some ⟨A, 0, none⟩), .int .u64 (k : Int), .int .i64 x] w (UpdPost w A G C b r d m s l K zs k x) := by
 have PC := excheck w A G C b r d m s l K k zs x h hx hk64
 by_cases hc : chkI K m zs k x = 0
 ·obtain ⟨hlt, h64⟩ := chkI_ok hc
  have hW := h.2.width
  have HU : Hid (UpdPost w A G C b r d m s l K zs k x = fun e w' => e = .returned (.int .i64 0) ∧ ArrIs w' A G C b r d m s l K (zs.set k (cellD zs k + x)) ∧ w.grownBy w' (some C)) := Lib.hid (by
   unfold UpdPost updZ; simp only [hc, if_pos])
  rw [HU.out]
  rw [hc] at PC
  have PC := Lib.hid PC
  have HA := Lib.hid h
  have P2 : Hid (∀ w', GridIs w' G C 1 K zs → Calls Tryz.prog 122 #[.pointer (some ⟨G, 0, none⟩), .int .i64 0, .int .i64 (k : Int)] w' fun e w'' => e = .returned (.int .i64 (cellD zs k)) ∧ w' = w'') := Lib.hid (fun w' h' => by
   have := at_in w' G C 1 K 0 k zs h' (by decide) hlt
   simpa using this)
  have P3 : Hid (∀ w', GridIs w' G C 1 K zs → Calls Tryz.prog 123 #[.pointer (some ⟨G, 0, none⟩), .int .i64 0, .int .i64 (k : Int), .int .i64 (cellD zs k + x)] w' fun e w'' => e = .returned (.bool true) ∧ w'' = w'.setCell ⟨C, k, none⟩ (.int .i64 (cellD zs k + x))) := Lib.hid (fun w' h' => by
   have := put_in w' G C 1 K 0 k (cellD zs k + x) zs h' (by decide) hlt
   simpa using this)
  have hAC : A ≠ C := h.neAC
  have e3 : IntKind.i64.wrap (k : Int) = (k : Int) := by simp [IntKind.wrap, IntKind.bits, IntKind.signed]; split <;> omega
  have H64 := Lib.hid h64
  have e5 : wrap64 (cellD zs k + x) = cellD zs k + x := by unfold wrap64; unfold In64 at h64; omega
  have e6 : IntKind.i64.wrap (cellD zs k + x) = cellD zs k + x := wrapI_of _ h64.1 h64.2
  clear h hlt h64 hk64 hc hW HU hx
  generalize hz : cellD zs k = z at *
  have HZ := Lib.hid hz
  clear hz
  go_enter Tryz.func119, Tryz.ntmps119
  go_wp2_with fail
  with_reducible refine PC.out.mono ?_
  rintro e w2 ⟨rfl, hb⟩
  have HA2 := Lib.hid (HA.out.kept hb)
  have HG2 : Hid (w.grownBy w2 (some C)) := Lib.hid (below_gr hb)
  clear hb
  go_wp2_with fail
  refine wp_region_held_drew (S := fun w' => Blk w' A 149 #[.int .i64 b, .int .i64 r, .int .i64 d, .int .i64 m, .int .u64 s, .int .i64 l, .pointer (some ⟨G, 0, none⟩)]) (by kernel_rfl) (by exact HA2.out.1.drewN 1) (fun hHeld => ?_)
  refine tkH (i := 0) (v := ?_) rfl (by kernel_rfl) (fun _ _ _ h => h) (Or.inl ⟨by rfl, ?_⟩) (by assumption) ?_
  rotate_left
  ·intro w hSw
   try dsimp only at hSw
   go_simp
   try with_reducible rfl
  simp only [Act.put, z1, z2, z3, z4, z5, z6]
  refine tkH (i := 1) (v := ?_) rfl (by kernel_rfl) (fun _ _ _ h => h) (Or.inl ⟨by rfl, ?_⟩) (by assumption) ?_
  rotate_left
  ·intro w hSw
   try dsimp only at hSw
   go_simp
   try with_reducible rfl
  simp only [Act.put, z1, z2, z3, z4, z5, z6]
  refine tkH (i := 2) (v := ?_) rfl (by kernel_rfl) (fun _ _ _ h => h) (Or.inl ⟨by rfl, ?_⟩) (by assumption) ?_
  rotate_left
  ·intro w hSw
   try dsimp only at hSw
   go_simp
   try with_reducible rfl
  simp only [Act.put, z1, z2, z3, z4, z5, z6]
  refine tkH (i := 3) (v := ?_) rfl (by kernel_rfl) (fun _ _ _ h => h) (Or.inl ⟨by rfl, ?_⟩) (by assumption) ?_
  rotate_left
  ·intro w hSw
   have q6 := hSw.cell 6
   simp at q6
   go_simp
   try with_reducible rfl
  simp only [Act.put, z1, z2, z3, z4, z5, z6]
  refine tkH (i := 4) (v := ?_) rfl (by kernel_rfl) (fun _ _ _ h => h) (Or.inl ⟨by rfl, ?_⟩) (by assumption) ?_
  rotate_left
  ·intro w hSw
   try dsimp only at hSw
   go_simp
   try with_reducible rfl
  simp only [Act.put, z1, z2, z3, z4, z5, z6]
  refine tkH (i := 5) (v := ?_) rfl (by kernel_rfl) (fun _ _ _ h => h) (Or.inl ⟨by rfl, ?_⟩) (by assumption) ?_
  rotate_left
  ·intro w hSw
   try dsimp only at hSw
   go_simp
   try with_reducible rfl
  simp only [Act.put, z1, z2, z3, z4, z5, z6]
  refine tkH (i := 6) (v := ?_) rfl (by kernel_rfl) (fun _ _ _ h => h) (Or.inl ⟨by rfl, ?_⟩) (by assumption) ?_
  rotate_left
  ·intro w hSw
   try dsimp only at hSw
   go_simp
   try with_reducible rfl
  simp only [Act.put, z1, z2, z3, z4, z5, z6]
  refine tkH (i := 7) (v := ?_) rfl (by kernel_rfl) (fun _ _ _ h => h) (Or.inl ⟨by rfl, ?_⟩) (by assumption) ?_
  rotate_left
  ·intro w hSw
   try dsimp only at hSw
   go_simp
   try with_reducible rfl
  simp only [Act.put, z1, z2, z3, z4, z5, z6]
  refine tkH (i := 8) (v := ?_) rfl (by kernel_rfl) (fun _ _ _ h => h) (Or.inl ⟨by rfl, ?_⟩) (by assumption) ?_
  rotate_left
  ·intro w hSw
   try dsimp only at hSw
   go_simp
   try with_reducible rfl
  simp only [Act.put, z1, z2, z3, z4, z5, z6]
  refine tkH (i := 9) (v := ?_) rfl (by kernel_rfl) (fun _ _ _ h => h) (Or.inl ⟨by rfl, ?_⟩) (by assumption) ?_
  rotate_left
  ·intro w hSw
   have q6 := hSw.cell 6
   simp at q6
   go_simp
   try with_reducible rfl
  simp only [Act.put, z1, z2, z3, z4, z5, z6]
  refine tkH (i := 10) (v := ?_) rfl (by kernel_rfl) (fun _ _ _ h => h) (Or.inl ⟨by rfl, ?_⟩) (by assumption) ?_
  rotate_left
  ·intro w hSw
   try dsimp only at hSw
   go_simp
   try with_reducible rfl
  simp only [Act.put, z1, z2, z3, z4, z5, z6]
  refine tkH (i := 11) (v := ?_) rfl (by kernel_rfl) (fun _ _ _ h => h) (Or.inl ⟨by rfl, ?_⟩) (by assumption) ?_
  rotate_left
  ·intro w hSw
   try dsimp only at hSw
   go_simp
   try with_reducible rfl
  simp only [Act.put, z1, z2, z3, z4, z5, z6]
  refine tkH (i := 13) (v := ?_) rfl (by kernel_rfl) (fun _ _ _ h => h) (Or.inl ⟨by rfl, ?_⟩) (by assumption) ?_
  rotate_left
  ·intro w hSw
   try dsimp only at hSw
   go_simp
   try with_reducible rfl
  simp only [Act.put, z1, z2, z3, z4, z5, z6]
  refine wpAnyH_ready (rs := [12]) (by kernel_rfl) (by simp) ?_
  refine AllReadyH.cons rfl (fun Kc hKc => ?_) AllReadyH.nil
  go_simp
  go_wp2_with (first | (go_at_call 122; refine (P2.out _ (HA2.out.2.drewN 1)).mono ?_; rintro e w' ⟨rfl, hw'⟩; subst hw') | (go_at_call 123; refine (P3.out _ (HA2.out.2.drewN 1)).mono ?_; rintro e w5 ⟨rfl, hw5⟩; have HW5 := Lib.hid hw5; clear hw5))
  refine hKc.out _ _ ?_ (fun hHeld => ?_)
  ·first | exact hHeld | (rw [HW5.out]; exact hHeld.far hAC _)
  clear hKc Kc
  refine tkH (i := 14) (v := ?_) rfl (by kernel_rfl) (fun _ _ _ h => h) (Or.inl ⟨by rfl, ?_⟩) (by assumption) ?_
  rotate_left
  ·intro w hSw
   try dsimp only at hSw
   go_simp
   try with_reducible rfl
  simp only [Act.put, z1, z2, z3, z4, z5, z6]
  refine wpAnyH_ready (rs := [15]) (by kernel_rfl) (by simp) ?_
  refine AllReadyH.cons rfl (fun Kc hKc => ?_) AllReadyH.nil
  go_simp
  go_wp2_with (first | (go_at_call 122; refine (P2.out _ (HA2.out.2.drewN 1)).mono ?_; rintro e w' ⟨rfl, hw'⟩; subst hw') | (go_at_call 123; refine (P3.out _ (HA2.out.2.drewN 1)).mono ?_; rintro e w5 ⟨rfl, hw5⟩; have HW5 := Lib.hid hw5; clear hw5))
  refine hKc.out _ _ ?_ (fun hHeld => ?_)
  ·first | exact hHeld | (rw [HW5.out]; exact hHeld.far hAC _)
  clear hKc Kc
  refine wpAnyH_done (by kernel_rfl) ?_ _
  clear hHeld
  go_wp2
  go_ret
  refine ⟨rfl, ?_, ?_⟩
  ·rw [HW5.out]
   exact (HA2.out.drewN 1).put (grown_set _ _ _ _) ((HA2.out.2.drewN 1).set k _ H64.out.1 H64.out.2)
  ·rw [HW5.out]
   exact gr_trans HG2.out (gr_trans (below_gr (below_drewN (Below.refl _ _) 1)) (grown_set _ _ _ _))
 ·have HU : Hid (UpdPost w A G C b r d m s l K zs k x = fun e w' => e = .returned (.int .i64 (chkI K m zs k x)) ∧ ArrIs w' A G C b r d m s l K zs ∧ w.grownBy w' (some C)) := Lib.hid (by
   unfold UpdPost updZ; simp only [if_neg hc])
  rw [HU.out]
  have PC := Lib.hid PC
  have HA := Lib.hid h
  generalize chkI K m zs k x = q at *
  have d1 : (q == 0) = false := by simpa using hc
  have d2 : decide (q = 0) = false := by simpa using hc
  clear h hk64 HU hx
  go_enter Tryz.func119, Tryz.ntmps119
  go_wp2_with fail
  with_reducible refine PC.out.mono ?_
  rintro e w2 ⟨rfl, hb⟩
  have HA2 := Lib.hid (HA.out.kept hb)
  have HG2 : Hid (w.grownBy w2 (some C)) := Lib.hid (below_gr hb)
  clear hb
  go_wp2
  go_ret
  exact ⟨rfl, HA2.out, HG2.out⟩
end Go.Proofs.YthbkljeibmkimaaGreat


namespace Go.Proofs.YthbkljeibmkimaaGreat
open Go.RowKit
set_option linter.unusedVariables false

inductive Sh where
  | int (k : IntKind)
  | bool
  | slice (e : Sh)
  | unit
  | cons (a b : Sh)
  | agg (s : Sh)

def Sh.size : Sh → Nat
  | .int _ => 1
  | .bool => 1
  | .slice _ => 1
  | .unit => 0
  | .cons a b => a.size + b.size
  | .agg s => s.size

def Sh.chk (P : Program) : Sh → (TypeId → Bool) × (List (Nat × TypeId) → Nat → Bool)
  | .int k => (fun t => match P.underlying t with | some (.int k') => decide (k' = k) | _ => false, fun _ _ => false)
  | .bool => (fun t => match P.underlying t with | some .bool => true | _ => false, fun _ _ => false)
  | .slice e => (fun t => match P.underlying t with | some (.slice te) => decide (P.cellsOf te = e.size) && (decide (0 < e.size) && (e.chk P).1 te) | _ => false, fun _ _ => false)
  | .unit => (fun _ => false, fun l _ => l.isEmpty)
  | .cons a b => (fun _ => false, fun l off => match l with | (o, t) :: l => decide (o = off) && decide (P.cellsOf t = a.size) && (a.chk P).1 t && (b.chk P).2 l (off + a.size) | [] => false)
  | .agg s => (fun t => decide (P.cellsOf t = s.size) && match P.underlying t with
      | some (.struct fs) => (s.chk P).2 (fs.toList.map fun f => (f.offset, f.type)) 0
      | some (.array n te) => (s.chk P).2 ((List.range n).map fun i => (i * P.cellsOf te, te)) 0
      | _ => false, fun _ _ => false)

def Sh.reads (w : World) : Sh → List Value → Prop
  | .int k, cs => ∃ n, cs = [.int k n] ∧ (Lit.int k n).wf = true
  | .bool, cs => ∃ b, cs = [.bool b]
  | .slice e, cs => ∃ (ao : Option Addr) (len cap : Nat), cs = [.slice ao len cap] ∧ len ≤ cap ∧ cap ≤ maxLen ∧
      (0 < len → ∃ b off, ao = some ⟨b, off, none⟩ ∧ b < w.heap.size ∧
        ∀ i, i < len → ∃ cs', cs'.length = e.size ∧ (∀ j, j < e.size → w.cell? ⟨b, off + (i * e.size + j), none⟩ = cs'[j]?) ∧ e.reads w cs')
  | .unit, cs => cs = []
  | .cons a b, cs => ∃ c d, cs = c ++ d ∧ a.reads w c ∧ b.reads w d
  | .agg s, cs => s.reads w cs

def Sh.Val (w : World) (sh : Sh) (v : Value) : Prop :=
  match sh with
  | .agg s => ∃ cs : Array Value, v = .agg cs ∧ s.reads w cs.toList
  | sh => sh.reads w [v]

section
variable {H : Type} {enc : TypeId × Value → H} {P : Program} {w : World} {spare : Nat → Bool} {held : Bool}

theorem cell_block {w : World} {a : Addr} {v : Value} (h : w.cell? a = some v) : a.block < w.heap.size := by
  rcases Nat.lt_or_ge a.block w.heap.size with h' | h'
  · exact h'
  · unfold World.cell? at h
    rw [Array.getElem?_eq_none h'] at h
    cases h

theorem addr_add (b off n : Nat) : (Addr.mk b off none).add n = ⟨b, off + n, none⟩ := by
  unfold Addr.add
  split <;> simp_all

theorem reads_of_trod : ∀ (sh : Sh),
  (∀ (t : TypeId) (fuel : Nat) (cs : List Value) (x : DataW H × List MemPlace), (sh.chk P).1 t = true → DataW.trod enc P w 0 spare held fuel t cs = some x → sh.reads w cs) ∧
  (∀ (l : List (Nat × TypeId)) (off fuel : Nat) (cs : List Value), (sh.chk P).2 l off = true → off + sh.size ≤ cs.length →
   (∀ q, q ∈ l → ∃ x, DataW.trod enc P w 0 spare held fuel q.2 ((cs.drop q.1).take (P.cellsOf q.2)) = some x) → sh.reads w ((cs.drop off).take sh.size)) := by
 intro sh
 induction sh with
 | int k =>
  refine ⟨fun t fuel cs x hc h => ?_, fun l off fuel cs hc => by simp [Sh.chk] at hc⟩
  cases hu : P.underlying t with
  | none => simp [Sh.chk, hu] at hc
  | some u =>
   simp only [Sh.chk, hu] at hc
   cases u <;> simp at hc
   subst hc
   obtain ⟨n, h1, _, h3⟩ := DataW.trod_int hu h
   exact ⟨n, h1, h3⟩
 | bool =>
  refine ⟨fun t fuel cs x hc h => ?_, fun l off fuel cs hc => by simp [Sh.chk] at hc⟩
  cases hu : P.underlying t with
  | none => simp [Sh.chk, hu] at hc
  | some u =>
   simp only [Sh.chk, hu] at hc
   cases u <;> simp at hc
   cases fuel with
   | zero => simp [DataW.trod] at h
   | succ n =>
    unfold DataW.trod at h
    rw [hu] at h
    split at h <;> simp_all
    exact ⟨_, rfl⟩
 | slice e ih =>
  refine ⟨fun t fuel cs x hc h => ?_, fun l off fuel cs hc => by simp [Sh.chk] at hc⟩
  cases hu : P.underlying t with
  | none => simp [Sh.chk, hu] at hc
  | some u =>
   simp only [Sh.chk, hu] at hc
   cases u <;> simp at hc
   rename_i te
   obtain ⟨hsz, hpos, hce⟩ := hc
   rcases Go.Deep.open_slice hu h with ⟨h1, _⟩ | ⟨a, len, cap, m, n, D, Pl, h1, _, hl, hm, hmm, _, hx⟩
   ·exact ⟨none, 0, 0, h1, by omega, by unfold maxLen; omega, fun h => by omega⟩
   ·have hlm : len ≤ m := by rw [hmm]; split <;> omega
    refine ⟨some a, len, cap, h1, hl, hm, fun h0 => ?_⟩
    obtain ⟨b, off, s⟩ := a
    obtain ⟨c0, g1, _⟩ := hx 0 (by omega)
    obtain ⟨_, g2, g3⟩ := World.cells?_some g1
    have g4 := g3 0 (by omega)
    have g5 : c0[0]? = some c0[0] := List.getElem?_eq_getElem (by omega)
    rw [g5] at g4
    have hb : b < w.heap.size := by
     have := cell_block g4
     simpa [Addr.add] using this
    have hs : s = none := by
     have := World.cell?_spot g4
     simpa [Addr.add] using this
    subst hs
    refine ⟨b, off, rfl, hb, fun i hi => ?_⟩
    obtain ⟨ci, k1, k2⟩ := hx i (by omega)
    obtain ⟨_, k3, k4⟩ := World.cells?_some k1
    refine ⟨ci, by rw [k3, hsz], fun j hj => ?_, ih.1 te n ci _ hce k2⟩
    have := k4 j (by omega)
    rw [addr_add, addr_add, hsz] at this
    rw [← this]
    congr 2
    omega
 | unit =>
  refine ⟨fun t fuel cs x hc => by simp [Sh.chk] at hc, fun l off fuel cs hc hl h => ?_⟩
  simp [Sh.reads, Sh.size]
 | cons a b iha ihb =>
  refine ⟨fun t fuel cs x hc => by simp [Sh.chk] at hc, fun l off fuel cs hc hl h => ?_⟩
  match l with
  | [] => simp [Sh.chk] at hc
  | (o, t) :: l =>
   simp [Sh.chk] at hc
   obtain ⟨⟨⟨rfl, h2⟩, h3⟩, h4⟩ := hc
   simp only [Sh.size] at hl ⊢
   obtain ⟨x, hx⟩ := h (o, t) (by simp)
   have r1 := iha.1 t fuel _ x h3 hx
   have r2 := ihb.2 l (o + a.size) fuel cs h4 (by omega) (fun q hq => h q (by simp [hq]))
   rw [h2] at r1
   refine ⟨_, _, ?_, r1, r2⟩
   rw [List.take_add, List.drop_drop, Nat.add_comm]
 | agg s ih =>
  refine ⟨fun t fuel cs x hc h => ?_, fun l off fuel cs hc => by simp [Sh.chk] at hc⟩
  cases hu : P.underlying t with
  | none => simp [Sh.chk, hu] at hc
  | some u =>
   simp only [Sh.chk, hu] at hc
   cases u <;> simp at hc
   ·rename_i n te
    obtain ⟨hsz, hce⟩ := hc
    obtain ⟨xs, m, _, _, hl, hxs, hf⟩ := DataW.trod_array hu h
    have := ih.2 _ 0 m cs hce (by omega) (by
     intro q hq
     simp at hq
     obtain ⟨i, hi, rfl⟩ := hq
     have := hf i hi
     refine ⟨xs[i], ?_⟩
     rw [this]
     simp [hxs, hi])
    simp [← hsz, ← hl] at this
    exact this
   ·rename_i fs
    obtain ⟨hsz, hce⟩ := hc
    obtain ⟨xs, n, _, _, hl, hxs, hf⟩ := DataW.trod_struct hu h
    have := ih.2 _ 0 n cs hce (by omega) (by
     intro q hq
     simp at hq
     obtain ⟨f, hf1, rfl⟩ := hq
     obtain ⟨i, hi', rfl⟩ := Array.getElem_of_mem hf1
     have := hf i fs[i] (by simp [hi'])
     refine ⟨xs[i], ?_⟩
     simp at this ⊢
     rw [this]
     simp [hxs, hi'])
    simp [← hsz, ← hl] at this
    exact this

theorem arg_val {sh : Sh} {r : Reach} {base : Nat} {t : TypeId} {v : Value} {d : DataW H} {p : List MemPlace} (hc : (sh.chk P).1 t = true)
  (hv : Value.okWide P w r base t v) (h : DataW.Trod enc P w 0 spare held t v d p) : sh.Val w v := by
 obtain ⟨fuel, hf⟩ := h
 have hr := (reads_of_trod sh).1 t fuel _ _ hc hf
 cases sh with
 | int k =>
  obtain ⟨n, h1, h2⟩ := hr
  cases hu : P.underlying t with
  | none => simp [Sh.chk, hu] at hc
  | some u =>
   simp only [Sh.chk, hu] at hc
   cases u <;> simp at hc
   subst hc
   obtain ⟨m, rfl⟩ := WideShapes.okWide_int hu hv
   exact ⟨n, by simpa [Value.cells] using h1, h2⟩
 | bool =>
  obtain ⟨n, h1⟩ := hr
  cases hu : P.underlying t with
  | none => simp [Sh.chk, hu] at hc
  | some u =>
   simp only [Sh.chk, hu] at hc
   cases u <;> simp at hc
   obtain ⟨m, rfl⟩ := WideShapes.okWide_bool hu hv
   exact ⟨n, by simpa [Value.cells] using h1⟩
 | slice e =>
  cases hu : P.underlying t with
  | none => simp [Sh.chk, hu] at hc
  | some u =>
   simp only [Sh.chk, hu] at hc
   cases u <;> simp at hc
   obtain ⟨a, l, c, rfl⟩ := WideShapes.okWide_slice hu hv
   exact hr
 | unit => simp [Sh.chk] at hc
 | cons a b => simp [Sh.chk] at hc
 | agg s =>
  cases hu : P.underlying t with
  | none => simp [Sh.chk, hu] at hc
  | some u =>
   simp only [Sh.chk, hu] at hc
   cases u <;> simp at hc
   all_goals
    simp only [Value.okWide, hu] at hv
    obtain ⟨cs, rfl, _⟩ := hv
    exact ⟨cs, rfl, hr⟩
end

theorem Sh.reads_int {w : World} {k : IntKind} {s : Sh} {cs : List Value} (h : (Sh.cons (.int k) s).reads w cs) : ∃ n d, cs = .int k n :: d ∧ (Lit.int k n).wf = true ∧ s.reads w d := by
  obtain ⟨c, d, h1, ⟨n, h2, h3⟩, h4⟩ := h
  exact ⟨n, d, by rw [h1, h2]; rfl, h3, h4⟩
theorem Sh.reads_slice {w : World} {e s : Sh} {cs : List Value} (h : (Sh.cons (.slice e) s).reads w cs) : ∃ v d, cs = v :: d ∧ (Sh.slice e).Val w v ∧ s.reads w d := by
  obtain ⟨c, d, h1, h2, h4⟩ := h
  obtain ⟨ao, len, cap, h5, h6⟩ := h2
  exact ⟨_, d, by rw [h1, h5]; rfl, ⟨ao, len, cap, rfl, h6⟩, h4⟩
theorem Sh.reads_agg {w : World} {e s : Sh} {cs : List Value} (h : (Sh.cons (.agg e) s).reads w cs) : ∃ c d, cs = c ++ d ∧ e.reads w c ∧ s.reads w d := h
theorem Sh.reads_unit {w : World} {cs : List Value} (h : Sh.unit.reads w cs) : cs = [] := h
theorem agg_of_list {cs : Array Value} {l : List Value} (h : cs.toList = l) : cs = l.toArray := by rw [← h]
end Go.Proofs.YthbkljeibmkimaaGreat


namespace Go.Proofs.YthbkljeibmkimaaGreat
open Go.RowKit Go.ChangeShapes Go.WideShapes Go.ChangeAt
set_option linter.unusedVariables false
set_option linter.unusedSimpArgs false
def shCfg : Sh := .agg (.cons (.int .i64) (.cons (.int .i64) (.cons (.int .i64) (.cons (.int .i64) (.cons (.int .u64) .unit)))))
def anyI (x n : Int) : Int := 1 + x % 65536 % n
theorem anyI_bd (x n : Int) (h : 1 ≤ n) : 1 ≤ anyI x n ∧ anyI x n ≤ n := by
  unfold anyI
  have h1 := Int.emod_nonneg (x % 65536) (show n ≠ 0 by omega)
  have h2 := Int.emod_lt_of_pos (x % 65536) (show 0 < n by omega)
  omega
theorem and16 (n : Int) : bits BinOp.and IntKind.i64 n 65535 = n % 65536 := by
  have h16 : (BitVec.ofInt 64 65535).toNat = 2 ^ 16 - 1 := by decide
  have key : (BitVec.ofInt 64 n &&& BitVec.ofInt 64 65535).toNat = (n % ((2 ^ 64 : Nat) : Int)).toNat % 2 ^ 16 := by
    rw [BitVec.toNat_and, BitVec.toNat_ofInt, h16, Nat.and_two_pow_sub_one_eq_mod]
  show IntKind.i64.wrap ((BitVec.ofInt 64 n &&& BitVec.ofInt 64 65535).toNat : Nat) = n % 65536
  rw [key, IntKind.wrap_i64]
  omega

set_option maxRecDepth 100000 in
set_option maxHeartbeats 1000000 in
theorem any_any (b r d m s p q : Int) (p0 : 1 ≤ p) (p1 : p ≤ 59) (q0 : 1 ≤ q) (q1 : q ≤ 128) (w : World) :
  Calls Tryz.prog 6 #[.agg #[.int .i64 b, .int .i64 r, .int .i64 d, .int .i64 m, .int .u64 s], .int .i64 p, .int .i64 q] w fun e w' =>
   e = .returned (.agg #[.int .i64 (anyI b p), .int .i64 (anyI r 4), .int .i64 (anyI d q), .int .i64 (anyI m 3), .int .u64 s]) ∧ Below w.heap.size w w' := by
 have e1 := and16 b
 have e2 := and16 r
 have e3 := and16 d
 have e4 := and16 m
 have z1 := Int.emod_nonneg (b % 65536) (show p ≠ 0 by omega)
 have z2 := Int.emod_lt_of_pos (b % 65536) (show 0 < p by omega)
 have z3 := Int.emod_nonneg (d % 65536) (show q ≠ 0 by omega)
 have z4 := Int.emod_lt_of_pos (d % 65536) (show 0 < q by omega)
 have y1 : (p == 0) = false := by simp; omega
 have y2 : (q == 0) = false := by simp; omega
 have t1 : (b % 65536).tmod p = b % 65536 % p := Int.tmod_eq_emod_of_nonneg (by omega)
 have t2 : (r % 65536).tmod 4 = r % 65536 % 4 := Int.tmod_eq_emod_of_nonneg (by omega)
 have t3 : (d % 65536).tmod q = d % 65536 % q := Int.tmod_eq_emod_of_nonneg (by omega)
 have t4 : (m % 65536).tmod 3 = m % 65536 % 3 := Int.tmod_eq_emod_of_nonneg (by omega)
 have u1 : IntKind.i64.wrap (b % 65536 % p) = b % 65536 % p := IntWalk.i64_in _ (by omega)
 have u2 : IntKind.i64.wrap (r % 65536 % 4) = r % 65536 % 4 := IntWalk.i64_in _ (by omega)
 have u3 : IntKind.i64.wrap (d % 65536 % q) = d % 65536 % q := IntWalk.i64_in _ (by omega)
 have u4 : IntKind.i64.wrap (m % 65536 % 3) = m % 65536 % 3 := IntWalk.i64_in _ (by omega)
 have v1 : IntKind.i64.wrap (1 + b % 65536 % p) = 1 + b % 65536 % p := IntWalk.i64_in _ (by omega)
 have v2 : IntKind.i64.wrap (1 + r % 65536 % 4) = 1 + r % 65536 % 4 := IntWalk.i64_in _ (by omega)
 have v3 : IntKind.i64.wrap (1 + d % 65536 % q) = 1 + d % 65536 % q := IntWalk.i64_in _ (by omega)
 have v4 : IntKind.i64.wrap (1 + m % 65536 % 3) = 1 + m % 65536 % 3 := IntWalk.i64_in _ (by omega)
 have p0' : ¬ p = 0 := by omega
 have q0' : ¬ q = 0 := by omega
 go_enter Tryz.func6, Tryz.ntmps6
 go_wp2_with fail
 have hk : Blk ((w.alloc (.cells #[.int .i64 b, .int .i64 r, .int .i64 d, .int .i64 m, .int .u64 s] 24)).alloc (.cells #[.int .i64 0, .int .i64 0, .int .i64 0, .int .i64 0, .int .u64 0] 24)) w.heap.size 24 #[.int .i64 b, .int .i64 r, .int .i64 d, .int .i64 m, .int .u64 s] := (Blk.new _ _ _).alloc _
 have hn : Blk ((w.alloc (.cells #[.int .i64 b, .int .i64 r, .int .i64 d, .int .i64 m, .int .u64 s] 24)).alloc (.cells #[.int .i64 0, .int .i64 0, .int .i64 0, .int .i64 0, .int .u64 0] 24)) (w.heap.size + 1) 24 #[.int .i64 0, .int .i64 0, .int .i64 0, .int .i64 0, .int .u64 0] := by
  have := Blk.new (w.alloc (.cells #[.int .i64 b, .int .i64 r, .int .i64 d, .int .i64 m, .int .u64 s] 24)) 24 #[.int .i64 0, .int .i64 0, .int .i64 0, .int .i64 0, .int .u64 0]
  simpa using this
 have hbel : Below w.heap.size w ((w.alloc (.cells #[.int .i64 b, .int .i64 r, .int .i64 d, .int .i64 m, .int .u64 s] 24)).alloc (.cells #[.int .i64 0, .int .i64 0, .int .i64 0, .int .i64 0, .int .u64 0] 24)) := ((Below.refl _ _).alloc (Nat.le_refl _) _).alloc (by simp) _
 generalize ((w.alloc (.cells #[.int .i64 b, .int .i64 r, .int .i64 d, .int .i64 m, .int .u64 s] 24)).alloc (.cells #[.int .i64 0, .int .i64 0, .int .i64 0, .int .i64 0, .int .u64 0] 24)) = wz at *
 refine wp_region_still_tail 25 (by kernel_rfl) (by kernel_rfl) ?_
 simp only [List.take_succ_cons, List.take_zero, List.drop_succ_cons, List.drop_zero]
 replace hk := hk.drew
 replace hn := hn.drew
 replace hbel := hbel.drew
 change Blk { heap := wz.heap, tape := wz.tape, drawn := wz.drawn + 1, os := wz.os, output := wz.output } _ _ _ at hk
 change Blk { heap := wz.heap, tape := wz.tape, drawn := wz.drawn + 1, os := wz.os, output := wz.output } _ _ _ at hn
 change Below _ _ { heap := wz.heap, tape := wz.tape, drawn := wz.drawn + 1, os := wz.os, output := wz.output } at hbel
 generalize ({ heap := wz.heap, tape := wz.tape, drawn := wz.drawn + 1, os := wz.os, output := wz.output } : World) = wd at *
 obtain ⟨c0, c1, c2, c3, c4⟩ := box_cells hk
 repeat still_step
 refine wpStill_nil ?_
 obtain ⟨n0, n1, n2, n3, n4⟩ := box_cells hn
 have f0 := hn.frozen 0
 have f1 := hn.frozen 1
 have f2 := hn.frozen 2
 have f3 := hn.frozen 3
 have f4 := hn.frozen 4
 generalize hG : w.heap.size + 1 = G at *
 go_wp2
 refine bodyPost_ret (v := .agg #[.int .i64 (anyI b p), .int .i64 (anyI r 4), .int .i64 (anyI d q), .int .i64 (anyI m 3), .int .u64 s]) (by simp [results, Tryz.results6, go_sem, n0, n1, n2, n3, n4]; exact ⟨rfl, by unfold anyI; omega, rfl, rfl⟩) rfl ⟨rfl, ?_⟩
 have hlow : w.heap.size ≤ G := by omega
 exact ((((hbel.setCell hlow _).setCell hlow _).setCell hlow _).setCell hlow _).setCell hlow _

section
variable {P : Program}
end

end Go.Proofs.YthbkljeibmkimaaGreat


namespace Go.Proofs.YthbkljeibmkimaaGreat
open Go.RowKit
set_option linter.unusedVariables false
set_option linter.unusedSimpArgs false

end Go.Proofs.YthbkljeibmkimaaGreat


namespace Go.Proofs.YthbkljeibmkimaaGreat
open Go.RowKit
set_option linter.unusedVariables false
set_option linter.unusedSimpArgs false

theorem take_drop_set {cs zs : List Int} {j : Nat} {u : Int} (hc : cs[j]? = some u) (hl : cs.length = zs.length) : (cs.take j ++ zs.drop j).set j u = cs.take (j + 1) ++ zs.drop (j + 1) := by
  have hj : j < cs.length := (List.getElem?_eq_some_iff.1 hc).1
  have hu : u = cs[j] := by
    have := (List.getElem?_eq_some_iff.1 hc).2
    exact this.symm
  apply List.ext_getElem?
  intro i
  rw [List.getElem?_set]
  simp only [List.length_append, List.length_take, List.length_drop]
  by_cases e : j = i
  · subst e
    rw [if_pos rfl, if_pos (by omega), List.getElem?_append_left (by simp; omega), List.getElem?_take, if_pos (by omega), hc]
  · rw [if_neg e]
    by_cases h : i < j
    · rw [List.getElem?_append_left (by simp; omega), List.getElem?_append_left (by simp; omega), List.getElem?_take, List.getElem?_take, if_pos h, if_pos (by omega)]
    · rw [List.getElem?_append_right (by simp; omega), List.getElem?_append_right (by simp; omega), List.getElem?_drop, List.getElem?_drop]
      simp only [List.length_take]
      congr 1
      omega

end Go.Proofs.YthbkljeibmkimaaGreat


namespace Go.Proofs.YthbkljeibmkimaaGreat
open Go.RowKit
set_option linter.unusedVariables false
set_option linter.unusedSimpArgs false

def OwnB (w : World) (base : Nat) (v : Value) (bs : List Int) : Prop := w.ownsRow base 5 1 v bs.length (bs.map (Value.int .u8))
theorem OwnB.at {w : World} {base : Nat} {v : Value} {bs : List Int} (h : OwnB w base v bs) : BytesAt w v bs := BytesAt.of_own h
def Owned (w : World) (o o' : Option Nat) : Prop := o' = o ∨ ∃ g, o' = some g ∧ w.heap.size ≤ g
theorem Owned.refl (w : World) (o : Option Nat) : Owned w o o := .inl rfl
theorem Owned.next {w : World} {ob o1 o2 : Option Nat} {n : Nat} (h : Owned w ob o1) (k : o2 = o1 ∨ o2 = some n) (hs : w.heap.size ≤ n) : Owned w ob o2 := by
  rcases k with rfl | rfl
  · exact h
  · exact .inr ⟨_, rfl, hs⟩
theorem Owned.trans {w w1 : World} {o0 o1 o2 : Option Nat} (h : Owned w o0 o1) (k : Owned w1 o1 o2) (hs : w.heap.size ≤ w1.heap.size) : Owned w o0 o2 := by
  rcases k with rfl | ⟨g, rfl, hg⟩
  · exact h
  · exact .inr ⟨g, rfl, Nat.le_trans hs hg⟩
theorem OwnB.kept {w w' : World} {base : Nat} {v : Value} {bs : List Int} (h : OwnB w base v bs) (hb : Below w.heap.size w w') : OwnB w' base v bs := World.ownsRow.kept h (below_gr (row := none) hb) (by cases v.ownBlock <;> simp)
theorem OwnB.lt {w : World} {base : Nat} {v : Value} {bs : List Int} (h : OwnB w base v bs) : ∀ k, v.ownBlock = some k → base ≤ k ∧ k < w.heap.size := World.ownsRow.lt h
theorem OwnB.open_ {w : World} {base : Nat} {v : Value} {bs : List Int} (h : OwnB w base v bs) : ∃ ao cap, v = .slice ao bs.length cap ∧ bs.length ≤ cap ∧ cap ≤ maxLen := by
  obtain ⟨ao, cap, e, h1, h2, -⟩ := h.at
  exact ⟨ao, cap, e, h1, h2⟩
theorem BytesAt.news {w : World} {ao : Option Addr} {n cap : Nat} {bs : List Int} (h : BytesAt w (.slice ao n cap) bs) (hn : n = bs.length) (w' : World) (hb : Below w.heap.size w w') :
    0 < n → ∃ ad, ao = some ad ∧ ∀ j u, (bs.map (Value.int .u8))[j]? = some u → w'.cell? (ad.add j) = some u := by
  intro h0
  obtain ⟨ao2, cap2, e, h1, h2, h3⟩ := h
  simp only [Value.slice.injEq] at e
  obtain ⟨rfl, -, rfl⟩ := e
  rcases h3 with ⟨rfl, rfl⟩ | ⟨g, off, rfl, hg, hcc⟩
  · simp at hn; omega
  · refine ⟨_, rfl, fun j u hu => ?_⟩
    rw [List.getElem?_map] at hu
    cases hz : bs[j]? with
    | none => rw [hz] at hu; simp at hu
    | some z =>
      rw [hz] at hu
      simp at hu
      subst hu
      rw [addr_add]
      exact (hb.cell (p := ⟨g, off + j, none⟩) hg).trans (hcc j z hz)
section
variable {P : Program}
theorem run_append_none (w : World) (t ty e : TypeId) (i : TypeInfo) (ht : P.underlying t = some (.slice e)) (hi : P.info? e = some i) (g cap : Nat) (ao : Option Addr) (c : Nat) :
    (Builtin.append_ #[t, t] ty #[.slice (some ⟨g, 0, none⟩) 0 cap, .slice ao 0 c]).run P w = .ok (.slice (some ⟨g, 0, none⟩) 0 cap) w := by
  cases ao <;> simp [Builtin.append_, run_underlying ht, sizeOf, typeInfo, hi, Builtin.lenOf, Builtin.firstCells, loadCells, loadCellsFrom, storeCells]
end
end Go.Proofs.YthbkljeibmkimaaGreat

