/-
  Plain numbers, no program: the number at a place in order, by counts. Conditions: none beyond those stated at each theorem.
-/
import Derived.Test.YtcinlcbmjboaaaaMem
namespace Go.Proofs.Ytcinlcbmjboaaaa
set_option linter.unusedVariables false
set_option linter.unusedSimpArgs false

def cLt (l : List Int) (v : Int) : Nat := (l.filter fun x => decide (x < v)).length
def cEq (l : List Int) (v : Int) : Nat := (l.filter fun x => decide (x = v)).length
/-- v stands at place k of l in order -/
def IsKth (l : List Int) (k : Nat) (v : Int) : Prop := v ∈ l ∧ cLt l v ≤ k ∧ k < cLt l v + cEq l v
def lessL (l : List Int) (b : Int) : List Int := l.filter fun x => decide (x < b)
def moreL (l : List Int) (b : Int) : List Int := l.filter fun x => decide (b < x)

theorem cLt_cons (x : Int) (l : List Int) (v : Int) : cLt (x :: l) v = cLt l v + if x < v then 1 else 0 := by
  simp only [cLt, List.filter_cons]
  by_cases h : x < v <;> simp [h]
theorem cEq_cons (x : Int) (l : List Int) (v : Int) : cEq (x :: l) v = cEq l v + if x = v then 1 else 0 := by
  simp only [cEq, List.filter_cons]
  by_cases h : x = v <;> simp [h]
theorem cLt_mono (l : List Int) {u v : Int} (h : u < v) : cLt l u + cEq l u ≤ cLt l v := by
  induction l with
  | nil => simp [cLt, cEq]
  | cons x l ih =>
    rw [cLt_cons, cEq_cons, cLt_cons]
    by_cases h1 : x < u
    · have : x < v := by omega
      have : ¬ x = u := by omega
      simp [*]; omega
    · by_cases h2 : x = u
      · subst h2; simp [h]; omega
      · simp [h1, h2]; split <;> omega
theorem IsKth.unique {l : List Int} {k : Nat} {u v : Int} (h1 : IsKth l k u) (h2 : IsKth l k v) : u = v := by
  rcases Int.lt_trichotomy u v with h | h | h
  · have := cLt_mono l h; have := h1.2.2; have := h2.2.1; omega
  · exact h
  · have := cLt_mono l h; have := h2.2.2; have := h1.2.1; omega
theorem parts_len (l : List Int) (b : Int) : (lessL l b).length + cEq l b + (moreL l b).length = l.length := by
  induction l with
  | nil => simp [lessL, moreL, cEq]
  | cons x l ih =>
    rw [cEq_cons]
    simp only [lessL, moreL, List.filter_cons, List.length_cons] at ih ⊢
    rcases Int.lt_trichotomy x b with h | h | h
    · have h1 : ¬ x = b := by omega
      have h2 : ¬ b < x := by omega
      simp [h, h1, h2]; omega
    · subst h; simp; omega
    · have h1 : ¬ x = b := by omega
      have h2 : ¬ x < b := by omega
      simp [h, h1, h2]; omega
theorem cEq_pos {l : List Int} {b : Int} (h : b ∈ l) : 0 < cEq l b := by
  unfold cEq
  exact List.length_pos_of_mem (List.mem_filter.2 ⟨h, by simp⟩)
theorem kth_here {l : List Int} {b : Int} {k : Nat} (hb : b ∈ l) (h1 : (lessL l b).length ≤ k) (h2 : k < (lessL l b).length + cEq l b) : IsKth l k b := ⟨hb, h1, h2⟩
theorem less_counts (l : List Int) (b v : Int) (hv : v < b) : cLt (lessL l b) v = cLt l v ∧ cEq (lessL l b) v = cEq l v := by
  induction l with
  | nil => simp [lessL, cLt, cEq]
  | cons x l ih =>
    by_cases h : x < b
    · have e : lessL (x :: l) b = x :: lessL l b := by simp [lessL, h]
      rw [e, cLt_cons, cEq_cons, cLt_cons, cEq_cons, ih.1, ih.2]; simp
    · have e : lessL (x :: l) b = lessL l b := by simp [lessL, h]
      have h1 : ¬ x < v := by omega
      have h2 : ¬ x = v := by omega
      rw [e, cLt_cons, cEq_cons, ih.1, ih.2]; simp [h1, h2]
theorem more_counts (l : List Int) (b v : Int) (hv : b < v) : cLt l v = (lessL l b).length + cEq l b + cLt (moreL l b) v ∧ cEq (moreL l b) v = cEq l v := by
  induction l with
  | nil => simp [lessL, moreL, cLt, cEq]
  | cons x l ih =>
    rw [cLt_cons, cEq_cons, cEq_cons]
    rcases Int.lt_trichotomy x b with h | h | h
    · have e1 : lessL (x :: l) b = x :: lessL l b := by simp [lessL, h]
      have h3 : ¬ b < x := by omega
      have e2 : moreL (x :: l) b = moreL l b := by simp [moreL, h3]
      have h1 : x < v := by omega
      have h2 : ¬ x = v := by omega
      have h4 : ¬ x = b := by omega
      rw [e1, e2, ih.1, ih.2]; simp [h1, h2, h4]; omega
    · subst h
      have e1 : lessL (x :: l) x = lessL l x := by simp [lessL]
      have e2 : moreL (x :: l) x = moreL l x := by simp [moreL]
      have h2 : ¬ x = v := by omega
      rw [e1, e2, ih.1, ih.2]; simp [hv, h2]; omega
    · have h3 : ¬ x < b := by omega
      have e1 : lessL (x :: l) b = lessL l b := by simp [lessL, h3]
      have e2 : moreL (x :: l) b = x :: moreL l b := by simp [moreL, h]
      have h4 : ¬ x = b := by omega
      rw [e1, e2, cLt_cons, cEq_cons, ih.1, ih.2]; simp [h4]; omega
theorem kth_less {l : List Int} {b : Int} {k : Nat} {v : Int} (h : IsKth (lessL l b) k v) : IsKth l k v := by
  have hm := List.mem_filter.1 h.1
  have hv : v < b := by simpa using hm.2
  obtain ⟨c1, c2⟩ := less_counts l b v hv
  exact ⟨hm.1, by rw [← c1]; exact h.2.1, by rw [← c1, ← c2]; exact h.2.2⟩
theorem kth_more {l : List Int} {b : Int} {k : Nat} {v : Int} (h : IsKth (moreL l b) k v) : IsKth l (k + ((lessL l b).length + cEq l b)) v := by
  have hm := List.mem_filter.1 h.1
  have hv : b < v := by simpa using hm.2
  obtain ⟨c1, c2⟩ := more_counts l b v hv
  have := h.2.1
  have := h.2.2
  exact ⟨hm.1, by omega, by omega⟩
theorem IsKth.lt {l : List Int} {k : Nat} {v : Int} (h : IsKth l k v) : k < l.length := by
  have h1 := parts_len l v
  have : cLt l v = (lessL l v).length := rfl
  have := h.2.2
  omega
/-- the least one -/
theorem kth_zero {l : List Int} {v : Int} (h : IsKth l 0 v) : v ∈ l ∧ ∀ x ∈ l, v ≤ x := by
  refine ⟨h.1, fun x hx => ?_⟩
  have h0 : cLt l v = 0 := by have := h.2.1; omega
  rcases Int.lt_or_le x v with hlt | hle
  · exfalso
    have : 0 < cLt l v := by
      unfold cLt
      exact List.length_pos_of_mem (List.mem_filter.2 ⟨hx, by simpa using hlt⟩)
    omega
  · exact hle
theorem kth_zero_of {l : List Int} {v : Int} (hm : v ∈ l) (h : ∀ x ∈ l, v ≤ x) : IsKth l 0 v := by
  have : cLt l v = 0 := by
    unfold cLt
    rw [List.length_eq_zero_iff, List.filter_eq_nil_iff]
    intro x hx
    have := h x hx
    simp; omega
  exact ⟨hm, by omega, by have := cEq_pos hm; omega⟩
end Go.Proofs.Ytcinlcbmjboaaaa
