/-
  Plain: a row put in order, one number after the other. Conditions: none beyond those stated at each theorem.
-/
import Derived.Test.YtcinlcbmjboaaaaKth
import Derived.Test.YtcinlcbmjboaaaaGrd
namespace Go.Proofs.Ytcinlcbmjboaaaa
open Go.RowKit
set_option linter.unusedVariables false
set_option linter.unusedSimpArgs false

theorem cLt_append (a b : List Int) (v : Int) : cLt (a ++ b) v = cLt a v + cLt b v := by simp [cLt]
theorem cEq_append (a b : List Int) (v : Int) : cEq (a ++ b) v = cEq a v + cEq b v := by simp [cEq]
theorem cLE_all {l : List Int} {v : Int} (h : ∀ x ∈ l, x ≤ v) : cLt l v + cEq l v = l.length := by
  induction l with
  | nil => rfl
  | cons x l ih =>
    have ih := ih (fun y hy => h y (by simp [hy]))
    have hx := h x (by simp)
    rw [cLt_cons, cEq_cons, List.length_cons]
    by_cases e : x = v
    · subst e; simp; omega
    · have : x < v := by omega
      simp [e, this]; omega
theorem cLt_le (l : List Int) (v : Int) : cLt l v ≤ l.length := List.length_filter_le _ _
def SortedL (o : List Int) : Prop := ∀ i k, i ≤ k → k < o.length → cellD o i ≤ cellD o k
theorem cellD_mem {o : List Int} {x : Int} (h : x ∈ o) : ∃ i, i < o.length ∧ cellD o i = x := by
  obtain ⟨i, hi⟩ := List.getElem?_of_mem h
  exact ⟨i, (List.getElem?_eq_some_iff.1 hi).1, by simp [cellD, hi]⟩
theorem sorted_kth {o : List Int} (hs : SortedL o) {k : Nat} (hk : k < o.length) : IsKth o k (cellD o k) := by
  have hz : o[k]? = some (cellD o k) := by simp [cellD, hk]
  refine ⟨List.mem_of_getElem? hz, ?_, ?_⟩
  · have h1 : cLt o (cellD o k) = cLt (o.take k) (cellD o k) + cLt (o.drop k) (cellD o k) := by rw [← cLt_append, List.take_append_drop]
    have h2 : cLt (o.drop k) (cellD o k) = 0 := by
      unfold cLt
      rw [List.length_eq_zero_iff, List.filter_eq_nil_iff]
      intro x hx
      obtain ⟨i, hi⟩ := List.getElem?_of_mem hx
      rw [List.getElem?_drop] at hi
      have hlt : k + i < o.length := (List.getElem?_eq_some_iff.1 hi).1
      have := hs k (k + i) (by omega) hlt
      have e : cellD o (k + i) = x := by simp [cellD, hi]
      simp; omega
    have h3 := cLt_le (o.take k) (cellD o k)
    simp at h3
    omega
  · have h1 : cLt o (cellD o k) = cLt (o.take (k + 1)) (cellD o k) + cLt (o.drop (k + 1)) (cellD o k) := by rw [← cLt_append, List.take_append_drop]
    have h2 : cEq o (cellD o k) = cEq (o.take (k + 1)) (cellD o k) + cEq (o.drop (k + 1)) (cellD o k) := by rw [← cEq_append, List.take_append_drop]
    have h3 := cLE_all (l := o.take (k + 1)) (v := cellD o k) (by
      intro x hx
      obtain ⟨i, hi⟩ := List.getElem?_of_mem hx
      rw [List.getElem?_take] at hi
      split at hi
      · have := hs i k (by omega) hk
        have e : cellD o i = x := by simp [cellD, hi]
        omega
      · cases hi)
    simp at h3
    omega
theorem kth_perm {o l : List Int} {k : Nat} {v : Int} (hp : o.Perm l) (h : IsKth o k v) : IsKth l k v := by
  have e1 : cLt o v = cLt l v := (hp.filter _).length_eq
  have e2 : cEq o v = cEq l v := (hp.filter _).length_eq
  exact ⟨hp.mem_iff.1 h.1, by rw [← e1]; exact h.2.1, by rw [← e1, ← e2]; exact h.2.2⟩
def insZ (o : List Int) (p : Nat) (x : Int) : List Int := o.take p ++ [x] ++ o.drop p
theorem insZ_len {o : List Int} {p : Nat} {x : Int} : (insZ o p x).length = o.length + 1 := by
  simp [insZ]; omega
theorem insZ_perm (o : List Int) (p : Nat) (x : Int) : (insZ o p x).Perm (o ++ [x]) := by
  have h1 : (insZ o p x).Perm (x :: (o.take p ++ o.drop p)) := by
    unfold insZ
    rw [List.append_assoc]
    exact List.perm_middle
  rw [List.take_append_drop] at h1
  exact h1.trans (List.perm_append_singleton x o).symm
theorem insZ_cell {o : List Int} {p : Nat} {x : Int} (hp : p ≤ o.length) (i : Nat) : cellD (insZ o p x) i = if i < p then cellD o i else if i = p then x else cellD o (i - 1) := by
  unfold cellD insZ
  by_cases h1 : i < p
  · rw [if_pos h1, List.append_assoc, List.getElem?_append_left (by simp; omega), List.getElem?_take, if_pos h1]
  · rw [if_neg h1, List.append_assoc, List.getElem?_append_right (by simp; omega)]
    simp only [List.length_take, Nat.min_eq_left hp]
    by_cases h2 : i = p
    · subst h2; simp
    · rw [if_neg h2]
      obtain ⟨q, hq⟩ : ∃ q, i - p = q + 1 := ⟨i - p - 1, by omega⟩
      rw [hq]
      simp only [List.singleton_append, List.getElem?_cons_succ, List.getElem?_drop]
      congr 2
      omega
theorem insZ_sorted {o : List Int} {p : Nat} {x : Int} (hs : SortedL o) (hp : p ≤ o.length) (h1 : p = 0 ∨ cellD o (p - 1) ≤ x) (h2 : ∀ k, p ≤ k → k < o.length → x < cellD o k) : SortedL (insZ o p x) := by
  intro i k hik hk
  rw [insZ_len] at hk
  rw [insZ_cell hp, insZ_cell hp]
  by_cases a1 : i < p
  · rw [if_pos a1]
    by_cases b1 : k < p
    · rw [if_pos b1]; exact hs i k hik (by omega)
    · rw [if_neg b1]
      have hx : cellD o i ≤ x := by
        rcases h1 with h1 | h1
        · omega
        · have := hs i (p - 1) (by omega) (by omega); omega
      by_cases b2 : k = p
      · rw [if_pos b2]; exact hx
      · rw [if_neg b2]
        have := h2 (k - 1) (by omega) (by omega)
        omega
  · rw [if_neg a1]
    have b1 : ¬ k < p := by omega
    rw [if_neg b1]
    by_cases a2 : i = p
    · rw [if_pos a2]
      by_cases b2 : k = p
      · rw [if_pos b2]; omega
      · rw [if_neg b2]
        have := h2 (k - 1) (by omega) (by omega)
        omega
    · rw [if_neg a2, if_neg (by omega)]
      exact hs (i - 1) (k - 1) (by omega) (by omega)
end Go.Proofs.Ytcinlcbmjboaaaa
