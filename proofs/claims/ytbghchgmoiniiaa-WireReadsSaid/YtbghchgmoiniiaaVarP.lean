/-
  Plain: numbers written in groups of seven bits, one writing each. Conditions: none beyond those stated at each theorem.
-/
import Derived.Test.YtbghchgmoiniiaaByt
namespace Go.Proofs.Ytbghchgmoiniiaa
open Go.RowKit
set_option linter.unusedVariables false
set_option linter.unusedSimpArgs false

/-- a number's bytes, seven bits each, the lowest first, 128 more on all but the last -/
def putN (u : Nat) : List Int := if h : u < 128 then [(u : Int)] else ((128 + u % 128 : Nat) : Int) :: putN (u / 128)
termination_by u
decreasing_by omega
theorem putN_lt {u : Nat} (h : u < 128) : putN u = [(u : Int)] := by rw [putN, dif_pos h]
theorem putN_ge {u : Nat} (h : ¬ u < 128) : putN u = ((128 + u % 128 : Nat) : Int) :: putN (u / 128) := by rw [putN, dif_neg h]
/-- what bytes tell, seven bits each -/
def valL : List Int → Nat
  | [] => 0
  | x :: l => x.toNat % 128 + 128 * valL l
/-- bytes that are one number, written as it should be -/
def VL : List Int → Prop
  | [] => False
  | x :: l => if l = [] then 0 ≤ x ∧ x < 128 else 128 ≤ x ∧ x ≤ 255 ∧ VL l ∧ l ≠ [0]
theorem putN_ne (u : Nat) : putN u ≠ [] := by
  by_cases h : u < 128
  · rw [putN_lt h]; simp
  · rw [putN_ge h]; simp
theorem putN_val (u : Nat) : valL (putN u) = u := by
  induction u using Nat.strongRecOn with
  | ind u ih =>
    by_cases h : u < 128
    · rw [putN_lt h]; simp [valL]; omega
    · rw [putN_ge h, valL, ih _ (by omega)]; omega
theorem putN_inj {u v : Nat} (h : putN u = putN v) : u = v := by rw [← putN_val u, h, putN_val]
theorem putN_zero {u : Nat} (h : putN u = [0]) : u = 0 := by rw [← putN_val u, h]; rfl
theorem putN_VL (u : Nat) : VL (putN u) := by
  induction u using Nat.strongRecOn with
  | ind u ih =>
    by_cases h : u < 128
    · rw [putN_lt h]; simp [VL]; omega
    · rw [putN_ge h, VL, if_neg (putN_ne _)]
      exact ⟨by omega, by omega, ih _ (by omega), fun e => by have := putN_zero e; omega⟩
theorem VL_put {l : List Int} (h : VL l) : putN (valL l) = l := by
  induction l with
  | nil => exact absurd h (by simp [VL])
  | cons x l ih =>
    unfold VL at h
    by_cases hl : l = []
    · rw [if_pos hl] at h
      subst hl
      rw [valL, valL, putN_lt (by omega)]
      have : ((x.toNat % 128 + 128 * 0 : Nat) : Int) = x := by omega
      rw [this]
    · rw [if_neg hl] at h
      obtain ⟨h1, h2, h3, h4⟩ := h
      have ih := ih h3
      have hv : valL l ≠ 0 := fun e => by
        rw [e, putN_lt (by decide)] at ih
        exact h4 ih.symm
      rw [valL, putN_ge (by omega)]
      have e1 : ((128 + (x.toNat % 128 + 128 * valL l) % 128 : Nat) : Int) = x := by omega
      have e2 : (x.toNat % 128 + 128 * valL l) / 128 = valL l := by omega
      rw [e1, e2, ih]
theorem VL_byts {l : List Int} (h : VL l) : Byts l := by
  induction l with
  | nil => exact Byts.nil
  | cons x l ih =>
    unfold VL at h
    intro u hu
    by_cases hl : l = []
    · rw [if_pos hl] at h
      subst hl
      simp at hu
      subst hu
      omega
    · rw [if_neg hl] at h
      rcases List.mem_cons.1 hu with rfl | hu
      · omega
      · exact ih h.2.2.1 u hu
theorem putN_byts (u : Nat) : Byts (putN u) := VL_byts (putN_VL u)
/-- all but the last have the mark, the last has not -/
theorem VL_marks {l : List Int} (h : VL l) : ∀ k, (k + 1 < l.length → 128 ≤ cellD l k ∧ cellD l k ≤ 255) ∧ (k + 1 = l.length → 0 ≤ cellD l k ∧ cellD l k < 128) := by
  induction l with
  | nil => exact absurd h (by simp [VL])
  | cons x l ih =>
    unfold VL at h
    intro k
    by_cases hl : l = []
    · rw [if_pos hl] at h
      subst hl
      refine ⟨fun hk => by simp at hk, fun hk => ?_⟩
      have : k = 0 := by simpa using hk
      subst this
      simpa [cellD] using h
    · rw [if_neg hl] at h
      cases k with
      | zero => exact ⟨fun _ => by simpa [cellD] using ⟨h.1, h.2.1⟩, fun hk => by
          have : l.length = 0 := by simpa using hk.symm
          exact absurd (List.eq_nil_of_length_eq_zero this) hl⟩
      | succ k =>
        have := ih h.2.2.1 k
        refine ⟨fun hk => ?_, fun hk => ?_⟩
        · have := this.1 (by simpa using hk)
          simpa [cellD] using this
        · have := this.2 (by simpa using hk)
          simpa [cellD] using this
theorem VL_last {l : List Int} (h : VL l) (h1 : 1 < l.length) : cellD l (l.length - 1) ≠ 0 := by
  induction l with
  | nil => simp at h1
  | cons x l ih =>
    unfold VL at h
    have hl : l ≠ [] := fun e => by subst e; simp at h1
    rw [if_neg hl] at h
    obtain ⟨h2, h3, h4, h5⟩ := h
    obtain ⟨y, m, rfl⟩ : ∃ y m, l = y :: m := by
      cases l with
      | nil => exact absurd rfl hl
      | cons y m => exact ⟨y, m, rfl⟩
    cases m with
    | nil =>
      simp [cellD]
      intro e
      exact h5 (by rw [e])
    | cons z m =>
      have := ih h4 (by simp)
      simpa [cellD] using this
/-- a prefix that is a number's writing: there is at most one -/
theorem VL_prefix {l m r s : List Int} (h1 : VL l) (h2 : VL m) (h : l ++ r = m ++ s) : l = m := by
  induction l generalizing m with
  | nil => exact absurd h1 (by simp [VL])
  | cons x l ih =>
    cases m with
    | nil => exact absurd h2 (by simp [VL])
    | cons y m =>
      simp only [List.cons_append, List.cons.injEq] at h
      obtain ⟨rfl, h⟩ := h
      unfold VL at h1 h2
      by_cases hl : l = []
      · rw [if_pos hl] at h1
        by_cases hm : m = []
        · rw [hl, hm]
        · rw [if_neg hm] at h2; omega
      · rw [if_neg hl] at h1
        by_cases hm : m = []
        · rw [if_pos hm] at h2; omega
        · rw [if_neg hm] at h2
          rw [ih h1.2.2.1 h2.2.2.1 h]
/-- bytes begin with the writing of a number of 64 bits: which, and how many bytes that is -/
def TakeS (bs : List Int) (u n : Nat) : Prop := u < 18446744073709551616 ∧ n = (putN u).length ∧ ∃ r, bs = putN u ++ r
theorem TakeS.unique {bs : List Int} {u v n m : Nat} (h : TakeS bs u n) (k : TakeS bs v m) : u = v ∧ n = m := by
  obtain ⟨-, h2, r, h3⟩ := h
  obtain ⟨-, k2, s, k3⟩ := k
  have := VL_prefix (putN_VL u) (putN_VL v) (by rw [← h3, k3])
  have e := putN_inj this
  subst e
  exact ⟨rfl, by omega⟩
theorem putN_len {u : Nat} : ∀ {k : Nat}, u < 128 ^ (k + 1) → (putN u).length ≤ k + 1 := by
  induction u using Nat.strongRecOn with
  | ind u ih =>
    intro k hu
    by_cases h : u < 128
    · rw [putN_lt h]; simp
    · rw [putN_ge h]
      cases k with
      | zero => omega
      | succ k =>
        have := ih (u / 128) (by omega) (k := k) (by rw [Nat.pow_succ] at hu; exact Nat.div_lt_of_lt_mul (by rw [Nat.mul_comm]; exact hu))
        simp only [List.length_cons]
        omega
theorem putN_len10 {u : Nat} (h : u < 18446744073709551616) : (putN u).length ≤ 10 := putN_len (k := 9) (by omega)
theorem putN_pos (u : Nat) : 1 ≤ (putN u).length := by
  cases h : putN u with
  | nil => exact absurd h (putN_ne u)
  | cons x l => simp
end Go.Proofs.Ytbghchgmoiniiaa
