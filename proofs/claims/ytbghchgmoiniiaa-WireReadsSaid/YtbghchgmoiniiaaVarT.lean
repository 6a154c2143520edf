/-
  Plain: when bytes begin with a number's writing. Conditions: none beyond those stated at each theorem.
-/
import Derived.Test.YtbghchgmoiniiaaVarX
namespace Go.Proofs.Ytbghchgmoiniiaa
open Go.RowKit
set_option linter.unusedVariables false
set_option linter.unusedSimpArgs false

theorem VL_of_marks {l : List Int} (hb : Byts l) (h0 : l ≠ []) (h1 : ∀ k, k + 1 < l.length → 128 ≤ cellD l k) (h2 : cellD l (l.length - 1) < 128) (h3 : l.length = 1 ∨ cellD l (l.length - 1) ≠ 0) : VL l := by
  induction l with
  | nil => exact absurd rfl h0
  | cons x l ih =>
    unfold VL
    by_cases hl : l = []
    · rw [if_pos hl]
      subst hl
      have := hb x (by simp)
      have h2 : x < 128 := by simpa [cellD] using h2
      omega
    · rw [if_neg hl]
      have hlen : 1 ≤ l.length := by
        cases l with
        | nil => exact absurd rfl hl
        | cons y m => simp
      have hx := hb x (by simp)
      have hx2 : 128 ≤ x := by simpa [cellD] using h1 0 (by simp; omega)
      have e : cellD (x :: l) ((x :: l).length - 1) = cellD l (l.length - 1) := by
        have : (x :: l).length - 1 = (l.length - 1) + 1 := by simp; omega
        rw [this]; simp [cellD]
      rw [e] at h2 h3
      have h3' : cellD l (l.length - 1) ≠ 0 := by
        rcases h3 with h3 | h3
        · rw [List.length_cons] at h3; omega
        · exact h3
      refine ⟨hx2, hx.2, ih (fun u hu => hb u (by simp [hu])) hl (fun k hk => by
        have := h1 (k + 1) (by simp; omega)
        simpa [cellD] using this) h2 (.inr h3'), fun e2 => h3' (by rw [e2]; rfl)⟩
theorem valL_ge (l : List Int) (k : Nat) (hk : k < l.length) : ((cellD l k).toNat % 128) * 128 ^ k ≤ valL l := by
  induction l generalizing k with
  | nil => simp at hk
  | cons x l ih =>
    cases k with
    | zero => simp [valL, cellD]
    | succ k =>
      have := ih k (by simpa using hk)
      have e : cellD (x :: l) (k + 1) = cellD l k := by simp [cellD]
      rw [e, valL, Nat.pow_succ, ← Nat.mul_assoc, Nat.mul_comm _ 128]
      omega
theorem valL_append (l : List Int) (x : Int) : valL (l ++ [x]) = valL l + 128 ^ l.length * (x.toNat % 128) := by
  induction l with
  | nil => simp [valL]
  | cons y l ih =>
    rw [List.cons_append, valL, ih, valL, List.length_cons, Nat.pow_succ, Nat.mul_comm (128 ^ l.length) 128, Nat.mul_assoc]
    omega
theorem valL_lt (l : List Int) : valL l < 128 ^ l.length := by
  induction l with
  | nil => simp [valL]
  | cons x l ih =>
    rw [valL, List.length_cons, Nat.pow_succ]
    have := Nat.mod_lt x.toNat (show 0 < 128 by decide)
    omega
theorem take_cell {bs : List Int} {j k : Nat} (h : k < j) : cellD (bs.take j) k = cellD bs k := by
  unfold cellD
  rw [List.getElem?_take, if_pos h]
theorem take_step {bs : List Int} {j : Nat} (h : j < bs.length) : bs.take (j + 1) = bs.take j ++ [cellD bs j] := by
  have e : bs[j]? = some (cellD bs j) := by simp [cellD, h]
  rw [List.take_add_one, e]; rfl
theorem TakeS.parts {bs : List Int} {u m : Nat} (h : TakeS bs u m) : u < 18446744073709551616 ∧ bs.take m = putN u ∧ m ≤ bs.length ∧ 1 ≤ m ∧ m ≤ 10 ∧ (putN u).length = m := by
  obtain ⟨h1, h2, r, rfl⟩ := h
  have := putN_pos u
  have := putN_len10 h1
  exact ⟨h1, by rw [h2, List.take_append_of_le_length (Nat.le_refl _), List.take_length], by simp; omega, by omega, by omega, h2.symm⟩
/-- where the first j bytes have the mark, a number's writing is longer than that -/
theorem TakeS.past {bs : List Int} {u m j : Nat} (h : TakeS bs u m) (hj : ∀ k, k < j → 128 ≤ cellD bs k) : j < m := by
  obtain ⟨h1, h2, h3, h4, h5, h6⟩ := h.parts
  rcases Nat.lt_or_ge j m with h | h
  · exact h
  · have := (VL_marks (putN_VL u) (m - 1)).2 (by omega)
    rw [← h2, take_cell (by omega)] at this
    have := hj (m - 1) (by omega)
    omega
theorem take_yes {bs : List Int} {j : Nat} (hb : Byts bs) (hj : j < bs.length) (h1 : ∀ k, k < j → 128 ≤ cellD bs k) (h2 : cellD bs j < 128) (h3 : j = 0 ∨ cellD bs j ≠ 0) (h4 : valL (bs.take (j + 1)) < 18446744073709551616) : TakeS bs (valL (bs.take (j + 1))) (j + 1) := by
  have hl : (bs.take (j + 1)).length = j + 1 := by simp; omega
  have hv : VL (bs.take (j + 1)) := by
    refine VL_of_marks (hb.take _) (fun e => by rw [e] at hl; simp at hl) (fun k hk => ?_) ?_ ?_
    · rw [hl] at hk
      rw [take_cell (by omega)]
      exact h1 k (by omega)
    · rw [hl, take_cell (by omega)]; exact h2
    · rw [hl, take_cell (by omega)]
      rcases h3 with h3 | h3
      · exact .inl (by omega)
      · exact .inr h3
  refine ⟨h4, ?_, bs.drop (j + 1), ?_⟩
  · rw [VL_put hv, hl]
  · rw [VL_put hv, List.take_append_drop]
def TakeNo (bs : List Int) : Prop := ∀ u m, ¬ TakeS bs u m
theorem bl_two : ∀ n : Fin 128, 2 ≤ Lib.bitLen n.val → 2 ≤ n.val := by decide +kernel
theorem take_big {bs : List Int} {j : Nat} (h1 : ∀ k, k < j → 128 ≤ cellD bs k) (hj : j < bs.length) (h2 : 64 < Lib.bitLen ((cellD bs j).toNat % 128) + 7 * j) : TakeNo bs := by
  intro u m h
  have hp := h.past h1
  obtain ⟨p1, p2, p3, p4, p5, p6⟩ := h.parts
  have hge := valL_ge (putN u) j (by omega)
  rw [putN_val, ← p2, take_cell hp] at hge
  have hlow : (cellD bs j).toNat % 128 < 128 := Nat.mod_lt _ (by decide)
  have h7 := len_le7 ⟨_, hlow⟩
  have h8 := bl_two ⟨_, hlow⟩
  simp only at h7 h8
  generalize (cellD bs j).toNat % 128 = q at *
  have hj9 : j = 9 := by omega
  subst hj9
  have := h8 (by omega)
  omega
theorem take_zero {bs : List Int} {j : Nat} (h1 : ∀ k, k < j → 128 ≤ cellD bs k) (hj : 0 < j) (h2 : cellD bs j = 0) : TakeNo bs := by
  intro u m h
  have hp := h.past h1
  obtain ⟨p1, p2, p3, p4, p5, p6⟩ := h.parts
  have hm : m = j + 1 := by
    rcases Nat.lt_or_ge (j + 1) m with hlt | hge
    · have := ((VL_marks (putN_VL u) j).1 (by omega)).1
      rw [← p2, take_cell hp, h2] at this
      omega
    · omega
  have := VL_last (putN_VL u) (by omega)
  rw [p6, ← p2, take_cell (by omega), hm] at this
  exact this h2
theorem take_end {bs : List Int} (h1 : ∀ k, k < bs.length → 128 ≤ cellD bs k) : TakeNo bs := by
  intro u m h
  have hp := h.past h1
  have := h.parts
  omega
end Go.Proofs.Ytbghchgmoiniiaa
