/-
  The walks of the reference's numbers: Bytes, Take. Conditions: none beyond those stated at each theorem.
-/
import Derived.Test.YtbghchgmoiniiaaVarU
namespace Go.Proofs.Ytbghchgmoiniiaa
open Go.RowKit
set_option linter.unusedVariables false
set_option linter.unusedSimpArgs false

theorem take_only {bs : List Int} {n u m : Nat} (h : TakeS bs u m) (h1 : ∀ k, k < n → 128 ≤ cellD bs k) (h2 : cellD bs n < 128) : m = n + 1 ∧ putN u = bs.take (n + 1) ∧ u = valL (bs.take (n + 1)) := by
  have hp := h.past h1
  obtain ⟨p1, p2, p3, p4, p5, p6⟩ := h.parts
  have hm : m = n + 1 := by
    rcases Nat.lt_or_ge (n + 1) m with hlt | hge
    · have := ((VL_marks (putN_VL u) n).1 (by omega)).1
      rw [← p2, take_cell (by omega)] at this
      omega
    · omega
  subst hm
  exact ⟨rfl, p2.symm, by rw [p2, putN_val]⟩
theorem take_mark {bs : List Int} {n u m : Nat} (h : TakeS bs u m) (h1 : ∀ k, k < n → 128 ≤ cellD bs k) : n ≤ 9 := by
  have hp := h.past h1
  have := h.parts
  omega
theorem take_of {bs : List Int} {n U : Nat} (hU : U < 18446744073709551616) (hn : n < bs.length) (h : putN U = bs.take (n + 1)) : TakeS bs U (n + 1) := by
  refine ⟨hU, ?_, bs.drop (n + 1), ?_⟩
  · rw [h]; simp; omega
  · rw [h, List.take_append_drop]
theorem take_differs {bs : List Int} {n : Nat} (h1 : ∀ k, k < n → 128 ≤ cellD bs k) (h2 : cellD bs n < 128) (h : putN (valL (bs.take (n + 1)) % 18446744073709551616) ≠ bs.take (n + 1)) : TakeNo bs := by
  intro u m ht
  obtain ⟨-, h3, h4⟩ := take_only ht h1 h2
  apply h
  rw [← h4, Nat.mod_eq_of_lt ht.1, h3]
/-- what the bytes from one place on tell -/
theorem valL_drop {l : List Int} {k : Nat} (h : k < l.length) : valL (l.drop k) = (cellD l k).toNat % 128 + 128 * valL (l.drop (k + 1)) := by
  have e : l.drop k = cellD l k :: l.drop (k + 1) := by
    rw [List.drop_eq_getElem_cons h]; simp [cellD, h]
  rw [e, valL]
theorem eq_of_cells {a b : List Int} (hl : a.length = b.length) (h : ∀ k, k < a.length → cellD a k = cellD b k) : a = b := by
  apply List.ext_getElem hl
  intro i h1 h2
  have := h i h1
  simpa [cellD, h1, h2] using this
set_option maxRecDepth 100000 in
set_option maxHeartbeats 4000000 in
theorem rput_b (w : World) (u : Nat) (u1 : u < 18446744073709551616) :
    Calls Try.prog 60 #[.int .u64 (u : Int)] w (NewB w (putN u)) := by
  obtain ⟨i0', hi, hz0, hz1, hz2⟩ := info_parts Try.info8
  have hown0 := World.ownsRow_lit (base := w.heap.size) (e := 5) (size := 1) w #[] 0 (by exact Nat.le_refl _) (by unfold maxLen; omega) (by simp)
  have HO1 := Lib.hid hown0
  have HB1 : Hid (Below w.heap.size w (w.alloc (.cells #[] 5))) := Lib.hid ((Below.refl _ _).alloc (Nat.le_refl _) _)
  have HU10 := Lib.hid (putN_len10 u1)
  clear hown0
  go_enter Try.func60, Try.ntmps60
  go_wp2_with fail
  go_loopw [0, 3] (fun y x wr => ∃ (j : Nat) (pre : List Int), y = .int .u64 (j : Int) ∧ pre ++ putN j = putN u ∧ OwnB wr w.heap.size x pre ∧ Below w.heap.size w wr ∧ j < 18446744073709551616) (fun y _ _ => (intOf y).toNat)
  case atStart => exact ⟨u, [], rfl, by simp, HO1.out, HB1.out, u1⟩
  case round =>
    obtain ⟨j, pre, rfl, hpre, hown, hbel, hj64⟩ := hrel
    have HO := Lib.hid hown
    have HB := Lib.hid hbel
    have HP := Lib.hid hpre
    have hsz := hbel.size
    have hpl : pre.length ≤ 10 := by have := congrArg List.length hpre; rw [List.length_append] at this; have := HU10.out; have := putN_pos j; omega
    have hc1 : pre.length + 1 ≤ maxLen := by unfold maxLen; omega
    have hc4 : (pre.length + 1) * 1 ≤ 140737488355328 := by omega
    clear hown hbel hpre HO1 HB1
    by_cases hlt : 128 ≤ j
    · have HST := Lib.hid (putN_ge (u := j) (by omega))
      have e1 : (128 + (j : Int) % 128) % 256 = ((128 + j % 128 : Nat) : Int) := by omega
      have e0 : (j : Int).tmod 128 = (j : Int) % 128 := Int.tmod_eq_emod_of_nonneg (by omega)
      have e2 : (j : Int).tdiv 128 = (j : Int) / 128 := Int.tdiv_eq_ediv_of_nonneg (by omega)
      have HNX : Hid (pre ++ [((128 + j % 128 : Nat) : Int)] ++ putN (j / 128) = putN u) := Lib.hid (by rw [← HP.out, HST.out]; simp)
      go_wp2_with (at_builtin; go_loud (refine wpList_append_own_at _ rfl _ _ 22 rfl w.heap.size 5 i0' (.int .u8 0) 1 1 Try.underlying22 hi hz0 hz1 hz2 rfl (by decide) _ pre.length _ rfl (World.ownsRow.alloc HO.out _) ⟨wr.heap.size, 0, none⟩ 1 1 [.int .u8 ((128 + j % 128 : Nat) : Int)] rfl rfl (cell_one_new _ _ _) ?c2 hc1 hc4 ?c5 ?_))
      case c2 => simp [Value.oneCell']
      case c5 => simp; omega
      intro v8 w8 hown' hgrow hnil' hq9
      have HO8 : Hid (OwnB w8 w.heap.size v8 (pre ++ [((128 + j % 128 : Nat) : Int)])) := Lib.hid (by unfold OwnB; rw [show (pre ++ [((128 + j % 128 : Nat) : Int)]).length = pre.length + 1 by simp only [List.length_append, List.length_singleton]]; simpa using hown')
      have HB8 : Hid (Below w.heap.size w w8) := Lib.hid ((HB.out.alloc HB.out.size _).grown hgrow (by simp; omega) (fun k e => (HO.out.lt k e).1))
      clear hown' hgrow hnil' hq9
      go_wp2
      go_roundw
      case rel => exact ⟨j / 128, pre ++ [((128 + j % 128 : Nat) : Int)], by go_num, HNX.out, HO8.out, HB8.out, by omega⟩
      case measure => simp [intOf]; omega
    · have HST := Lib.hid (putN_lt (u := j) (by omega))
      have e1 : (j : Int) % 256 = (j : Int) := by omega
      have HNX : Hid (pre ++ [(j : Int)] = putN u) := Lib.hid (by rw [← HP.out, HST.out])
      go_wp2_with (at_builtin; refine wpList_append_own_at _ rfl _ _ 22 rfl w.heap.size 5 i0' (.int .u8 0) 1 1 Try.underlying22 hi hz0 hz1 hz2 rfl (by decide) _ pre.length _ rfl (World.ownsRow.alloc HO.out _) ⟨wr.heap.size, 0, none⟩ 1 1 [.int .u8 (j : Int)] rfl rfl (cell_one_new _ _ _) ?c2 hc1 hc4 ?c5 ?_)
      case c2 => simp [Value.oneCell']
      case c5 => simp; omega
      intro v8 w8 hown' hgrow hnil' hq9
      have HO8 : Hid (OwnB w8 w.heap.size v8 (putN u)) := Lib.hid (by rw [← HNX.out]; unfold OwnB; rw [show (pre ++ [(j : Int)]).length = pre.length + 1 by simp only [List.length_append, List.length_singleton]]; simpa using hown')
      have HB8 : Hid (Below w.heap.size w w8) := Lib.hid ((HB.out.alloc HB.out.size _).grown hgrow (by simp; omega) (fun k e => (HO.out.lt k e).1))
      have HNIL : Hid (v8 ≠ .slice none 0 0) := Lib.hid hnil'
      clear hown' hgrow hnil' hq9
      go_wp2
      go_ret
      exact ⟨_, rfl, HO8.out, HNIL.out, HB8.out⟩
end Go.Proofs.Ytbghchgmoiniiaa
