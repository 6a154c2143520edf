/-
  The walks of exact: Load, Copy, join, Merge, Subtract. Conditions: none beyond those stated at each theorem.
-/
import Derived.Test.YtbghchgmoiniiaaExb
import Derived.Test.YtbghchgmoiniiaaEqc
namespace Go.Proofs.Ytbghchgmoiniiaa
open Go.RowKit
set_option linter.unusedVariables false
set_option linter.unusedSimpArgs false

theorem width_kp (w : World) (G C R W : Nat) (zs : List Int) (h : GridIs w G C R W zs) :
    Calls Try.prog 98 #[.pointer (some ⟨G, 0, none⟩)] w fun e w' => e = .returned (.int .i64 (W : Int)) ∧ w = w' := (width_any w G C R W zs h).mono fun _ _ h => ⟨h.1, h.2.symm⟩
theorem take_drop_set {cs zs : List Int} {j : Nat} {u : Int} (hc : cs[j]? = some u) (hl : cs.length = zs.length) : (cs.take j ++ zs.drop j).set j u = cs.take (j + 1) ++ zs.drop (j + 1) := by
  have hj : j < cs.length := (List.getElem?_eq_some_iff.1 hc).1
  have hu : u = cs[j] := by
    have := (List.getElem?_eq_some_iff.1 hc).2
    exact this.symm
  apply List.ext_getElem?
  intro i
  rw [List.getElem?_set]
  simp only [List.length_append, List.length_take, List.length_drop]
  by_cases e : j = i
  · subst e
    rw [if_pos rfl, if_pos (by omega), List.getElem?_append_left (by simp; omega), List.getElem?_take, if_pos (by omega), hc]
  · rw [if_neg e]
    by_cases h : i < j
    · rw [List.getElem?_append_left (by simp; omega), List.getElem?_append_left (by simp; omega), List.getElem?_take, List.getElem?_take, if_pos h, if_pos (by omega)]
    · rw [List.getElem?_append_right (by simp; omega), List.getElem?_append_right (by simp; omega), List.getElem?_drop, List.getElem?_drop]
      simp only [List.length_take]
      congr 1
      omega

set_option maxRecDepth 100000 in
set_option maxHeartbeats 4000000 in
theorem exload_yes (w : World) (A G C : Nat) (b r d m s l : Int) (K : Nat) (zs cs : List Int) (v : Value) (h : ArrIs w A G C b r d m s l K zs) (hv : IntsAt w v cs) (hl : cs.length = K) (hfit : Fit cs) (hvc : v.ownBlock ≠ some C) :
    Calls Try.prog 94 #[.pointer (some ⟨A, 0, none⟩), v] w fun e w' => e = .returned (.bool true) ∧ ArrIs w' A G C b r d m s l K cs ∧ w.grownBy w' (some C) := by
  have hW := h.2.width
  have P := Lib.hid (width_kp w G C 1 K zs h.2)
  have c6 := h.1.cell 6
  simp at c6
  have hzl : zs.length = K := by have := h.2.len; omega
  have HA := Lib.hid h
  obtain ⟨ao, cap, rfl, hcap, hcells⟩ := hv
  have HC := Lib.hid hcells
  have HF := Lib.hid hfit
  have HVC := Lib.hid hvc
  have HLL := Lib.hid (show cs.length = zs.length by omega)
  have HL := Lib.hid hl
  rw [hl] at hcap ⊢
  clear hcells hfit h hzl hvc hl
  go_enter Try.func94, Try.ntmps94
  go_wp2_with fail
  with_reducible refine P.out.mono ?_
  rintro e w2 ⟨rfl, hw2⟩
  subst hw2
  go_wp2_with fail
  go_loopw [17] (fun i wr => ∃ j : Nat, j ≤ K ∧ i = .int .i64 (j : Int) ∧ ArrIs wr A G C b r d m s l K (cs.take j ++ zs.drop j) ∧ w.grownBy wr (some C)) (fun i _ => K - (intOf i).toNat)
  case atStart => exact ⟨0, by omega, rfl, by simpa using HA.out, below_gr (Below.refl _ _)⟩
  case round =>
    obtain ⟨j, hj, rfl, ha, hgr⟩ := hrel
    have HA2 := Lib.hid ha
    have HG := Lib.hid hgr
    have q6 := ha.1.cell 6
    simp at q6
    clear c6
    by_cases hlt : j < K
    · obtain ⟨g, rfl, hg, hc⟩ := HC.out (by have := HL.out; omega)
      have hgC : g ≠ C := fun e => HVC.out (by simp [Value.ownBlock, e])
      have hcj : cs[j]? = some (cellD cs j) := by
        have : j < cs.length := by have := HL.out; omega
        simp [cellD, this]
      have cx := hgr.cell (hc j _ hcj) (by simpa using hgC)
      have P3 : Calls Try.prog 99 #[.pointer (some ⟨G, 0, none⟩), .int .i64 0, .int .i64 (j : Int), .int .i64 (cellD cs j)] wr fun e w'' => e = .returned (.bool true) ∧ w'' = wr.setCell ⟨C, j, none⟩ (.int .i64 (cellD cs j)) := by
        have := put_in wr G C 1 K 0 j (cellD cs j) _ ha.2 (by decide) hlt
        simpa using this
      have P3 := Lib.hid P3
      have HS := Lib.hid (take_drop_set (zs := zs) hcj HLL.out)
      have HX := Lib.hid (fitC HF.out j)
      have i0 : (0 : Int) ≤ (j : Int) := by omega
      have i1 : (j : Int) < (K : Int) := by omega
      clear ha hgr hc hcj
      generalize cellD cs j = x at *
      go_wp2_with fail
      with_reducible refine P3.out.mono ?_
      rintro e w3 ⟨rfl, hw3⟩
      have HW3 := Lib.hid hw3
      clear hw3
      go_wp2
      go_roundw
      case rel => exact ⟨j + 1, by omega, by go_num, by rw [← HS.out, HW3.out]; exact HA2.out.put (grown_set _ _ _ _) (HA2.out.2.set j x HX.out.1 HX.out.2), by rw [HW3.out]; exact gr_trans HG.out (grown_set _ _ _ _)⟩
      case measure => simp [intOf]; omega
    · obtain rfl : j = K := by omega
      have HE : Hid (cs.take j ++ zs.drop j = cs) := Lib.hid (by rw [List.take_of_length_le (by have := HL.out; omega), List.drop_eq_nil_of_le (by have := HL.out; have := HLL.out; omega)]; simp)
      clear ha hgr
      go_wp2
      go_ret
      exact ⟨rfl, by have := HA2.out; rw [HE.out] at this; exact this, HG.out⟩

theorem exload_no (w : World) (A G C : Nat) (b r d m s l : Int) (K : Nat) (zs cs : List Int) (v : Value) (h : ArrIs w A G C b r d m s l K zs) (hv : IntsAt w v cs) (hl : cs.length ≠ K) (hs : cs.length ≤ 100000) :
    Calls Try.prog 94 #[.pointer (some ⟨A, 0, none⟩), v] w fun e w' => e = .returned (.bool false) ∧ w = w' := by
  have hW := h.2.width
  have P := Lib.hid (width_kp w G C 1 K zs h.2)
  have c6 := h.1.cell 6
  simp at c6
  obtain ⟨ao, cap, rfl, hcap, hcells⟩ := hv
  clear hcells h hcap
  generalize cs.length = n at *
  have e1 : ((n : Int) != (K : Int)) = true := by simp; omega
  clear hl
  go_enter Try.func94, Try.ntmps94
  go_wp2_with fail
  with_reducible refine P.out.mono ?_
  rintro e w2 ⟨rfl, hw2⟩
  subst hw2
  go_wp2
  go_ret
  exact ⟨rfl, rfl⟩

def ExCopyPost (w : World) (b r d m s l : Int) (K : Nat) (zs : List Int) (e : Ending) (w' : World) : Prop :=
  ∃ A G C, e = .returned (.pointer (some ⟨A, 0, none⟩)) ∧ w.heap.size ≤ A ∧ w.heap.size ≤ G ∧ w.heap.size ≤ C ∧ ArrIs w' A G C b r d m s l K zs ∧ Below w.heap.size w w'

end Go.Proofs.Ytbghchgmoiniiaa
