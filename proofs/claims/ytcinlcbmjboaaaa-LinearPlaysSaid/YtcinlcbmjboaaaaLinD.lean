/-
  The walk of gaugerlaw08.done. Conditions: none beyond those stated at each theorem.
-/
import Derived.Test.YtcinlcbmjboaaaaLinB
namespace Go.Proofs.Ytcinlcbmjboaaaa
open Go.RowKit
set_option linter.unusedVariables false
set_option linter.unusedSimpArgs false

/-- the slice l holds n steps: columns cs, numbers ds -/
def StepsAt (w : World) (l : Value) (n : Nat) (cs : Nat → List Int) (ds : Nat → Int) : Prop :=
  ∃ (ao : Option Addr) (cap : Nat), l = .slice ao n cap ∧ n ≤ maxLen ∧ (∀ i, i < n → In64 (ds i)) ∧
    (0 < n → ∃ b off, ao = some ⟨b, off, none⟩ ∧ b < w.heap.size ∧ ∀ i, i < n → (∃ v, w.cell? ⟨b, off + i * 2, none⟩ = some v ∧ ColsAt w v (cs i)) ∧ w.cell? ⟨b, off + i * 2 + 1, none⟩ = some (.int .i64 (ds i)))
theorem StepsAt.kept {w w' : World} {l : Value} {n : Nat} {cs : Nat → List Int} {ds : Nat → Int} (h : StepsAt w l n cs ds) (hb : Below w.heap.size w w') : StepsAt w' l n cs ds := by
  obtain ⟨ao, cap, e, hm, hu, h⟩ := h
  refine ⟨ao, cap, e, hm, hu, fun h0 => ?_⟩
  obtain ⟨b, off, e2, hlt, hc⟩ := h h0
  refine ⟨b, off, e2, Nat.lt_of_lt_of_le hlt hb.size, fun i hi => ?_⟩
  obtain ⟨⟨v, c1, c2⟩, c3⟩ := hc i hi
  exact ⟨⟨v, (hb.cell (p := ⟨b, off + i * 2, none⟩) hlt).trans c1, c2.kept hb⟩, (hb.cell (p := ⟨b, off + i * 2 + 1, none⟩) hlt).trans c3⟩
def shStep : Sh := .agg (.cons (.slice (.int .i64)) (.cons (.int .i64) .unit))
def shPlay : Sh := .agg (.cons (.int .i64) (.cons (.int .i64) (.cons (.slice shStep) .unit)))
theorem steps_of_val {w : World} {v : Value} (h : (Sh.slice shStep).Val w v) : ∃ n cs ds, StepsAt w v n cs ds := by
  obtain ⟨ao, len, cap, h1, hl, hm, hx⟩ := h
  have h1 : v = .slice ao len cap := by simpa using h1
  subst h1
  by_cases h0 : 0 < len
  · obtain ⟨b, off, rfl, hb, hc⟩ := hx h0
    have key : ∀ i, i < len → ∃ (cs : List Int) (z : Int), In64 z ∧ (∃ v, w.cell? ⟨b, off + i * 2, none⟩ = some v ∧ ColsAt w v cs) ∧ w.cell? ⟨b, off + i * 2 + 1, none⟩ = some (.int .i64 z) := by
      intro i hi
      obtain ⟨c0, hcl, hcell, hr⟩ := hc i hi
      obtain ⟨x, d1, rfl, hxv, hr⟩ := Sh.reads_slice hr
      obtain ⟨z, d3, rfl, hz, hr⟩ := Sh.reads_int hr
      obtain ⟨cs, hcs⟩ := cols_of_val hxv
      have e : shStep.size = 2 := rfl
      have a0 := hcell 0 (by decide)
      have a1 := hcell 1 (by decide)
      rw [e] at a0 a1
      refine ⟨cs, z, ?_, ⟨x, by simpa using a0, hcs⟩, by simpa [Nat.add_assoc] using a1⟩
      simp [Lit.wf, IntKind.min, IntKind.max, IntKind.signed, IntKind.bits] at hz
      exact ⟨by omega, by omega⟩
    refine ⟨len, fun i => if h : i < len then (key i h).choose else [], fun i => if h : i < len then (key i h).choose_spec.choose else 0, some ⟨b, off, none⟩, cap, rfl, by omega, fun i hi => ?_, fun _ => ⟨b, off, rfl, hb, fun i hi => ?_⟩⟩
    · simp only [dif_pos hi]; exact (key i hi).choose_spec.choose_spec.1
    · simp only [dif_pos hi]; exact (key i hi).choose_spec.choose_spec.2
  · obtain rfl : len = 0 := by omega
    exact ⟨0, fun _ => [], fun _ => 0, ao, cap, rfl, by omega, fun i hi => by omega, fun h => by omega⟩
theorem val_play {w : World} {v : Value} (h : shPlay.Val w v) : ∃ r c l n cs ds, v = .agg #[.int .i64 r, .int .i64 c, l] ∧ StepsAt w l n cs ds := by
  obtain ⟨cs, rfl, h⟩ := h
  obtain ⟨r, d1, e1, wr, h⟩ := Sh.reads_int h
  obtain ⟨c, d2, e2, wc, h⟩ := Sh.reads_int h
  obtain ⟨l, d3, e3, hl, h⟩ := Sh.reads_slice h
  have h9 := Sh.reads_unit h
  subst h9
  subst e3
  subst e2
  obtain ⟨n, cs, ds, hs⟩ := steps_of_val hl
  exact ⟨r, c, l, n, cs, ds, by rw [agg_of_list e1], hs⟩

/-- a row of rows of integers, made from block base on -/
def AllAt (w : World) (base : Nat) (v : Value) (vs : List Value) (ms : List (List Int)) : Prop :=
  w.ownsRow base 32 1 v ms.length vs ∧ vs.length = ms.length ∧ ∀ (i : Nat) (m : List Int), ms[i]? = some m → ∃ vi, vs[i]? = some vi ∧ RowI w vi m
theorem AllAt.nil (w : World) (base : Nat) : AllAt w base (.slice none 0 0) [] [] := ⟨World.ownsRow_nil _ _ _ _, rfl, fun i m h => by simp at h⟩
theorem AllAt.kept {w w' : World} {base : Nat} {v : Value} {vs : List Value} {ms : List (List Int)} (h : AllAt w base v vs ms) (hb : Below w.heap.size w w') : AllAt w' base v vs ms := by
  obtain ⟨h1, h2, h3⟩ := h
  refine ⟨h1.kept (below_grown (row := none) hb) (by cases v.ownBlock <;> simp), h2, fun i m hm => ?_⟩
  obtain ⟨vi, e, hr⟩ := h3 i m hm
  exact ⟨vi, e, hr.kept hb⟩
theorem AllAt.grownC {w w' : World} {base C : Nat} {v : Value} {vs : List Value} {ms : List (List Int)} {cur : Array Value} (h : AllAt w base v vs ms) (hb : w.grownBy w' (some C)) (hC : Blk w C 2 cur) : AllAt w' base v vs ms := by
  obtain ⟨h1, h2, h3⟩ := h
  refine ⟨h1.kept hb ?_, h2, fun i m hm => ?_⟩
  · exact .inr (own_ne h1 hC (by decide))
  · obtain ⟨vi, e, hr⟩ := h3 i m hm
    exact ⟨vi, e, hr.far hb hC (by decide)⟩
theorem AllAt.push {w w3 : World} {base : Nat} {v v' x : Value} {vs : List Value} {ms : List (List Int)} {m : List Int} (h : AllAt w base v vs ms) (hg : w.grownBy w3 v.ownBlock) (hown : w3.ownsRow base 32 1 v' (ms.length + 1) (vs ++ [x])) (hx : RowI w x m) : AllAt w3 base v' (vs ++ [x]) (ms ++ [m]) := by
  obtain ⟨h1, h2, h3⟩ := h
  have far : ∀ y k, RowI w y k → RowI w3 y k := fun y k hy => hy.grown hg (by
    obtain ⟨g, cap, cur, rfl, _, hb, _⟩ := hy
    exact fun e => own_ne h1 hb (by decide) e.symm)
  refine ⟨by simpa using hown, by simp [h2], fun i k hk => ?_⟩
  by_cases hi : i < ms.length
  · rw [List.getElem?_append_left hi] at hk
    obtain ⟨vi, e, hr⟩ := h3 i k hk
    exact ⟨vi, by rw [List.getElem?_append_left (by omega)]; exact e, far _ _ hr⟩
  · rw [List.getElem?_append_right (by omega)] at hk
    have hk2 := (List.getElem?_eq_some_iff.1 hk).1
    simp at hk2
    have hi2 : i = ms.length := by omega
    subst hi2
    simp at hk
    subst hk
    exact ⟨x, by rw [← h2]; simp, far _ _ hx⟩
theorem AllAt.cell {w : World} {base : Nat} {v : Value} {vs : List Value} {ms : List (List Int)} (h : AllAt w base v vs ms) : ∃ ao cap, v = .slice ao ms.length cap ∧ ∀ (i : Nat) (m : List Int), ms[i]? = some m → ∃ g vi, ao = some ⟨g, 0, none⟩ ∧ w.cell? ⟨g, i, none⟩ = some vi ∧ RowI w vi m := by
  obtain ⟨h1, h2, h3⟩ := h
  rcases h1.2 with ⟨rfl, h0⟩ | ⟨g, cap, cur, rfl, hb, hg, hnc, hcm, hsz, htake⟩
  · rw [h0]
    refine ⟨none, 0, rfl, fun i m hm => ?_⟩
    have := (List.getElem?_eq_some_iff.1 hm).1
    omega
  · refine ⟨_, _, rfl, fun i m hm => ?_⟩
    obtain ⟨vi, e, hr⟩ := h3 i m hm
    have hi : i < ms.length := (List.getElem?_eq_some_iff.1 hm).1
    refine ⟨g, vi, rfl, ?_, hr⟩
    rw [cell_of_row w g i cur _ (0, 0) hg]
    have h2 : (cur.toList.take (ms.length * 1))[i]? = vs[i]? := by rw [htake]
    rw [List.getElem?_take, if_pos (by omega), e] at h2
    simpa using h2

/-- what a cell has behind j steps -/
def stepIf (R W : Nat) (cs : Nat → List Int) (dz : Nat → Int) (r c : Nat) (i : Nat) : Int := if colN (cutZ (cs i) R W) r = c then dz i else 0
def SumsAre (R W : Nat) (cs : Nat → List Int) (dz : Nat → Int) (zs : List Int) (j : Nat) : Prop :=
  ∀ r c, r < R → c < W → cellD zs (r * W + c) = sumTo j (stepIf R W cs dz r c)
theorem SumsAre.bd {R W : Nat} {cs : Nat → List Int} {dz : Nat → Int} {zs : List Int} {j : Nat} (h : SumsAre R W cs dz zs j) (hd : ∀ i, -1099511627775 ≤ dz i ∧ dz i ≤ 1099511627775) (r c : Nat) (hr : r < R) (hc : c < W) :
    -(j * 1099511627775) ≤ cellD zs (r * W + c) ∧ cellD zs (r * W + c) ≤ j * 1099511627775 := by
  rw [h r c hr hc]
  refine sumTo_bd (fun i _ => ?_)
  have := hd i
  unfold stepIf
  split <;> omega
theorem SumsAre.next {R W : Nat} {cs : Nat → List Int} {dz : Nat → Int} {zs : List Int} {j : Nat} (h : SumsAre R W cs dz zs j) (hl : zs.length = R * W) (hW : 0 < W) : SumsAre R W cs dz (changeZ W zs (cutZ (cs j) R W) (dz j)) (j + 1) := by
  intro r c hr hc
  rw [changeZ, cutZ_len, setsZ_get hl (fun r hr => cut_colW hW hr) R (Nat.le_refl _) r c hr hc, sumTo, ← h r c hr hc, stepIf]
  by_cases e : colN (cutZ (cs j) R W) r = c
  · rw [if_pos ⟨hr, e.symm⟩, if_pos e, e]
  · rw [if_neg (fun k => e k.2.symm), if_neg e]; omega
theorem SumsAre.fits {R W : Nat} {cs : Nat → List Int} {dz : Nat → Int} {zs : List Int} {j : Nat} (h : SumsAre R W cs dz zs j) (hd : ∀ i, -1099511627775 ≤ dz i ∧ dz i ≤ 1099511627775) (hW : 0 < W) (hj : j ≤ 1000) : changeFits W zs (cutZ (cs j) R W) (dz j) := by
  intro r hr
  rw [cutZ_len] at hr
  have h1 := h.bd hd r (colN (cutZ (cs j) R W) r) hr (cut_colW hW hr)
  have h2 := hd j
  exact ⟨by omega, by omega⟩
theorem SumsAre.zero (R W : Nat) (cs : Nat → List Int) (dz : Nat → Int) : SumsAre R W cs dz (List.replicate (R * W) 0) 0 := by
  intro r c hr hc
  rw [sumTo]
  unfold cellD
  cases hz : (List.replicate (R * W) (0 : Int))[r * W + c]? with
  | none => rfl
  | some x => have := List.mem_of_getElem? hz; simp at this; simp [this.2]
end Go.Proofs.Ytcinlcbmjboaaaa
