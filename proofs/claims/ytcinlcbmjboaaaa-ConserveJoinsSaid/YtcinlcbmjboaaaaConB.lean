/-
  Plain numbers, no program: a grid that rises beside one to which the same is added. Conditions: none beyond those stated at each theorem.
-/
import Derived.Test.YtcinlcbmjboaaaaConR
import Derived.Test.YtcinlcbmjboaaaaLinE
namespace Go.Proofs.Ytcinlcbmjboaaaa
open Go.RowKit
set_option linter.unusedVariables false
set_option linter.unusedSimpArgs false

/-- what columns K have been raised by, behind j steps (those that count) -/
def ownS (R W : Nat) (cs : Nat → List Int) (dz : Nat → Int) (act : Nat → Bool) (K : List Int) (j : Nat) : Int := sumTo j fun i => if act i = true ∧ cutZ (cs i) R W = K then dz i else 0
structure BothInv (R W : Nat) (cs : Nat → List Int) (dz : Nat → Int) (act : Nat → Bool) (zg zh : List Int) (j : Nat) : Prop where
  lg : zg.length = R * W
  lh : zh.length = R * W
  le : ∀ r c, r < R → c < W → 0 ≤ cellD zg (r * W + c) ∧ cellD zg (r * W + c) ≤ cellD zh (r * W + c) ∧ cellD zh (r * W + c) ≤ j * 1099511627775
  own : ∀ K r, r < R → colN K r < W → ownS R W cs dz act K j ≤ cellD zg (r * W + colN K r)
  one : R = 1 → zg = zh
theorem BothInv.zero (R W : Nat) (cs : Nat → List Int) (dz : Nat → Int) (act : Nat → Bool) : BothInv R W cs dz act (List.replicate (R * W) 0) (List.replicate (R * W) 0) 0 := by
  have hz : ∀ i, cellD (List.replicate (R * W) 0) i = 0 := by
    intro i
    unfold cellD
    cases hz : (List.replicate (R * W) (0 : Int))[i]? with
    | none => rfl
    | some x => have := List.mem_of_getElem? hz; simp at this; simp [this.2]
  refine ⟨by simp, by simp, fun r c hr hc => ?_, fun K r hr hc => ?_, fun _ => rfl⟩
  · rw [hz]; simp
  · rw [hz]; simp [ownS, sumTo]
theorem BothInv.skip {R W : Nat} {cs : Nat → List Int} {dz : Nat → Int} {act : Nat → Bool} {zg zh : List Int} {j : Nat} (h : BothInv R W cs dz act zg zh j) (ha : act j = false) : BothInv R W cs dz act zg zh (j + 1) := by
  refine ⟨h.lg, h.lh, fun r c hr hc => ?_, fun K r hr hc => ?_, h.one⟩
  · obtain ⟨h1, h2, h3⟩ := h.le r c hr hc
    exact ⟨h1, h2, by have : ((j + 1 : Nat) : Int) * 1099511627775 = j * 1099511627775 + 1099511627775 := by rw [Int.natCast_succ, Int.add_mul, Int.one_mul]
                      omega⟩
  · have e : ownS R W cs dz act K (j + 1) = ownS R W cs dz act K j := by simp [ownS, sumTo, ha]
    rw [e]; exact h.own K r hr hc
theorem change_get {R W : Nat} {zs cs : List Int} {d : Int} (hl : zs.length = R * W) (hm : meetB R W cs = true) (r c : Nat) (hr : r < R) (hc : c < W) :
    cellD (changeZ W zs cs d) (r * W + c) = if c = colN cs r then cellD zs (r * W + c) + d else cellD zs (r * W + c) := by
  obtain ⟨h0, hlen, hcol⟩ := meetB_of hm
  rw [changeZ, hlen, setsZ_get hl (fun r hr => (hcol r hr).2) R (Nat.le_refl _) r c hr hc]
  by_cases e : c = colN cs r
  · rw [if_pos ⟨hr, e⟩, if_pos e, e]
  · rw [if_neg (fun k => e k.2), if_neg e]
/-- what Least tells lies among the columns' cells, and is not more than any of them -/
theorem least_cells {R W : Nat} {zs cs : List Int} {u : Int} (hm : meetB R W cs = true) (hu : IsKth (readZ W zs cs) 0 u) : (∃ r, r < R ∧ u = cellD zs (r * W + colN cs r)) ∧ ∀ r, r < R → u ≤ cellD zs (r * W + colN cs r) := by
  obtain ⟨h0, hlen, hcol⟩ := meetB_of hm
  obtain ⟨hm1, hle1⟩ := kth_zero hu
  simp only [readZ, List.mem_map, List.mem_range] at hm1
  obtain ⟨r1, hr1, e1⟩ := hm1
  exact ⟨⟨r1, by omega, e1.symm⟩, fun r hr => hle1 _ (by simp only [readZ, List.mem_map, List.mem_range]; exact ⟨r, by omega, rfl⟩)⟩
theorem BothInv.step {R W : Nat} {cs : Nat → List Int} {dz : Nat → Int} {act : Nat → Bool} {zg zh : List Int} {j : Nat} {u : Int} (h : BothInv R W cs dz act zg zh j) (ha : act j = true) (hR : 0 < R) (hW : 0 < W)
    (hd : ∀ i, 0 ≤ dz i ∧ dz i ≤ 1099511627775) (hu : IsKth (readZ W zg (cutZ (cs j) R W)) 0 u) :
    BothInv R W cs dz act (raiseZ W zg (cutZ (cs j) R W) (u + dz j)) (changeZ W zh (cutZ (cs j) R W) (dz j)) (j + 1) := by
  have hm : meetB R W (cutZ (cs j) R W) = true := cut_meet hR hW
  obtain ⟨⟨r1, hr1, hu1⟩, hle⟩ := least_cells hm hu
  have hB : ((j + 1 : Nat) : Int) * 1099511627775 = j * 1099511627775 + 1099511627775 := by rw [Int.natCast_succ, Int.add_mul, Int.one_mul]
  obtain ⟨d0, d1⟩ := hd j
  refine ⟨by rw [raise_len, h.lg], by rw [changeZ, setsZ_len, h.lh], fun r c hr hc => ?_, fun K r hr hc => ?_, fun h1 => ?_⟩
  · rw [raise_get h.lg hm r c hr hc, change_get h.lh hm r c hr hc]
    obtain ⟨h1, h2, h3⟩ := h.le r c hr hc
    by_cases e : c = colN (cutZ (cs j) R W) r
    · subst e
      have hur := hle r hr
      rw [if_pos rfl, if_pos rfl]
      split <;> omega
    · rw [if_neg e, if_neg e]; omega
  · have e0 : ownS R W cs dz act K (j + 1) = ownS R W cs dz act K j + if act j = true ∧ cutZ (cs j) R W = K then dz j else 0 := rfl
    have ho := h.own K r hr hc
    rw [e0, raise_get h.lg hm r _ hr hc]
    by_cases e : cutZ (cs j) R W = K
    · rw [if_pos ⟨ha, e⟩, if_pos (by rw [e])]
      have ho1 : ownS R W cs dz act K j ≤ u := by
        have hc1 : colN K r1 < W := by rw [← e]; exact cut_colW hW hr1
        have := h.own K r1 hr1 hc1
        rw [hu1, e]; exact this
      split <;> omega
    · rw [if_neg (fun k => e k.2)]
      split
      · split <;> omega
      · omega
  · subst h1
    have hz := h.one rfl
    subst hz
    refine cellD_ext (R := 1) (W := W) (by rw [raise_len, h.lg]) (by rw [changeZ, setsZ_len, h.lh]) (fun r c hr hc => ?_)
    rw [raise_get h.lg hm r c hr hc, change_get h.lh hm r c hr hc]
    by_cases e : c = colN (cutZ (cs j) 1 W) r
    · rw [if_pos e, if_pos e]
      have hrr : r = r1 := by omega
      subst hrr
      rw [hu1, e]
      split <;> omega
    · rw [if_neg e, if_neg e]
theorem BothInv.fits {R W : Nat} {cs : Nat → List Int} {dz : Nat → Int} {act : Nat → Bool} {zg zh : List Int} {j : Nat} {u : Int} (h : BothInv R W cs dz act zg zh j) (hR : 0 < R) (hW : 0 < W) (hj : j ≤ 1000)
    (hd : ∀ i, 0 ≤ dz i ∧ dz i ≤ 1099511627775) (hu : IsKth (readZ W zg (cutZ (cs j) R W)) 0 u) : In64 (u + dz j) ∧ changeFits W zh (cutZ (cs j) R W) (dz j) := by
  have hm : meetB R W (cutZ (cs j) R W) = true := cut_meet hR hW
  obtain ⟨⟨r1, hr1, hu1⟩, hle⟩ := least_cells hm hu
  obtain ⟨d0, d1⟩ := hd j
  obtain ⟨h1, h2, h3⟩ := h.le r1 _ hr1 (cut_colW (cs := cs j) hW hr1)
  refine ⟨⟨by omega, by omega⟩, fun r hr => ?_⟩
  rw [cutZ_len] at hr
  obtain ⟨h4, h5, h6⟩ := h.le r _ hr (cut_colW (cs := cs j) hW hr)
  exact ⟨by omega, by omega⟩
theorem plain09 (d : Int) (w : World) : Calls Try.prog 55 #[.int .i64 d] w fun e w' => e = .returned (.int .i64 (plainZ true d)) ∧ w = w' := by
  obtain ⟨s, hs⟩ : ∃ s, s = smallZ d := ⟨_, rfl⟩
  have hsb := smallZ_bd d
  have hp : plainZ true d = if s < -s then -s else s := by rw [hs]; simp only [plainZ, if_true]; split <;> split <;> omega
  have hs2 : d.tmod 1099511627776 = s := by rw [hs]; rfl
  rw [← hs] at hsb
  have hneg : wrap64 (-s) = -s := by unfold wrap64; omega
  have hneg2 : IntKind.i64.wrap (-s) = -s := wrapI_of _ (by omega) (by omega)
  obtain ⟨p, hp2⟩ : ∃ p, (if s < -s then -s else s) = p := ⟨_, rfl⟩
  rw [hp, hp2]
  clear hs hp
  go_enter Try.func55, Try.ntmps55
  go_wp2
  go_ret
  exact ⟨rfl, rfl⟩
end Go.Proofs.Ytcinlcbmjboaaaa
