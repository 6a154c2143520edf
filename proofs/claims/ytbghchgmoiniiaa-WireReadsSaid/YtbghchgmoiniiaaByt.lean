/-
  Slices of bytes, and the strings made of them. Conditions: none beyond those stated at each theorem.
-/
import Derived.Test.YtbghchgmoiniiaaCrcP
import Derived.Test.YtbghchgmoiniiaaRow
import Derived.Test.YtbghchgmoiniiaaGrdC
import Derived.Test.YtbghchgmoiniiaaLng
import Derived.Laws.BytesArg
import Derived.Laws.IdiomStrings
import Derived.StillTailTactics
import Derived.Deep.RegionHeld3
namespace Go.Proofs.Ytbghchgmoiniiaa
open Go.RowKit
set_option linter.unusedVariables false
set_option linter.unusedSimpArgs false

def Byts (bs : List Int) : Prop := ∀ u ∈ bs, 0 ≤ u ∧ u ≤ 255
/-- the slice v holds the bytes bs -/
def BytesAt (w : World) (v : Value) (bs : List Int) : Prop :=
  ∃ (ao : Option Addr) (cap : Nat), v = .slice ao bs.length cap ∧ bs.length ≤ cap ∧ cap ≤ maxLen ∧ ((bs = [] ∧ ao = none) ∨ ∃ g off, ao = some ⟨g, off, none⟩ ∧ g < w.heap.size ∧ ∀ (i : Nat) (u : Int), bs[i]? = some u → w.cell? ⟨g, off + i, none⟩ = some (.int .u8 u))
theorem BytesAt.kept {w w' : World} {v : Value} {bs : List Int} (h : BytesAt w v bs) (hb : Below w.heap.size w w') : BytesAt w' v bs := by
  obtain ⟨ao, cap, e, h1, h2, h3⟩ := h
  refine ⟨ao, cap, e, h1, h2, ?_⟩
  rcases h3 with h3 | ⟨g, off, e2, hg, hc⟩
  · exact .inl h3
  · exact .inr ⟨g, off, e2, Nat.lt_of_lt_of_le hg hb.size, fun i u hu => (hb.cell (p := ⟨g, off + i, none⟩) hg).trans (hc i u hu)⟩
theorem BytesAt.below {w w' : World} {B : Nat} {v : Value} {bs : List Int} (h : BytesAt w v bs) (hb : Below B w w') (hB : ∀ g off, v = .slice (some ⟨g, off, none⟩) bs.length (match v with | .slice _ _ c => c | _ => 0) → g < B) : BytesAt w' v bs := by
  obtain ⟨ao, cap, e, h1, h2, h3⟩ := h
  refine ⟨ao, cap, e, h1, h2, ?_⟩
  rcases h3 with h3 | ⟨g, off, e2, hg, hc⟩
  · exact .inl h3
  · have hgB : g < B := hB g off (by subst e; subst e2; rfl)
    exact .inr ⟨g, off, e2, Nat.lt_of_lt_of_le hg hb.size, fun i u hu => (hb.cell (p := ⟨g, off + i, none⟩) hgB).trans (hc i u hu)⟩
/-- the string of bytes -/
def strB (bs : List Int) : ByteArray := strOfNums bs
theorem strB_conv {P : Program} {w : World} {v : Value} {bs : List Int} (h : BytesAt w v bs) (src e dst : TypeId) (hs : P.underlying src = some (.slice e)) (he : P.underlying e = some (.int .u8)) (hd : P.underlying dst = some .string) :
    (convert src dst v).run P w = .ok (.string (strB bs)) w := by
  obtain ⟨ao, cap, rfl, h1, h2, h3⟩ := h
  rcases h3 with ⟨rfl, rfl⟩ | ⟨g, off, rfl, hg, hc⟩
  · exact run_convert_bytes_nil w src e hs he _ _ dst hd
  · refine run_convert_bytes_arg w src e hs he g off _ cap bs rfl (fun i hi => ?_) dst hd
    exact hc i _ (by simp [List.getD, List.getElem?_eq_getElem hi])
theorem strB_list (bs : List Int) : (strB bs).toList = bs.map fun n => UInt8.ofNat n.toNat := by
  unfold strB strOfNums
  exact ByteArray.toList_mk _
theorem u8_inj {a b : Int} (ha : 0 ≤ a ∧ a ≤ 255) (hb : 0 ≤ b ∧ b ≤ 255) (h : UInt8.ofNat a.toNat = UInt8.ofNat b.toNat) : a = b := by
  have := congrArg UInt8.toNat h
  simp at this
  omega
theorem strB_inj {a b : List Int} (ha : Byts a) (hb : Byts b) : ((strB a).toList == (strB b).toList) = decide (a = b) := by
  rw [strB_list, strB_list]
  by_cases h : a = b
  · subst h; simp
  · have : ¬ (a.map (fun n => UInt8.ofNat n.toNat) = b.map (fun n => UInt8.ofNat n.toNat)) := by
      intro e
      apply h
      clear h
      induction a generalizing b with
      | nil => cases b with
        | nil => rfl
        | cons y b => cases e
      | cons x a ih => cases b with
        | nil => cases e
        | cons y b =>
          simp only [List.map_cons, List.cons.injEq] at e
          rw [u8_inj (ha x (by simp)) (hb y (by simp)) e.1, ih (fun u hu => ha u (by simp [hu])) (fun u hu => hb u (by simp [hu])) e.2]
    simp [this, h]
theorem Byts.nil : Byts [] := fun u hu => by cases hu
theorem Byts.append {a b : List Int} (ha : Byts a) (hb : Byts b) : Byts (a ++ b) := fun u hu => by
  rcases List.mem_append.1 hu with h | h
  · exact ha u h
  · exact hb u h
theorem Byts.take {a : List Int} (ha : Byts a) (n : Nat) : Byts (a.take n) := fun u hu => ha u (List.mem_of_mem_take hu)
theorem Byts.drop {a : List Int} (ha : Byts a) (n : Nat) : Byts (a.drop n) := fun u hu => ha u (List.mem_of_mem_drop hu)
theorem Byts.get {a : List Int} (ha : Byts a) {i : Nat} {u : Int} (h : a[i]? = some u) : 0 ≤ u ∧ u ≤ 255 := ha u (List.mem_of_getElem? h)
theorem Byts.cellD {a : List Int} (ha : Byts a) (i : Nat) : 0 ≤ cellD a i ∧ cellD a i ≤ 255 := by
  unfold Go.Proofs.Ytbghchgmoiniiaa.cellD
  cases hz : a[i]? with
  | none => exact ⟨by simp, by simp⟩
  | some x => simpa using ha.get hz
theorem Try.info8 : (Try.prog.info? 5).map (fun i => (i.zero, i.size, i.bytes)) = some (some (.int .u8 0), 1, 1) := by kernel_rfl
/-- a row of bytes made here -/
theorem BytesAt.of_own {w : World} {base : Nat} {v : Value} {bs : List Int} (h : w.ownsRow base 5 1 v bs.length (bs.map (Value.int .u8))) : BytesAt w v bs := by
  obtain ⟨h0, h1⟩ := h
  rcases h1 with ⟨rfl, hl⟩ | ⟨g, cap, cur, rfl, hg, hblk, hcap, hm, hsz, htk⟩
  · exact ⟨none, 0, by rw [hl], by omega, by unfold maxLen; omega, .inl ⟨List.eq_nil_of_length_eq_zero hl, rfl⟩⟩
  · refine ⟨_, cap, rfl, hcap, hm, .inr ⟨g, 0, rfl, (show Blk w g 5 cur from hblk).lt, fun i u hu => ?_⟩⟩
    rw [Nat.zero_add, (show Blk w g 5 cur from hblk).cell i]
    have h1 : (bs.map (Value.int .u8))[i]? = some (.int .u8 u) := by rw [List.getElem?_map, hu]; rfl
    rw [← htk, List.getElem?_take] at h1
    split at h1
    · simpa using h1
    · cases h1
/-- the part of a slice from one place to another -/
theorem BytesAt.part {w : World} {ao : Option Addr} {cap : Nat} {bs : List Int} (h : BytesAt w (.slice ao bs.length cap) bs) (a b c : Nat) (hab : a ≤ b) (hb : b ≤ bs.length) (hbc : b ≤ c) (hc : c ≤ cap) (ao' : Option Addr) (he : ∀ g off, ao = some ⟨g, off, none⟩ → ao' = some ⟨g, off + a, none⟩) (hn : ao = none → ao' = none) : BytesAt w (.slice ao' (b - a) (c - a)) ((bs.take b).drop a) := by
  obtain ⟨ao2, cap2, e, h1, h2, h3⟩ := h
  simp only [Value.slice.injEq] at e
  obtain ⟨rfl, -, rfl⟩ := e
  have hl : ((bs.take b).drop a).length = b - a := by simp; omega
  refine ⟨ao', c - a, by rw [hl], by rw [hl]; omega, by omega, ?_⟩
  rcases h3 with ⟨rfl, rfl⟩ | ⟨g, off, rfl, hg, hcc⟩
  · exact .inl ⟨by simp, hn rfl⟩
  · refine .inr ⟨g, off + a, he g off rfl, hg, fun i u hu => ?_⟩
    rw [List.getElem?_drop, List.getElem?_take] at hu
    split at hu
    · rw [Nat.add_assoc]; exact hcc (a + i) u hu
    · cases hu
end Go.Proofs.Ytbghchgmoiniiaa
