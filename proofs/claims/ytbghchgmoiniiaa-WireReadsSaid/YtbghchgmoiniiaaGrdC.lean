/-
  The walks of slices.Clone, grid.Cells. Conditions: none beyond those stated at each theorem.
-/
import Derived.Test.YtbghchgmoiniiaaGrdN
import Derived.Test.YtbghchgmoiniiaaRow
import Derived.Lib.SliceRun
import Derived.Deep.RegionHeld3
namespace Go.Proofs.Ytbghchgmoiniiaa
open Go.RowKit
set_option linter.unusedVariables false
set_option linter.unusedSimpArgs false

theorem Try.sl64 (w : World) (a : Option Addr) (n c : Nat) : Sem.run Try.prog (binOp .eql 51 (.slice a n c) (.slice none 0 0)) w = .ok (.bool a.isNone) w := Go.Lib.run_eql_slice_nil w 51 2 a n c 0 0 Try.underlying51

def ClonePost (w : World) (zs : List Int) (e : Ending) (w' : World) : Prop :=
  ∃ v, e = .returned v ∧ w'.ownsRow w.heap.size 2 1 v zs.length (zs.map (Value.int .i64)) ∧ v ≠ .slice none 0 0 ∧ Below w.heap.size w w'

set_option maxRecDepth 100000 in
theorem clone_any (w : World) (C cap : Nat) (zs : List Int) (hn : zs.length ≤ 1024) (hC : ∀ i u, zs[i]? = some u → w.cell? ⟨C, i, none⟩ = some (.int .i64 u)) (hCw : C < w.heap.size) :
    Calls Try.prog 100 #[.slice (some ⟨C, 0, none⟩) zs.length cap] w (ClonePost w zs) := by
  have he := Try.sl64 w (some ⟨C, 0, none⟩) zs.length cap
  simp only [Option.isNone_some] at he
  have HC := Lib.hid hC
  have HW := Lib.hid hCw
  obtain ⟨n, hl⟩ : ∃ n, n = zs.length := ⟨_, rfl⟩
  rw [← hl] at he ⊢
  have HL := Lib.hid hl
  clear hC hCw
  have hown0 := World.ownsRow_lit (base := w.heap.size) (e := 2) (size := 1) w #[] 0 (by simp) (by unfold maxLen; omega) (by simp)
  have HO := Lib.hid hown0
  clear hl hown0
  go_enter Try.func100, Try.ntmps100
  obtain ⟨i0, hi, hz0, hz1, hz2⟩ := info_parts Try.info64
  go_wp2_with (at_builtin; refine wpList_append_own_at _ rfl _ _ 51 rfl w.heap.size 2 i0 (.int .i64 0) 1 8 Try.underlying51 hi hz0 hz1 hz2 rfl (by decide) _ 0 [] rfl HO.out ⟨C, 0, none⟩ n cap (zs.map (Value.int .i64)) rfl ?c1 ?c2 ?c3 ?c4 ?c5 (by simp) ?_)
  case c1 => simp [HL.out]
  case c2 =>
    intro j u hu
    have := HC.out j u hu
    rw [← this]
    exact ((Below.refl w.heap.size w).alloc (Nat.le_refl _) _).cell (p := ⟨C, j, none⟩) HW.out
  case c3 =>
    intro u hu
    simp [Value.oneCell']
  case c4 => rw [HL.out]; unfold maxLen; omega
  case c5 => rw [HL.out]; omega
  intro v' w3 hown' hgrow hnil hq9
  have HNE : Hid (v' ≠ .slice none 0 0) := Lib.hid hnil
  have HO3 := Lib.hid hown'
  have HG3 := Lib.hid hgrow
  clear hown' hgrow hnil hq9
  go_wp2
  go_ret
  refine ⟨v', rfl, ?_, HNE.out, ?_⟩
  · have := HO3.out
    simpa [HL.out] using this
  · exact ((Below.refl _ _).alloc (Nat.le_refl _) _).grown HG3.out (by simp) (fun g hg => by simp [Value.ownBlock] at hg; omega)

def CellsPost (w : World) (zs : List Int) (e : Ending) (w' : World) : Prop :=
  ∃ v, e = .returned v ∧ w'.ownsRow w.heap.size 2 1 v zs.length (zs.map (Value.int .i64)) ∧ v ≠ .slice none 0 0 ∧ Below w.heap.size w w'
theorem cells_any (w : World) (G C R W : Nat) (zs : List Int) (h : GridIs w G C R W zs) :
    Calls Try.prog 97 #[.pointer (some ⟨G, 0, none⟩)] w (CellsPost w zs) := by
  obtain ⟨cap, hb, hcap⟩ := h.fields
  obtain ⟨cur, hC, hcur⟩ := h.cells
  have c2 := hb.cell 2
  simp at c2
  have hle : zs.length ≤ 1024 := by rw [h.len]; exact Nat.mul_le_mul h.rows h.width
  have hcl := clone_any w C cap zs hle (fun i u hu => (hC.cell i).trans (hcur i u hu)) hC.lt
  rw [h.len] at hcl
  have HL := Lib.hid h.len
  clear h hb hC hcur hle
  generalize R * W = n at *
  go_enter Try.func97, Try.ntmps97
  go_wp2_with (go_at_call 100; refine hcl.mono ?_; rintro e w' ⟨v, rfl, hown, hne, hbel⟩)
  go_ret
  exact ⟨v, rfl, hown, hne, hbel⟩
/-- what the call has made is a row that reads as zs -/
theorem own_row {w : World} {base : Nat} {v : Value} {zs : List Int} (h : w.ownsRow base 2 1 v zs.length (zs.map (Value.int .i64))) (hv : v ≠ .slice none 0 0) :
    ∃ g cap, v = .slice (some ⟨g, 0, none⟩) zs.length cap ∧ base ≤ g ∧ zs.length ≤ cap ∧ ∃ cur : Array Value, Blk w g 2 cur ∧ ∀ (i : Nat) (u : Int), zs[i]? = some u → cur[i]? = some (Value.int .i64 u) := by
  rcases h.2 with ⟨rfl, h0⟩ | ⟨g, cap, cur, rfl, hb, hg, hnc, hcm, hsz, htake⟩
  · exact absurd rfl hv
  · refine ⟨g, cap, rfl, hb, hnc, cur, hg, fun i u hu => ?_⟩
    have hi : i < zs.length := (List.getElem?_eq_some_iff.1 hu).1
    have h2 : (cur.toList.take (zs.length * 1))[i]? = (zs.map (Value.int .i64))[i]? := by rw [htake]
    rw [List.getElem?_take, if_pos (by omega)] at h2
    simp only [List.getElem?_map, hu, Option.map_some] at h2
    simpa using h2

def CopyPost (w : World) (R W : Nat) (zs : List Int) (e : Ending) (w' : World) : Prop :=
  ∃ G C, e = .returned (.pointer (some ⟨G, 0, none⟩)) ∧ w.heap.size ≤ G ∧ w.heap.size ≤ C ∧ GridIs w' G C R W zs ∧ Below w.heap.size w w'
end Go.Proofs.Ytbghchgmoiniiaa
