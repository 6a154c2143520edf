/-
  The walks of slices.Clone, grid.Cells. Conditions: none beyond those stated at each theorem.
-/
import Derived.Test.YtcfmipgdhhogcaaGrdN
import Derived.Test.YtcfmipgdhhogcaaRow
import Derived.Lib.SliceRun
import Derived.Deep.RegionHeld3
namespace Go.Proofs.Ytcfmipgdhhogcaa
open Go.RowKit
set_option linter.unusedVariables false
set_option linter.unusedSimpArgs false

theorem Try.sl64 (w : World) (a : Option Addr) (n c : Nat) : Sem.run Try.prog (binOp .eql 31 (.slice a n c) (.slice none 0 0)) w = .ok (.bool a.isNone) w := Go.Lib.run_eql_slice_nil w 31 2 a n c 0 0 Try.underlying31

def ClonePost (w : World) (zs : List Int) (e : Ending) (w' : World) : Prop :=
  ∃ v, e = .returned v ∧ w'.ownsRow w.heap.size 2 1 v zs.length (zs.map (Value.int .i64)) ∧ v ≠ .slice none 0 0 ∧ Below w.heap.size w w'

set_option maxRecDepth 100000 in
theorem clone_any (w : World) (C cap : Nat) (zs : List Int) (hn : zs.length ≤ 1024) (hC : ∀ i u, zs[i]? = some u → w.cell? ⟨C, i, none⟩ = some (.int .i64 u)) (hCw : C < w.heap.size) :
    Calls Try.prog 49 #[.slice (some ⟨C, 0, none⟩) zs.length cap] w (ClonePost w zs) := by
  have he := Try.sl64 w (some ⟨C, 0, none⟩) zs.length cap
  simp only [Option.isNone_some] at he
  have HC := Lib.hid hC
  have HW := Lib.hid hCw
  obtain ⟨n, hl⟩ : ∃ n, n = zs.length := ⟨_, rfl⟩
  rw [← hl] at he ⊢
  have HL := Lib.hid hl
  clear hC hCw
  have hown0 := World.ownsRow_lit (base := w.heap.size) (e := 2) (size := 1) w #[] 0 (by simp) (by unfold maxLen; omega) (by simp)
  have HO := Lib.hid hown0
  clear hl hown0
  go_enter Try.func49, Try.ntmps49
  obtain ⟨i0, hi, hz0, hz1, hz2⟩ := info_parts Try.info64
  go_wp2_with (at_builtin; refine wpList_append_own_at _ rfl _ _ 31 rfl w.heap.size 2 i0 (.int .i64 0) 1 8 Try.underlying31 hi hz0 hz1 hz2 rfl (by decide) _ 0 [] rfl HO.out ⟨C, 0, none⟩ n cap (zs.map (Value.int .i64)) rfl ?c1 ?c2 ?c3 ?c4 ?c5 (by simp) ?_)
  case c1 => simp [HL.out]
  case c2 =>
    intro j u hu
    have := HC.out j u hu
    rw [← this]
    exact ((Below.refl w.heap.size w).alloc (Nat.le_refl _) _).cell (p := ⟨C, j, none⟩) HW.out
  case c3 =>
    intro u hu
    simp [Value.oneCell']
  case c4 => rw [HL.out]; unfold maxLen; omega
  case c5 => rw [HL.out]; omega
  intro v' w3 hown' hgrow hnil hq9
  have HNE : Hid (v' ≠ .slice none 0 0) := Lib.hid hnil
  have HO3 := Lib.hid hown'
  have HG3 := Lib.hid hgrow
  clear hown' hgrow hnil hq9
  go_wp2
  go_ret
  refine ⟨v', rfl, ?_, HNE.out, ?_⟩
  · have := HO3.out
    simpa [HL.out] using this
  · exact ((Below.refl _ _).alloc (Nat.le_refl _) _).grown HG3.out (by simp) (fun g hg => by simp [Value.ownBlock] at hg; omega)

def CellsPost (w : World) (zs : List Int) (e : Ending) (w' : World) : Prop :=
  ∃ v, e = .returned v ∧ w'.ownsRow w.heap.size 2 1 v zs.length (zs.map (Value.int .i64)) ∧ v ≠ .slice none 0 0 ∧ Below w.heap.size w w'
theorem cells_any (w : World) (G C R W : Nat) (zs : List Int) (h : GridIs w G C R W zs) :
    Calls Try.prog 33 #[.pointer (some ⟨G, 0, none⟩)] w (CellsPost w zs) := by
  obtain ⟨cap, hb, hcap⟩ := h.fields
  obtain ⟨cur, hC, hcur⟩ := h.cells
  have c2 := hb.cell 2
  simp at c2
  have hle : zs.length ≤ 1024 := by rw [h.len]; exact Nat.mul_le_mul h.rows h.width
  have hcl := clone_any w C cap zs hle (fun i u hu => (hC.cell i).trans (hcur i u hu)) hC.lt
  rw [h.len] at hcl
  have HL := Lib.hid h.len
  clear h hb hC hcur hle
  generalize R * W = n at *
  go_enter Try.func33, Try.ntmps33
  go_wp2_with (go_at_call 49; refine hcl.mono ?_; rintro e w' ⟨v, rfl, hown, hne, hbel⟩)
  go_ret
  exact ⟨v, rfl, hown, hne, hbel⟩
/-- what the call has made is a row that reads as zs -/
theorem own_row {w : World} {base : Nat} {v : Value} {zs : List Int} (h : w.ownsRow base 2 1 v zs.length (zs.map (Value.int .i64))) (hv : v ≠ .slice none 0 0) :
    ∃ g cap, v = .slice (some ⟨g, 0, none⟩) zs.length cap ∧ base ≤ g ∧ zs.length ≤ cap ∧ ∃ cur : Array Value, Blk w g 2 cur ∧ ∀ (i : Nat) (u : Int), zs[i]? = some u → cur[i]? = some (Value.int .i64 u) := by
  rcases h.2 with ⟨rfl, h0⟩ | ⟨g, cap, cur, rfl, hb, hg, hnc, hcm, hsz, htake⟩
  · exact absurd rfl hv
  · refine ⟨g, cap, rfl, hb, hnc, cur, hg, fun i u hu => ?_⟩
    have hi : i < zs.length := (List.getElem?_eq_some_iff.1 hu).1
    have h2 : (cur.toList.take (zs.length * 1))[i]? = (zs.map (Value.int .i64))[i]? := by rw [htake]
    rw [List.getElem?_take, if_pos (by omega)] at h2
    simp only [List.getElem?_map, hu, Option.map_some] at h2
    simpa using h2

def CopyPost (w : World) (R W : Nat) (zs : List Int) (e : Ending) (w' : World) : Prop :=
  ∃ G C, e = .returned (.pointer (some ⟨G, 0, none⟩)) ∧ w.heap.size ≤ G ∧ w.heap.size ≤ C ∧ GridIs w' G C R W zs ∧ Below w.heap.size w w'
set_option maxRecDepth 100000 in
theorem copy_any (w : World) (G C R W : Nat) (zs : List Int) (h : GridIs w G C R W zs) :
    Calls Try.prog 47 #[.pointer (some ⟨G, 0, none⟩)] w (CopyPost w R W zs) := by
  obtain ⟨cap, hb, hcap⟩ := h.fields
  have hcl : ∀ w', GridIs w' G C R W zs → Calls Try.prog 49 #[.slice (some ⟨C, 0, none⟩) (R * W) cap] w' (ClonePost w' zs) := by
    intro w' h'
    obtain ⟨cur, hC, hcur⟩ := h'.cells
    have hle : zs.length ≤ 1024 := by rw [h'.len]; exact Nat.mul_le_mul h'.rows h'.width
    rw [← h'.len]
    exact clone_any w' C cap zs hle (fun i u hu => (hC.cell i).trans (hcur i u hu)) hC.lt
  have HL := Lib.hid h.len
  have HR := Lib.hid h.rows
  have HW := Lib.hid h.width
  have HF := Lib.hid h.fit
  go_enter Try.func47, Try.ntmps47
  go_wp2_with fail
  have HH := Lib.hid h
  have HB := Lib.hid hb
  have HCL := Lib.hid hcl
  clear h hb hcl
  generalize hn : R * W = n at *
  have HN := Lib.hid hn
  clear hn
  refine wp_region_held_drew (S := fun w' => Blk w' G 84 #[.int .i64 (R : Int), .int .i64 (W : Int), .slice (some ⟨C, 0, none⟩) n cap] ∧ GridIs w' G C R W zs ∧ Below w.heap.size w w') (by kernel_rfl) (by exact ⟨HB.out.drew, HH.out.drewN 1, (Below.refl _ _).drew⟩) (fun hHeld => ?_)
  refine wpAnyH_take (i := 0) (v := ?_) rfl (by kernel_rfl) (by kernel_rfl) (by kernel_rfl) (fun _ _ _ h => h) (Or.inl ⟨by rfl, ?_⟩) (by assumption) ?_
  rotate_left
  · intro w hSw
    try dsimp only at hSw
    go_simp
    try with_reducible rfl
  simp only [Act.put, List.setIfInBounds_toArray, List.set_cons_zero, List.set_cons_succ, List.getElem_toArray, List.getElem_cons_zero, List.getElem_cons_succ]
  refine wpAnyH_take (i := 1) (v := ?_) rfl (by kernel_rfl) (by kernel_rfl) (by kernel_rfl) (fun _ _ _ h => h) (Or.inl ⟨by rfl, ?_⟩) (by assumption) ?_
  rotate_left
  · intro w hSw
    try dsimp only at hSw
    go_simp
    try with_reducible rfl
  simp only [Act.put, List.setIfInBounds_toArray, List.set_cons_zero, List.set_cons_succ, List.getElem_toArray, List.getElem_cons_zero, List.getElem_cons_succ]
  refine wpAnyH_take (i := 2) (v := ?_) rfl (by kernel_rfl) (by kernel_rfl) (by kernel_rfl) (fun _ _ _ h => h) (Or.inl ⟨by rfl, ?_⟩) (by assumption) ?_
  rotate_left
  · intro w hSw
    try dsimp only at hSw
    go_simp
    try with_reducible rfl
  simp only [Act.put, List.setIfInBounds_toArray, List.set_cons_zero, List.set_cons_succ, List.getElem_toArray, List.getElem_cons_zero, List.getElem_cons_succ]
  refine wpAnyH_take (i := 3) (v := ?_) rfl (by kernel_rfl) (by kernel_rfl) (by kernel_rfl) (fun _ _ _ h => h) (Or.inl ⟨by rfl, ?_⟩) (by assumption) ?_
  rotate_left
  · intro w hSw
    have q0 := hSw.1.cell 0
    have q1 := hSw.1.cell 1
    have q2 := hSw.1.cell 2
    simp at q0 q1 q2
    go_simp
    try with_reducible rfl
  simp only [Act.put, List.setIfInBounds_toArray, List.set_cons_zero, List.set_cons_succ, List.getElem_toArray, List.getElem_cons_zero, List.getElem_cons_succ]
  refine wpAnyH_take (i := 4) (v := ?_) rfl (by kernel_rfl) (by kernel_rfl) (by kernel_rfl) (fun _ _ _ h => h) (Or.inl ⟨by rfl, ?_⟩) (by assumption) ?_
  rotate_left
  · intro w hSw
    try dsimp only at hSw
    go_simp
    try with_reducible rfl
  simp only [Act.put, List.setIfInBounds_toArray, List.set_cons_zero, List.set_cons_succ, List.getElem_toArray, List.getElem_cons_zero, List.getElem_cons_succ]
  refine wpAnyH_take (i := 5) (v := ?_) rfl (by kernel_rfl) (by kernel_rfl) (by kernel_rfl) (fun _ _ _ h => h) (Or.inl ⟨by rfl, ?_⟩) (by assumption) ?_
  rotate_left
  · intro w hSw
    try dsimp only at hSw
    go_simp
    try with_reducible rfl
  simp only [Act.put, List.setIfInBounds_toArray, List.set_cons_zero, List.set_cons_succ, List.getElem_toArray, List.getElem_cons_zero, List.getElem_cons_succ]
  refine wpAnyH_take (i := 6) (v := ?_) rfl (by kernel_rfl) (by kernel_rfl) (by kernel_rfl) (fun _ _ _ h => h) (Or.inl ⟨by rfl, ?_⟩) (by assumption) ?_
  rotate_left
  · intro w hSw
    try dsimp only at hSw
    go_simp
    try with_reducible rfl
  simp only [Act.put, List.setIfInBounds_toArray, List.set_cons_zero, List.set_cons_succ, List.getElem_toArray, List.getElem_cons_zero, List.getElem_cons_succ]
  refine wpAnyH_take (i := 7) (v := ?_) rfl (by kernel_rfl) (by kernel_rfl) (by kernel_rfl) (fun _ _ _ h => h) (Or.inl ⟨by rfl, ?_⟩) (by assumption) ?_
  rotate_left
  · intro w hSw
    have q0 := hSw.1.cell 0
    have q1 := hSw.1.cell 1
    have q2 := hSw.1.cell 2
    simp at q0 q1 q2
    go_simp
    try with_reducible rfl
  simp only [Act.put, List.setIfInBounds_toArray, List.set_cons_zero, List.set_cons_succ, List.getElem_toArray, List.getElem_cons_zero, List.getElem_cons_succ]
  refine wpAnyH_take (i := 8) (v := ?_) rfl (by kernel_rfl) (by kernel_rfl) (by kernel_rfl) (fun _ _ _ h => h) (Or.inl ⟨by rfl, ?_⟩) (by assumption) ?_
  rotate_left
  · intro w hSw
    try dsimp only at hSw
    go_simp
    try with_reducible rfl
  simp only [Act.put, List.setIfInBounds_toArray, List.set_cons_zero, List.set_cons_succ, List.getElem_toArray, List.getElem_cons_zero, List.getElem_cons_succ]
  refine wpAnyH_take (i := 9) (v := ?_) rfl (by kernel_rfl) (by kernel_rfl) (by kernel_rfl) (fun _ _ _ h => h) (Or.inl ⟨by rfl, ?_⟩) (by assumption) ?_
  rotate_left
  · intro w hSw
    try dsimp only at hSw
    go_simp
    try with_reducible rfl
  simp only [Act.put, List.setIfInBounds_toArray, List.set_cons_zero, List.set_cons_succ, List.getElem_toArray, List.getElem_cons_zero, List.getElem_cons_succ]
  refine wpAnyH_take (i := 10) (v := ?_) rfl (by kernel_rfl) (by kernel_rfl) (by kernel_rfl) (fun _ _ _ h => h) (Or.inl ⟨by rfl, ?_⟩) (by assumption) ?_
  rotate_left
  · intro w hSw
    try dsimp only at hSw
    go_simp
    try with_reducible rfl
  simp only [Act.put, List.setIfInBounds_toArray, List.set_cons_zero, List.set_cons_succ, List.getElem_toArray, List.getElem_cons_zero, List.getElem_cons_succ]
  refine wpAnyH_take (i := 11) (v := ?_) rfl (by kernel_rfl) (by kernel_rfl) (by kernel_rfl) (fun _ _ _ h => h) (Or.inl ⟨by rfl, ?_⟩) (by assumption) ?_
  rotate_left
  · intro w hSw
    have q0 := hSw.1.cell 0
    have q1 := hSw.1.cell 1
    have q2 := hSw.1.cell 2
    simp at q0 q1 q2
    go_simp
    try with_reducible rfl
  simp only [Act.put, List.setIfInBounds_toArray, List.set_cons_zero, List.set_cons_succ, List.getElem_toArray, List.getElem_cons_zero, List.getElem_cons_succ]
  refine wpAnyH_ready (rs := [12]) (by kernel_rfl) (by simp) ?_
  refine AllReadyH.cons rfl (fun Kc hKc => ?_) AllReadyH.nil
  go_simp
  go_wp2_with (go_at_call 49; refine (HCL.out _ hHeld.2.1).mono ?_; rintro e w' ⟨v, rfl, hown, hne, hb'⟩; obtain ⟨g, cp, rfl, hg0, hgc, cur, hcur, hcc⟩ := own_row hown hne; clear hown hne)
  refine hKc.out _ _ ?_ (fun hHeld => ?_)
  · first | assumption | exact ⟨hHeld.1.kept hb', hHeld.2.1.kept hb', btr hHeld.2.2 hb'⟩ | exact ⟨hHeld.1.alloc _, hHeld.2.1.kept ((Below.refl _ _).alloc (Nat.le_refl _) _), hHeld.2.2.alloc hHeld.2.2.size _⟩
  clear hKc Kc
  refine wpAnyH_take (i := 13) (v := ?_) rfl (by kernel_rfl) (by kernel_rfl) (by kernel_rfl) (fun _ _ _ h => h) (Or.inl ⟨by rfl, ?_⟩) (by assumption) ?_
  rotate_left
  · intro w hSw
    try dsimp only at hSw
    go_simp
    try with_reducible rfl
  simp only [Act.put, List.setIfInBounds_toArray, List.set_cons_zero, List.set_cons_succ, List.getElem_toArray, List.getElem_cons_zero, List.getElem_cons_succ]
  refine wpAnyH_ready (rs := [14]) (by kernel_rfl) (by simp) ?_
  refine AllReadyH.cons rfl (fun Kc hKc => ?_) AllReadyH.nil
  go_simp
  refine hKc.out _ _ ?_ (fun hHeld => ?_)
  · first | assumption | exact ⟨hHeld.1.kept hb', hHeld.2.1.kept hb', btr hHeld.2.2 hb'⟩ | exact ⟨hHeld.1.alloc _, hHeld.2.1.kept ((Below.refl _ _).alloc (Nat.le_refl _) _), hHeld.2.2.alloc hHeld.2.2.size _⟩
  clear hKc Kc
  refine wpAnyH_take (i := 15) (v := ?_) rfl (by kernel_rfl) (by kernel_rfl) (by kernel_rfl) (fun _ _ _ h => h) (Or.inl ⟨by rfl, ?_⟩) (by assumption) ?_
  rotate_left
  · intro w hSw
    try dsimp only at hSw
    go_simp
    try with_reducible rfl
  simp only [Act.put, List.setIfInBounds_toArray, List.set_cons_zero, List.set_cons_succ, List.getElem_toArray, List.getElem_cons_zero, List.getElem_cons_succ]
  refine wpAnyH_done (by kernel_rfl) ?_ _
  have hnew := Blk.new w' 84 #[.int .i64 (R : Int), .int .i64 (W : Int), .slice (some ⟨g, 0, none⟩) zs.length cp]
  have hcur2 := hcur.alloc (.cells #[.int .i64 (R : Int), .int .i64 (W : Int), .slice (some ⟨g, 0, none⟩) zs.length cp] 84)
  have hsz := hb'.size
  have HK : Hid (CopyPost w R W zs (.returned (.pointer (some ⟨w'.heap.size, 0, none⟩))) (w'.alloc (.cells #[.int .i64 (R : Int), .int .i64 (W : Int), .slice (some ⟨g, 0, none⟩) zs.length cp] 84))) :=
    ⟨w'.heap.size, g, rfl, hsz, hg0, ⟨⟨cp, by rw [← HL.out.trans HN.out.symm]; exact hnew, by rw [← HL.out.trans HN.out.symm]; exact hgc⟩, HL.out.trans HN.out.symm, ⟨cur, hcur2, hcc⟩, HR.out, HW.out, HF.out⟩, hHeld.2.2⟩
  clear hnew hcur2 hcur hcc hHeld hb' hsz
  go_wp2
  go_ret
  exact HK.out
end Go.Proofs.Ytcfmipgdhhogcaa
