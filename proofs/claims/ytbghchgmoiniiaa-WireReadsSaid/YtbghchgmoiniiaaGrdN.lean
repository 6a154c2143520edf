/-
  The walks of grid.New, Rows, Width. Conditions: none beyond those stated at each theorem.
-/
import Derived.Test.YtbghchgmoiniiaaGrd
namespace Go.Proofs.Ytbghchgmoiniiaa
open Go.RowKit
set_option linter.unusedVariables false
set_option linter.unusedSimpArgs false

def clampN (n : Int) (top : Nat) : Nat := min n.toNat top
theorem clampN_le (n : Int) (top : Nat) : clampN n top ≤ top := Nat.min_le_right _ _

theorem width_any (w : World) (G C R W : Nat) (zs : List Int) (h : GridIs w G C R W zs) :
    Calls Try.prog 98 #[.pointer (some ⟨G, 0, none⟩)] w fun e w' => e = .returned (.int .i64 (W : Int)) ∧ w' = w := by
  obtain ⟨cap, hb, _⟩ := h.fields
  have c0 := hb.cell 1
  simp at c0
  clear h hb
  go_enter Try.func98, Try.ntmps98
  go_wp2
  go_ret
  exact ⟨rfl, rfl⟩

theorem Try.info64 : (Try.prog.info? 2).map (fun i => (i.zero, i.size, i.bytes)) = some (some (.int .i64 0), 1, 8) := by kernel_rfl

def NewPost (w : World) (R W : Nat) (e : Ending) (w' : World) : Prop :=
  ∃ G C, e = .returned (.pointer (some ⟨G, 0, none⟩)) ∧ w.heap.size ≤ G ∧ w.heap.size ≤ C ∧ GridIs w' G C R W (List.replicate (R * W) 0) ∧ Below w.heap.size w w'

set_option maxRecDepth 100000 in
theorem new_any (r c : Int) (w : World) : Calls Try.prog 63 #[.int .i64 r, .int .i64 c] w (NewPost w (clampN r 8) (clampN c 128)) := by
  have hr := clampN_le r 8
  have hc := clampN_le c 128
  obtain ⟨mr, er⟩ : ∃ m, (if r < 0 then 0 else r) = m := ⟨_, rfl⟩
  obtain ⟨mc, ec⟩ : ∃ m, (if c < 0 then 0 else c) = m := ⟨_, rfl⟩
  have fr : (if 8 < mr then 8 else mr) = (clampN r 8 : Int) := by simp only [clampN]; split at er <;> split <;> omega
  have fc : (if 128 < mc then 128 else mc) = (clampN c 128 : Int) := by simp only [clampN]; split at ec <;> split <;> omega
  generalize clampN r 8 = R at *
  generalize clampN c 128 = W at *
  obtain ⟨n, hn⟩ : ∃ n, n = R * W := ⟨_, rfl⟩
  have hm : (R : Int) * (W : Int) = (n : Int) := by simp [hn]
  have hp : n ≤ 1024 := by rw [hn]; exact Nat.mul_le_mul hr hc
  have HN := Lib.hid hn
  clear hn
  have hmk := fun W => run_make_row' (P := Try.prog) 51 2 (.int .i64 0) 8 Try.underlying51 Try.info64 rfl .i64 .i64 n (by omega) (by omega) W
  go_enter Try.func63, Try.ntmps63
  go_wp2_with fail
  go_ret
  have hn := HN.out
  refine ⟨w.heap.size + 1, w.heap.size, rfl, by omega, by omega, ⟨⟨n, ?_, by omega⟩, by simp, ⟨madeCells #[.int .i64 0] n, (Blk.new _ _ _).alloc _, fun i u hi => ?_⟩, hr, hc, fun u hu => by simp at hu; omega⟩, ((Below.refl _ _).alloc (Nat.le_refl _) _).alloc (by simp) _⟩
  · have := Blk.new (w.alloc (.cells (madeCells #[.int .i64 0] n) 2)) 133 #[.int .i64 (R : Int), .int .i64 (W : Int), .slice (some ⟨w.heap.size, 0, none⟩) n n]
    rw [← hn]
    simpa using this
  · have hin : i < n := by
      have := (List.getElem?_eq_some_iff.1 hi).1
      simp at this
      omega
    have hu : u = 0 := by
      have := List.mem_of_getElem? hi
      simp at this
      exact this.2
    subst hu
    have h1 := (World.rowIs_made w (.int .i64 0) n 2).cell hin
    rw [(Blk.new w 2 (madeCells #[.int .i64 0] n)).cell i] at h1
    exact h1
end Go.Proofs.Ytbghchgmoiniiaa
