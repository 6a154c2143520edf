/-
  The walks of package seeds: Unmix with its closure. Conditions: the argument fits 64 bits.
-/
import Derived.Test.YtgcfopallncnlabSdW
import Derived.StillTailTactics
namespace Go.Proofs.Ytgcfopallncnlab
open Go.RowKit
set_option linter.unusedVariables false
set_option linter.unusedSimpArgs false

theorem turn_step (n x : BitVec 64) : IntKind.u64.wrap (nv x * IntKind.u64.wrap (2 - IntKind.u64.wrap (nv n * nv x))) = nv (tstep n x) := by
  rw [wrap_bv, bv_mul, bv_wrap, bv_sub, bv_wrap, bv_mul, bv_nv, bv_nv]; rfl

theorem turned_any (n : BitVec 64) (w : World) :
    Calls Try.prog 37 #[.int .u64 (nv n)] w fun e w' => e = .returned (.int .u64 (nv (turnB n))) ∧ w = w' := by
  have e1 := turn_step n n
  have e2 := turn_step n (tstep n n)
  have e3 := turn_step n (tstep n (tstep n n))
  have e4 := turn_step n (tstep n (tstep n (tstep n n)))
  have e5 := turn_step n (tstep n (tstep n (tstep n (tstep n n))))
  have e6 := turn_step n (tstep n (tstep n (tstep n (tstep n (tstep n n)))))
  go_enter Try.func37, Try.ntmps37
  go_wp2
  refine wp_loop_rounds 7 ?_
  rw [rounds_succ]
  go_wp2
  rw [rounds_succ]
  go_wp2
  rw [rounds_succ]
  go_wp2
  rw [rounds_succ]
  go_wp2
  rw [rounds_succ]
  go_wp2
  rw [rounds_succ]
  go_wp2
  rw [rounds_succ]
  go_wp2
  go_ret
  exact ⟨rfl, rfl⟩

theorem ux30 (x : BitVec 64) : bits BinOp.xor IntKind.u64 (nv x) (bits BinOp.xor IntKind.u64 (nv x) (nv x / 1073741824) / 1073741824) = nv (ux 30 x) := by
  rw [shake30, show (1073741824 : Int) = ((2 ^ 30 : Nat) : Int) from rfl, shr_nv, xor_nv]; rfl
theorem ux27 (x : BitVec 64) : bits BinOp.xor IntKind.u64 (nv x) (bits BinOp.xor IntKind.u64 (nv x) (nv x / 134217728) / 134217728) = nv (ux 27 x) := by
  rw [shake27, show (134217728 : Int) = ((2 ^ 27 : Nat) : Int) from rfl, shr_nv, xor_nv]; rfl
theorem ux31 (x : BitVec 64) : bits BinOp.xor IntKind.u64 (nv x) (bits BinOp.xor IntKind.u64 (nv x) (nv x / 2147483648) / 2147483648) = nv (ux 31 x) := by
  rw [shake31, show (2147483648 : Int) = ((2 ^ 31 : Nat) : Int) from rfl, shr_nv, xor_nv]; rfl

theorem back30 (B : Nat) (x : BitVec 64) (w : World) (hc : w.cell? ⟨B, 0, none⟩ = some (.int .u64 (nv x))) (hf : w.frozen? ⟨B, 0, none⟩ = false) :
    Calls Try.prog 36 #[.int .u64 30, .pointer (some ⟨B, 0, none⟩)] w fun e w' => e = .returned (.tuple #[]) ∧ w.setCell ⟨B, 0, none⟩ (.int .u64 (nv (ux 30 x))) = w' := by
  have e1 := ux30 x
  go_enter Try.func36, Try.ntmps36
  go_wp2
  refine wp_loop_rounds 3 ?_
  rw [rounds_succ]
  go_wp2
  rw [rounds_succ]
  go_wp2
  rw [rounds_succ]
  go_wp2
  go_end0
  exact ⟨rfl, rfl⟩
theorem back27 (B : Nat) (x : BitVec 64) (w : World) (hc : w.cell? ⟨B, 0, none⟩ = some (.int .u64 (nv x))) (hf : w.frozen? ⟨B, 0, none⟩ = false) :
    Calls Try.prog 36 #[.int .u64 27, .pointer (some ⟨B, 0, none⟩)] w fun e w' => e = .returned (.tuple #[]) ∧ w.setCell ⟨B, 0, none⟩ (.int .u64 (nv (ux 27 x))) = w' := by
  have e1 := ux27 x
  go_enter Try.func36, Try.ntmps36
  go_wp2
  refine wp_loop_rounds 3 ?_
  rw [rounds_succ]
  go_wp2
  rw [rounds_succ]
  go_wp2
  rw [rounds_succ]
  go_wp2
  go_end0
  exact ⟨rfl, rfl⟩
theorem back31 (B : Nat) (x : BitVec 64) (w : World) (hc : w.cell? ⟨B, 0, none⟩ = some (.int .u64 (nv x))) (hf : w.frozen? ⟨B, 0, none⟩ = false) :
    Calls Try.prog 36 #[.int .u64 31, .pointer (some ⟨B, 0, none⟩)] w fun e w' => e = .returned (.tuple #[]) ∧ w.setCell ⟨B, 0, none⟩ (.int .u64 (nv (ux 31 x))) = w' := by
  have e1 := ux31 x
  go_enter Try.func36, Try.ntmps36
  go_wp2
  refine wp_loop_rounds 3 ?_
  rw [rounds_succ]
  go_wp2
  rw [rounds_succ]
  go_wp2
  rw [rounds_succ]
  go_wp2
  go_end0
  exact ⟨rfl, rfl⟩

/-- what the loop of Unmix finds: the number in its box (block B), the steps in their block C -/
structure UW (w0 : World) (B C : Nat) (x : BitVec 64) (w : World) : Prop where
  low : w0.heap.size ≤ B
  lowC : w0.heap.size ≤ C
  ne : C ≠ B
  cell : w.cell? ⟨B, 0, none⟩ = some (.int .u64 (nv x))
  free : w.frozen? ⟨B, 0, none⟩ = false
  c0 : w.cell? ⟨C, 0, none⟩ = some (.int .u64 30)
  c1 : w.cell? ⟨C, 1, none⟩ = some (.int .u64 13787848793156543929)
  c2 : w.cell? ⟨C, 2, none⟩ = some (.int .u64 27)
  c3 : w.cell? ⟨C, 3, none⟩ = some (.int .u64 10723151780598845931)
  c4 : w.cell? ⟨C, 4, none⟩ = some (.int .u64 31)
  c5 : w.cell? ⟨C, 5, none⟩ = some (.int .u64 1)
  bel : Below w0.heap.size w0 w

theorem UW.drew {w0 : World} {B C : Nat} {x : BitVec 64} {w : World} (h : UW w0 B C x w) : UW w0 B C x w.drew :=
  ⟨h.low, h.lowC, h.ne, h.cell, h.free, h.c0, h.c1, h.c2, h.c3, h.c4, h.c5, h.bel.drew⟩
theorem UW.set {w0 : World} {B C : Nat} {x : BitVec 64} {w : World} (h : UW w0 B C x w) (y : BitVec 64) : UW w0 B C y (w.setCell ⟨B, 0, none⟩ (.int .u64 (nv y))) := by
  have hne := h.ne
  obtain ⟨a1, a2, a3, a4, a5, a6, a7, a8, a9, a10, a11, a12⟩ := h
  have k : ∀ j, (w.setCell ⟨B, 0, none⟩ (.int .u64 (nv y))).cell? ⟨C, j, none⟩ = w.cell? ⟨C, j, none⟩ := fun j =>
    World.cell?_setCell_other w ⟨B, 0, none⟩ ⟨C, j, none⟩ _ (fun e => hne (congrArg Addr.block e).symm)
  refine ⟨a1, a2, a3, ?_, (World.frozen?_setCell _ _ _ _).trans a5, (k 0).trans a6, (k 1).trans a7, (k 2).trans a8, (k 3).trans a9, (k 4).trans a10, (k 5).trans a11, a12.setCell a1 _⟩
  simp [go_sem, a4]

theorem turned1 (w : World) : Calls Try.prog 37 #[.int .u64 1] w fun e w' => e = .returned (.int .u64 (nv (turnB 1#64))) ∧ w' = w := by
  have h := turned_any 1#64 w
  rw [show nv 1#64 = 1 from by decide] at h
  exact h.mono fun e w' ⟨a, b⟩ => ⟨a, b.symm⟩
theorem turned2 (w : World) : Calls Try.prog 37 #[.int .u64 10723151780598845931] w fun e w' => e = .returned (.int .u64 (nv (turnB C2))) ∧ w' = w := by
  have h := turned_any C2 w
  rw [show nv C2 = 10723151780598845931 from by decide] at h
  exact h.mono fun e w' ⟨a, b⟩ => ⟨a, b.symm⟩
theorem turned3 (w : World) : Calls Try.prog 37 #[.int .u64 13787848793156543929] w fun e w' => e = .returned (.int .u64 (nv (turnB C1))) ∧ w' = w := by
  have h := turned_any C1 w
  rw [show nv C1 = 13787848793156543929 from by decide] at h
  exact h.mono fun e w' ⟨a, b⟩ => ⟨a, b.symm⟩
theorem wrap_mulN (x y : BitVec 64) : IntKind.u64.wrap (nv x * nv y) = nv (x * y) := by rw [wrap_bv, bv_mul, bv_nv, bv_nv]

def ustep (k : Nat) (x : BitVec 64) : BitVec 64 :=
  match k with
  | 0 => x
  | 1 => ux 31 (x * turnB 1#64)
  | 2 => ux 27 (ux 31 (x * turnB 1#64) * turnB C2)
  | _ => ux 30 (ux 27 (ux 31 (x * turnB 1#64) * turnB C2) * turnB C1)
theorem ustep_end (x : BitVec 64) : ustep 3 x = unmixB x := by
  show ux 30 (ux 27 (ux 31 (x * turnB 1#64) * turnB C2) * turnB C1) = _
  unfold unmixB; rw [turn1, BitVec.mul_one]

theorem unmix_any (a : Int) (h0 : 0 ≤ a) (h1 : a ≤ 18446744073709551615) (w : World) :
    Calls Try.prog 25 #[.int .u64 a] w fun e w' => e = .returned (.int .u64 (unmixI a)) ∧ Below w.heap.size w w' := by
  obtain ⟨x, rfl⟩ : ∃ x : BitVec 64, a = nv x := ⟨bv a, (nv_bv a h0 h1).symm⟩
  go_enter Try.func25, Try.ntmps25
  go_wp2_with (go_at_call 35; refine (steps_any _).mono ?_; rintro e w' ⟨rfl, hb⟩)
  have hz := hb.size
  have hc : w'.cell? ⟨w.heap.size, 0, none⟩ = some (.int .u64 (nv x)) := by
    rw [hb.cell (p := ⟨w.heap.size, 0, none⟩) (by simp)]; simp [go_sem]
  have hf : w'.frozen? ⟨w.heap.size, 0, none⟩ = false := by
    rw [hb.frozen (p := ⟨w.heap.size, 0, none⟩) (by simp)]; simp [go_sem]
  have hlt : w.heap.size < w'.heap.size := by simp at hz; omega
  have hne : w'.heap.size ≠ w.heap.size := by omega
  have hW : UW w w.heap.size w'.heap.size x (w'.alloc (Obj.cells #[Value.int IntKind.u64 30, Value.int IntKind.u64 13787848793156543929, Value.int IntKind.u64 27, Value.int IntKind.u64 10723151780598845931, Value.int IntKind.u64 31, Value.int IntKind.u64 1] 46)) := by
    refine ⟨Nat.le_refl _, by omega, hne, ?_, ?_, ?_, ?_, ?_, ?_, ?_, ?_, ?_⟩
    · rw [← hc]; exact World.cell?_alloc_lt w' _ ⟨w.heap.size, 0, none⟩ hlt
    · rw [frozen?_alloc_cells]; exact hf
    all_goals first
      | (simp [go_sem]; done)
      | skip
    exact (((Below.refl _ _).alloc (Nat.le_refl _) _).trans (hb.mono (by simp))).alloc (by omega) _
  clear hc hf hz hb
  generalize hC : w'.heap.size = C at *
  generalize hB : w.heap.size = B at *
  generalize (w'.alloc (Obj.cells #[Value.int IntKind.u64 30, Value.int IntKind.u64 13787848793156543929, Value.int IntKind.u64 27, Value.int IntKind.u64 10723151780598845931, Value.int IntKind.u64 31, Value.int IntKind.u64 1] 46)) = wr at *
  have HW := Lib.hid hW
  have hlow := hW.low
  clear hC hB hW
  go_loopw [5] (fun i wr => ∃ k : Nat, k ≤ 3 ∧ i = .int .i64 (2 - (k : Int)) ∧ UW w B C (ustep k x) wr) (fun i _ => (intOf i + 1).toNat)
  case atStart => exact ⟨0, by omega, rfl, HW.out⟩
  case round =>
    obtain ⟨k, hk, rfl, hU⟩ := hrel
    rcases (show k = 0 ∨ k = 1 ∨ k = 2 ∨ k = 3 by omega) with rfl | rfl | rfl | rfl
    · have hD := hU.drew
      generalize hX : ustep 0 x = X at *
      have HX := Lib.hid hX
      have hm := wrap_mulN X (turnB 1#64)
      clear hX
      go_wp2
      refine wp_region_still_tail 7 (by kernel_rfl) (by kernel_rfl) ?_
      simp only [List.take_succ_cons, List.take_zero, List.drop_succ_cons, List.drop_zero]
      change UW w B C X { heap := wr.heap, tape := wr.tape, drawn := wr.drawn + 1, os := wr.os, output := wr.output } at hD
      generalize ({ heap := wr.heap, tape := wr.tape, drawn := wr.drawn + 1, os := wr.os, output := wr.output } : World) = wd at *
      have HU := Lib.hid hD
      obtain ⟨a1, a2, a3, a4, a5, a6, a7, a8, a9, a10, a11, a12⟩ := hD
      repeat still_step
      still_call (turned1 _)
      repeat still_step
      refine wpStill_nil ?_
      clear hU
      have HS := Lib.hid (HU.out.set (X * turnB 1#64))
      go_wp2_with (go_at_call 36; refine (back31 B (X * turnB 1#64) _ HS.out.cell HS.out.free).mono ?_; rintro e w3 ⟨rfl, rfl⟩)
      refine ⟨⟨1, by omega, rfl, ?_⟩, by simp [intOf]⟩
      have hl := HS.out.set (ux 31 (X * turnB 1#64))
      rw [← HX.out] at hl ⊢
      exact hl
    · have hD := hU.drew
      generalize hX : ustep 1 x = X at *
      have HX := Lib.hid hX
      have hm := wrap_mulN X (turnB C2)
      clear hX
      go_wp2
      refine wp_region_still_tail 7 (by kernel_rfl) (by kernel_rfl) ?_
      simp only [List.take_succ_cons, List.take_zero, List.drop_succ_cons, List.drop_zero]
      change UW w B C X { heap := wr.heap, tape := wr.tape, drawn := wr.drawn + 1, os := wr.os, output := wr.output } at hD
      generalize ({ heap := wr.heap, tape := wr.tape, drawn := wr.drawn + 1, os := wr.os, output := wr.output } : World) = wd at *
      have HU := Lib.hid hD
      obtain ⟨a1, a2, a3, a4, a5, a6, a7, a8, a9, a10, a11, a12⟩ := hD
      repeat still_step
      still_call (turned2 _)
      repeat still_step
      refine wpStill_nil ?_
      clear hU
      have HS := Lib.hid (HU.out.set (X * turnB C2))
      go_wp2_with (go_at_call 36; refine (back27 B (X * turnB C2) _ HS.out.cell HS.out.free).mono ?_; rintro e w3 ⟨rfl, rfl⟩)
      refine ⟨⟨2, by omega, rfl, ?_⟩, by simp [intOf]⟩
      have hl := HS.out.set (ux 27 (X * turnB C2))
      rw [← HX.out] at hl ⊢
      exact hl
    · have hD := hU.drew
      generalize hX : ustep 2 x = X at *
      have HX := Lib.hid hX
      have hm := wrap_mulN X (turnB C1)
      clear hX
      go_wp2
      refine wp_region_still_tail 7 (by kernel_rfl) (by kernel_rfl) ?_
      simp only [List.take_succ_cons, List.take_zero, List.drop_succ_cons, List.drop_zero]
      change UW w B C X { heap := wr.heap, tape := wr.tape, drawn := wr.drawn + 1, os := wr.os, output := wr.output } at hD
      generalize ({ heap := wr.heap, tape := wr.tape, drawn := wr.drawn + 1, os := wr.os, output := wr.output } : World) = wd at *
      have HU := Lib.hid hD
      obtain ⟨a1, a2, a3, a4, a5, a6, a7, a8, a9, a10, a11, a12⟩ := hD
      repeat still_step
      still_call (turned3 _)
      repeat still_step
      refine wpStill_nil ?_
      clear hU
      have HS := Lib.hid (HU.out.set (X * turnB C1))
      go_wp2_with (go_at_call 36; refine (back30 B (X * turnB C1) _ HS.out.cell HS.out.free).mono ?_; rintro e w3 ⟨rfl, rfl⟩)
      refine ⟨⟨3, by omega, rfl, ?_⟩, by simp [intOf]⟩
      have hl := HS.out.set (ux 30 (X * turnB C1))
      rw [← HX.out] at hl ⊢
      exact hl
    · obtain ⟨a1, a2, a3, a4, a5, a6, a7, a8, a9, a10, a11, a12⟩ := hU
      generalize hX : ustep 3 x = X at *
      have HX := Lib.hid hX
      clear hX
      go_wp2
      go_ret
      refine ⟨ret_u64s ?_, a12⟩
      rw [← HX.out, ustep_end]; unfold unmixI; rw [bv_nv]
end Go.Proofs.Ytgcfopallncnlab
