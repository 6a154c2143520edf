/-
  Rows of numbers written one behind the other; the walk of varint.PutRow. Conditions: none beyond those stated at each theorem.
-/
import Derived.Test.YtbghchgmoiniiaaVarY
import Derived.Laws.EntriesVeiled
namespace Go.Proofs.Ytbghchgmoiniiaa
open Go.RowKit
set_option linter.unusedVariables false
set_option linter.unusedSimpArgs false

/-- the bytes of a row of numbers -/
def rowB (zs : List Int) : List Int := zs.flatMap fun z => putN (zigI z)
theorem rowB_nil : rowB [] = [] := rfl
theorem rowB_cons (z : Int) (zs : List Int) : rowB (z :: zs) = putN (zigI z) ++ rowB zs := by simp [rowB]
theorem rowB_append (a b : List Int) : rowB (a ++ b) = rowB a ++ rowB b := by simp [rowB]
theorem rowB_snoc (zs : List Int) (z : Int) : rowB (zs ++ [z]) = rowB zs ++ putN (zigI z) := by rw [rowB_append, rowB_cons, rowB_nil, List.append_nil]
theorem rowB_byts (zs : List Int) : Byts (rowB zs) := by
  induction zs with
  | nil => exact Byts.nil
  | cons z zs ih => rw [rowB_cons]; exact (putN_byts _).append ih
theorem rowB_ge (zs : List Int) : zs.length ≤ (rowB zs).length := by
  induction zs with
  | nil => simp
  | cons z zs ih => rw [rowB_cons, List.length_append, List.length_cons]; have := putN_pos (zigI z); omega
theorem rowB_le (zs : List Int) (h : Fit zs) : (rowB zs).length ≤ 10 * zs.length := by
  induction zs with
  | nil => simp [rowB]
  | cons z zs ih =>
    rw [rowB_cons, List.length_append, List.length_cons]
    have := putN_len10 (zig_lt (h z (by simp)))
    have := ih (fun u hu => h u (by simp [hu]))
    omega
theorem Fit.take {zs : List Int} (h : Fit zs) (n : Nat) : Fit (zs.take n) := fun u hu => h u (List.mem_of_mem_take hu)
theorem rowB_take {zs : List Int} {j : Nat} (h : j < zs.length) : rowB (zs.take (j + 1)) = rowB (zs.take j) ++ putN (zigI (cellD zs j)) := by
  have e : zs[j]? = some (cellD zs j) := by simp [cellD, h]
  rw [List.take_add_one, e, ← rowB_snoc]; rfl
theorem IntsAt.cell {w : World} {ao : Option Addr} {n cap : Nat} {zs : List Int} (h : IntsAt w (.slice ao n cap) zs) {j : Nat} (hj : j < zs.length) : ∃ g, ao = some ⟨g, 0, none⟩ ∧ g < w.heap.size ∧ w.cell? ⟨g, j, none⟩ = some (.int .i64 (cellD zs j)) := by
  obtain ⟨ao2, cap2, e, h1, h2⟩ := h
  simp only [Value.slice.injEq] at e
  obtain ⟨rfl, -, rfl⟩ := e
  obtain ⟨g, rfl, hg, hc⟩ := h2 (by omega)
  exact ⟨g, rfl, hg, hc j _ (by simp [cellD, hj])⟩
theorem OwnB.far {w : World} {base : Nat} {v : Value} {bs : List Int} {g : Nat} {t : TypeId} {cs : Array Value} (h : OwnB w base v bs) (hb : Blk w g t cs) (ht : t ≠ 5) : some g ≠ v.ownBlock := by
  intro e
  rcases h.2 with ⟨rfl, -⟩ | ⟨g2, cap, cur, rfl, -, e3, -⟩
  · simp [Value.ownBlock] at e
  · simp [Value.ownBlock] at e
    subst e
    exact (hb.ne_ (show Blk w g 5 cur from e3) ht) rfl
theorem OwnB.open2 {w : World} {base : Nat} {v : Value} {bs : List Int} (h : OwnB w base v bs) : ∃ ao n cap, v = .slice ao n cap := by
  obtain ⟨ao, cap, e, -⟩ := h.at
  exact ⟨ao, _, cap, e⟩
set_option maxRecDepth 100000 in
set_option maxHeartbeats 8000000 in
theorem putrow_any (w : World) (v vl : Value) (bs zs : List Int) (hv : BytesAt w v bs) (hz : IntsAt w vl zs) (hf : Fit zs) (hl : bs.length ≤ 100000) (hl2 : zs.length ≤ 100000) :
    Calls Try.prog 38 #[v, vl] w (PostC w (bs ++ rowB zs)) := by
  have HZ := Lib.hid hz
  have HF := Lib.hid hf
  have PC := Lib.hid (bclone_any w v bs hv (by omega))
  obtain ⟨ao, cap, rfl, hcap, -⟩ := hz
  obtain ⟨n, hn⟩ : ∃ n, n = zs.length := ⟨_, rfl⟩
  have HN := Lib.hid hn
  rw [← hn] at hcap hl2 ⊢
  clear hn hf hv
  go_enter Try.func38, Try.ntmps38
  go_wp2_with fail
  with_reducible refine PC.out.mono ?_
  rintro e w2 ⟨v2, rfl, ho2, hb2⟩
  obtain ⟨ao2, cap2, rfl, hcap2, -⟩ := ho2.open_
  have HO2 := Lib.hid ho2
  have HB2 := Lib.hid hb2
  clear ho2 hb2 PC
  go_wp2_with fail
  have HWB := Lib.hid (Blk.new w2 107 #[.slice ao2 bs.length cap2, .func (.func 53) #[] #[]])
  have HO3 := Lib.hid (HO2.out.kept ((Below.refl _ _).alloc (Nat.le_refl _) (.cells #[.slice ao2 bs.length cap2, .func (.func 53) #[] #[]] 107)))
  have HB3 := Lib.hid (HB2.out.alloc HB2.out.size (.cells #[.slice ao2 bs.length cap2, .func (.func 53) #[] #[]] 107))
  have HWL : Hid (w.heap.size ≤ w2.heap.size) := Lib.hid HB2.out.size
  clear HO2 HB2
  generalize w2.alloc (.cells #[.slice ao2 bs.length cap2, .func (.func 53) #[] #[]] 107) = w3 at *
  generalize w2.heap.size = WB at *
  go_loopw [14] (fun i wr => ∃ (j : Nat) (x : Value), j ≤ n ∧ i = .int .i64 (j : Int) ∧ Blk wr WB 107 #[x, .func (.func 53) #[] #[]] ∧ OwnB wr w.heap.size x (bs ++ rowB (zs.take j)) ∧ Below w.heap.size w wr) (fun i _ => n - (intOf i).toNat)
  case atStart => exact ⟨0, _, by omega, rfl, HWB.out, by simpa [rowB] using HO3.out, HB3.out⟩
  case round =>
    obtain ⟨j, x, hj, rfl, hwb, ho, hbel⟩ := hrel
    obtain ⟨ao5, ql, cap5, rfl⟩ := ho.open2
    have HW5 := Lib.hid hwb
    have HO5 := Lib.hid ho
    have HB5 := Lib.hid hbel
    clear hwb ho hbel HWB HO3 HB3
    by_cases hlt : j < n
    · have hjz : j < zs.length := by have := HN.out; omega
      obtain ⟨g, rfl, hg, cx⟩ := (HZ.out.kept HB5.out).cell hjz
      have HNX := Lib.hid (rowB_take hjz)
      have hzf := HF.out (cellD zs j) (List.mem_of_getElem? (by simp [cellD, hjz] : zs[j]? = some (cellD zs j)))
      have HLE : Hid ((bs ++ rowB (zs.take j)).length ≤ 100000000) := Lib.hid (by
        rw [List.length_append]
        have := rowB_le _ (HF.out.take j)
        have h2 : (zs.take j).length ≤ n := by have := HN.out; simp; omega
        omega)
      generalize cellD zs j = z at *
      have PZ := Lib.hid (fun w => zig_any z w hzf)
      have hzl := zig_lt hzf
      have HQ := Lib.hid (fun wq (h1 : OwnB wq w.heap.size (.slice ao5 ql cap5) (bs ++ rowB (zs.take j))) (h2 : w.heap.size ≤ wq.heap.size) => putc_any wq w.heap.size _ _ (zigI z) h1 h2 hzl HLE.out)
      have i0 : (0 : Int) ≤ (j : Int) := by omega
      have i1 : (j : Int) < (n : Int) := by omega
      generalize zigI z = q at *
      clear hjz hzf hzl
      go_wp2_with fail
      refine wp_region_still_tail 6 (by kernel_rfl) (by kernel_rfl) ?_
      simp only [List.take_succ_cons, List.take_zero, List.drop_succ_cons, List.drop_zero]
      have HW6 : Hid (Blk { heap := wr.heap, tape := wr.tape, drawn := wr.drawn + 1, os := wr.os, output := wr.output } WB 107 #[.slice ao5 ql cap5, .func (.func 53) #[] #[]]) := Lib.hid (HW5.out.drewN 1)
      have HB6 : Hid (Below w.heap.size w { heap := wr.heap, tape := wr.tape, drawn := wr.drawn + 1, os := wr.os, output := wr.output }) := Lib.hid (below_drewN HB5.out 1)
      have HO6 : Hid (OwnB { heap := wr.heap, tape := wr.tape, drawn := wr.drawn + 1, os := wr.os, output := wr.output } w.heap.size (.slice ao5 ql cap5) (bs ++ rowB (zs.take j))) := Lib.hid (HO5.out.kept (below_drewN (Below.refl _ _) 1))
      generalize ({ heap := wr.heap, tape := wr.tape, drawn := wr.drawn + 1, os := wr.os, output := wr.output } : World) = wd at *
      have c0 := HW6.out.cell 0
      have c1 := HW6.out.cell 1
      simp at c0 c1
      repeat still_step
      still_call (PZ.out _ |>.mono fun e w' ⟨p, q⟩ => ⟨p, q.symm⟩)
      repeat still_step
      refine wpStill_nil ?_
      clear c0 c1
      go_wp2_with fail
      with_reducible refine (HQ.out _ HO6.out HB6.out.size).mono ?_
      rintro e w7 ⟨v7, rfl, ho7, hg7, hq7⟩
      obtain ⟨ao7, n7, cap7, rfl⟩ := ho7.open2
      have HW7 := Lib.hid (HW6.out.grown hg7 (HO6.out.far HW6.out (by decide)))
      have HB7 : Hid (Below w.heap.size w w7) := Lib.hid (HB6.out.grown hg7 HB6.out.size (fun k e => (HO6.out.lt k e).1))
      have HF7 := Lib.hid (ho7.far HW7.out (by decide))
      have HO7 := Lib.hid ho7
      have HEQ : Hid (bs ++ rowB (zs.take (j + 1)) = bs ++ rowB (zs.take j) ++ putN q) := Lib.hid (by rw [HNX.out, List.append_assoc])
      clear ho7 hg7 hq7 HO6 HW6 HB6
      have c0 := HW7.out.cell 0
      have f0 := HW7.out.frozen 0
      simp at c0
      go_wp2
      go_roundw
      case rel => exact ⟨j + 1, _, by omega, by go_num, by simpa using HW7.out.set_ 0 _, by rw [HEQ.out]; exact World.ownsRow.kept HO7.out (grown_set _ WB 0 _) (.inr (Ne.symm HF7.out)), HB7.out.setCell HWL.out _⟩
      case measure => simp [intOf]; omega
    · obtain rfl : j = n := by omega
      have HT : Hid (zs.take j = zs) := Lib.hid (List.take_of_length_le (by have := HN.out; omega))
      have HO9 : Hid (OwnB wr w.heap.size (.slice ao5 ql cap5) (bs ++ rowB zs)) := Lib.hid (by have := HO5.out; rwa [HT.out] at this)
      have c0 := HW5.out.cell 0
      simp at c0
      clear hlt HO5 HW5
      go_wp2
      go_ret
      exact ⟨_, rfl, HO9.out, HB5.out⟩
end Go.Proofs.Ytbghchgmoiniiaa
