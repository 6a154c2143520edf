/-
  The walks of wire.cells and wire.Size. Conditions: none beyond those stated at each theorem.
-/
import Derived.Test.YtbghchgmoiniiaaStl
namespace Go.Proofs.Ytbghchgmoiniiaa
open Go.RowKit
set_option linter.unusedVariables false
set_option linter.unusedSimpArgs false

/-- how many cells the levels below one have -/
def sizeUp (b r d m : Int) : Nat → Nat
  | 0 => 0
  | j + 1 => sizeUp b r d m j + cellsN b r d m (j : Int)
def sizeN (b r d m : Int) : Nat := if rightB b r d m = true then sizeUp b r d m (b.toNat + 1) else 0
theorem sizeUp_le {b r d m : Int} (hr : rightB b r d m = true) (j : Nat) : sizeUp b r d m j ≤ 1024 * j := by
  induction j with
  | zero => simp [sizeUp]
  | succ j ih => rw [sizeUp]; have := cellsN_le (l := (j : Int)) hr; omega
theorem sizeN_le (b r d m : Int) : sizeN b r d m ≤ 61440 := by
  unfold sizeN
  split
  · rename_i h
    have := sizeUp_le h (b.toNat + 1)
    have := right_of h
    omega
  · omega
set_option maxRecDepth 100000 in
set_option maxHeartbeats 4000000 in
theorem wcells_any (b r d m s l : Int) (hr : rightB b r d m = true) (w : World) :
    Calls Try.prog 24 #[.agg #[.int .i64 b, .int .i64 r, .int .i64 d, .int .i64 m, .int .u64 s], .int .i64 l] w fun e w' => e = .returned (.int .i64 (cellsN b r d m l : Int)) ∧ Below w.heap.size w w' := by
  have PE := fun w => exact_any b r d m s l w
  have PK := Lib.hid (fun w => keys_any b r d m s l w)
  have hR := right_of hr
  have hkb := keysI_bd b r d m l
  obtain ⟨g1, hb1, hsz1⟩ := news1 w (.cells #[.int .i64 b, .int .i64 r, .int .i64 d, .int .i64 m, .int .u64 s] 36)
  have hx1 : Blk _ w.heap.size 36 #[.int .i64 b, .int .i64 r, .int .i64 d, .int .i64 m, .int .u64 s] := g1
  have HB1 := Lib.hid hb1
  have HX1 := Lib.hid hx1
  clear g1 hb1 hsz1
  cases he : exactB b r d m l
  · rw [he] at PE
    have PE := Lib.hid PE
    obtain ⟨n, hn⟩ : ∃ n, n = cellsN b r d m l := ⟨_, rfl⟩
    have HCN : Hid (n = r.toNat * d.toNat) := Lib.hid (by rw [hn]; unfold cellsN; rw [he]; simp)
    rw [← hn]
    have hp : (r.toNat : Int) * (d.toNat : Int) = (n : Int) := by rw [HCN.out]; exact (Int.natCast_mul ..).symm
    rw [show (r.toNat : Int) = r by omega, show (d.toNat : Int) = d by omega] at hp
    have hle : n ≤ 1024 := by rw [HCN.out]; exact Nat.mul_le_mul (show r.toNat ≤ 8 by omega) (show d.toNat ≤ 128 by omega)
    have hw : IntKind.i64.wrap (n : Int) = (n : Int) := by rw [wrapI_eq64]; unfold wrap64; omega
    clear he hr hn hR hkb
    go_enter Try.func24, Try.ntmps24
    go_wp2_with (refine wpList_load_row rfl 36 _ rfl w.heap.size rfl 36 _ (0, 0) _ hx1 Try.underlying36 rfl (by kernel_rfl) ?_)
    with_reducible refine (PE.out _).mono ?_
    rintro e w2 ⟨rfl, hb⟩
    have HB2 := Lib.hid (btr HB1.out hb)
    have hx2 := HX1.out.kept hb
    have q1 := hx2.cell 1
    have q2 := hx2.cell 2
    simp at q1 q2
    clear hb hx1 hx2
    go_wp2
    go_ret
    exact ⟨congrArg (fun z => Ending.returned (.int .i64 z)) (by omega), HB2.out⟩
  · rw [he] at PE
    have PE := Lib.hid PE
    obtain ⟨n, hn⟩ : ∃ n, n = cellsN b r d m l := ⟨_, rfl⟩
    have HCN : Hid (keysI b r d m l = (n : Int)) := Lib.hid (by rw [hn]; unfold cellsN; rw [he]; simp; omega)
    rw [← hn]
    have hkd := of_decide_eq_true he
    rw [HCN.out] at PK hkd
    have hw : IntKind.i64.wrap (n : Int) = (n : Int) := by rw [wrapI_eq64]; unfold wrap64; omega
    clear he hr hn hR hkb hkd
    go_enter Try.func24, Try.ntmps24
    go_wp2_with (refine wpList_load_row rfl 36 _ rfl w.heap.size rfl 36 _ (0, 0) _ hx1 Try.underlying36 rfl (by kernel_rfl) ?_)
    with_reducible refine (PE.out _).mono ?_
    rintro e w2 ⟨rfl, hb⟩
    have HB2 := Lib.hid (btr HB1.out hb)
    have HX2 := Lib.hid (HX1.out.kept hb)
    clear hb hx1
    go_wp2_with (refine wpList_load_row rfl 36 _ rfl w.heap.size rfl 36 _ (0, 0) _ HX2.out Try.underlying36 rfl (by kernel_rfl) ?_)
    with_reducible refine (PK.out _).mono ?_
    rintro e w3 ⟨rfl, hb⟩
    have HB3 := Lib.hid (btr HB2.out hb)
    clear hb
    go_wp2
    go_ret
    exact ⟨rfl, HB3.out⟩
set_option maxRecDepth 100000 in
set_option maxHeartbeats 4000000 in
theorem wsize_any (b r d m s : Int) (w : World) :
    Calls Try.prog 11 #[.agg #[.int .i64 b, .int .i64 r, .int .i64 d, .int .i64 m, .int .u64 s]] w fun e w' => e = .returned (.int .i64 (sizeN b r d m : Int)) ∧ Below w.heap.size w w' := by
  have PR := fun w => right_any b r d m s w
  obtain ⟨g1, hb1, hsz1⟩ := news1 w (.cells #[.int .i64 b, .int .i64 r, .int .i64 d, .int .i64 m, .int .u64 s] 36)
  have hx1 : Blk _ w.heap.size 36 #[.int .i64 b, .int .i64 r, .int .i64 d, .int .i64 m, .int .u64 s] := g1
  have HB1 := Lib.hid hb1
  have HX1 := Lib.hid hx1
  clear g1 hb1 hsz1
  cases hr : rightB b r d m
  · rw [hr] at PR
    have PR := Lib.hid PR
    have HN : Hid (sizeN b r d m = 0) := Lib.hid (by unfold sizeN; rw [hr]; rfl)
    rw [HN.out]
    clear hr
    go_enter Try.func11, Try.ntmps11
    go_wp2_with (refine wpList_load_row rfl 36 _ rfl w.heap.size rfl 36 _ (0, 0) _ hx1 Try.underlying36 rfl (by kernel_rfl) ?_)
    with_reducible refine (PR.out _).mono ?_
    rintro e w2 ⟨rfl, hb⟩
    have HB2 := Lib.hid (btr HB1.out hb)
    clear hb
    go_wp2
    go_ret
    exact ⟨rfl, HB2.out⟩
  · rw [hr] at PR
    have PR := Lib.hid PR
    have PC := Lib.hid (fun (j : Nat) w => wcells_any b r d m s (j : Int) hr w)
    have hR := right_of hr
    obtain ⟨n, hn⟩ : ∃ n : Nat, b = (n : Int) := ⟨b.toNat, by omega⟩
    subst hn
    have HN : Hid (sizeN (n : Int) r d m = sizeUp (n : Int) r d m (n + 1)) := Lib.hid (by unfold sizeN; rw [if_pos hr]; rfl)
    have HLE := Lib.hid (fun j => sizeUp_le hr j)
    have HCL := Lib.hid (fun (j : Nat) => cellsN_le (l := (j : Int)) hr)
    rw [HN.out]
    have hn59 : n ≤ 59 := by omega
    clear hr hR
    go_enter Try.func11, Try.ntmps11
    go_wp2_with (refine wpList_load_row rfl 36 _ rfl w.heap.size rfl 36 _ (0, 0) _ hx1 Try.underlying36 rfl (by kernel_rfl) ?_)
    with_reducible refine (PR.out _).mono ?_
    rintro e w2 ⟨rfl, hb⟩
    have HB2 := Lib.hid (btr HB1.out hb)
    have HX2 := Lib.hid (HX1.out.kept hb)
    have q0 := HX2.out.cell 0
    simp at q0
    clear hb hx1
    go_wp2_with fail
    clear q0
    go_loopw [3, 11] (fun y i wr => ∃ j : Nat, j ≤ n + 1 ∧ i = .int .i64 (j : Int) ∧ y = .int .i64 (sizeUp (n : Int) r d m j : Int) ∧ Blk wr w.heap.size 36 #[.int .i64 (n : Int), .int .i64 r, .int .i64 d, .int .i64 m, .int .u64 s] ∧ Below w.heap.size w wr) (fun _ i _ => n + 1 - (intOf i).toNat)
    case atStart => exact ⟨0, by omega, rfl, rfl, HX2.out, HB2.out⟩
    case round =>
      obtain ⟨j, hj, rfl, rfl, hx, hbel⟩ := hrel
      have HX := Lib.hid hx
      have HBL := Lib.hid hbel
      clear hx hbel HX2 HB2
      by_cases hlt : j < n + 1
      · have PC2 := Lib.hid (PC.out j)
        have HSU : Hid (sizeUp (n : Int) r d m (j + 1) = sizeUp (n : Int) r d m j + cellsN (n : Int) r d m (j : Int)) := Lib.hid rfl
        have hc := HCL.out j
        have hz := HLE.out j
        generalize cellsN (n : Int) r d m (j : Int) = cn at *
        generalize sizeUp (n : Int) r d m j = su at *
        go_wp2_with (refine wpList_load_row rfl 36 _ rfl w.heap.size rfl 36 _ (0, 0) _ HX.out Try.underlying36 rfl (by kernel_rfl) ?_)
        with_reducible refine (PC2.out _).mono ?_
        rintro e w3 ⟨rfl, hb⟩
        have HX3 := Lib.hid (HX.out.kept hb)
        have HB3 := Lib.hid (btr HBL.out hb)
        clear hb
        go_wp2
        go_roundw
        case rel => exact ⟨j + 1, by omega, by go_num, by rw [HSU.out]; go_num, HX3.out, HB3.out⟩
        case measure => simp [intOf]; omega
      · obtain rfl : j = n + 1 := by omega
        have i1 : ¬ (((n + 1 : Nat) : Int) < (n : Int) + 1) := by omega
        clear hlt
        go_wp2
        go_ret
        exact ⟨rfl, HBL.out⟩
end Go.Proofs.Ytbghchgmoiniiaa
