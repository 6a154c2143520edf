/-
  Rows of integers in memory: how a slice reads, and the references' comparison of two rows. Conditions: none beyond those stated at each theorem.
-/
import Derived.Test.YtbghchgmoiniiaaMem
import Derived.Test.YtbghchgmoiniiaaProg
import Derived.Outline
import Derived.WalkSmall
import Derived.Deep.OwnRows
import Derived.OwnWalk
import Derived.Maps.AppendAt
import Derived.Deep.QuietTactic
import Derived.BigQuiet
namespace Go.Proofs.Ytbghchgmoiniiaa
open Go.RowKit
set_option linter.unusedVariables false
set_option linter.unusedSimpArgs false

/-- the slice v holds just the numbers zs -/
def IntsAt (w : World) (v : Value) (zs : List Int) : Prop :=
  ∃ (ao : Option Addr) (cap : Nat), v = .slice ao zs.length cap ∧ zs.length ≤ cap ∧ (0 < zs.length → ∃ g, ao = some ⟨g, 0, none⟩ ∧ g < w.heap.size ∧ ∀ i u, zs[i]? = some u → w.cell? ⟨g, i, none⟩ = some (.int .i64 u))
theorem IntsAt.kept {w w' : World} {v : Value} {zs : List Int} (h : IntsAt w v zs) (hb : Below w.heap.size w w') : IntsAt w' v zs := by
  obtain ⟨ao, cap, e, hc, h⟩ := h
  refine ⟨ao, cap, e, hc, fun h0 => ?_⟩
  obtain ⟨g, e2, hg, hc⟩ := h h0
  exact ⟨g, e2, Nat.lt_of_lt_of_le hg hb.size, fun i u hu => (hb.cell (p := ⟨g, i, none⟩) hg).trans (hc i u hu)⟩
theorem IntsAt.drewN {w : World} {v : Value} {zs : List Int} (h : IntsAt w v zs) (n : Nat) : IntsAt (w.drewN n) v zs := h.kept (below_drewN (Below.refl _ _) n)
theorem IntsAt.of_row {w : World} {g : Nat} {t : TypeId} {n : Nat} {f : Nat → Int} (h : w.rowIs g t n (fun i => .int .i64 (f i))) : IntsAt w (.slice (some ⟨g, 0, none⟩) n n) ((List.range n).map f) := by
  refine ⟨some ⟨g, 0, none⟩, n, by simp, by simp, fun _ => ⟨g, rfl, h.lt, fun i u hu => ?_⟩⟩
  have hi : i < n := by
    have := (List.getElem?_eq_some_iff.1 hu).1
    simpa using this
  rw [h.cell hi]
  simp [hi] at hu
  rw [hu]
theorem IntsAt.of_own {w : World} {base : Nat} {e : TypeId} {v : Value} {n : Nat} {zs : List Int} (h : w.ownsRow base e 1 v n (zs.map (Value.int .i64))) (hn : zs.length = n) : IntsAt w v zs := by
  rcases h.2 with ⟨rfl, h0⟩ | ⟨g, cap, cur, rfl, hb, hg, hnc, hcm, hsz, htake⟩
  · subst h0
    exact ⟨none, 0, by rw [hn], by omega, fun h => by omega⟩
  · refine ⟨some ⟨g, 0, none⟩, cap, by rw [hn], by omega, fun _ => ⟨g, rfl, (Array.getElem?_eq_some_iff.1 hg).1, fun i u hu => ?_⟩⟩
    have hi : i < n := by
      have := (List.getElem?_eq_some_iff.1 hu).1
      omega
    rw [cell_of_row w g i cur e (0, 0) hg]
    have h2 : (cur.toList.take (n * 1))[i]? = (zs.map (Value.int .i64))[i]? := by rw [htake]
    rw [List.getElem?_take, if_pos (by omega)] at h2
    simp only [List.getElem?_map, hu, Option.map_some] at h2
    simpa using h2

theorem take_eq_succ {xs ys : List Int} {j : Nat} {u : Int} (h : xs.take j = ys.take j) (hx : xs[j]? = some u) (hy : ys[j]? = some u) : xs.take (j + 1) = ys.take (j + 1) := by
  rw [List.take_add_one, List.take_add_one, h, hx, hy]

def SamePost (w : World) (xs ys : List Int) (e : Ending) (w' : World) : Prop := e = .returned (.bool (decide (xs = ys))) ∧ Below w.heap.size w w'
theorem ret_boolq {a b : Bool} (h : a = b) : Ending.returned (.bool a) = .returned (.bool b) := by rw [h]

theorem same06_any (va vb : Value) (xs ys : List Int) (w : World) (ha : IntsAt w va xs) (hb : IntsAt w vb ys) (hx : xs.length ≤ 9223372036854775807) (hy : ys.length ≤ 9223372036854775807) :
    Calls Try.prog 31 #[va, vb] w (SamePost w xs ys) := by
  have HA := Lib.hid ha
  have HB := Lib.hid hb
  obtain ⟨ao, ca, rfl, hca, ha⟩ := ha
  obtain ⟨bo, cb, rfl, hcb, hb⟩ := hb
  clear ha hb
  by_cases hl : xs.length = ys.length
  · have e0 : ((xs.length : Int) != (ys.length : Int)) = false := by simp [hl]
    have HL := Lib.hid hl
    clear hl
    go_enter Try.func31, Try.ntmps31
    go_wp2
    go_loopw [5] (fun i wr => ∃ j : Nat, j ≤ xs.length ∧ i = .int .i64 (j : Int) ∧ xs.take j = ys.take j ∧ IntsAt wr (.slice ao xs.length ca) xs ∧ IntsAt wr (.slice bo ys.length cb) ys ∧ Below w.heap.size w wr) (fun i _ => xs.length - (intOf i).toNat)
    case atStart => exact ⟨0, by omega, rfl, by simp, HA.out, HB.out, Below.refl _ _⟩
    case round =>
      obtain ⟨j, hj, rfl, ht, ia, ib, hbel⟩ := hrel
      have HT := Lib.hid ht
      have IA := Lib.hid ia
      have IB := Lib.hid ib
      have HBL := Lib.hid hbel
      clear ht hbel
      by_cases hlt : j < xs.length
      · obtain ⟨ao', ca', ea, _, ha⟩ := ia
        obtain ⟨bo', cb', eb, _, hb⟩ := ib
        simp only [Value.slice.injEq] at ea eb
        obtain ⟨rfl, _, rfl⟩ := ea
        obtain ⟨rfl, _, rfl⟩ := eb
        have hly : j < ys.length := by have := HL.out; omega
        obtain ⟨ga, rfl, _, ha⟩ := ha (by omega)
        obtain ⟨gb, rfl, _, hb⟩ := hb (by omega)
        have hxj : xs[j]? = some xs[j] := List.getElem?_eq_getElem hlt
        have hyj : ys[j]? = some ys[j] := List.getElem?_eq_getElem hly
        have ca := ha j _ hxj
        have cb := hb j _ hyj
        have HX := Lib.hid hxj
        have HY := Lib.hid hyj
        clear ha hb hxj hyj
        have ji : (j : Int) < (xs.length : Int) := by omega
        have ji2 : (j : Int) < (ys.length : Int) := by omega
        have j0 : (0 : Int) ≤ (j : Int) := by omega
        generalize xs[j] = X at *
        generalize ys[j] = Y at *
        by_cases e : X = Y
        · subst e
          have HS := Lib.hid (take_eq_succ HT.out HX.out HY.out)
          go_wp2_with fail
          go_quiet (fail)
          go_wp2
          go_roundw
          case rel => exact ⟨j + 1, by omega, by go_num, HS.out, IA.out.drewN _, IB.out.drewN _, below_drewN HBL.out _⟩
          case measure => simp [intOf]; omega
        · have e1 : (X != Y) = true := by simp [e]
          have HE : Hid (false = decide (xs = ys)) := Lib.hid (by
            symm; apply decide_eq_false; intro h
            have h1 := HX.out
            rw [h, HY.out] at h1
            exact e (Option.some.inj h1).symm)
          clear e
          go_wp2_with fail
          go_quiet (fail)
          go_wp2
          go_ret
          exact ⟨ret_boolq HE.out, below_drewN HBL.out _⟩
      · have HE : Hid (true = decide (xs = ys)) := Lib.hid (by
          symm; apply decide_eq_true
          have h1 := HT.out
          have h2 := HL.out
          rw [List.take_of_length_le (by omega), List.take_of_length_le (by omega)] at h1
          exact h1)
        have hge : xs.length ≤ j := by omega
        go_wp2
        go_ret
        exact ⟨ret_boolq HE.out, HBL.out⟩
  · have e0 : ((xs.length : Int) != (ys.length : Int)) = true := by simp; omega
    have HE : Hid (false = decide (xs = ys)) := Lib.hid (by symm; apply decide_eq_false; intro h; exact hl (by rw [h]))
    clear hl
    go_enter Try.func31, Try.ntmps31
    go_wp2
    go_ret
    exact ⟨ret_boolq HE.out, Below.refl _ _⟩

end Go.Proofs.Ytbghchgmoiniiaa
