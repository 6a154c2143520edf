/-
  The walks of gaugerref08.Same and gaugerlaw09.own. Conditions: none beyond those stated at each theorem.
-/
import Derived.Test.YtcinlcbmjboaaaaConD
namespace Go.Proofs.Ytcinlcbmjboaaaa
open Go.RowKit
set_option linter.unusedVariables false
set_option linter.unusedSimpArgs false

theorem same08_any (va vb : Value) (xs ys : List Int) (w : World) (ha : IntsAt w va xs) (hb : IntsAt w vb ys) (hx : xs.length ≤ 9223372036854775807) (hy : ys.length ≤ 9223372036854775807) :
    Calls Try.prog 20 #[va, vb] w (SamePost w xs ys) := by
  have HA := Lib.hid ha
  have HB := Lib.hid hb
  obtain ⟨ao, ca, rfl, hca, ha⟩ := ha
  obtain ⟨bo, cb, rfl, hcb, hb⟩ := hb
  clear ha hb
  by_cases hl : xs.length = ys.length
  · have e0 : ((xs.length : Int) != (ys.length : Int)) = false := by simp [hl]
    have HL := Lib.hid hl
    clear hl
    go_enter Try.func20, Try.ntmps20
    go_wp2
    go_loopw [5] (fun i wr => ∃ j : Nat, j ≤ xs.length ∧ i = .int .i64 (j : Int) ∧ xs.take j = ys.take j ∧ IntsAt wr (.slice ao xs.length ca) xs ∧ IntsAt wr (.slice bo ys.length cb) ys ∧ Below w.heap.size w wr) (fun i _ => xs.length - (intOf i).toNat)
    case atStart => exact ⟨0, by omega, rfl, by simp, HA.out, HB.out, Below.refl _ _⟩
    case round =>
      obtain ⟨j, hj, rfl, ht, ia, ib, hbel⟩ := hrel
      have HT := Lib.hid ht
      have IA := Lib.hid ia
      have IB := Lib.hid ib
      have HBL := Lib.hid hbel
      clear ht hbel
      by_cases hlt : j < xs.length
      · obtain ⟨ao', ca', ea, _, ha⟩ := ia
        obtain ⟨bo', cb', eb, _, hb⟩ := ib
        simp only [Value.slice.injEq] at ea eb
        obtain ⟨rfl, _, rfl⟩ := ea
        obtain ⟨rfl, _, rfl⟩ := eb
        have hly : j < ys.length := by have := HL.out; omega
        obtain ⟨ga, rfl, _, ha⟩ := ha (by omega)
        obtain ⟨gb, rfl, _, hb⟩ := hb (by omega)
        have hxj : xs[j]? = some xs[j] := List.getElem?_eq_getElem hlt
        have hyj : ys[j]? = some ys[j] := List.getElem?_eq_getElem hly
        have ca := ha j _ hxj
        have cb := hb j _ hyj
        have HX := Lib.hid hxj
        have HY := Lib.hid hyj
        clear ha hb hxj hyj
        have ji : (j : Int) < (xs.length : Int) := by omega
        have ji2 : (j : Int) < (ys.length : Int) := by omega
        have j0 : (0 : Int) ≤ (j : Int) := by omega
        generalize xs[j] = X at *
        generalize ys[j] = Y at *
        by_cases e : X = Y
        · subst e
          have HS := Lib.hid (take_eq_succ HT.out HX.out HY.out)
          go_wp2_with fail
          go_quiet (fail)
          go_wp2
          go_roundw
          case rel => exact ⟨j + 1, by omega, by go_num, HS.out, IA.out.drewN _, IB.out.drewN _, below_drewN HBL.out _⟩
          case measure => simp [intOf]; omega
        · have e1 : (X != Y) = true := by simp [e]
          have HE : Hid (false = decide (xs = ys)) := Lib.hid (by
            symm; apply decide_eq_false; intro h
            have h1 := HX.out
            rw [h, HY.out] at h1
            exact e (Option.some.inj h1).symm)
          clear e
          go_wp2_with fail
          go_quiet (fail)
          go_wp2
          go_ret
          exact ⟨ret_boolq HE.out, below_drewN HBL.out _⟩
      · have HE : Hid (true = decide (xs = ys)) := Lib.hid (by
          symm; apply decide_eq_true
          have h1 := HT.out
          have h2 := HL.out
          rw [List.take_of_length_le (by omega), List.take_of_length_le (by omega)] at h1
          exact h1)
        have hge : xs.length ≤ j := by omega
        go_wp2
        go_ret
        exact ⟨ret_boolq HE.out, HBL.out⟩
  · have e0 : ((xs.length : Int) != (ys.length : Int)) = true := by simp; omega
    have HE : Hid (false = decide (xs = ys)) := Lib.hid (by symm; apply decide_eq_false; intro h; exact hl (by rw [h]))
    clear hl
    go_enter Try.func20, Try.ntmps20
    go_wp2
    go_ret
    exact ⟨ret_boolq HE.out, Below.refl _ _⟩



/-- a slice of rows of integers, as it reads -/
def RowsAt (w : World) (v : Value) (ms : List (List Int)) : Prop := ∃ (ao : Option Addr) (cap : Nat), v = .slice ao ms.length cap ∧ ∀ (i : Nat) (m : List Int), ms[i]? = some m → ∃ g vi, ao = some ⟨g, 0, none⟩ ∧ w.cell? ⟨g, i, none⟩ = some vi ∧ RowI w vi m
theorem AllAt.reads {w : World} {base : Nat} {v : Value} {vs : List Value} {ms : List (List Int)} (h : AllAt w base v vs ms) : RowsAt w v ms := h.cell
theorem RowsAt.kept {w w' : World} {v : Value} {ms : List (List Int)} (h : RowsAt w v ms) (hb : Below w.heap.size w w') : RowsAt w' v ms := by
  obtain ⟨ao, cap, e, h⟩ := h
  refine ⟨ao, cap, e, fun i m hm => ?_⟩
  obtain ⟨g, vi, e2, hc, hr⟩ := h i m hm
  exact ⟨g, vi, e2, (hb.cell (p := ⟨g, i, none⟩) (cell_block hc)).trans hc, hr.kept hb⟩
def ownAll (R W : Nat) (cs : Nat → List Int) (dz : Nat → Int) (K : List Int) (j : Nat) : Int := sumTo j fun i => if cutZ (cs i) R W = K then dz i else 0

set_option maxRecDepth 100000 in
set_option maxHeartbeats 4000000 in
theorem own09 (r c : Int) (l va vk : Value) (n m R W : Nat) (cs : Nat → List Int) (ds : Nat → Int) (K : List Int) (w : World) (hl : StepsAt w l n cs ds) (hm : m ≤ n) (hm60 : m ≤ 60) (hR : R ≤ 8)
    (hva : RowsAt w va ((List.range m).map fun i => cutZ (cs i) R W)) (hvk : RowI w vk K) (hK : K.length ≤ 1000) :
    Calls Try.prog 41 #[.agg #[.int .i64 r, .int .i64 c, l], va, vk] w fun e w' => e = .returned (.int .i64 (ownAll R W cs (fun i => plainZ true (ds i)) K m)) ∧ Below w.heap.size w w' := by
  obtain ⟨aa, ca, rfl, hrows⟩ := hva
  have hml : ((List.range m).map fun i => cutZ (cs i) R W).length = m := by simp
  have HROWS : Hid (∀ i, i < m → ∃ g vi, aa = some ⟨g, 0, none⟩ ∧ w.cell? ⟨g, i, none⟩ = some vi ∧ RowI w vi (cutZ (cs i) R W)) := Lib.hid (fun i hi => hrows i _ (by simp [hi]))
  rw [hml]
  clear hml hrows
  have HVK := Lib.hid hvk
  obtain ⟨gk, ck, curk, rfl, -⟩ := hvk
  generalize hkl : K.length = nk at *
  have HKL := Lib.hid hkl
  clear hkl
  have HL := Lib.hid hl
  obtain ⟨ao, cap, rfl, hmx, hd64, hcells⟩ := hl
  have HCL := Lib.hid hcells
  clear hcells hd64
  obtain ⟨fo, hfo⟩ : ∃ fo, fo = fun i => if cutZ (cs i) R W = K then plainZ true (ds i) else 0 := ⟨_, rfl⟩
  have HFB : Hid (∀ i, 0 ≤ fo i ∧ fo i ≤ 1099511627775) := Lib.hid (fun i => by
    have h1 := plainZ_bd true (ds i); have h2 := plainZ_nn (ds i)
    rw [hfo]
    show 0 ≤ (if cutZ (cs i) R W = K then plainZ true (ds i) else 0) ∧ (if cutZ (cs i) R W = K then plainZ true (ds i) else 0) ≤ 1099511627775
    by_cases h : cutZ (cs i) R W = K
    · rw [if_pos h]; omega
    · rw [if_neg h]; omega)
  unfold ownAll
  rw [← hfo]
  have HFO : Hid (∀ i, fo i = if cutZ (cs i) R W = K then plainZ true (ds i) else 0) := Lib.hid (fun i => by rw [hfo])
  clear hfo
  go_enter Try.func41, Try.ntmps41
  go_wp2_with fail
  obtain ⟨g1, hb1, hsz1⟩ := news1 w (.cells #[.int .i64 r, .int .i64 c, .slice ao n cap] 63)
  have hx1 : Blk (w.alloc (.cells #[.int .i64 r, .int .i64 c, .slice ao n cap] 63)) w.heap.size 63 #[.int .i64 r, .int .i64 c, .slice ao n cap] := g1
  clear g1
  have HB1 := Lib.hid hb1
  have HX1 := Lib.hid hx1
  have hs1 : w.heap.size + 1 ≤ (w.alloc (.cells #[.int .i64 r, .int .i64 c, .slice ao n cap] 63)).heap.size := by omega
  generalize (w.alloc (.cells #[.int .i64 r, .int .i64 c, .slice ao n cap] 63)) = wz at *
  clear hb1 hx1 hsz1
  go_loopw [7, 8] (fun s i wr => ∃ j : Nat, j ≤ m ∧ i = .int .i64 (j : Int) ∧ s = .int .i64 (sumTo j fo) ∧ Blk wr w.heap.size 63 #[.int .i64 r, .int .i64 c, .slice ao n cap] ∧ Below w.heap.size w wr ∧ w.heap.size + 1 ≤ wr.heap.size) (fun _ i _ => m - (intOf i).toNat)
  case atStart => exact ⟨0, by omega, rfl, rfl, HX1.out, HB1.out, hs1⟩
  case round =>
    obtain ⟨j, hj, rfl, rfl, hx, hbel, hsz⟩ := hrel
    clear HX1 HB1 hs1
    have HX := Lib.hid hx
    have HB := Lib.hid hbel
    have q2 := hx.cell 2
    simp at q2
    clear hx hbel
    have hbd := sumTo_bd (n := j) (f := fo) (B := 1099511627775) (fun i _ => by have := HFB.out i; omega)
    have HNX : Hid (sumTo (j + 1) fo = sumTo j fo + fo j) := rfl
    by_cases hlt : j < m
    · obtain ⟨ga, vj, rfl, hcj, hrj⟩ := HROWS.out j hlt
      have cj := (HB.out.cell (p := ⟨ga, j, none⟩) (cell_block hcj)).trans hcj
      obtain ⟨b, off, rfl, hbl, hc⟩ := HCL.out (by omega)
      have cd := (HB.out.cell (p := ⟨b, off + j * 2 + 1, none⟩) hbl).trans (hc j (by omega)).2
      have hRJ := hrj.kept HB.out
      have hRK := HVK.out.kept HB.out
      have PSM := same08_any vj _ (cutZ (cs j) R W) K wr hRJ.ints hRK.ints (by rw [cutZ_len]; omega) (by rw [HKL.out]; omega)
      obtain ⟨gj, cpj, curj, rfl, -⟩ := hrj
      rw [cutZ_len] at cj PSM
      have PS := Lib.hid (fun w => plain09 (ds j) w)
      have hpb := plainZ_bd true (ds j)
      have hfj := HFO.out j
      have HFJ := Lib.hid hfj
      have i0 : (0 : Int) ≤ (j : Int) := by omega
      have i1 : (j : Int) < (n : Int) := by omega
      have i2 : (j : Int) < (m : Int) := by omega
      clear hc hcj hRJ hRK hfj
      by_cases heq : cutZ (cs j) R W = K
      · have HE : Hid (sumTo (j + 1) fo = sumTo j fo + plainZ true (ds j)) := Lib.hid (by rw [HNX.out, HFJ.out, if_pos heq])
        rw [show SamePost wr (cutZ (cs j) R W) K = fun e w' => e = .returned (.bool true) ∧ Below wr.heap.size wr w' from by unfold SamePost; simp [heq]] at PSM
        clear heq
        generalize plainZ true (ds j) = dd at *
        generalize ds j = dj at *
        generalize hS : sumTo j fo = S at *
        have HS := Lib.hid hS
        clear hS
        have ew : wrap64 (S + dd) = S + dd := by unfold wrap64; omega
        go_wp2_with fail
        with_reducible refine PSM.mono ?_
        clear PSM; rintro e w6 ⟨rfl, hb6⟩
        have hx6 := HX.out.kept hb6
        have q2 := hx6.cell 2
        simp at q2
        have cd := (hb6.cell (p := ⟨b, off + j * 2 + 1, none⟩) (by show b < _; omega)).trans cd
        have HX6 := Lib.hid hx6
        have HB6 := Lib.hid (HB.out.trans (hb6.mono (by omega)))
        have hs6 : w.heap.size + 1 ≤ w6.heap.size := by have := hb6.size; omega
        clear hb6 hx6
        go_wp2_with (go_at_call 55; refine (PS.out _).mono ?_; rintro e w' ⟨rfl, hw'⟩; subst hw')
        go_roundw
        case rel => exact ⟨j + 1, by omega, by go_num, by rw [HE.out], HX6.out, HB6.out, hs6⟩
        case measure => simp [intOf]; omega
      · have HE : Hid (sumTo (j + 1) fo = sumTo j fo) := Lib.hid (by rw [HNX.out, HFJ.out, if_neg heq]; omega)
        rw [show SamePost wr (cutZ (cs j) R W) K = fun e w' => e = .returned (.bool false) ∧ Below wr.heap.size wr w' from by unfold SamePost; simp [heq]] at PSM
        clear heq
        go_wp2_with fail
        with_reducible refine PSM.mono ?_
        clear PSM; rintro e w6 ⟨rfl, hb6⟩
        have HX6 := Lib.hid (HX.out.kept hb6)
        have HB6 := Lib.hid (HB.out.trans (hb6.mono (by omega)))
        have hs6 : w.heap.size + 1 ≤ w6.heap.size := by have := hb6.size; omega
        clear hb6
        go_wp2
        go_roundw
        case rel => exact ⟨j + 1, by omega, by go_num, by rw [HE.out], HX6.out, HB6.out, hs6⟩
        case measure => simp [intOf]; omega
    · obtain rfl : j = m := by omega
      go_wp2
      go_ret
      exact ⟨rfl, HB.out⟩
end Go.Proofs.Ytcinlcbmjboaaaa
