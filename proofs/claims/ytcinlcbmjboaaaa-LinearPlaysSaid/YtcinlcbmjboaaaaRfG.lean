/-
  The walks of gaugerref05.Median, gaugerref08.Middle. Conditions: none beyond those stated at each theorem.
-/
import Derived.Test.YtcinlcbmjboaaaaRfF
import Derived.Test.YtcinlcbmjboaaaaRfD
namespace Go.Proofs.Ytcinlcbmjboaaaa
open Go.RowKit
set_option linter.unusedVariables false
set_option linter.unusedSimpArgs false

theorem rmedian_none (ao : Option Addr) (c : Nat) (w : World) :
    Calls Try.prog 52 #[.slice ao 0 c] w fun e w' => e = .returned (.tuple #[.int .i64 0, .bool false]) ∧ w = w' := by
  go_enter Try.func52, Try.ntmps52
  go_wp2
  go_ret2
  exact ⟨rfl, rfl⟩
set_option maxRecDepth 100000 in
set_option maxHeartbeats 4000000 in
theorem rmedian_any (v : Value) (zs : List Int) (w : World) (hv : IntsAt w v zs) (hk : 0 < zs.length) (hn : zs.length ≤ 1000) :
    Calls Try.prog 52 #[v] w fun e w' => ∃ u, e = .returned (.tuple #[.int .i64 u, .bool true]) ∧ IsKth zs ((zs.length - 1) / 2) u ∧ Below w.heap.size w w' := by
  have P1 := sorted_any v zs w hv hn
  unfold SortedPost at P1
  obtain ⟨ao, cap, rfl, hcap, hcells⟩ := hv
  clear hcells
  obtain ⟨n, hlen⟩ : ∃ n, n = zs.length := ⟨_, rfl⟩
  rw [← hlen] at hcap hk hn P1 ⊢
  have P1 := Lib.hid P1
  have HLEN := Lib.hid hlen
  clear hlen
  obtain ⟨q, hq⟩ : ∃ q, q = (n - 1) / 2 := ⟨_, rfl⟩
  rw [← hq]
  have d0 : ((n : Int) == 0) = false := by simp; omega
  have d1 : (n == 0) = false := by simp; omega
  have d2 : decide ((n : Int) = 0) = false := by simp; omega
  have d3 : decide (n = 0) = false := by simp; omega
  have e1 : wrap64 ((n : Int) - 1) = (n : Int) - 1 := by unfold wrap64; omega
  have e2 : Int.tdiv ((n : Int) - 1) 2 = (q : Int) := by rw [Int.tdiv_eq_ediv_of_nonneg (by omega)]; omega
  have e3 : ((n : Int) - 1) / 2 = (q : Int) := by omega
  have e4 : (0 : Int) ≤ (q : Int) := by omega
  have e5 : (q : Int) < (n : Int) := by omega
  have HQ : Hid (q < n) := Lib.hid (by omega)
  clear hq
  go_enter Try.func52, Try.ntmps52
  go_wp2_with fail
  with_reducible refine P1.out.mono ?_
  rintro e w2 ⟨g, cp, o, rfl, hcp, hi, hol, hso, hpo, hb⟩
  have HB := Lib.hid hb
  have HOL := Lib.hid hol
  have HSO := Lib.hid hso
  have HPO := Lib.hid hpo
  obtain ⟨ao3, cap3, e3', hcap3, hcells3⟩ := hi
  simp only [Value.slice.injEq] at e3'
  obtain ⟨rfl, -, rfl⟩ := e3'
  obtain ⟨g3, e3'', hg3, hc3⟩ := hcells3 (by have := HOL.out; omega)
  simp only [Option.some.injEq, Addr.mk.injEq] at e3''
  obtain ⟨rfl, -, -⟩ := e3''
  have HKU := Lib.hid (kth_perm HPO.out (sorted_kth HSO.out (k := q) (by have := HOL.out; have := HQ.out; omega)))
  have cx := hc3 q (cellD o q) (by have : q < o.length := by have := HOL.out; have := HQ.out; omega
                                   simp [cellD, this])
  clear hol hso hpo hb hc3 hcells3 hcap3 hg3 hcp
  generalize cellD o q = u at *
  go_wp2
  go_ret2
  exact ⟨u, rfl, HKU.out, HB.out⟩

theorem rmiddle_yes (w : World) (N G : Nat) (v : Value) (B K : Nat → Nat) (R W : Nat) (zs cs : List Int) (vc : Value) (h : RefIs w N G v B K R W zs) (hv : IntsAt w vc cs) (hm : meetB R W cs = true) :
    Calls Try.prog 30 #[.pointer (some ⟨G, 0, none⟩), vc] w (TellPost w W zs cs ((cs.length - 1) / 2)) := by
  obtain ⟨h0R, hlR, hcol⟩ := meetB_of hm
  have hR8 := h.rows
  have P1 := rread_yes w N G v B K R W zs cs vc h hv hm
  have hrl : (readZ W zs cs).length = cs.length := by rw [readZ, List.length_map, List.length_range]
  obtain ⟨ao, cap, rfl, hcap, hcells⟩ := hv
  clear hcells hcol h
  unfold RReadPost at P1
  obtain ⟨n, hlen⟩ : ∃ n, n = cs.length := ⟨_, rfl⟩
  rw [← hlen] at hcap hlR hrl P1 ⊢
  have hn0 : 0 < n := by omega
  have hn8 : n ≤ 8 := by omega
  have HRL := Lib.hid hrl
  have P1 := Lib.hid P1
  clear hlen hlR hrl
  go_enter Try.func30, Try.ntmps30
  go_wp2_with fail
  with_reducible refine P1.out.mono ?_
  rintro e w2 ⟨g, cp, rfl, hg, hi, hb⟩
  have HB := Lib.hid hb
  have P2 := Lib.hid (rmedian_any _ _ w2 hi (by have := HRL.out; omega) (by have := HRL.out; omega))
  clear hb hi
  go_wp2_with fail
  with_reducible refine P2.out.mono ?_
  rintro e w3 ⟨u, rfl, hu, hb⟩
  have HU := Lib.hid hu
  have HB3 := Lib.hid (btr HB.out hb)
  clear hu hb
  go_wp2
  go_ret2
  exact ⟨u, rfl, by have := HU.out; rwa [HRL.out] at this, HB3.out⟩
theorem rmiddle_no (w : World) (N G : Nat) (v : Value) (B K : Nat → Nat) (R W : Nat) (zs cs : List Int) (vc : Value) (h : RefIs w N G v B K R W zs) (hv : IntsAt w vc cs) (hl : cs.length ≤ 100000) (hm : meetB R W cs = false) :
    Calls Try.prog 30 #[.pointer (some ⟨G, 0, none⟩), vc] w fun e w' => e = .returned (.tuple #[.int .i64 0, .int .i64 1]) ∧ Below w.heap.size w w' := by
  have P1 := Lib.hid (rread_no w N G v B K R W zs cs vc h hv hl hm)
  obtain ⟨ao, cap, rfl, hcap, hcells⟩ := hv
  clear hcells h hcap hl
  generalize cs.length = n at *
  go_enter Try.func30, Try.ntmps30
  go_wp2_with fail
  with_reducible refine P1.out.mono ?_
  rintro e w2 ⟨g, rfl, hb⟩
  have HB := Lib.hid hb
  have P2 := Lib.hid (rmedian_none (some ⟨g, 0, none⟩) 0 w2)
  clear hb
  go_wp2_with fail
  with_reducible refine P2.out.mono ?_
  rintro e w3 ⟨rfl, hw3⟩
  subst hw3
  go_wp2
  go_ret2
  exact ⟨rfl, HB.out⟩

/-- what is told where columns meet, and where they do not -/
def TSpec (R W : Nat) (zs cs : List Int) (k : Nat) (u err : Int) : Prop :=
  (meetB R W cs = true ∧ err = 0 ∧ IsKth (readZ W zs cs) k u) ∨ (meetB R W cs = false ∧ err = 1 ∧ u = 0)
theorem TSpec.unique {R W : Nat} {zs cs : List Int} {k : Nat} {u1 e1 u2 e2 : Int} (h1 : TSpec R W zs cs k u1 e1) (h2 : TSpec R W zs cs k u2 e2) : u2 = u1 ∧ e2 = e1 := by
  rcases h1 with ⟨m1, rfl, k1⟩ | ⟨m1, rfl, rfl⟩ <;> rcases h2 with ⟨m2, rfl, k2⟩ | ⟨m2, rfl, rfl⟩
  · exact ⟨k2.unique k1, rfl⟩
  · rw [m1] at m2; cases m2
  · rw [m1] at m2; cases m2
  · exact ⟨rfl, rfl⟩
theorem least_all (w : World) (G C R W : Nat) (zs cs : List Int) (v : Value) (h : GridIs w G C R W zs) (hv : IntsAt w v cs) (hl : cs.length ≤ 100000) :
    Calls Try.prog 21 #[.pointer (some ⟨G, 0, none⟩), v] w fun e w' => ∃ u err, e = .returned (.tuple #[.int .i64 u, .int .i64 err]) ∧ TSpec R W zs cs 0 u err ∧ Below w.heap.size w w' := by
  cases hm : meetB R W cs with
  | false => exact (least_no w G C R W zs cs v h hv hl hm).mono fun e w' ⟨he, hb⟩ => ⟨0, 1, he, .inr ⟨hm, rfl, rfl⟩, hb⟩
  | true => exact (least_yes w G C R W zs cs v h hv hm).mono fun e w' ⟨u, he, hu, hb⟩ => ⟨u, 0, he, .inl ⟨hm, rfl, hu⟩, hb⟩
theorem middle_all (w : World) (G C R W : Nat) (zs cs : List Int) (v : Value) (h : GridIs w G C R W zs) (hv : IntsAt w v cs) (hl : cs.length ≤ 100000) :
    Calls Try.prog 23 #[.pointer (some ⟨G, 0, none⟩), v] w fun e w' => ∃ u err, e = .returned (.tuple #[.int .i64 u, .int .i64 err]) ∧ TSpec R W zs cs ((cs.length - 1) / 2) u err ∧ Below w.heap.size w w' := by
  cases hm : meetB R W cs with
  | false => exact (middle_no w G C R W zs cs v h hv hl hm).mono fun e w' ⟨he, hb⟩ => ⟨0, 1, he, .inr ⟨hm, rfl, rfl⟩, hb⟩
  | true => exact (middle_yes w G C R W zs cs v h hv hm).mono fun e w' ⟨u, he, hu, hb⟩ => ⟨u, 0, he, .inl ⟨hm, rfl, hu⟩, hb⟩
theorem rleast_all (w : World) (N G : Nat) (v : Value) (B K : Nat → Nat) (R W : Nat) (zs cs : List Int) (vc : Value) (h : RefIs w N G v B K R W zs) (hv : IntsAt w vc cs) (hl : cs.length ≤ 100000) :
    Calls Try.prog 29 #[.pointer (some ⟨G, 0, none⟩), vc] w fun e w' => ∃ u err, e = .returned (.tuple #[.int .i64 u, .int .i64 err]) ∧ TSpec R W zs cs 0 u err ∧ Below w.heap.size w w' := by
  cases hm : meetB R W cs with
  | false => exact (rleast_no w N G v B K R W zs cs vc h hv hl hm).mono fun e w' ⟨he, hb⟩ => ⟨0, 1, he, .inr ⟨hm, rfl, rfl⟩, hb⟩
  | true => exact (rleast_yes w N G v B K R W zs cs vc h hv hm).mono fun e w' ⟨u, he, hu, hb⟩ => ⟨u, 0, he, .inl ⟨hm, rfl, hu⟩, hb⟩
theorem rmiddle_all (w : World) (N G : Nat) (v : Value) (B K : Nat → Nat) (R W : Nat) (zs cs : List Int) (vc : Value) (h : RefIs w N G v B K R W zs) (hv : IntsAt w vc cs) (hl : cs.length ≤ 100000) :
    Calls Try.prog 30 #[.pointer (some ⟨G, 0, none⟩), vc] w fun e w' => ∃ u err, e = .returned (.tuple #[.int .i64 u, .int .i64 err]) ∧ TSpec R W zs cs ((cs.length - 1) / 2) u err ∧ Below w.heap.size w w' := by
  cases hm : meetB R W cs with
  | false => exact (rmiddle_no w N G v B K R W zs cs vc h hv hl hm).mono fun e w' ⟨he, hb⟩ => ⟨0, 1, he, .inr ⟨hm, rfl, rfl⟩, hb⟩
  | true => exact (rmiddle_yes w N G v B K R W zs cs vc h hv hm).mono fun e w' ⟨u, he, hu, hb⟩ => ⟨u, 0, he, .inl ⟨hm, rfl, hu⟩, hb⟩
/-- what Read answers -/
def rdL (R W : Nat) (zs cs : List Int) : List Int := if meetB R W cs then readZ W zs cs else []
def rdE (R W : Nat) (cs : List Int) : Int := if meetB R W cs then 0 else 1
theorem rdL_len {w : World} {G C R W : Nat} {zs cs : List Int} (h : GridIs w G C R W zs) : (rdL R W zs cs).length ≤ 8 := by
  unfold rdL
  split
  · rename_i hm
    obtain ⟨h0R, hlR, hcol⟩ := meetB_of hm
    have := h.rows
    rw [readZ, List.length_map, List.length_range]; omega
  · simp
theorem read_all (w : World) (G C R W : Nat) (zs cs : List Int) (v : Value) (h : GridIs w G C R W zs) (hv : IntsAt w v cs) (hl : cs.length ≤ 100000) :
    Calls Try.prog 22 #[.pointer (some ⟨G, 0, none⟩), v] w fun e w' => ∃ x, e = .returned (.tuple #[x, .int .i64 (rdE R W cs)]) ∧ IntsAt w' x (rdL R W zs cs) ∧ Below w.heap.size w w' := by
  unfold rdL rdE
  cases hm : meetB R W cs with
  | false => exact (read_no w G C R W zs cs v h hv hl hm).mono fun e w' ⟨he, hb⟩ => by subst hb; exact ⟨.slice none 0 0, he, ⟨none, 0, rfl, Nat.le_refl _, fun h => absurd h (by simp)⟩, Below.refl _ _⟩
  | true => exact (read_yes w G C R W zs cs v h hv hm).mono fun e w' ⟨g, he, hg, hr, hb⟩ => ⟨_, he, IntsAt.of_row hr, hb⟩
theorem rread_all (w : World) (N G : Nat) (v : Value) (B K : Nat → Nat) (R W : Nat) (zs cs : List Int) (vc : Value) (h : RefIs w N G v B K R W zs) (hv : IntsAt w vc cs) (hl : cs.length ≤ 100000) :
    Calls Try.prog 28 #[.pointer (some ⟨G, 0, none⟩), vc] w fun e w' => ∃ x, e = .returned (.tuple #[x, .int .i64 (rdE R W cs)]) ∧ IntsAt w' x (rdL R W zs cs) ∧ Below w.heap.size w w' := by
  unfold rdL rdE
  cases hm : meetB R W cs with
  | false => exact (rread_no w N G v B K R W zs cs vc h hv hl hm).mono fun e w' ⟨g, he, hb⟩ => ⟨.slice (some ⟨g, 0, none⟩) 0 0, he, ⟨_, 0, rfl, Nat.le_refl _, fun h => absurd h (by simp)⟩, hb⟩
  | true => exact (rread_yes w N G v B K R W zs cs vc h hv hm).mono fun e w' ⟨g, cap, he, hg, hr, hb⟩ => ⟨_, he, hr, hb⟩
end Go.Proofs.Ytcinlcbmjboaaaa
