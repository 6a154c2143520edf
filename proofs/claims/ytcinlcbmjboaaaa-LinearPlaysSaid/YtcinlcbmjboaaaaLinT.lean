/-
  The walks of linear.Least, Middle. Conditions: none beyond those stated at each theorem.
-/
import Derived.Test.YtcinlcbmjboaaaaLin
namespace Go.Proofs.Ytcinlcbmjboaaaa
open Go.RowKit
set_option linter.unusedVariables false
set_option linter.unusedSimpArgs false

def TellPost (w : World) (W : Nat) (zs cs : List Int) (k : Nat) (e : Ending) (w' : World) : Prop :=
  ∃ u, e = .returned (.tuple #[.int .i64 u, .int .i64 0]) ∧ IsKth (readZ W zs cs) k u ∧ Below w.heap.size w w'

set_option maxRecDepth 100000 in
theorem of_least (w : World) (G C R W : Nat) (zs cs : List Int) (v : Value) (h : GridIs w G C R W zs) (hv : IntsAt w v cs) (hm : meetB R W cs = true) :
    Calls Try.prog 45 #[.agg #[.func (Fn.func 44) #[] #[]], .pointer (some ⟨G, 0, none⟩), v] w (TellPost w W zs cs 0) := by
  obtain ⟨h0R, hlR, hcol⟩ := meetB_of hm
  have hR8 := h.rows
  have HK := Lib.hid (box_kept (w := w) (cs := #[.func (Fn.func 44) #[] #[]]) (t := 81) (Below.refl _ _))
  have P1 := read_yes _ G C R W zs cs v (h.kept HK.out.2) (hv.kept HK.out.2) hm
  obtain ⟨ao, cap, rfl, hcap, hcells⟩ := hv
  clear hcells hcol h
  obtain ⟨n, hlen⟩ : ∃ n, n = cs.length := ⟨_, rfl⟩
  unfold ReadPost at P1
  rw [← hlen] at hcap hlR
  simp only [← hlen] at P1 ⊢
  have HLEN := Lib.hid hlen
  have h0n : 0 < n := by omega
  have hn8 : n ≤ 8 := by omega
  clear hlen hlR
  go_enter Try.func45, Try.ntmps45
  go_wp2_with (go_at_call 22; refine P1.mono ?_; rintro e w2 ⟨g, rfl, hg, hrow, hb⟩; have HROW := Lib.hid hrow; have HB := Lib.hid (HK.out.2.trans (hb.mono HK.out.2.size)); have hbx := HK.out.1.kept hb; have hbc := hbx.cell 0; simp at hbc; clear hrow hb hbx)
  have hints : IntsAt w2 (.slice (some ⟨g, 0, none⟩) n n) (readZ W zs cs) := by have := IntsAt.of_row HROW.out; rw [HLEN.out] at this ⊢; exact this
  have hrl : (readZ W zs cs).length = n := by rw [readZ, List.length_map, List.length_range, HLEN.out]
  have P2 := min_any _ _ w2 hints (by omega) (by omega)
  have HRL := Lib.hid hrl
  clear hrl hints
  go_wp2_with (go_at_call 44; refine P2.mono ?_; rintro e w3 ⟨u, rfl, hu, hb⟩; have HU := Lib.hid hu; have HB3 := Lib.hid (btr HB.out hb); clear hu hb)
  go_ret2
  exact ⟨u, rfl, by have := HU.out; first | exact this | (rw [HRL.out] at this; exact this), HB3.out⟩
theorem least_yes (w : World) (G C R W : Nat) (zs cs : List Int) (v : Value) (h : GridIs w G C R W zs) (hv : IntsAt w v cs) (hm : meetB R W cs = true) :
    Calls Try.prog 21 #[.pointer (some ⟨G, 0, none⟩), v] w (TellPost w W zs cs 0) := by
  have P1 := of_least w G C R W zs cs v h hv hm
  obtain ⟨ao, cap, rfl, hcap, hcells⟩ := hv
  clear hcells h
  go_enter Try.func21, Try.ntmps21
  go_wp2_with (go_at_call 45; refine P1.mono ?_; rintro e w2 ⟨u, rfl, hu, hb⟩; have HP : Hid (TellPost w W zs cs 0 (.returned (.tuple #[.int .i64 u, .int .i64 0])) w2) := ⟨u, rfl, hu, hb⟩; clear hu hb)
  go_ret2
  exact HP.out
set_option maxRecDepth 100000 in
theorem least_no (w : World) (G C R W : Nat) (zs cs : List Int) (v : Value) (h : GridIs w G C R W zs) (hv : IntsAt w v cs) (hl : cs.length ≤ 100000) (hm : meetB R W cs = false) :
    Calls Try.prog 21 #[.pointer (some ⟨G, 0, none⟩), v] w fun e w' => e = .returned (.tuple #[.int .i64 0, .int .i64 1]) ∧ Below w.heap.size w w' := by
  have HK := Lib.hid (box_kept (w := w) (cs := #[.func (Fn.func 44) #[] #[]]) (t := 81) (Below.refl _ _))
  have P0 := read_no _ G C R W zs cs v (h.kept HK.out.2) (hv.kept HK.out.2) hl hm
  obtain ⟨ao, cap, rfl, hcap, hcells⟩ := hv
  clear hcells h
  have P1 : Calls Try.prog 45 #[.agg #[.func (Fn.func 44) #[] #[]], .pointer (some ⟨G, 0, none⟩), .slice ao cs.length cap] w fun e w' => e = .returned (.tuple #[.int .i64 0, .int .i64 1]) ∧ Below w.heap.size w w' := by
    generalize cs.length = n at *
    go_enter Try.func45, Try.ntmps45
    go_wp2_with (go_at_call 22; refine P0.mono ?_; rintro e w2 ⟨rfl, hw2⟩; subst hw2)
    go_ret2
    exact ⟨rfl, HK.out.2⟩
  generalize cs.length = n at *
  go_enter Try.func21, Try.ntmps21
  go_wp2_with (go_at_call 45; refine P1.mono ?_; rintro e w2 ⟨rfl, hb⟩)
  go_ret2
  exact ⟨rfl, hb⟩

set_option maxRecDepth 100000 in
theorem of_middle (w : World) (G C R W : Nat) (zs cs : List Int) (v : Value) (h : GridIs w G C R W zs) (hv : IntsAt w v cs) (hm : meetB R W cs = true) :
    Calls Try.prog 45 #[.agg #[.func (Fn.func 47) #[] #[]], .pointer (some ⟨G, 0, none⟩), v] w (TellPost w W zs cs ((cs.length - 1) / 2)) := by
  obtain ⟨h0R, hlR, hcol⟩ := meetB_of hm
  have hR8 := h.rows
  have HK := Lib.hid (box_kept (w := w) (cs := #[.func (Fn.func 47) #[] #[]]) (t := 81) (Below.refl _ _))
  have P1 := read_yes _ G C R W zs cs v (h.kept HK.out.2) (hv.kept HK.out.2) hm
  obtain ⟨ao, cap, rfl, hcap, hcells⟩ := hv
  clear hcells hcol h
  obtain ⟨n, hlen⟩ : ∃ n, n = cs.length := ⟨_, rfl⟩
  unfold ReadPost at P1
  rw [← hlen] at hcap hlR
  simp only [← hlen] at P1 ⊢
  have HLEN := Lib.hid hlen
  have h0n : 0 < n := by omega
  have hn8 : n ≤ 8 := by omega
  clear hlen hlR
  go_enter Try.func45, Try.ntmps45
  go_wp2_with (go_at_call 22; refine P1.mono ?_; rintro e w2 ⟨g, rfl, hg, hrow, hb⟩; have HROW := Lib.hid hrow; have HB := Lib.hid (HK.out.2.trans (hb.mono HK.out.2.size)); have hbx := HK.out.1.kept hb; have hbc := hbx.cell 0; simp at hbc; clear hrow hb hbx)
  have hints : IntsAt w2 (.slice (some ⟨g, 0, none⟩) n n) (readZ W zs cs) := by have := IntsAt.of_row HROW.out; rw [HLEN.out] at this ⊢; exact this
  have hrl : (readZ W zs cs).length = n := by rw [readZ, List.length_map, List.length_range, HLEN.out]
  have P2 := median_any _ _ w2 hints (by omega) (by omega)
  have HRL := Lib.hid hrl
  clear hrl hints
  go_wp2_with (go_at_call 47; refine P2.mono ?_; rintro e w3 ⟨u, rfl, hu, hb⟩; have HU := Lib.hid hu; have HB3 := Lib.hid (btr HB.out hb); clear hu hb)
  go_ret2
  exact ⟨u, rfl, by have := HU.out; first | exact this | (rw [HRL.out] at this; exact this), HB3.out⟩
theorem middle_yes (w : World) (G C R W : Nat) (zs cs : List Int) (v : Value) (h : GridIs w G C R W zs) (hv : IntsAt w v cs) (hm : meetB R W cs = true) :
    Calls Try.prog 23 #[.pointer (some ⟨G, 0, none⟩), v] w (TellPost w W zs cs ((cs.length - 1) / 2)) := by
  have P1 := of_middle w G C R W zs cs v h hv hm
  obtain ⟨ao, cap, rfl, hcap, hcells⟩ := hv
  clear hcells h
  go_enter Try.func23, Try.ntmps23
  go_wp2_with (go_at_call 45; refine P1.mono ?_; rintro e w2 ⟨u, rfl, hu, hb⟩; have HP : Hid (TellPost w W zs cs ((cs.length - 1) / 2) (.returned (.tuple #[.int .i64 u, .int .i64 0])) w2) := ⟨u, rfl, hu, hb⟩; clear hu hb)
  go_ret2
  exact HP.out
set_option maxRecDepth 100000 in
theorem middle_no (w : World) (G C R W : Nat) (zs cs : List Int) (v : Value) (h : GridIs w G C R W zs) (hv : IntsAt w v cs) (hl : cs.length ≤ 100000) (hm : meetB R W cs = false) :
    Calls Try.prog 23 #[.pointer (some ⟨G, 0, none⟩), v] w fun e w' => e = .returned (.tuple #[.int .i64 0, .int .i64 1]) ∧ Below w.heap.size w w' := by
  have HK := Lib.hid (box_kept (w := w) (cs := #[.func (Fn.func 47) #[] #[]]) (t := 81) (Below.refl _ _))
  have P0 := read_no _ G C R W zs cs v (h.kept HK.out.2) (hv.kept HK.out.2) hl hm
  obtain ⟨ao, cap, rfl, hcap, hcells⟩ := hv
  clear hcells h
  have P1 : Calls Try.prog 45 #[.agg #[.func (Fn.func 47) #[] #[]], .pointer (some ⟨G, 0, none⟩), .slice ao cs.length cap] w fun e w' => e = .returned (.tuple #[.int .i64 0, .int .i64 1]) ∧ Below w.heap.size w w' := by
    generalize cs.length = n at *
    go_enter Try.func45, Try.ntmps45
    go_wp2_with (go_at_call 22; refine P0.mono ?_; rintro e w2 ⟨rfl, hw2⟩; subst hw2)
    go_ret2
    exact ⟨rfl, HK.out.2⟩
  generalize cs.length = n at *
  go_enter Try.func23, Try.ntmps23
  go_wp2_with (go_at_call 45; refine P1.mono ?_; rintro e w2 ⟨rfl, hb⟩)
  go_ret2
  exact ⟨rfl, hb⟩
end Go.Proofs.Ytcinlcbmjboaaaa
