/-
  The walks of grid.Plus, Minus. Conditions: none beyond those stated at each theorem.
-/
import Derived.Test.YtcfmipgdhhogcaaGrdJ
namespace Go.Proofs.Ytcfmipgdhhogcaa
open Go.RowKit
set_option linter.unusedVariables false
set_option linter.unusedSimpArgs false

set_option maxRecDepth 100000 in
set_option maxHeartbeats 2000000 in
theorem all_nil (w : World) (G F : Nat) :
    Calls Try.prog 51 #[.agg #[.pointer (some ⟨G, 0, none⟩), .func (Fn.func F) #[] #[]], .pointer none] w (AllNo w 5) := by
  go_enter Try.func51, Try.ntmps51
  go_wp2_with fail
  have hbel : Below w.heap.size w (w.alloc (.cells #[.pointer (some ⟨G, 0, none⟩), .func (Fn.func F) #[] #[]] 89)) := (Below.refl _ _).alloc (Nat.le_refl _) _
  generalize (w.alloc (.cells #[.pointer (some ⟨G, 0, none⟩), .func (Fn.func F) #[] #[]] 89)) = wz at *
  have HB := Lib.hid hbel
  clear hbel
  go_quiet (fail)
  go_wp2
  go_ret
  exact ⟨rfl, below_drewN HB.out nq⟩

set_option maxRecDepth 100000 in
set_option maxHeartbeats 4000000 in
theorem all_unlike (F : Nat) (w : World) (G C H D R W R' W' : Nat) (zs hs : List Int) (hg : GridIs w G C R W zs) (hh : GridIs w H D R' W' hs) (hne : ¬ (R = R' ∧ W = W')) :
    Calls Try.prog 51 #[.agg #[.pointer (some ⟨G, 0, none⟩), .func (Fn.func F) #[] #[]], .pointer (some ⟨H, 0, none⟩)] w (AllNo w 5) := by
  obtain ⟨cg, hgb, hgc⟩ := hg.fields
  obtain ⟨ch, hhb, hhc⟩ := hh.fields
  have HGB := Lib.hid hgb
  have HHB := Lib.hid hhb
  clear hg hh hgb hhb
  go_enter Try.func51, Try.ntmps51
  go_wp2_with fail
  obtain ⟨ga, hbel, hsz⟩ := news1 w (.cells #[.pointer (some ⟨G, 0, none⟩), .func (Fn.func F) #[] #[]] 89)
  have hj : Blk _ w.heap.size 89 #[.pointer (some ⟨G, 0, none⟩), .func (Fn.func F) #[] #[]] := ga
  have hg1 := HGB.out.kept hbel
  have hh1 := HHB.out.kept hbel
  clear ga
  generalize (w.alloc (.cells #[.pointer (some ⟨G, 0, none⟩), .func (Fn.func F) #[] #[]] 89)) = wz at *
  have j0 := hj.cell 0
  have g0 := hg1.cell 0
  have g1 := hg1.cell 1
  have h0 := hh1.cell 0
  have h1 := hh1.cell 1
  simp at j0 g0 g1 h0 h1
  have HB := Lib.hid hbel
  clear hj hbel hg1 hh1
  by_cases hr : (R' : Int) = (R : Int)
  · have hw : ¬ (W' : Int) = (W : Int) := by omega
    have d1 : ((R' : Int) != (R : Int)) = false := by simp [hr]
    have d2 : ((W' : Int) != (W : Int)) = true := by simpa using hw
    clear hr hw hne
    go_quiet (fail)
    go_wp2
    go_ret
    exact ⟨rfl, below_drewN HB.out nq⟩
  · have d1 : ((R' : Int) != (R : Int)) = true := by simpa using hr
    clear hr hne
    go_quiet (fail)
    go_wp2
    go_ret
    exact ⟨rfl, below_drewN HB.out nq⟩

theorem gplus_yes (w : World) (G C H D R W : Nat) (zs hs : List Int) (hg : GridIs w G C R W zs) (hh : GridIs w H D R W hs) (hfit : Fit (List.zipWith (fun a b => a + b) zs hs)) : Calls Try.prog 39 #[.pointer (some ⟨G, 0, none⟩), .pointer (some ⟨H, 0, none⟩)] w (AllYes w G C R W (List.zipWith (fun a b => a + b) zs hs)) := by
  have HC := all_yes_plus (fun a b => a + b) opok_plus w G C H D R W zs hs hg hh hfit
  go_enter Try.func39, Try.ntmps39
  go_wp2_with (go_at_call 51; refine HC.mono ?_; clear HC; intro e w1 H1; obtain ⟨rfl, h2⟩ := H1; have H2 := Lib.hid h2; clear h2)
  go_ret
  exact ⟨rfl, H2.out⟩

theorem gplus_no (w : World) (G C H D R W : Nat) (zs hs : List Int) (hg : GridIs w G C R W zs) (hh : GridIs w H D R W hs) (hfit : ¬ Fit (List.zipWith (fun a b => a + b) zs hs)) : Calls Try.prog 39 #[.pointer (some ⟨G, 0, none⟩), .pointer (some ⟨H, 0, none⟩)] w (AllNo w 4) := by
  have HC := all_no_plus (fun a b => a + b) opok_plus w G C H D R W zs hs hg hh hfit
  go_enter Try.func39, Try.ntmps39
  go_wp2_with (go_at_call 51; refine HC.mono ?_; clear HC; intro e w1 H1; obtain ⟨rfl, h2⟩ := H1; have H2 := Lib.hid h2; clear h2)
  go_ret
  exact ⟨rfl, H2.out⟩

theorem gplus_unlike (w : World) (G C H D R W R' W' : Nat) (zs hs : List Int) (hg : GridIs w G C R W zs) (hh : GridIs w H D R' W' hs) (hne : ¬ (R = R' ∧ W = W')) : Calls Try.prog 39 #[.pointer (some ⟨G, 0, none⟩), .pointer (some ⟨H, 0, none⟩)] w (AllNo w 5) := by
  have HC := all_unlike 41 w G C H D R W R' W' zs hs hg hh hne
  go_enter Try.func39, Try.ntmps39
  go_wp2_with (go_at_call 51; refine HC.mono ?_; clear HC; intro e w1 H1; obtain ⟨rfl, h2⟩ := H1; have H2 := Lib.hid h2; clear h2)
  go_ret
  exact ⟨rfl, H2.out⟩

theorem gplus_nil (w : World) (G : Nat) : Calls Try.prog 39 #[.pointer (some ⟨G, 0, none⟩), .pointer none] w (AllNo w 5) := by
  have HC := all_nil w G 41
  go_enter Try.func39, Try.ntmps39
  go_wp2_with (go_at_call 51; refine HC.mono ?_; clear HC; intro e w1 H1; obtain ⟨rfl, h2⟩ := H1; have H2 := Lib.hid h2; clear h2)
  go_ret
  exact ⟨rfl, H2.out⟩

theorem gminus_yes (w : World) (G C H D R W : Nat) (zs hs : List Int) (hg : GridIs w G C R W zs) (hh : GridIs w H D R W hs) (hfit : Fit (List.zipWith (fun a b => a - b) zs hs)) : Calls Try.prog 40 #[.pointer (some ⟨G, 0, none⟩), .pointer (some ⟨H, 0, none⟩)] w (AllYes w G C R W (List.zipWith (fun a b => a - b) zs hs)) := by
  have HC := all_yes_minus (fun a b => a - b) opok_minus w G C H D R W zs hs hg hh hfit
  go_enter Try.func40, Try.ntmps40
  go_wp2_with (go_at_call 51; refine HC.mono ?_; clear HC; intro e w1 H1; obtain ⟨rfl, h2⟩ := H1; have H2 := Lib.hid h2; clear h2)
  go_ret
  exact ⟨rfl, H2.out⟩

theorem gminus_no (w : World) (G C H D R W : Nat) (zs hs : List Int) (hg : GridIs w G C R W zs) (hh : GridIs w H D R W hs) (hfit : ¬ Fit (List.zipWith (fun a b => a - b) zs hs)) : Calls Try.prog 40 #[.pointer (some ⟨G, 0, none⟩), .pointer (some ⟨H, 0, none⟩)] w (AllNo w 4) := by
  have HC := all_no_minus (fun a b => a - b) opok_minus w G C H D R W zs hs hg hh hfit
  go_enter Try.func40, Try.ntmps40
  go_wp2_with (go_at_call 51; refine HC.mono ?_; clear HC; intro e w1 H1; obtain ⟨rfl, h2⟩ := H1; have H2 := Lib.hid h2; clear h2)
  go_ret
  exact ⟨rfl, H2.out⟩

theorem gminus_unlike (w : World) (G C H D R W R' W' : Nat) (zs hs : List Int) (hg : GridIs w G C R W zs) (hh : GridIs w H D R' W' hs) (hne : ¬ (R = R' ∧ W = W')) : Calls Try.prog 40 #[.pointer (some ⟨G, 0, none⟩), .pointer (some ⟨H, 0, none⟩)] w (AllNo w 5) := by
  have HC := all_unlike 52 w G C H D R W R' W' zs hs hg hh hne
  go_enter Try.func40, Try.ntmps40
  go_wp2_with (go_at_call 51; refine HC.mono ?_; clear HC; intro e w1 H1; obtain ⟨rfl, h2⟩ := H1; have H2 := Lib.hid h2; clear h2)
  go_ret
  exact ⟨rfl, H2.out⟩

theorem gminus_nil (w : World) (G : Nat) : Calls Try.prog 40 #[.pointer (some ⟨G, 0, none⟩), .pointer none] w (AllNo w 5) := by
  have HC := all_nil w G 52
  go_enter Try.func40, Try.ntmps40
  go_wp2_with (go_at_call 51; refine HC.mono ?_; clear HC; intro e w1 H1; obtain ⟨rfl, h2⟩ := H1; have H2 := Lib.hid h2; clear h2)
  go_ret
  exact ⟨rfl, H2.out⟩
end Go.Proofs.Ytcfmipgdhhogcaa
