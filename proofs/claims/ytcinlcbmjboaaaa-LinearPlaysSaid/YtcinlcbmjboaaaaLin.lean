/-
  The walks of linear.meet, Read, Least, Middle. Conditions: none beyond those stated at each theorem.
-/
import Derived.Test.YtcinlcbmjboaaaaOrdK
import Derived.Test.YtcinlcbmjboaaaaGrdJ
import Derived.Test.YtcinlcbmjboaaaaGrdN
namespace Go.Proofs.Ytcinlcbmjboaaaa
open Go.RowKit
set_option linter.unusedVariables false
set_option linter.unusedSimpArgs false

/-- do the columns name a cell of each row? -/
def meetB (R W : Nat) (cs : List Int) : Bool := decide (0 < R) && (decide (cs.length = R) && cs.all fun c => decide (0 ≤ c) && decide (c < (W : Int)))
def colN (cs : List Int) (r : Nat) : Nat := (cellD cs r).toNat
/-- the cells that the columns name -/
def readZ (W : Nat) (zs cs : List Int) : List Int := (List.range cs.length).map fun r => cellD zs (r * W + colN cs r)
theorem meetB_of {R W : Nat} {cs : List Int} (h : meetB R W cs = true) : 0 < R ∧ cs.length = R ∧ ∀ r, r < R → cs[r]? = some (colN cs r : Int) ∧ colN cs r < W := by
  simp only [meetB, Bool.and_eq_true, decide_eq_true_eq, List.all_eq_true] at h
  obtain ⟨h0, h1, h2⟩ := h
  refine ⟨h0, h1, fun r hr => ?_⟩
  have hl : r < cs.length := by omega
  have e : cellD cs r = cs[r] := by simp [cellD, hl]
  have := h2 cs[r] (List.getElem_mem hl)
  unfold colN
  rw [e, List.getElem?_eq_getElem hl]
  exact ⟨by rw [Int.toNat_of_nonneg (by omega)], by omega⟩
theorem meetB_zero {W : Nat} {cs : List Int} : meetB 0 W cs = false := by simp [meetB]
theorem meetB_len {R W : Nat} {cs : List Int} (h : cs.length ≠ R) : meetB R W cs = false := by simp [meetB, h]
theorem meetB_bad {R W : Nat} {cs : List Int} {j : Nat} {c : Int} (hc : cs[j]? = some c) (h : c < 0 ∨ (W : Int) ≤ c) : meetB R W cs = false := by
  cases hm : meetB R W cs with
  | false => rfl
  | true =>
    simp only [meetB, Bool.and_eq_true, decide_eq_true_eq, List.all_eq_true] at hm
    have := hm.2.2 c (List.mem_of_getElem? hc)
    omega
theorem meetB_all {R W : Nat} {cs : List Int} (h0 : 0 < R) (h1 : cs.length = R) (h2 : ∀ (j : Nat) (c : Int), cs[j]? = some c → 0 ≤ c ∧ c < (W : Int)) : meetB R W cs = true := by
  simp only [meetB, Bool.and_eq_true, decide_eq_true_eq, List.all_eq_true]
  refine ⟨h0, h1, fun c hc => ?_⟩
  obtain ⟨j, hj⟩ := List.getElem?_of_mem hc
  exact h2 j c hj

set_option maxRecDepth 100000 in
set_option maxHeartbeats 4000000 in
theorem meet_any (w : World) (G C R W : Nat) (zs cs : List Int) (v : Value) (h : GridIs w G C R W zs) (hv : IntsAt w v cs) (hl : cs.length ≤ 100000) :
    Calls Try.prog 46 #[.pointer (some ⟨G, 0, none⟩), v] w fun e w' => e = .returned (.bool (meetB R W cs)) ∧ w = w' := by
  have P1 := rows_any w G C R W zs h
  have P2 := width_any w G C R W zs h
  clear h
  obtain ⟨ao, cap, rfl, hcap, hcells⟩ := hv
  have HC := Lib.hid hcells
  clear hcells
  obtain ⟨n, hlen⟩ : ∃ n, n = cs.length := ⟨_, rfl⟩
  rw [← hlen] at hcap hl ⊢
  have HLEN := Lib.hid hlen
  clear hlen
  by_cases hR : R = 0
  · have HM : Hid (meetB R W cs = false) := Lib.hid (by rw [hR]; exact meetB_zero)
    have d0 : decide ((R : Int) < 1) = true := decide_eq_true (by omega)
    have d0' : decide (R < 1) = true := decide_eq_true (by omega)
    clear hR
    go_enter Try.func46, Try.ntmps46
    go_wp2_with (go_at_call 58; refine P1.mono ?_; rintro e w' ⟨rfl, rfl⟩)
    go_ret
    exact ⟨ret_boolq HM.out.symm, rfl⟩
  have d0 : decide ((R : Int) < 1) = false := decide_eq_false (by omega)
  have d0' : decide (R < 1) = false := decide_eq_false (by omega)
  by_cases hn : n = R
  · have HN := Lib.hid hn
    have d1 : ((n : Int) != (R : Int)) = false := by simp [hn]
    have d1' : (n != R) = false := by simp [hn]
    have h0R : 0 < R := by omega
    clear hn hR
    go_enter Try.func46, Try.ntmps46
    go_wp2_with (go_at_call 58; refine P1.mono ?_; rintro e w' ⟨rfl, rfl⟩)
    go_loop [23] (fun i => ∃ j : Nat, j ≤ n ∧ i = .int .i64 (j : Int) ∧ ∀ k c, k < j → cs[k]? = some c → 0 ≤ c ∧ c < (W : Int)) (fun i => n - (intOf i).toNat)
    case atStart => exact ⟨0, by omega, rfl, fun k c hk => by omega⟩
    case round =>
      obtain ⟨j, hj, rfl, hok⟩ := hrel
      have HOK := Lib.hid hok
      clear hok
      by_cases hlt : j < n
      · obtain ⟨g, rfl, hg, hc⟩ := HC.out (by have := HLEN.out; omega)
        have hcj : cs[j]? = some (cellD cs j) := by
          have : j < cs.length := by have := HLEN.out; omega
          simp [cellD, this]
        have cx := hc j _ hcj
        have HCJ := Lib.hid hcj
        clear hc hcj
        generalize cellD cs j = x at *
        by_cases h1 : x < 0
        · have HM : Hid (meetB R W cs = false) := Lib.hid (meetB_bad HCJ.out (.inl h1))
          have e1 : decide (x < 0) = true := decide_eq_true h1
          clear h1
          go_wp2_with (go_at_call 59; refine P2.mono ?_; rintro e w' ⟨rfl, rfl⟩)
          go_ret
          exact ⟨ret_boolq HM.out.symm, rfl⟩
        by_cases h2 : (W : Int) ≤ x
        · have HM : Hid (meetB R W cs = false) := Lib.hid (meetB_bad HCJ.out (.inr h2))
          have e1 : decide (x < 0) = false := decide_eq_false h1
          have e2 : decide ((W : Int) ≤ x) = true := decide_eq_true h2
          clear h1 h2
          go_wp2_with (go_at_call 59; refine P2.mono ?_; rintro e w' ⟨rfl, rfl⟩)
          go_ret
          exact ⟨ret_boolq HM.out.symm, rfl⟩
        have HX : Hid (∀ k c, k < j + 1 → cs[k]? = some c → 0 ≤ c ∧ c < (W : Int)) := Lib.hid (fun k c hk hc => by
          by_cases e : k = j
          · subst e; rw [HCJ.out] at hc; have := Option.some.inj hc; omega
          · exact HOK.out k c (by omega) hc)
        have e1 : decide (x < 0) = false := decide_eq_false h1
        have e2 : decide ((W : Int) ≤ x) = false := decide_eq_false h2
        clear h1 h2
        go_wp2_with (go_at_call 59; refine P2.mono ?_; rintro e w' ⟨rfl, rfl⟩)
        go_round
        case rel => exact ⟨j + 1, by omega, by go_num, HX.out⟩
        case measure => simp [intOf]; omega
      · obtain rfl : j = n := by omega
        have HM : Hid (meetB R W cs = true) := Lib.hid (meetB_all h0R (by rw [← HLEN.out, HN.out]) (fun k c hc => HOK.out k c (by
          have := (List.getElem?_eq_some_iff.1 hc).1
          have := HLEN.out
          omega) hc))
        go_wp2
        go_ret
        exact ⟨ret_boolq HM.out.symm, rfl⟩
  · have HM : Hid (meetB R W cs = false) := Lib.hid (meetB_len (by have := HLEN.out; omega))
    have d1 : ((n : Int) != (R : Int)) = true := by simp; omega
    have d1' : (n != R) = true := by simp; omega
    clear hn hR
    go_enter Try.func46, Try.ntmps46
    go_wp2_with (go_at_call 58; refine P1.mono ?_; rintro e w' ⟨rfl, rfl⟩)
    go_ret
    exact ⟨ret_boolq HM.out.symm, rfl⟩

def ReadPost (w : World) (W : Nat) (zs cs : List Int) (e : Ending) (w' : World) : Prop :=
  ∃ g, e = .returned (.tuple #[.slice (some ⟨g, 0, none⟩) cs.length cs.length, .int .i64 0]) ∧ w.heap.size ≤ g ∧ w'.rowIs g 2 cs.length (fun r => .int .i64 (cellD zs (r * W + colN cs r))) ∧ Below w.heap.size w w'

set_option maxRecDepth 100000 in
set_option maxHeartbeats 4000000 in
theorem read_yes (w : World) (G C R W : Nat) (zs cs : List Int) (v : Value) (h : GridIs w G C R W zs) (hv : IntsAt w v cs) (hm : meetB R W cs = true) :
    Calls Try.prog 22 #[.pointer (some ⟨G, 0, none⟩), v] w (ReadPost w W zs cs) := by
  have hRle := h.rows
  have P1 := fun hl => meet_any w G C R W zs cs v h hv hl
  obtain ⟨h0R, hlR, hcol⟩ := meetB_of hm
  rw [hm] at P1
  have HG := Lib.hid h
  have HV := Lib.hid hv
  have HCOL := Lib.hid hcol
  clear h hcol hm
  have P2 := P1 (by omega)
  clear P1
  obtain ⟨ao, cap, rfl, hcap, hcells⟩ := hv
  obtain ⟨g, rfl, hg, hc⟩ := hcells (by omega)
  have HC := Lib.hid hc
  clear hcells hc
  obtain ⟨n, hlen⟩ : ∃ n, n = cs.length := ⟨_, rfl⟩
  rw [← hlen] at hcap P2
  unfold ReadPost
  simp only [← hlen]
  have HLEN := Lib.hid hlen
  have hn8 : n ≤ 8 := by omega
  have hnR : Hid (n = R) := by show _ = _; omega
  clear hlen hlR hRle
  have hmk := fun W => run_make_row' (P := Try.prog) 39 2 (.int .i64 0) 8 Try.underlying39 Try.info64 rfl .i64 .i64 n (by omega) (by omega) W
  go_enter Try.func22, Try.ntmps22
  go_wp2_with (go_at_call 46; refine P2.mono ?_; rintro e w' ⟨rfl, hw'⟩; subst hw')
  obtain ⟨f, hf⟩ : ∃ f : Nat → Int, f = fun r => cellD zs (r * W + colN cs r) := ⟨_, rfl⟩
  have HF := Lib.hid hf
  clear hf
  have hrow := RowUpTo.zeros (f := f) (World.rowIs_made w (.int .i64 0) n 2)
  have hbel : Below w.heap.size w (w.alloc (.cells (madeCells #[.int .i64 0] n) 2)) := (Below.refl _ _).alloc (Nat.le_refl _) _
  have hszg : w.heap.size < (w.alloc (.cells (madeCells #[.int .i64 0] n) 2)).heap.size := by simp
  generalize (w.alloc (.cells (madeCells #[.int .i64 0] n) 2)) = wz at *
  have HRW := Lib.hid hrow
  have HB := Lib.hid hbel
  clear hrow hbel hmk
  generalize hA : w.heap.size = A at *
  have HA := Lib.hid hA
  clear hA
  go_loopw [18] (fun i wr => ∃ j : Nat, j ≤ n ∧ i = .int .i64 (j : Int) ∧ RowUpTo wr A 2 n f j ∧ Below A w wr) (fun i _ => n - (intOf i).toNat)
  case atStart => exact ⟨0, by omega, rfl, HRW.out, HB.out⟩
  case round =>
    obtain ⟨j, hj, rfl, hrow, hbel⟩ := hrel
    clear HRW HB
    have HRW := Lib.hid hrow
    have HB := Lib.hid hbel
    by_cases hlt : j < n
    · obtain ⟨hcj, hcw⟩ := HCOL.out j (by have := hnR.out; omega)
      have cx := (hbel.cell (p := ⟨g, j, none⟩) hg).trans (HC.out j _ hcj)
      have hG := HG.out
      have hgk : GridIs wr G C R W zs := hG.below hbel (by have := hG.ltG; have := HA.out; omega) (by have := hG.ltC; have := HA.out; omega)
      have P3 := at_in wr G C R W j (colN cs j) zs hgk (by have := hnR.out; omega) hcw
      have HFJ : Hid (cellD zs (j * W + colN cs j) = f j) := Lib.hid (by rw [HF.out])
      obtain ⟨ov, hov⟩ := hrow.cell hlt
      have hfr := hrow.frozen j
      clear hG hgk hcj hcw hrow hbel
      generalize cellD zs (j * W + colN cs j) = x at *
      generalize colN cs j = y at *
      have i0 : (0 : Int) ≤ (j : Int) := by omega
      have i1 : (j : Int) < (n : Int) := by omega
      go_wp2_with (go_at_call 18; refine P3.mono ?_; rintro e w' ⟨rfl, hw'⟩; subst hw')
      go_roundw
      case rel => exact ⟨j + 1, by omega, by go_num, HRW.out.put HFJ.out, HB.out.setCell (Nat.le_refl _) _⟩
      case measure => simp [intOf]; omega
    · obtain rfl : j = n := by omega
      have HFU : Hid (wr.rowIs A 2 j (fun r => .int .i64 (cellD zs (r * W + colN cs r)))) := Lib.hid (by have := HRW.out.full; rw [HF.out] at this; exact this)
      clear hrow hbel
      go_wp2
      go_ret2
      exact ⟨A, rfl, Nat.le_of_eq HA.out, HFU.out, by rw [HA.out]; exact HB.out⟩
theorem read_no (w : World) (G C R W : Nat) (zs cs : List Int) (v : Value) (h : GridIs w G C R W zs) (hv : IntsAt w v cs) (hl : cs.length ≤ 100000) (hm : meetB R W cs = false) :
    Calls Try.prog 22 #[.pointer (some ⟨G, 0, none⟩), v] w fun e w' => e = .returned (.tuple #[.slice none 0 0, .int .i64 1]) ∧ w = w' := by
  have P1 := meet_any w G C R W zs cs v h hv hl
  rw [hm] at P1
  clear h hm
  obtain ⟨ao, cap, rfl, hcap, hcells⟩ := hv
  clear hcells
  go_enter Try.func22, Try.ntmps22
  go_wp2_with (go_at_call 46; refine P1.mono ?_; rintro e w' ⟨rfl, hw'⟩; subst hw')
  go_ret2
  exact ⟨rfl, rfl⟩
end Go.Proofs.Ytcinlcbmjboaaaa
