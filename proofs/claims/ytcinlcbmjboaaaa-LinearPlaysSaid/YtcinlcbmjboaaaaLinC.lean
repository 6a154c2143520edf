/-
  The walk of linear.Change. Conditions: none beyond those stated at each theorem.
-/
import Derived.Test.YtcinlcbmjboaaaaLin
import Derived.Test.YtcinlcbmjboaaaaGrdU
import Derived.Test.YtcinlcbmjboaaaaGrdR
namespace Go.Proofs.Ytcinlcbmjboaaaa
open Go.RowKit
set_option linter.unusedVariables false
set_option linter.unusedSimpArgs false

/-- the cells with the first k rows' numbers laid -/
def setsZ (W : Nat) (zs : List Int) (cf : Nat → Nat) (vf : Nat → Int) : Nat → List Int
  | 0 => zs
  | k + 1 => (setsZ W zs cf vf k).set (k * W + cf k) (vf k)
theorem setsZ_len {W : Nat} {zs : List Int} {cf : Nat → Nat} {vf : Nat → Int} (k : Nat) : (setsZ W zs cf vf k).length = zs.length := by
  induction k with
  | zero => rfl
  | succ k ih => rw [setsZ, List.length_set, ih]
theorem setsZ_get {R W : Nat} {zs : List Int} {cf : Nat → Nat} {vf : Nat → Int} (hl : zs.length = R * W) (hcf : ∀ r, r < R → cf r < W) (k : Nat) (hk : k ≤ R) (r c : Nat) (hr : r < R) (hc : c < W) :
    cellD (setsZ W zs cf vf k) (r * W + c) = if r < k ∧ c = cf r then vf r else cellD zs (r * W + c) := by
  induction k with
  | zero => simp [setsZ]
  | succ k ih =>
    have hlt : k * W + cf k < (setsZ W zs cf vf k).length := by
      rw [setsZ_len, hl]
      have h1 : (k + 1) * W ≤ R * W := Nat.mul_le_mul_right W hk
      rw [Nat.add_mul] at h1
      have := hcf k (by omega)
      omega
    have ih := ih (by omega)
    unfold cellD at ih ⊢
    rw [setsZ, List.getElem?_set]
    by_cases e : k * W + cf k = r * W + c
    · obtain ⟨rfl, rfl⟩ := place_eq (hcf k (by omega)) hc e
      simp [hlt]
    · rw [if_neg e, ih]
      by_cases hrk : r = k
      · subst hrk
        have : ¬ c = cf r := fun h => e (by rw [h])
        simp [this]
      · have : (r < k + 1 ∧ c = cf r) ↔ (r < k ∧ c = cf r) := by omega
        simp only [this]
def changeZ (W : Nat) (zs cs : List Int) (d : Int) : List Int := setsZ W zs (colN cs) (fun r => cellD zs (r * W + colN cs r) + d) cs.length
/-- does each sum fit? -/
def changeFits (W : Nat) (zs cs : List Int) (d : Int) : Prop := ∀ r, r < cs.length → In64 (cellD zs (r * W + colN cs r) + d)
def ChangeYes (w : World) (G C R W : Nat) (zs cs : List Int) (d : Int) (e : Ending) (w' : World) : Prop :=
  e = .returned (.int .i64 0) ∧ GridIs w' G C R W (changeZ W zs cs d) ∧ w.grownBy w' (some C)
def ChangePost (w : World) (G C R W : Nat) (zs cs : List Int) (d : Int) (e : Ending) (w' : World) : Prop :=
  (changeFits W zs cs d ∧ ChangeYes w G C R W zs cs d e w') ∨ (¬ changeFits W zs cs d ∧ e = .returned (.int .i64 4) ∧ Below w.heap.size w w')
theorem below_grown {w w' : World} {row : Option Nat} (h : Below w.heap.size w w') : w.grownBy w' row := ⟨h.os, h.tape, h.output, h.size, fun k hk _ => h.block k hk⟩
theorem grown_trans {w w1 w2 : World} {row : Option Nat} (h : w.grownBy w1 row) (k : w1.grownBy w2 row) : w.grownBy w2 row :=
  ⟨k.os.trans h.os, k.tape.trans h.tape, k.output.trans h.output, Nat.le_trans h.size k.size, fun j hj hne => (k.block j (Nat.lt_of_lt_of_le hj h.size) hne).trans (h.block j hj hne)⟩
theorem cell_fit {zs : List Int} (h : Fit zs) (i : Nat) : In64 (cellD zs i) := by
  unfold cellD
  cases hz : zs[i]? with
  | none => exact ⟨by simp, by simp⟩
  | some x => exact h.get hz

set_option maxRecDepth 100000 in
set_option maxHeartbeats 4000000 in
theorem change_yes (w : World) (G C R W : Nat) (zs cs : List Int) (d : Int) (v : Value) (h : GridIs w G C R W zs) (hv : IntsAt w v cs) (hm : meetB R W cs = true) (hd : In64 d) (hvc : v.ownBlock ≠ some C) :
    Calls Try.prog 26 #[.pointer (some ⟨G, 0, none⟩), v, .int .i64 d] w (ChangePost w G C R W zs cs d) := by
  have hR8 := h.rows
  have hfit := h.fit
  obtain ⟨h0R, hlR, hcol⟩ := meetB_of hm
  have P1 := read_yes w G C R W zs cs v h hv hm
  have HG := Lib.hid h
  have HV := Lib.hid hv
  have HCOL := Lib.hid hcol
  have HFIT := Lib.hid hfit
  clear h hcol hm hfit
  obtain ⟨ao, cap, rfl, hcap, hcells⟩ := hv
  obtain ⟨g, rfl, hg, hc⟩ := hcells (by omega)
  have HC := Lib.hid hc
  have hgC : g ≠ C := fun e => hvc (by simp [Value.ownBlock, e])
  clear hcells hc hvc
  obtain ⟨n, hlen⟩ : ∃ n, n = cs.length := ⟨_, rfl⟩
  unfold ReadPost at P1
  have hCP : ChangePost w G C R W zs cs d = fun e w' => (changeFits W zs cs d ∧ (e = .returned (.int .i64 0) ∧ GridIs w' G C R W (setsZ W zs (colN cs) (fun r => cellD zs (r * W + colN cs r) + d) n) ∧ w.grownBy w' (some C))) ∨ (¬ changeFits W zs cs d ∧ e = .returned (.int .i64 4) ∧ Below w.heap.size w w') := by
    funext e w'; rw [hlen]; rfl
  rw [hCP]
  have HFITS : Hid (changeFits W zs cs d ↔ ∀ r, r < n → In64 (cellD zs (r * W + colN cs r) + d)) := Lib.hid (by rw [hlen]; exact Iff.rfl)
  clear hCP
  rw [← hlen] at hcap
  simp only [← hlen] at P1 ⊢
  have hn8 : n ≤ 8 := by omega
  have hnR : Hid (n = R) := by show _ = _; omega
  have HLEN := Lib.hid hlen
  clear hlen hlR hR8
  generalize changeFits W zs cs d = FITS at *
  obtain ⟨f, hf⟩ : ∃ f : Nat → Int, f = fun r => cellD zs (r * W + colN cs r) := ⟨_, rfl⟩
  have HF64 : Hid (∀ r, In64 (f r)) := Lib.hid (fun r => by rw [hf]; exact cell_fit HFIT.out _)
  rw [show (fun r => Value.int .i64 (cellD zs (r * W + colN cs r))) = fun r => Value.int .i64 (f r) by rw [hf]] at P1
  rw [show (fun r => cellD zs (r * W + colN cs r) + d) = fun r => f r + d by rw [hf]]
  have HFITS : Hid (FITS ↔ ∀ r, r < n → In64 (f r + d)) := Lib.hid (by rw [HFITS.out, hf])
  clear hf
  go_enter Try.func26, Try.ntmps26
  go_wp2_with (go_at_call 22; refine P1.mono ?_; rintro e w2 ⟨b, rfl, hb0, hrow, hb⟩; have HB0 := Lib.hid hb0; have HROW := Lib.hid hrow; have HB := Lib.hid hb; clear hrow hb hb0)
  go_loopw [26] (fun i wr => ∃ j : Nat, j ≤ n ∧ i = .int .i64 (j : Int) ∧ wr.rowIs b 2 n (fun k => .int .i64 (if k < j then f k + d else f k)) ∧ (∀ k, k < j → In64 (f k + d)) ∧ Below w.heap.size w wr) (fun i _ => n - (intOf i).toNat)
  case atStart => exact ⟨0, by omega, rfl, HROW.out.congr (fun k _ => by simp), fun k hk => by omega, HB.out⟩
  case round =>
    obtain ⟨j, hj, rfl, hrow, hok, hbel⟩ := hrel
    clear HROW HB
    have HROW := Lib.hid hrow
    have HB := Lib.hid hbel
    have HOK := Lib.hid hok
    by_cases hlt : j < n
    · have cx := hrow.cell hlt
      simp only [Nat.lt_irrefl, if_false] at cx
      have i0 : (0 : Int) ≤ (j : Int) := by omega
      have i1 : (j : Int) < (n : Int) := by omega
      clear hrow hbel hok
      have h64 := HF64.out j
      by_cases hj64 : In64 (f j + d)
      · have P2 := (opok_plus (f j) d wr h64 hd).1 hj64
        have HOK2 : Hid (∀ k, k < j + 1 → In64 (f k + d)) := Lib.hid (fun k hk => by
          by_cases e : k = j
          · subst e; exact hj64
          · exact HOK.out k (by omega))
        have HE : Hid (∀ k, (if k = j then f j + d else if k < j then f k + d else f k) = if k < j + 1 then f k + d else f k) := Lib.hid (fun k => by
          by_cases e : k = j
          · subst e; simp
          · have : k < j + 1 ↔ k < j := by omega
            simp [e, this])
        unfold TwoPost at P2
        generalize f j + d = x at *
        clear h64 hj64
        go_wp2_with (go_at_call 48; refine P2.mono ?_; rintro e w3 ⟨rfl, hb⟩; have hr3 := HROW.out.of_block (hb.block b HROW.out.lt); have HR3 := Lib.hid hr3; have HB3 := Lib.hid (btr HB.out hb); obtain ⟨ov, hov⟩ : ∃ ov, w3.cell? ⟨b, j, none⟩ = some ov := ⟨_, hr3.cell hlt⟩; have hfr := hr3.frozen j; clear hr3 hb)
        go_roundw
        case rel => exact ⟨j + 1, by omega, by go_num, (HR3.out.set j _).congr (fun k _ => by have := HE.out k; by_cases e : k = j <;> simp [e] at this ⊢ <;> simp [this]), HOK2.out, HB3.out.setCell HB0.out _⟩
        case measure => simp [intOf]; omega
      · have P2 := (opok_plus (f j) d wr h64 hd).2 hj64
        have HNF : Hid (¬ FITS) := Lib.hid (fun h => hj64 (HFITS.out.1 h j hlt))
        unfold TwoPost at P2
        clear h64 hj64
        go_wp2_with (go_at_call 48; refine P2.mono ?_; rintro e w3 ⟨rfl, hb⟩; have HB3 := Lib.hid (btr HB.out hb); clear hb)
        go_ret
        exact .inr ⟨HNF.out, rfl, HB3.out⟩
    · obtain rfl : j = n := by omega
      have hrow2 : wr.rowIs b 2 j (fun k => .int .i64 (f k + d)) := hrow.congr (fun k hk => by rw [if_pos hk])
      have HYES : Hid FITS := HFITS.out.2 hok
      have HROW := Lib.hid hrow2
      have HGR := Lib.hid (HG.out.kept hbel)
      have HGB := Lib.hid (below_grown (row := some C) hbel)
      have hbC : b ≠ C := by have := HG.out.ltC; have := HB0.out; omega
      have hgk : g < wr.heap.size := by have := hbel.size; omega
      clear hrow hrow2 hbel hok
      go_wp2_with fail
      go_loopw [46] (fun i ws => ∃ k : Nat, k ≤ j ∧ i = .int .i64 (k : Int) ∧ GridIs ws G C R W (setsZ W zs (colN cs) (fun r => f r + d) k) ∧ w.grownBy ws (some C) ∧ wr.grownBy ws (some C)) (fun i _ => j - (intOf i).toNat)
      case atStart => exact ⟨0, by omega, rfl, HGR.out, HGB.out, ⟨rfl, rfl, rfl, Nat.le_refl _, fun _ _ _ => rfl⟩⟩
      case round =>
        obtain ⟨k, hk, rfl, hgs, hgr, hgr2⟩ := hrel
        have HGS := Lib.hid hgs
        have HG1 := Lib.hid hgr
        have HG2 := Lib.hid hgr2
        by_cases hlk : k < j
        · have cx := hgr2.cell (HROW.out.cell hlk) (by simpa using hbC)
          obtain ⟨hck, hcw⟩ := HCOL.out k (by have := hnR.out; omega)
          have cc := hgr.cell (HC.out k _ hck) (by simpa using hgC)
          have P3 := put_in _ G C R W k (colN cs k) (f k + d) _ hgs (by have := hnR.out; omega) hcw
          have i0 : (0 : Int) ≤ (k : Int) := by omega
          have i1 : (k : Int) < (j : Int) := by omega
          have HX : Hid (In64 (f k + d)) := HOK.out k hlk
          have HST : Hid (setsZ W zs (colN cs) (fun r => f r + d) (k + 1) = (setsZ W zs (colN cs) (fun r => f r + d) k).set (k * W + colN cs k) (f k + d)) := rfl
          clear hgs hgr hgr2 hck hcw
          generalize f k + d = x at *
          generalize hy : colN cs k = y at *
          have HY := Lib.hid hy
          clear hy
          go_wp2_with (go_at_call 34; refine P3.mono ?_; rintro e w3 ⟨rfl, hw3⟩; have HW3 := Lib.hid hw3; clear hw3)
          go_roundw
          case rel => exact ⟨k + 1, by omega, by go_num, by rw [HST.out, HW3.out]; exact HGS.out.set _ _ HX.out.1 HX.out.2, by rw [HW3.out]; exact grown_trans HG1.out (grown_set _ _ _ _), by rw [HW3.out]; exact grown_trans HG2.out (grown_set _ _ _ _)⟩
          case measure => simp [intOf]; omega
        · obtain rfl : k = j := by omega
          clear hgs hgr hgr2
          go_wp2
          go_ret
          exact .inl ⟨HYES.out, rfl, HGS.out, HG1.out⟩
theorem change_no (w : World) (G C R W : Nat) (zs cs : List Int) (d : Int) (v : Value) (h : GridIs w G C R W zs) (hv : IntsAt w v cs) (hl : cs.length ≤ 100000) (hm : meetB R W cs = false) :
    Calls Try.prog 26 #[.pointer (some ⟨G, 0, none⟩), v, .int .i64 d] w fun e w' => e = .returned (.int .i64 1) ∧ w = w' := by
  have P1 := read_no w G C R W zs cs v h hv hl hm
  obtain ⟨ao, cap, rfl, hcap, hcells⟩ := hv
  clear hcells h
  generalize cs.length = n at *
  go_enter Try.func26, Try.ntmps26
  go_wp2_with (go_at_call 22; refine P1.mono ?_; rintro e w2 ⟨rfl, hw2⟩; subst hw2)
  go_ret
  exact ⟨rfl, rfl⟩
end Go.Proofs.Ytcinlcbmjboaaaa
