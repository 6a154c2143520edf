/-
  The walks of gaugerref08.Read where nothing is met, gaugerref05.Min, gaugerref08.Least, gaugerref09.Raise. Conditions: none beyond those stated at each theorem.
-/
import Derived.Test.YtcinlcbmjboaaaaRfB
namespace Go.Proofs.Ytcinlcbmjboaaaa
open Go.RowKit
set_option linter.unusedVariables false
set_option linter.unusedSimpArgs false

theorem rread_no (w : World) (N G : Nat) (v : Value) (B K : Nat → Nat) (R W : Nat) (zs cs : List Int) (vc : Value) (h : RefIs w N G v B K R W zs) (hv : IntsAt w vc cs) (hl : cs.length ≤ 100000) (hm : meetB R W cs = false) :
    Calls Try.prog 28 #[.pointer (some ⟨G, 0, none⟩), vc] w fun e w' => ∃ g, e = .returned (.tuple #[.slice (some ⟨g, 0, none⟩) 0 0, .int .i64 1]) ∧ Below w.heap.size w w' := by
  have hal : Below w.heap.size w (w.alloc (.cells #[] 2)) := (Below.refl _ _).alloc (Nat.le_refl _) _
  have P1 := rmeet_any _ N G _ B K R W zs cs vc (h.kept hal) (hv.kept hal) hl
  rw [hm] at P1
  obtain ⟨ao, cap, rfl, hcap, hcells⟩ := hv
  clear hcells h hcap hl
  generalize cs.length = n at *
  have P1 := Lib.hid P1
  have HB1 := Lib.hid hal
  clear hal hm
  go_enter Try.func28, Try.ntmps28
  go_wp2_with fail
  with_reducible refine P1.out.mono ?_
  rintro e w2 ⟨rfl, hb⟩
  have HB2 := Lib.hid (btr HB1.out hb)
  clear hb
  go_wp2
  go_ret2
  exact ⟨_, rfl, HB2.out⟩

theorem rmin_none (ao : Option Addr) (c : Nat) (w : World) :
    Calls Try.prog 51 #[.slice ao 0 c] w fun e w' => e = .returned (.tuple #[.int .i64 0, .bool false]) ∧ w = w' := by
  go_enter Try.func51, Try.ntmps51
  go_wp2
  go_ret2
  exact ⟨rfl, rfl⟩
set_option maxRecDepth 100000 in
set_option maxHeartbeats 4000000 in
theorem rmin_any (v : Value) (zs : List Int) (w : World) (hv : IntsAt w v zs) (hk : 0 < zs.length) (hn : zs.length ≤ 100000) :
    Calls Try.prog 51 #[v] w fun e w' => ∃ u, e = .returned (.tuple #[.int .i64 u, .bool true]) ∧ IsKth zs 0 u ∧ w = w' := by
  obtain ⟨ao, cap, rfl, hcap, hcells⟩ := hv
  obtain ⟨g, rfl, hg, hc⟩ := hcells hk
  have HC := Lib.hid hc
  have h0 : zs[0]? = some (cellD zs 0) := by simp [cellD, hk]
  have c0 := hc 0 _ h0
  have HM0 := Lib.hid (List.mem_of_getElem? h0)
  clear hc hcells h0
  obtain ⟨n, hlen⟩ : ∃ n, n = zs.length := ⟨_, rfl⟩
  rw [← hlen] at hcap hk hn ⊢
  have HLEN := Lib.hid hlen
  clear hlen
  have d0 : ((n : Int) == 0) = false := by simp; omega
  have d1 : (n == 0) = false := by simp; omega
  have d2 : decide ((n : Int) = 0) = false := by simp; omega
  have d3 : decide (n = 0) = false := by simp; omega
  have d4 : (0 : Int) < (n : Int) := by omega
  generalize hz0 : cellD zs 0 = z0 at *
  clear hz0
  go_enter Try.func51, Try.ntmps51
  go_wp2_with fail
  go_loop [4, 5] (fun b i => ∃ (j : Nat) (u : Int), j ≤ n ∧ i = .int .i64 (j : Int) ∧ b = .int .i64 u ∧ u ∈ zs ∧ ∀ k x, k < j → zs[k]? = some x → u ≤ x) (fun _ i => n - (intOf i).toNat)
  case atStart => exact ⟨0, z0, by omega, rfl, rfl, HM0.out, fun k x hk => by omega⟩
  case round =>
    obtain ⟨j, u, hj, rfl, rfl, hm, hle⟩ := hrel
    have HM := Lib.hid hm
    have HLE := Lib.hid hle
    clear hm hle c0
    by_cases hlt : j < n
    · have hzj : zs[j]? = some (cellD zs j) := by
        have : j < zs.length := by have := HLEN.out; omega
        simp [cellD, this]
      have cx := HC.out j _ hzj
      have HZJ := Lib.hid hzj
      clear hzj
      generalize cellD zs j = x at *
      have i0 : (0 : Int) ≤ (j : Int) := by omega
      have i1 : (j : Int) < (n : Int) := by omega
      obtain ⟨y, hy⟩ : ∃ y, y = if x < u then x else u := ⟨_, rfl⟩
      have HY : Hid (y ∈ zs ∧ ∀ k z, k < j + 1 → zs[k]? = some z → y ≤ z) := Lib.hid (by
        refine ⟨by rw [hy]; split; exact List.mem_of_getElem? HZJ.out; exact HM.out, fun k z hk hz => ?_⟩
        by_cases e : k = j
        · subst e
          rw [HZJ.out] at hz
          have := Option.some.inj hz
          rw [hy]; split <;> omega
        · have := HLE.out k z (by omega) hz
          rw [hy]; split <;> omega)
      have ey : (if x < u then x else u) = y := hy.symm
      clear hy
      go_wp2
      go_round
      case rel => exact ⟨j + 1, y, by omega, by go_num, rfl, HY.out.1, HY.out.2⟩
      case measure => simp [intOf]; omega
    · obtain rfl : j = n := by omega
      have HK : Hid (IsKth zs 0 u) := Lib.hid (kth_zero_of HM.out (fun x hx => by
        obtain ⟨k, hk⟩ := List.getElem?_of_mem hx
        have hk2 : k < zs.length := (List.getElem?_eq_some_iff.1 hk).1
        exact HLE.out k x (by have := HLEN.out; omega) hk))
      go_wp2
      go_ret2
      exact ⟨u, rfl, HK.out, rfl⟩

theorem rleast_yes (w : World) (N G : Nat) (v : Value) (B K : Nat → Nat) (R W : Nat) (zs cs : List Int) (vc : Value) (h : RefIs w N G v B K R W zs) (hv : IntsAt w vc cs) (hm : meetB R W cs = true) :
    Calls Try.prog 29 #[.pointer (some ⟨G, 0, none⟩), vc] w (TellPost w W zs cs 0) := by
  obtain ⟨h0R, hlR, hcol⟩ := meetB_of hm
  have hR8 := h.rows
  have P1 := rread_yes w N G v B K R W zs cs vc h hv hm
  have hrl : (readZ W zs cs).length = cs.length := by rw [readZ, List.length_map, List.length_range]
  obtain ⟨ao, cap, rfl, hcap, hcells⟩ := hv
  clear hcells hcol h
  unfold RReadPost at P1
  obtain ⟨n, hlen⟩ : ∃ n, n = cs.length := ⟨_, rfl⟩
  rw [← hlen] at hcap hlR hrl P1 ⊢
  have hn0 : 0 < n := by omega
  have hn8 : n ≤ 8 := by omega
  have HRL := Lib.hid hrl
  have P1 := Lib.hid P1
  clear hlen hlR hrl
  go_enter Try.func29, Try.ntmps29
  go_wp2_with fail
  with_reducible refine P1.out.mono ?_
  rintro e w2 ⟨g, cp, rfl, hg, hi, hb⟩
  have HB := Lib.hid hb
  have P2 := Lib.hid (rmin_any _ _ w2 hi (by have := HRL.out; omega) (by have := HRL.out; omega))
  clear hb hi
  go_wp2_with fail
  with_reducible refine P2.out.mono ?_
  rintro e w3 ⟨u, rfl, hu, hw3⟩
  subst hw3
  have HU := Lib.hid hu
  clear hu
  go_wp2
  go_ret2
  exact ⟨u, rfl, HU.out, HB.out⟩
theorem rleast_no (w : World) (N G : Nat) (v : Value) (B K : Nat → Nat) (R W : Nat) (zs cs : List Int) (vc : Value) (h : RefIs w N G v B K R W zs) (hv : IntsAt w vc cs) (hl : cs.length ≤ 100000) (hm : meetB R W cs = false) :
    Calls Try.prog 29 #[.pointer (some ⟨G, 0, none⟩), vc] w fun e w' => e = .returned (.tuple #[.int .i64 0, .int .i64 1]) ∧ Below w.heap.size w w' := by
  have P1 := Lib.hid (rread_no w N G v B K R W zs cs vc h hv hl hm)
  obtain ⟨ao, cap, rfl, hcap, hcells⟩ := hv
  clear hcells h hcap hl
  generalize cs.length = n at *
  go_enter Try.func29, Try.ntmps29
  go_wp2_with fail
  with_reducible refine P1.out.mono ?_
  rintro e w2 ⟨g, rfl, hb⟩
  have HB := Lib.hid hb
  have P2 := Lib.hid (rmin_none (some ⟨g, 0, none⟩) 0 w2)
  clear hb
  go_wp2_with fail
  with_reducible refine P2.out.mono ?_
  rintro e w3 ⟨rfl, hw3⟩
  subst hw3
  go_wp2
  go_ret2
  exact ⟨rfl, HB.out⟩

/-- of what was there, at most the rows' blocks have changed -/
structure RGr (w w' : World) (B : Nat → Nat) (R : Nat) : Prop where
  os : w'.os = w.os
  tape : w'.tape = w.tape
  output : w'.output = w.output
  size : w.heap.size ≤ w'.heap.size
  block : ∀ k, k < w.heap.size → (∀ r, r < R → k ≠ B r) → w'.heap[k]? = w.heap[k]?
theorem RGr.of_below {w w' : World} {B : Nat → Nat} {R : Nat} (h : Below w.heap.size w w') : RGr w w' B R := ⟨h.os, h.tape, h.output, h.size, fun k hk _ => h.block k hk⟩
theorem RGr.trans {w w1 w2 : World} {B : Nat → Nat} {R : Nat} (h : RGr w w1 B R) (k : RGr w1 w2 B R) : RGr w w2 B R :=
  ⟨k.os.trans h.os, k.tape.trans h.tape, k.output.trans h.output, Nat.le_trans h.size k.size, fun j hj hne => (k.block j (Nat.lt_of_lt_of_le hj h.size) hne).trans (h.block j hj hne)⟩
theorem RGr.set {w : World} {B : Nat → Nat} {R r c : Nat} (hr : r < R) (u : Value) : RGr w (w.setCell ⟨B r, c, none⟩ u) B R :=
  ⟨rfl, rfl, rfl, by simp [World.setCell], fun k hk hne => Below.heap_setCell _ _ _ _ (by simpa using hne r hr)⟩
theorem RGr.below {w w' : World} {N G : Nat} {v : Value} {B K : Nat → Nat} {R W : Nat} {zs : List Int} (h : RGr w w' B R) (hr : RefIs w N G v B K R W zs) : Below N w w' :=
  ⟨h.os, h.tape, h.output, h.size, fun k hk => h.block k (by have := hr.lo.1; have := hr.ltG; omega) (fun r hr' e => by have := hr.lo.2 r hr'; omega)⟩
theorem RGr.row {w w' : World} {N G : Nat} {v : Value} {B K : Nat → Nat} {R W : Nat} {zs cs : List Int} {vc : Value} (h : RGr w w' B R) (hr : RefIs w N G v B K R W zs) (hv : RowI w vc cs) : RowI w' vc cs := by
  obtain ⟨g, cap, cur, rfl, hc, hg, hx⟩ := hv
  refine ⟨g, cap, cur, rfl, hc, (h.block g hg.lt (fun r hr' => ?_)).trans hg, hx⟩
  obtain ⟨cB, hB, -⟩ := hr.cells r hr'
  exact hg.ne_ hB (by decide)

def RRaisePost (w : World) (N G : Nat) (v : Value) (B K : Nat → Nat) (R W : Nat) (zs cs : List Int) (d : Int) (e : Ending) (w' : World) : Prop :=
  ∃ u, IsKth (readZ W zs cs) 0 u ∧ ((d < 0 ∧ e = .returned (.int .i64 3) ∧ Below w.heap.size w w') ∨ (0 ≤ d ∧ ¬ In64 (u + d) ∧ e = .returned (.int .i64 4) ∧ Below w.heap.size w w') ∨
    (0 ≤ d ∧ In64 (u + d) ∧ e = .returned (.int .i64 0) ∧ RefIs w' N G v B K R W (raiseZ W zs cs (u + d)) ∧ RGr w w' B R))

theorem rraise_no (w : World) (N G : Nat) (v : Value) (B K : Nat → Nat) (R W : Nat) (zs cs : List Int) (d : Int) (vc : Value) (h : RefIs w N G v B K R W zs) (hv : IntsAt w vc cs) (hl : cs.length ≤ 100000) (hm : meetB R W cs = false) :
    Calls Try.prog 37 #[.pointer (some ⟨G, 0, none⟩), vc, .int .i64 d] w fun e w' => e = .returned (.int .i64 1) ∧ Below w.heap.size w w' := by
  have P1 := Lib.hid (rleast_no w N G v B K R W zs cs vc h hv hl hm)
  obtain ⟨ao, cap, rfl, hcap, hcells⟩ := hv
  clear hcells h hcap hl
  generalize cs.length = n at *
  go_enter Try.func37, Try.ntmps37
  go_wp2_with fail
  with_reducible refine P1.out.mono ?_
  rintro e w2 ⟨rfl, hb⟩
  have HB := Lib.hid hb
  clear hb
  go_wp2
  go_ret
  exact ⟨rfl, HB.out⟩
set_option maxRecDepth 100000 in
set_option maxHeartbeats 8000000 in
theorem rraise_yes (w : World) (N G : Nat) (v : Value) (B K : Nat → Nat) (R W : Nat) (zs cs : List Int) (d : Int) (vc : Value) (h : RefIs w N G v B K R W zs) (hv : RowI w vc cs) (hm : meetB R W cs = true) (hd : In64 d) (hfit : Fit zs) :
    Calls Try.prog 37 #[.pointer (some ⟨G, 0, none⟩), vc, .int .i64 d] w (RRaisePost w N G v B K R W zs cs d) := by
  obtain ⟨h0R, hlR, hcol⟩ := meetB_of hm
  have hR8 := h.rows
  have hzl := h.len
  have P1 := Lib.hid (rleast_yes w N G v B K R W zs cs vc h hv.ints hm)
  obtain ⟨L, vcap, rfl⟩ := h.openL h0R
  have HG := Lib.hid h
  have HV := Lib.hid hv
  have HCOL := Lib.hid hcol
  have HFIT := Lib.hid hfit
  have HZL := Lib.hid hzl
  obtain ⟨g, cap, cur, rfl, hcap, hgb, hcur⟩ := hv
  have HC := Lib.hid (show ∀ i u, cs[i]? = some u → w.cell? ⟨g, i, none⟩ = some (.int .i64 u) from fun i u hu => (hgb.cell i).trans (hcur i u hu))
  have HGL := Lib.hid hgb.lt
  have HGB := Lib.hid (show ∀ r, r < R → g ≠ B r from fun r hr' => by
    obtain ⟨cB, hB, -⟩ := h.cells r hr'
    exact hgb.ne_ hB (by decide))
  clear h hgb hcur hfit hcol hzl
  obtain ⟨n, hlen⟩ : ∃ n, n = cs.length := ⟨_, rfl⟩
  have HLEN := Lib.hid hlen
  rw [← hlen] at hcap hlR P1 ⊢
  have HNR : Hid (n = R) := Lib.hid hlR
  have hn8 : n ≤ 8 := by omega
  clear hlen hlR
  go_enter Try.func37, Try.ntmps37
  go_wp2_with fail
  with_reducible refine P1.out.mono ?_
  rintro e w2 ⟨u, rfl, hu, hb⟩
  have HU := Lib.hid hu
  have HB2 := Lib.hid hb
  have hu64 : In64 u := by
    have := hu.1
    simp [readZ] at this
    obtain ⟨r, hr, rfl⟩ := this
    exact cell_fit HFIT.out _
  clear hu hb P1
  by_cases hd0 : d < 0
  · have e1 : decide (d < 0) = true := decide_eq_true hd0
    have HD0 := Lib.hid hd0
    clear hd0
    go_wp2
    go_ret
    exact ⟨u, HU.out, .inl ⟨HD0.out, rfl, HB2.out⟩⟩
  have e1 : decide (d < 0) = false := decide_eq_false hd0
  have HD0 : Hid (0 ≤ d) := Lib.hid (by omega)
  by_cases h64 : In64 (u + d)
  · have PA := Lib.hid (ladd_yes u d hu64 hd h64 w2)
    have H64 := Lib.hid h64
    clear hu64 hd h64 hd0
    unfold TwoPost at PA
    obtain ⟨nn, hnn⟩ : ∃ nn, nn = u + d := ⟨_, rfl⟩
    rw [← hnn] at PA H64
    have HNN := Lib.hid hnn
    clear hnn
    go_wp2_with fail
    with_reducible refine PA.out.mono ?_
    rintro e w3 ⟨rfl, hb⟩
    have HB3 := Lib.hid (btr HB2.out hb)
    clear hb PA
    go_wp2_with fail
    go_loopw [11] (fun i wr => ∃ k : Nat, k ≤ n ∧ i = .int .i64 (k : Int) ∧ RefIs wr N G (.slice (some ⟨L, 0, none⟩) R vcap) B K R W (setsZ W zs (colN cs) (riseV W zs cs nn) k) ∧ RGr w wr B R) (fun i _ => n - (intOf i).toNat)
    case atStart => exact ⟨0, by omega, rfl, HG.out.kept HB3.out, RGr.of_below HB3.out⟩
    case round =>
      obtain ⟨k, hk, rfl, hg, hgr⟩ := hrel
      have HG2 := Lib.hid hg
      have HGR := Lib.hid hgr
      by_cases hlk : k < n
      · have hkR : k < R := by have := HNR.out; omega
        obtain ⟨hck, hcw⟩ := HCOL.out k hkR
        obtain ⟨l0, l1, l2, l3⟩ := hg.look hkR hcw
        have hsame : cellD (setsZ W zs (colN cs) (riseV W zs cs nn) k) (k * W + colN cs k) = cellD zs (k * W + colN cs k) := by
          rw [setsZ_get HZL.out (fun r hr => (HCOL.out r hr).2) k (by omega) k (colN cs k) hkR hcw, if_neg (by omega)]
        rw [hsame] at l2
        have cx : wr.cell? ⟨g, k, none⟩ = some (.int .i64 (colN cs k : Int)) := by
          have := hgr.block g HGL.out HGB.out
          have h2 := HC.out k _ hck
          simp only [World.cell?] at h2 ⊢
          rw [this]
          exact h2
        have HSET : Hid (setsZ W zs (colN cs) (riseV W zs cs nn) (k + 1) = (setsZ W zs (colN cs) (riseV W zs cs nn) k).set (k * W + colN cs k) (if cellD zs (k * W + colN cs k) < nn then nn else cellD zs (k * W + colN cs k))) := rfl
        clear hg hgr hck hsame
        generalize hx : cellD zs (k * W + colN cs k) = x at *
        generalize hy : colN cs k = y at *
        have HY := Lib.hid hy
        clear hx hy
        obtain ⟨zz, hzz⟩ : ∃ zz, zz = if x < nn then nn else x := ⟨_, rfl⟩
        have ez : (if x < nn then nn else x) = zz := hzz.symm
        rw [← hzz] at HSET
        clear hzz
        have d1 : (0 : Int) ≤ (k : Int) := by omega
        have d2 : (k : Int) < (n : Int) := by omega
        have d3 : (k : Int) < (R : Int) := by omega
        have d4 : (0 : Int) ≤ (y : Int) := by omega
        have d5 : (y : Int) < (W : Int) := by omega
        go_wp2_with fail
        refine wp_region_still_tail 27 (by kernel_rfl) (by kernel_rfl) ?_
        simp only [List.take_succ_cons, List.take_zero, List.drop_succ_cons, List.drop_zero]
        have HG3 : Hid (RefIs { heap := wr.heap, tape := wr.tape, drawn := wr.drawn + 1, os := wr.os, output := wr.output } N G (.slice (some ⟨L, 0, none⟩) R vcap) B K R W (setsZ W zs (colN cs) (riseV W zs cs nn) k)) := Lib.hid (HG2.out.drewN 1)
        have HGR3 : Hid (RGr w { heap := wr.heap, tape := wr.tape, drawn := wr.drawn + 1, os := wr.os, output := wr.output } B R) := Lib.hid (HGR.out.trans (RGr.of_below (below_drewN (Below.refl _ _) 1)))
        change World.cell? { heap := wr.heap, tape := wr.tape, drawn := wr.drawn + 1, os := wr.os, output := wr.output } _ = _ at l0 l1 l2 cx
        change World.frozen? { heap := wr.heap, tape := wr.tape, drawn := wr.drawn + 1, os := wr.os, output := wr.output } _ = _ at l3
        generalize ({ heap := wr.heap, tape := wr.tape, drawn := wr.drawn + 1, os := wr.os, output := wr.output } : World) = wd at *
        generalize hBk : B k = Bk at *
        have HBK := Lib.hid hBk
        clear hBk
        generalize K k = Kk at *
        repeat still_step
        refine wpStill_nil ?_
        go_wp2
        go_roundw
        case rel => exact ⟨k + 1, by omega, by go_num, by rw [HSET.out, ← HBK.out]; exact HG3.out.set k y zz hkR hcw, by rw [← HBK.out]; exact HGR3.out.trans (RGr.set hkR _)⟩
        case measure => simp [intOf]; omega
      · obtain rfl : k = n := by omega
        have HP : Hid (RRaisePost w N G (.slice (some ⟨L, 0, none⟩) R vcap) B K R W zs cs d (.returned (.int .i64 0)) wr) := ⟨u, HU.out, .inr (.inr ⟨HD0.out, by rw [← HNN.out]; exact H64.out, rfl, by
          have := HG2.out
          unfold raiseZ
          rw [← HLEN.out, ← HNN.out]
          exact this, HGR.out⟩)⟩
        clear hg hgr
        go_wp2
        go_ret
        exact HP.out
  · have PA := Lib.hid (ladd_no u d hu64 hd h64 w2)
    have H64 := Lib.hid h64
    clear hu64 hd h64 hd0
    unfold TwoPost at PA
    go_wp2_with fail
    with_reducible refine PA.out.mono ?_
    rintro e w3 ⟨rfl, hb⟩
    have HB3 := Lib.hid (btr HB2.out hb)
    clear hb PA
    go_wp2
    go_ret
    exact ⟨u, HU.out, .inr (.inl ⟨HD0.out, H64.out, rfl, HB3.out⟩)⟩
end Go.Proofs.Ytcinlcbmjboaaaa
