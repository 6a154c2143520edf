import Derived.Test.YtfeficdndjiijaaGreatDoorQxb
import Derived.Laws.BitsAllLaws
import Derived.WalkKit
import Derived.Test.YtfeficdndjiijaaGreatDoorQxa
import Derived.Test.YtfeficdndjiijaaGreatDoorProg
import Derived.Outline
import Derived.LoopN
import Derived.WalkSmall
import Derived.Deep.QuietTactic
import Derived.BigQuiet
import Derived.Deep.DeepCutAuto
import Derived.Deep.RegionHeld3
import Derived.StillTailTactics
import Derived.OpenShut
import Derived.Laws.StructEq
/-
  Contracts of the functions that TopFits reaches, and the plain laws that it leans on. Conditions: none beyond those stated at each theorem.
-/
namespace Go.Proofs.YtfeficdndjiijaaGreatDoor
open Go.RowKit
set_option linter.unusedVariables false
set_option linter.unusedSimpArgs false

def ColsAt (w : World) (v : Value) (cs : List Int) : Prop :=
  ∃ (ao : Option Addr) (cap : Nat), v = .slice ao cs.length cap ∧ cs.length ≤ cap ∧ cap ≤ maxLen ∧ (0 < cs.length → ∃ b off, ao = some ⟨b, off, none⟩ ∧ b < w.heap.size ∧ ∀ i u, cs[i]? = some u → w.cell? ⟨b, off + i, none⟩ = some (.int .i64 u))
theorem ColsAt.kept {w w' : World} {v : Value} {cs : List Int} (h : ColsAt w v cs) (hb : Below w.heap.size w w') : ColsAt w' v cs := by
  obtain ⟨ao, cap, e, hc, hm, h⟩ := h
  refine ⟨ao, cap, e, hc, hm, fun h0 => ?_⟩
  obtain ⟨b, off, e2, hg, hc⟩ := h h0
  exact ⟨b, off, e2, Nat.lt_of_lt_of_le hg hb.size, fun i u hu => (hb.cell (p := ⟨b, off + i, none⟩) hg).trans (hc i u hu)⟩
def RowI (w : World) (v : Value) (cs : List Int) : Prop :=
  ∃ (g cap : Nat) (cur : Array Value), v = .slice (some ⟨g, 0, none⟩) cs.length cap ∧ cs.length ≤ cap ∧ Blk w g 3 cur ∧ ∀ (i : Nat) (u : Int), cs[i]? = some u → cur[i]? = some (Value.int .i64 u)
theorem RowI.ints {w : World} {v : Value} {cs : List Int} (h : RowI w v cs) : IntsAt w v cs := by
  obtain ⟨g, cap, cur, rfl, hc, hb, hx⟩ := h
  exact ⟨_, _, rfl, hc, fun _ => ⟨g, rfl, hb.lt, fun i u hu => (hb.cell i).trans (hx i u hu)⟩⟩
theorem RowI.kept {w w' : World} {v : Value} {cs : List Int} (h : RowI w v cs) (hb : Below w.heap.size w w') : RowI w' v cs := by
  obtain ⟨g, cap, cur, rfl, hc, hg, hx⟩ := h
  exact ⟨g, cap, cur, rfl, hc, hg.kept hb, hx⟩
theorem RowI.grown {w w' : World} {v : Value} {cs : List Int} {row : Option Nat} (h : RowI w v cs) (hb : w.grownBy w' row) (hne : v.ownBlock ≠ row) : RowI w' v cs := by
  obtain ⟨g, cap, cur, rfl, hc, hg, hx⟩ := h
  exact ⟨g, cap, cur, rfl, hc, hg.grown hb hne, hx⟩
theorem RowI.far {w w' : World} {v : Value} {cs : List Int} {C : Nat} {t : TypeId} {cur : Array Value} (h : RowI w v cs) (hb : w.grownBy w' (some C)) (hC : Blk w C t cur) (ht : 3 ≠ t) : RowI w' v cs := by
  refine h.grown hb ?_
  obtain ⟨g, cap, cur', rfl, hc, hg, hx⟩ := h
  exact fun e => hg.ne_ hC ht (Option.some.inj e)
theorem RowI.own {w : World} {v : Value} {cs : List Int} (h : RowI w v cs) : ∃ k, v.ownBlock = some k ∧ k < w.heap.size := by
  obtain ⟨g, cap, cur, rfl, hc, hg, hx⟩ := h
  exact ⟨g, rfl, hg.lt⟩
end Go.Proofs.YtfeficdndjiijaaGreatDoor


namespace Go.Proofs.YtfeficdndjiijaaGreatDoor
open Go.RowKit
set_option linter.unusedVariables false
set_option linter.unusedSimpArgs false

theorem below_alloc1 (w : World) (o : Obj) : Below w.heap.size w (w.alloc o) := (Below.refl _ _).alloc (Nat.le_refl _) _
def riseV (W : Nat) (zs cs : List Int) (n : Int) (r : Nat) : Int := if cellD zs (r * W + colN cs r) < n then n else cellD zs (r * W + colN cs r)
def raiseZ (W : Nat) (zs cs : List Int) (n : Int) : List Int := setsZ W zs (colN cs) (riseV W zs cs n) cs.length
def RaisePost (w : World) (G C R W : Nat) (zs cs : List Int) (d : Int) (e : Ending) (w' : World) : Prop :=
  ∃ u, IsKth (readZ W zs cs) 0 u ∧ ((d < 0 ∧ e = .returned (.int .i64 3) ∧ Below w.heap.size w w') ∨ (0 ≤ d ∧ ¬ In64 (u + d) ∧ e = .returned (.int .i64 4) ∧ Below w.heap.size w w') ∨
    (0 ≤ d ∧ In64 (u + d) ∧ e = .returned (.int .i64 0) ∧ GridIs w' G C R W (raiseZ W zs cs (u + d)) ∧ w.grownBy w' (some C)))

theorem set_same {zs : List Int} {i : Nat} (h : i < zs.length) : zs.set i (cellD zs i) = zs := by
  apply List.ext_getElem?
  intro k
  rw [List.getElem?_set]
  by_cases e : i = k
  · subst e; simp [h, cellD]
  · rw [if_neg e]
def RisePost (w : World) (G C R W r c : Nat) (zs : List Int) (nn : Int) (e : Ending) (w' : World) : Prop :=
  (∃ v, e = .returned v) ∧ GridIs w' G C R W (zs.set (r * W + c) (if cellD zs (r * W + c) < nn then nn else cellD zs (r * W + c))) ∧ w.grownBy w' (some C)
set_option maxRecDepth 100000 in
set_option maxHeartbeats 4000000 in
theorem rise_any (w : World) (A NB G C R W r c : Nat) (zs : List Int) (nn : Int) (h : GridIs w G C R W zs) (hr : r < R) (hc : c < W) (hn : In64 nn) (hA : Blk w A 281 #[.pointer (some ⟨G, 0, none⟩)]) (hN : Blk w NB 2 #[.int .i64 nn]) :
  Calls Tryz.prog 301 #[.int .i64 (r : Int), .int .i64 (c : Int), .pointer (some ⟨A, 0, none⟩), .pointer (some ⟨NB, 0, none⟩)] w (RisePost w G C R W r c zs nn) := by
 obtain ⟨b1, b2, b3⟩ := placeBd hr hc h.rows h.width
 have hlen : r * W + c < zs.length := by rw [h.len]; omega
 have PA := Lib.hid (at_in (w.drewN 1) G C R W r c zs (h.drewN 1) hr hc)
 have PP := Lib.hid (put_in (w.drewN 1) G C R W r c nn zs (h.drewN 1) hr hc)
 have HG := Lib.hid (h.drewN 1)
 have HA := Lib.hid (hA.drewN 1)
 have HN := Lib.hid (hN.drewN 1)
 have HSAME := Lib.hid (set_same hlen)
 have hgr0 : Hid (w.grownBy (w.drewN 1) (some C)) := Lib.hid (below_grown (below_drewN (Below.refl _ _) 1))
 have a0 := (hA.drewN 1).cell 0
 have n0 := (hN.drewN 1).cell 0
 simp at a0 n0
 unfold RisePost
 clear hlen h b1 b2 b3 hA hN
 generalize cellD zs (r * W + c) = x at *
 go_enter Tryz.func301, Tryz.ntmps301
 go_wp2_with fail
 refine wp_region_held_drew (S := fun w' => Blk w' A 281 #[.pointer (some ⟨G, 0, none⟩)] ∧ Blk w' NB 2 #[.int .i64 nn]) (by kernel_rfl) (by exact ⟨HA.out, HN.out⟩) (fun hHeld => ?_)
 refine tkH (i := 0) (v := ?_) rfl (by kernel_rfl) (fun _ _ _ h => h) (Or.inl ⟨by rfl, ?_⟩) (by assumption) ?_
 rotate_left
 ·intro w hSw
  have c1 := hSw.1.cell 0
  have c2 := hSw.2.cell 0
  simp at c1 c2
  go_simp
  try with_reducible rfl
 simp only [Act.put, z1, z2, z3, z4, z5, z6]
 refine tkH (i := 1) (v := ?_) rfl (by kernel_rfl) (fun _ _ _ h => h) (Or.inl ⟨by rfl, ?_⟩) (by assumption) ?_
 rotate_left
 ·intro w hSw
  try dsimp only at hSw
  go_simp
  try with_reducible rfl
 simp only [Act.put, z1, z2, z3, z4, z5, z6]
 refine tkH (i := 2) (v := ?_) rfl (by kernel_rfl) (fun _ _ _ h => h) (Or.inl ⟨by rfl, ?_⟩) (by assumption) ?_
 rotate_left
 ·intro w hSw
  try dsimp only at hSw
  go_simp
  try with_reducible rfl
 simp only [Act.put, z1, z2, z3, z4, z5, z6]
 refine tkH (i := 4) (v := ?_) rfl (by kernel_rfl) (fun _ _ _ h => h) (Or.inl ⟨by rfl, ?_⟩) (by assumption) ?_
 rotate_left
 ·intro w hSw
  have c1 := hSw.1.cell 0
  have c2 := hSw.2.cell 0
  simp at c1 c2
  go_simp
  try with_reducible rfl
 simp only [Act.put, z1, z2, z3, z4, z5, z6]
 refine wpAnyH_ready (rs := [3]) (by kernel_rfl) (by simp) ?_
 refine AllReadyH.cons rfl (fun Kc hKc => ?_) AllReadyH.nil
 go_simp
 go_wp2_with (go_at_call 281; refine PA.out.mono ?_; rintro e w' ⟨rfl, hw'⟩; subst hw')
 refine hKc.out _ _ ?_ (fun hHeld => ?_)
 ·assumption
 clear hKc Kc
 refine tkH (i := 5) (v := ?_) rfl (by kernel_rfl) (fun _ _ _ h => h) (Or.inl ⟨by rfl, ?_⟩) (by assumption) ?_
 rotate_left
 ·intro w hSw
  try dsimp only at hSw
  go_simp
  try with_reducible rfl
 simp only [Act.put, z1, z2, z3, z4, z5, z6]
 refine wpAnyH_done (by kernel_rfl) ?_ _
 clear hHeld
 by_cases hlt : x < nn
 ·have e1 : decide (x < nn) = true := decide_eq_true hlt
  have a1 : w.drew.cell? ⟨A, 0, none⟩ = some (.pointer (some ⟨G, 0, none⟩)) := a0
  have n1 : w.drew.cell? ⟨NB, 0, none⟩ = some (.int .i64 nn) := n0
  go_wp2_with fail
  refine PP.out.mono ?_; rintro e w' ⟨rfl, hw'⟩
  have HW := Lib.hid hw'
  clear hw'
  go_wp2
  (try simp only [Exit.inBlock, Exit.then])
  refine bodyPost_end (results_none rfl _ _ _) rfl ?_
  refine ⟨⟨_, rfl⟩, ?_, ?_⟩
  ·rw [HW.out]; first | exact HG.out.set _ _ hn.1 hn.2 | (rw [if_pos (by omega)]; exact HG.out.set _ _ hn.1 hn.2)
  ·rw [HW.out]; exact grown_trans hgr0.out (grown_set _ _ _ _)
 ·have e1 : decide (x < nn) = false := decide_eq_false hlt
  go_wp2
  (try simp only [Exit.inBlock, Exit.then])
  refine bodyPost_end (results_none rfl _ _ _) rfl ?_
  exact ⟨⟨_, rfl⟩, by first | (rw [HSAME.out]; exact HG.out) | (rw [if_neg (by omega), HSAME.out]; exact HG.out), hgr0.out⟩

set_option maxRecDepth 100000 in
set_option maxHeartbeats 4000000 in
theorem raise_yes (w : World) (G C R W : Nat) (zs cs : List Int) (d : Int) (v : Value) (h : GridIs w G C R W zs) (hv : IntsAt w v cs) (hm : meetB R W cs = true) (hd : In64 d) (hvc : v.ownBlock ≠ some C) :
  Calls Tryz.prog 292 #[.pointer (some ⟨G, 0, none⟩), v, .int .i64 d] w (RaisePost w G C R W zs cs d) := by
 have hR8 := h.rows
 have hfit := h.fit
 obtain ⟨h0R, hlR, hcol⟩ := meetB_of hm
 have HK := Lib.hid (box_kept (w := w) (cs := #[.pointer (some ⟨G, 0, none⟩)]) (t := 281) (Below.refl _ _))
 have P1 := least_yes _ G C R W zs cs v (h.kept HK.out.2) (hv.kept HK.out.2) hm
 unfold TellPost at P1
 have HG := Lib.hid h
 have HCOL := Lib.hid hcol
 have HFIT := Lib.hid hfit
 have HV := Lib.hid hv
 clear h hcol hm hfit
 obtain ⟨ao, cap, rfl, hcap, hcells⟩ := hv
 obtain ⟨g, rfl, hg, hc⟩ := hcells (by omega)
 have HC := Lib.hid hc
 have hgC : g ≠ C := fun e => hvc (by simp [Value.ownBlock, e])
 clear hcells hc hvc
 obtain ⟨n, hlen⟩ : ∃ n, n = cs.length := ⟨_, rfl⟩
 rw [← hlen] at hcap P1 ⊢
 have HLEN := Lib.hid hlen
 have hn8 : n ≤ 8 := by omega
 have hnR : Hid (n = R) := by show _ = _; omega
 clear hlen hlR
 have hbx := HK.out.1
 have q0 := hbx.cell 0
 simp at q0
 go_enter Tryz.func292, Tryz.ntmps292
 go_wp2_with fail
 refine P1.mono ?_; clear P1; rintro e w2 ⟨u, rfl, hu, hb⟩
 have HU := Lib.hid hu
 have HX2 := Lib.hid (hbx.kept hb)
 have HB2 := Lib.hid (HK.out.2.trans (hb.mono HK.out.2.size))
 have hu64 : In64 u := by
  have := (kth_zero hu).1
  simp only [readZ, List.mem_map] at this
  obtain ⟨r, _, rfl⟩ := this
  exact cell_fit HFIT.out _
 clear hu hb q0
 by_cases hneg : d < 0
 ·have e1 : decide (d < 0) = true := decide_eq_true hneg
  go_wp2
  go_ret
  exact ⟨u, HU.out, .inl ⟨hneg, rfl, HB2.out⟩⟩
 ·have e1 : decide (d < 0) = false := decide_eq_false hneg
  by_cases hs64 : In64 (u + d)
  ·have P2 := (opok_plus u d w2 hu64 hd).1 hs64
   unfold TwoPost at P2
   go_wp2_with fail
   refine P2.mono ?_; clear P2; rintro e w3 ⟨rfl, hb⟩
   have HX3 := Lib.hid (HX2.out.kept hb)
   have HB3 := Lib.hid (btr HB2.out hb)
   have hA3 := HX3.out.lt
   clear hb
   go_wp2_with fail
   obtain ⟨nn, hnn⟩ : ∃ nn, nn = u + d := ⟨_, rfl⟩
   rw [← hnn]
   have hn64 : In64 nn := by rw [hnn]; exact hs64
   have HNN := Lib.hid hnn
   have hnb := Blk.new w3 2 #[.int .i64 nn]
   have HX4 := Lib.hid (HX3.out.alloc (.cells #[.int .i64 nn] 2))
   have hb4 : Below w.heap.size w (w3.alloc (.cells #[.int .i64 nn] 2)) := btr HB3.out (below_alloc1 _ _)
   have HG4 := Lib.hid (HG.out.kept hb4)
   have HGR4 := Lib.hid (below_grown (row := some C) hb4)
   have HNB := Lib.hid hnb
   have hne1 : w3.heap.size ≠ C := by have := HG.out.ltC; have := HB3.out.size; omega
   have hne2 : w.heap.size ≠ C := by have := HG.out.ltC; omega
   clear hnn hs64 hnb hb4
   generalize (w3.alloc (.cells #[.int .i64 nn] 2)) = w5 at *
   generalize hNB : w3.heap.size = NB at *
   clear hNB
   go_loopw [36] (fun i wr => ∃ j : Nat, j ≤ n ∧ i = .int .i64 (j : Int) ∧ GridIs wr G C R W (setsZ W zs (colN cs) (riseV W zs cs nn) j) ∧ Blk wr w.heap.size 281 #[.pointer (some ⟨G, 0, none⟩)] ∧ Blk wr NB 2 #[.int .i64 nn] ∧ w.grownBy wr (some C)) (fun i _ => n - (intOf i).toNat)
   case atStart => exact ⟨0, by omega, rfl, HG4.out, HX4.out, HNB.out, HGR4.out⟩
   case round =>
    obtain ⟨j, hj, rfl, hg', hx', hnb', hgr'⟩ := hrel
    clear HG4 HX4 HNB HGR4
    have HG5 := Lib.hid hg'
    have HX5 := Lib.hid hx'
    have HN5 := Lib.hid hnb'
    have HGR := Lib.hid hgr'
    by_cases hlt : j < n
    ·obtain ⟨hcj, hcw⟩ := HCOL.out j (by have := hnR.out; omega)
     have cx := hgr'.cell (HC.out j _ hcj) (by simpa using hgC)
     have i0 : (0 : Int) ≤ (j : Int) := by omega
     have i1 : (j : Int) < (n : Int) := by omega
     have PR := Lib.hid (rise_any wr w.heap.size NB G C R W j (colN cs j) _ nn hg' (by have := hnR.out; omega) hcw hn64 hx' hnb')
     have HST : Hid ((setsZ W zs (colN cs) (riseV W zs cs nn) j).set (j * W + colN cs j) (if cellD (setsZ W zs (colN cs) (riseV W zs cs nn) j) (j * W + colN cs j) < nn then nn else cellD (setsZ W zs (colN cs) (riseV W zs cs nn) j) (j * W + colN cs j)) = setsZ W zs (colN cs) (riseV W zs cs nn) (j + 1)) := Lib.hid (by
      have e := setsZ_get (cf := colN cs) (vf := riseV W zs cs nn) HG.out.len (fun r hr => (HCOL.out r hr).2) j (by have := hnR.out; omega) j (colN cs j) (by have := hnR.out; omega) hcw
      rw [if_neg (by omega)] at e
      rw [e]; rfl)
     unfold RisePost at PR
     clear hg' hx' hnb' hgr' hcj hcw
     rw [HST.out] at PR
     generalize hy : colN cs j = y at *
     clear hy HST
     go_wp2_with fail
     refine PR.out.mono ?_; rintro e w6 ⟨⟨v, rfl⟩, hg6, hgr6⟩
     have HG6 := Lib.hid hg6
     have HX6 := Lib.hid (HX5.out.grown hgr6 (by simpa using hne2))
     have HN6 := Lib.hid (HN5.out.grown hgr6 (by simpa using hne1))
     have HGR6 := Lib.hid (grown_trans HGR.out hgr6)
     clear hg6 hgr6
     go_wp2
     go_roundw
     case rel => exact ⟨j + 1, by omega, by go_num, HG6.out, HX6.out, HN6.out, HGR6.out⟩
     case measure => simp [intOf]; omega
    ·obtain rfl : j = n := by omega
     have HP : Hid (RaisePost w G C R W zs cs d (.returned (.int .i64 0)) wr) := ⟨u, HU.out, .inr (.inr ⟨by omega, by rw [← HNN.out]; exact hn64, rfl, by rw [← HNN.out, raiseZ, ← HLEN.out]; exact HG5.out, HGR.out⟩)⟩
     clear hg' hx' hnb' hgr'
     go_wp2
     go_ret
     exact HP.out
  ·have P2 := (opok_plus u d w2 hu64 hd).2 hs64
   unfold TwoPost at P2
   go_wp2_with fail
   refine P2.mono ?_; clear P2; rintro e w3 ⟨rfl, hb⟩
   have HB3 := Lib.hid (btr HB2.out hb)
   have HB4 : Hid (Below w.heap.size w (w3.alloc (.cells #[.int .i64 0] 2))) := Lib.hid (btr HB3.out (below_alloc1 _ _))
   clear hb
   go_wp2
   go_ret
   exact ⟨u, HU.out, .inr (.inl ⟨by omega, hs64, rfl, HB4.out⟩)⟩
end Go.Proofs.YtfeficdndjiijaaGreatDoor


namespace Go.Proofs.YtfeficdndjiijaaGreatDoor

def PN : Nat := 2305843009213693951
end Go.Proofs.YtfeficdndjiijaaGreatDoor


namespace Go.Proofs.YtfeficdndjiijaaGreatDoor
open Go.RowKit

def P : Int := 2305843009213693951
def ffold (a : Int) : Int := a % P
def fadd (a b : Int) : Int := (a + b) % P
def fmul (a b : Int) : Int := (a * b) % P
theorem mod_bd (a : Int) : 0 ≤ a % P ∧ a % P ≤ 2305843009213693950 := by unfold P; omega
theorem ffold_bd (a : Int) : 0 ≤ ffold a ∧ ffold a ≤ 2305843009213693950 := mod_bd _
theorem fadd_bd (a b : Int) : 0 ≤ fadd a b ∧ fadd a b ≤ 2305843009213693950 := mod_bd _
theorem fmul_bd (a b : Int) : 0 ≤ fmul a b ∧ fmul a b ≤ 2305843009213693950 := mod_bd _
theorem mod_idem (a : Int) : a % P % P = a % P := Int.emod_emod_of_dvd a (Int.dvd_refl P)
theorem add_l (a b : Int) : (a % P + b) % P = (a + b) % P := Int.emod_add_emod ..
theorem add_r (a b : Int) : (a + b % P) % P = (a + b) % P := Int.add_emod_emod ..
theorem mul_l (a b : Int) : (a % P * b) % P = (a * b) % P := by rw [Int.mul_emod, mod_idem, ← Int.mul_emod]
theorem mul_r (a b : Int) : (a * (b % P)) % P = (a * b) % P := by rw [Int.mul_comm, mul_l, Int.mul_comm]
theorem and_P (a : Int) (h0 : 0 ≤ a) (h1 : a ≤ 18446744073709551615) : bits BinOp.and IntKind.u64 a 2305843009213693951 = a % 2305843009213693952 := by
  have h := u64_and a 2305843009213693951 h0 (by omega) (by omega) (by omega)
  rw [h]
  have : (2305843009213693951 : Int).toNat = 2 ^ 61 - 1 := by decide +kernel
  rw [this, Nat.and_two_pow_sub_one_eq_mod]
  have e : ((a.toNat % 2 ^ 61 : Nat) : Int) = (a.toNat : Int) % 2305843009213693952 := by
    rw [Int.natCast_emod]; rfl
  rw [e, Int.toNat_of_nonneg h0]
theorem fold_step (a : Int) (h0 : 0 ≤ a) (h1 : a ≤ 18446744073709551615) :
    (2305843009213693951 ≤ a % 2305843009213693952 + a / 2305843009213693952 → a % 2305843009213693952 + a / 2305843009213693952 - 2305843009213693951 = ffold a) ∧
    (a % 2305843009213693952 + a / 2305843009213693952 < 2305843009213693951 → a % 2305843009213693952 + a / 2305843009213693952 = ffold a) := by
  unfold ffold P; omega

theorem fadd_of (a b : Int) : ffold (ffold a + ffold b) = fadd a b := by
  unfold ffold fadd; rw [add_l, add_r]
theorem or_shift (h l : Nat) (hh : h < 288230376151711744) (hl : l < 18446744073709551616) :
    bits BinOp.or IntKind.u64 ((h : Int) * 8) ((l : Int) / 2305843009213693952) = (h : Int) * 8 + (l : Int) / 2305843009213693952 := by
  have e1 : ((h : Int) * 8) = ((h * 8 : Nat) : Int) := by omega
  have e2 : ((l : Int) / 2305843009213693952) = ((l / 2305843009213693952 : Nat) : Int) := by omega
  rw [e1, e2, u64_or_nat _ _ (by omega) (by omega)]
  have hb : l / 2305843009213693952 < 2 ^ 3 := by omega
  have := Nat.two_pow_add_eq_or_of_lt hb h
  have e3 : h * 8 ||| l / 2305843009213693952 = h * 8 + l / 2305843009213693952 := by
    rw [show h * 8 = 2 ^ 3 * h by omega, this]
  rw [e3]
  omega

theorem fmul_of (x y : Nat) (a b : Int) (hx : (x : Int) = ffold a) (hy : (y : Int) = ffold b) :
    fadd (((x * y / 18446744073709551616 : Nat) : Int) * 8 + ((x * y % 18446744073709551616 : Nat) : Int) / 2305843009213693952) (((x * y % 18446744073709551616 : Nat) : Int) % 2305843009213693952) = fmul a b := by
  have e : fmul a b = ((x * y : Nat) : Int) % P := by
    unfold fmul; rw [Int.natCast_mul, hx, hy]; unfold ffold; rw [mul_l, mul_r]
  rw [e]
  generalize x * y = z
  unfold fadd P
  omega

theorem hi_bd (x y : Nat) (a b : Int) (hx : (x : Int) = ffold a) (hy : (y : Int) = ffold b) : x * y / 18446744073709551616 < 288230376151711744 := by
  have h1 := ffold_bd a; have h2 := ffold_bd b
  have : x * y ≤ 2305843009213693950 * 2305843009213693950 := Nat.mul_le_mul (by omega) (by omega)
  omega

end Go.Proofs.YtfeficdndjiijaaGreatDoor


namespace Go.Proofs.YtfeficdndjiijaaGreatDoor
set_option linter.unusedVariables false

def lineI (a b x : Int) : Int := fadd (fmul a x) b
theorem lineI_bd (a b x : Int) : 0 ≤ lineI a b x ∧ lineI a b x ≤ 2305843009213693950 := fadd_bd _ _
end Go.Proofs.YtfeficdndjiijaaGreatDoor


namespace Go.Proofs.YtfeficdndjiijaaGreatDoor
open Go.RowKit
set_option linter.unusedVariables false

def bv (a : Int) : BitVec 64 := BitVec.ofInt 64 a
def nv (x : BitVec 64) : Int := (x.toNat : Int)

theorem nv_bd (x : BitVec 64) : 0 ≤ nv x ∧ nv x ≤ 18446744073709551615 := by
  have := x.isLt; unfold nv; omega
theorem nv_bv (a : Int) (h0 : 0 ≤ a) (h1 : a ≤ 18446744073709551615) : nv (bv a) = a := by
  unfold nv bv
  rw [BitVec.toNat_ofInt]
  have : a % ((2 ^ 64 : Nat) : Int) = a := Int.emod_eq_of_lt h0 (by omega)
  rw [this, Int.toNat_of_nonneg h0]
theorem wrap_bv (a : Int) : IntKind.u64.wrap a = nv (bv a) := by
  unfold nv bv
  rw [IntKind.wrap_u64, BitVec.toNat_ofInt]
  have : 0 ≤ a % ((2 ^ 64 : Nat) : Int) := Int.emod_nonneg _ (by decide)
  rw [Int.toNat_of_nonneg this]
  rfl
theorem bv_nv (x : BitVec 64) : bv (nv x) = x := by
  unfold nv bv; rw [BitVec.ofInt_natCast]; simp
theorem bv_add (a b : Int) : bv (a + b) = bv a + bv b := BitVec.ofInt_add ..
theorem bv_mul (a b : Int) : bv (a * b) = bv a * bv b := BitVec.ofInt_mul ..
theorem bv_wrap (a : Int) : bv (IntKind.u64.wrap a) = bv a := by rw [wrap_bv, bv_nv]
theorem xor_nv (x y : BitVec 64) : bits BinOp.xor IntKind.u64 (nv x) (nv y) = nv (x ^^^ y) := by
  unfold nv
  rw [u64_xor_nat _ _ (by have := x.isLt; omega) (by have := y.isLt; omega), BitVec.toNat_xor]
theorem shr_nv (x : BitVec 64) (k : Nat) : nv x / ((2 ^ k : Nat) : Int) = nv (x >>> k) := by
  unfold nv
  rw [BitVec.toNat_ushiftRight, Nat.shiftRight_eq_div_pow]
  exact (Int.natCast_ediv ..).symm

def sx (k : Nat) (z : BitVec 64) : BitVec 64 := z ^^^ z >>> k
def C1 : BitVec 64 := 13787848793156543929#64
def C2 : BitVec 64 := 10723151780598845931#64
def mixB (z : BitVec 64) : BitVec 64 := sx 31 (sx 27 (sx 30 z * C1) * C2)
def G : BitVec 64 := 11400714819323198485#64
def drawB (s i : BitVec 64) : BitVec 64 := mixB (s + (i + 1#64) * G)

def mixI (a : Int) : Int := nv (mixB (bv a))
def drawI (s i : Int) : Int := nv (drawB (bv s) (bv i))
theorem drawI_bd (a b : Int) : 0 ≤ drawI a b ∧ drawI a b ≤ 18446744073709551615 := nv_bd _

def pairN (l r : Int) : Int := 16 * l + 2 * r
def pairA (s l r : Int) : Int := 1 + drawI s (pairN l r) % 2305843009213693950
def pairB (s l r : Int) : Int := drawI s (pairN l r + 1) % 2305843009213693951
theorem pairA_bd (s l r : Int) : 1 ≤ pairA s l r ∧ pairA s l r ≤ 2305843009213693950 := by unfold pairA; omega
theorem pairB_bd (s l r : Int) : 0 ≤ pairB s l r ∧ pairB s l r ≤ 2305843009213693950 := by unfold pairB; omega

theorem shake30 (x : BitVec 64) : bits BinOp.xor IntKind.u64 (nv x) (nv x / 1073741824) = nv (sx 30 x) := by
  rw [show (1073741824 : Int) = ((2 ^ 30 : Nat) : Int) from rfl, shr_nv, xor_nv]; rfl
theorem shake27 (x : BitVec 64) : bits BinOp.xor IntKind.u64 (nv x) (nv x / 134217728) = nv (sx 27 x) := by
  rw [show (134217728 : Int) = ((2 ^ 27 : Nat) : Int) from rfl, shr_nv, xor_nv]; rfl
theorem shake31 (x : BitVec 64) : bits BinOp.xor IntKind.u64 (nv x) (nv x / 2147483648) = nv (sx 31 x) := by
  rw [show (2147483648 : Int) = ((2 ^ 31 : Nat) : Int) from rfl, shr_nv, xor_nv]; rfl
theorem wrap_mulC (x : BitVec 64) (c : Int) (C : BitVec 64) (h : bv c = C) : IntKind.u64.wrap (nv x * c) = nv (x * C) := by
  rw [wrap_bv, bv_mul, bv_nv, h]

theorem mix_walk (a : Int) (h0 : 0 ≤ a) (h1 : a ≤ 18446744073709551615) :
    IntKind.u64.wrap (bits BinOp.xor IntKind.u64 (IntKind.u64.wrap (bits BinOp.xor IntKind.u64 (IntKind.u64.wrap (bits BinOp.xor IntKind.u64 a (a / 1073741824) * 13787848793156543929)) (IntKind.u64.wrap (bits BinOp.xor IntKind.u64 a (a / 1073741824) * 13787848793156543929) / 134217728) * 10723151780598845931)) (IntKind.u64.wrap (bits BinOp.xor IntKind.u64 (IntKind.u64.wrap (bits BinOp.xor IntKind.u64 a (a / 1073741824) * 13787848793156543929)) (IntKind.u64.wrap (bits BinOp.xor IntKind.u64 a (a / 1073741824) * 13787848793156543929) / 134217728) * 10723151780598845931) / 2147483648)) = mixI a := by
  obtain ⟨x, rfl⟩ : ∃ x : BitVec 64, a = nv x := ⟨bv a, (nv_bv a h0 h1).symm⟩
  rw [shake30, wrap_mulC _ _ C1 (by decide), shake27, wrap_mulC _ _ C2 (by decide), shake31, wrap_bv, bv_nv]
  unfold mixI mixB
  rw [bv_nv]

end Go.Proofs.YtfeficdndjiijaaGreatDoor


namespace Go.Proofs.YtfeficdndjiijaaGreatDoor
set_option linter.unusedVariables false

def rightB (b r d m : Int) : Bool := decide (1 ≤ b ∧ b ≤ 59 ∧ 1 ≤ r ∧ r ≤ 8 ∧ 1 ≤ d ∧ d ≤ 128 ∧ 1 ≤ m ∧ m ≤ 3)
theorem right_of {b r d m : Int} (h : rightB b r d m = true) : 1 ≤ b ∧ b ≤ 59 ∧ 1 ≤ r ∧ r ≤ 8 ∧ 1 ≤ d ∧ d ≤ 128 ∧ 1 ≤ m ∧ m ≤ 3 := of_decide_eq_true h
theorem right_mk {b r d m : Int} (h : 1 ≤ b ∧ b ≤ 59 ∧ 1 ≤ r ∧ r ≤ 8 ∧ 1 ≤ d ∧ d ≤ 128 ∧ 1 ≤ m ∧ m ≤ 3) : rightB b r d m = true := decide_eq_true h

def keysI (b r d m l : Int) : Int := if rightB b r d m = true ∧ 0 ≤ l ∧ l ≤ b then 2 ^ (b - l).toNat else 0
theorem keysI_yes {b r d m l : Int} (h : rightB b r d m = true) (h0 : 0 ≤ l) (h1 : l ≤ b) : keysI b r d m l = 2 ^ (b - l).toNat := if_pos ⟨h, h0, h1⟩
theorem keysI_no {b r d m l : Int} (h : ¬ (rightB b r d m = true ∧ 0 ≤ l ∧ l ≤ b)) : keysI b r d m l = 0 := if_neg h
theorem pow_le (n : Nat) (h : n ≤ 59) : (1 : Int) ≤ 2 ^ n ∧ (2 : Int) ^ n ≤ 576460752303423488 := by
  have h1 : 2 ^ n ≤ 2 ^ 59 := Nat.pow_le_pow_right (by omega) h
  have h2 : 0 < 2 ^ n := Nat.two_pow_pos n
  have e : ((2 ^ n : Nat) : Int) = (2 : Int) ^ n := Int.natCast_pow ..
  omega
theorem keysI_bd (b r d m l : Int) : 0 ≤ keysI b r d m l ∧ keysI b r d m l ≤ 576460752303423488 := by
  unfold keysI
  by_cases c : rightB b r d m = true ∧ 0 ≤ l ∧ l ≤ b
  · rw [if_pos c]
    have := right_of c.1
    have := pow_le (b - l).toNat (by omega)
    omega
  · rw [if_neg c]; omega

def exactB (b r d m l : Int) : Bool := decide (0 < keysI b r d m l ∧ keysI b r d m l ≤ d)
def colI (d s l k i : Int) : Int := lineI (pairA s l i) (pairB s l i) k % d
end Go.Proofs.YtfeficdndjiijaaGreatDoor


namespace Go.Proofs.YtfeficdndjiijaaGreatDoor
open Go.RowKit
set_option linter.unusedVariables false
set_option linter.unusedSimpArgs false

def withinB (n0 m0 n1 m1 n2 m2 n3 m3 : Int) : Bool := decide (1 ≤ n0 ∧ n0 ≤ m0 ∧ 1 ≤ n1 ∧ n1 ≤ m1 ∧ 1 ≤ n2 ∧ n2 ≤ m2 ∧ 1 ≤ n3 ∧ n3 ≤ m3)

theorem ret_bool {a b : Bool} (h : a = b) : Ending.returned (.bool a) = .returned (.bool b) := by rw [h]

theorem within_any (B : Nat) (n0 m0 n1 m1 n2 m2 n3 m3 : Int) (w : World)
  (hB : Blk w B 231 #[.int .i64 n0, .int .i64 m0, .int .i64 n1, .int .i64 m1, .int .i64 n2, .int .i64 m2, .int .i64 n3, .int .i64 m3]) :
  Calls Tryz.prog 113 #[.slice (some ⟨B, 0, none⟩) 4 4] w fun e w' => e = .returned (.bool (withinB n0 m0 n1 m1 n2 m2 n3 m3)) ∧ Below w.heap.size w w' := by
 have HB := Lib.hid hB
 clear hB
 go_enter Tryz.func113, Tryz.ntmps113
 go_wp2
 go_loopw [7] (fun i wr => ∃ k : Nat, k ≤ 4 ∧ i = .int .i64 (k : Int) ∧ Blk wr B 231 #[.int .i64 n0, .int .i64 m0, .int .i64 n1, .int .i64 m1, .int .i64 n2, .int .i64 m2, .int .i64 n3, .int .i64 m3] ∧ Below w.heap.size w wr ∧
   (0 < k → 1 ≤ n0 ∧ n0 ≤ m0) ∧ (1 < k → 1 ≤ n1 ∧ n1 ≤ m1) ∧ (2 < k → 1 ≤ n2 ∧ n2 ≤ m2) ∧ (3 < k → 1 ≤ n3 ∧ n3 ≤ m3)) (fun i _ => 4 - (intOf i).toNat)
 case atStart => exact ⟨0, by omega, rfl, HB.out, Below.refl _ _, by omega, by omega, by omega, by omega⟩
 case round =>
  obtain ⟨k, hk, rfl, hU, hb, q0, q1, q2, q3⟩ := hrel
  rcases (show k = 0 ∨ k = 1 ∨ k = 2 ∨ k = 3 ∨ k = 4 by omega) with rfl | rfl | rfl | rfl | rfl
  ·have c0 := hU.cell 0
   have c1 := hU.cell 1
   simp at c0 c1
   have HU := Lib.hid hU
   have hlt := hU.lt
   have hsz := hb.size
   clear hU
   by_cases h0 : n0 < 1
   ·have H : Hid (false = withinB n0 m0 n1 m1 n2 m2 n3 m3) := Lib.hid (by unfold withinB; symm; simp; omega)
    go_wp2
    go_ret
    exact ⟨ret_bool H.out, hb.alloc hsz _⟩
   ·by_cases h1 : m0 < n0
    ·have H : Hid (false = withinB n0 m0 n1 m1 n2 m2 n3 m3) := Lib.hid (by unfold withinB; symm; simp; omega)
     go_wp2
     go_ret
     exact ⟨ret_bool H.out, hb.alloc hsz _⟩
    ·go_wp2
     exact ⟨⟨1, by omega, rfl, HU.out.alloc _, hb.alloc hsz _, by omega, by omega, by omega, by omega⟩, by simp [intOf]⟩
  ·have c0 := hU.cell 2
   have c1 := hU.cell 3
   simp at c0 c1
   have HU := Lib.hid hU
   have hlt := hU.lt
   have hsz := hb.size
   clear hU
   by_cases h0 : n1 < 1
   ·have H : Hid (false = withinB n0 m0 n1 m1 n2 m2 n3 m3) := Lib.hid (by unfold withinB; symm; simp; omega)
    go_wp2
    go_ret
    exact ⟨ret_bool H.out, hb.alloc hsz _⟩
   ·by_cases h1 : m1 < n1
    ·have H : Hid (false = withinB n0 m0 n1 m1 n2 m2 n3 m3) := Lib.hid (by unfold withinB; symm; simp; omega)
     go_wp2
     go_ret
     exact ⟨ret_bool H.out, hb.alloc hsz _⟩
    ·go_wp2
     exact ⟨⟨2, by omega, rfl, HU.out.alloc _, hb.alloc hsz _, by omega, by omega, by omega, by omega⟩, by simp [intOf]⟩
  ·have c0 := hU.cell 4
   have c1 := hU.cell 5
   simp at c0 c1
   have HU := Lib.hid hU
   have hlt := hU.lt
   have hsz := hb.size
   clear hU
   by_cases h0 : n2 < 1
   ·have H : Hid (false = withinB n0 m0 n1 m1 n2 m2 n3 m3) := Lib.hid (by unfold withinB; symm; simp; omega)
    go_wp2
    go_ret
    exact ⟨ret_bool H.out, hb.alloc hsz _⟩
   ·by_cases h1 : m2 < n2
    ·have H : Hid (false = withinB n0 m0 n1 m1 n2 m2 n3 m3) := Lib.hid (by unfold withinB; symm; simp; omega)
     go_wp2
     go_ret
     exact ⟨ret_bool H.out, hb.alloc hsz _⟩
    ·go_wp2
     exact ⟨⟨3, by omega, rfl, HU.out.alloc _, hb.alloc hsz _, by omega, by omega, by omega, by omega⟩, by simp [intOf]⟩
  ·have c0 := hU.cell 6
   have c1 := hU.cell 7
   simp at c0 c1
   have HU := Lib.hid hU
   have hlt := hU.lt
   have hsz := hb.size
   clear hU
   by_cases h0 : n3 < 1
   ·have H : Hid (false = withinB n0 m0 n1 m1 n2 m2 n3 m3) := Lib.hid (by unfold withinB; symm; simp; omega)
    go_wp2
    go_ret
    exact ⟨ret_bool H.out, hb.alloc hsz _⟩
   ·by_cases h1 : m3 < n3
    ·have H : Hid (false = withinB n0 m0 n1 m1 n2 m2 n3 m3) := Lib.hid (by unfold withinB; symm; simp; omega)
     go_wp2
     go_ret
     exact ⟨ret_bool H.out, hb.alloc hsz _⟩
    ·go_wp2
     exact ⟨⟨4, by omega, rfl, HU.out.alloc _, hb.alloc hsz _, by omega, by omega, by omega, by omega⟩, by simp [intOf]⟩
  ·have H : Hid (true = withinB n0 m0 n1 m1 n2 m2 n3 m3) := Lib.hid (by unfold withinB; symm; exact decide_eq_true (by omega))
   go_wp2
   go_ret
   exact ⟨ret_bool H.out, hb⟩

theorem right_any (b r d m s : Int) (w : World) :
    Calls Tryz.prog 66 #[.agg #[.int .i64 b, .int .i64 r, .int .i64 d, .int .i64 m, .int .u64 s]] w fun e w' => e = .returned (.bool (rightB b r d m)) ∧ Below w.heap.size w w' := by
  have H : Hid (withinB b 59 r 8 d 128 m 3 = rightB b r d m) := Lib.hid (by rfl)
  go_enter Tryz.func66, Tryz.ntmps66
  go_wp2_with fail
  refine (within_any (w.heap.size + 1) b 59 r 8 d 128 m 3 _ (by first | exact Blk.new _ _ _ | (have := Blk.new (w.alloc (.cells #[.int .i64 b, .int .i64 r, .int .i64 d, .int .i64 m, .int .u64 s] 24)) 231 #[.int .i64 b, .int .i64 59, .int .i64 r, .int .i64 8, .int .i64 d, .int .i64 128, .int .i64 m, .int .i64 3]; simpa using this))).mono ?_
  rintro e w' ⟨rfl, hb⟩
  go_wp2
  go_ret
  exact ⟨ret_bool H.out, (((Below.refl _ _).alloc (Nat.le_refl _) _).alloc (by simp) _).trans (hb.mono (by simp; omega))⟩

theorem ret_u64q {a b : Int} (h : a = b) : Ending.returned (.int .u64 a) = .returned (.int .u64 b) := by rw [h]

theorem keys_any (b r d m s l : Int) (w : World) :
  Calls Tryz.prog 72 #[.agg #[.int .i64 b, .int .i64 r, .int .i64 d, .int .i64 m, .int .u64 s], .int .i64 l] w fun e w' => e = .returned (.int .u64 (keysI b r d m l)) ∧ Below w.heap.size w w' := by
 cases hr : rightB b r d m
 ·have H : Hid (0 = keysI b r d m l) := Lib.hid (keysI_no (fun h => by rw [hr] at h; exact absurd h.1 (by decide))).symm
  go_enter Tryz.func72, Tryz.ntmps72
  go_wp2_with fail
  refine (right_any b r d m s _).mono ?_; rintro e w' ⟨rfl, hb⟩
  obtain ⟨hk, hbb⟩ := box_kept hb
  have c0 := hk.cell 0
  simp at c0
  rw [hr]
  go_wp2
  go_ret
  exact ⟨ret_u64q H.out, hbb⟩
 ·have HR := right_of hr
  by_cases h0 : l < 0
  ·have H : Hid (0 = keysI b r d m l) := Lib.hid (keysI_no (fun h => by omega)).symm
   go_enter Tryz.func72, Tryz.ntmps72
   go_wp2_with fail
   refine (right_any b r d m s _).mono ?_; rintro e w' ⟨rfl, hb⟩
   obtain ⟨hk, hbb⟩ := box_kept hb
   have c0 := hk.cell 0
   simp at c0
   rw [hr]
   go_wp2
   go_ret
   exact ⟨ret_u64q H.out, hbb⟩
  ·by_cases h1 : b < l
   ·have H : Hid (0 = keysI b r d m l) := Lib.hid (keysI_no (fun h => by omega)).symm
    go_enter Tryz.func72, Tryz.ntmps72
    go_wp2_with fail
    refine (right_any b r d m s _).mono ?_; rintro e w' ⟨rfl, hb⟩
    obtain ⟨hk, hbb⟩ := box_kept hb
    have c0 := hk.cell 0
    simp at c0
    rw [hr]
    go_wp2
    go_ret
    exact ⟨ret_u64q H.out, hbb⟩
   ·have H : Hid (2 ^ (b - l).toNat = keysI b r d m l) := Lib.hid (keysI_yes hr (by omega) (by omega)).symm
    have hp := pow_le (b - l).toNat (by omega)
    have g0 : 0 ≤ l := by omega
    have g1 : l ≤ b := by omega
    have g2 : 0 ≤ b - l := by omega
    have g3 : b - l ≤ 59 := by omega
    go_enter Tryz.func72, Tryz.ntmps72
    go_wp2_with fail
    refine (right_any b r d m s _).mono ?_; rintro e w' ⟨rfl, hb⟩
    obtain ⟨hk, hbb⟩ := box_kept hb
    have c0 := hk.cell 0
    simp at c0
    rw [hr]
    go_wp2
    go_ways
    go_ret
    go_show
    exact ⟨ret_u64q H.out, hbb⟩
end Go.Proofs.YtfeficdndjiijaaGreatDoor


namespace Go.Proofs.YtfeficdndjiijaaGreatDoor
open Go.RowKit
set_option linter.unusedVariables false
set_option linter.unusedSimpArgs false

end Go.Proofs.YtfeficdndjiijaaGreatDoor


namespace Go.Proofs.YtfeficdndjiijaaGreatDoor
open Go.RowKit
set_option linter.unusedVariables false
set_option linter.unusedSimpArgs false

theorem keys_right {b r d m l : Int} (h : 0 < keysI b r d m l) : 1 ≤ d ∧ d ≤ 128 ∧ 1 ≤ b ∧ b ≤ 59 ∧ 0 ≤ l ∧ l ≤ b ∧ 1 ≤ r ∧ r ≤ 8 ∧ rightB b r d m = true := by
  unfold keysI at h
  by_cases c : rightB b r d m = true ∧ 0 ≤ l ∧ l ≤ b
  · have := right_of c.1
    exact ⟨by omega, by omega, by omega, by omega, by omega, by omega, by omega, by omega, c.1⟩
  · rw [if_neg c] at h; omega

theorem exact_any (b r d m s l : Int) (w : World) :
  Calls Tryz.prog 71 #[.agg #[.int .i64 b, .int .i64 r, .int .i64 d, .int .i64 m, .int .u64 s], .int .i64 l] w fun e w' => e = .returned (.bool (exactB b r d m l)) ∧ Below w.heap.size w w' := by
 obtain ⟨k0, k1⟩ := keysI_bd b r d m l
 by_cases hp : 0 < keysI b r d m l
 ·obtain ⟨d0, d1, _⟩ := keys_right hp
  by_cases hd : keysI b r d m l ≤ d
  ·have H : Hid (true = exactB b r d m l) := Lib.hid (decide_eq_true ⟨hp, hd⟩).symm
   go_enter Tryz.func71, Tryz.ntmps71
   go_wp2_with fail
   refine (keys_any b r d m s l _).mono ?_; rintro e w' ⟨rfl, hb⟩
   obtain ⟨hk, hbb⟩ := box_kept hb
   have c2 := hk.cell 2
   simp at c2
   go_wp2
   go_ret
   exact ⟨ret_bool H.out, hbb⟩
  ·have H : Hid (false = exactB b r d m l) := Lib.hid (decide_eq_false (fun h => hd h.2)).symm
   go_enter Tryz.func71, Tryz.ntmps71
   go_wp2_with fail
   refine (keys_any b r d m s l _).mono ?_; rintro e w' ⟨rfl, hb⟩
   obtain ⟨hk, hbb⟩ := box_kept hb
   have c2 := hk.cell 2
   simp at c2
   have dd : decide (keysI b r d m l ≤ d) = false := decide_eq_false (by omega)
   go_wp2
   go_ret
   exact ⟨ret_bool H.out, hbb⟩
 ·have H : Hid (false = exactB b r d m l) := Lib.hid (decide_eq_false (fun h => hp h.1)).symm
  go_enter Tryz.func71, Tryz.ntmps71
  go_wp2_with fail
  refine (keys_any b r d m s l _).mono ?_; rintro e w' ⟨rfl, hb⟩
  obtain ⟨hk, hbb⟩ := box_kept hb
  go_wp2
  go_ret
  exact ⟨ret_bool H.out, hbb⟩


theorem box_cells {w' : World} {g : Nat} {t : TypeId} {b r d m s : Int} (hk : Blk w' g t #[.int .i64 b, .int .i64 r, .int .i64 d, .int .i64 m, .int .u64 s]) :
    w'.cell? ⟨g, 0, none⟩ = some (.int .i64 b) ∧ w'.cell? ⟨g, 1, none⟩ = some (.int .i64 r) ∧ w'.cell? ⟨g, 2, none⟩ = some (.int .i64 d) ∧ w'.cell? ⟨g, 3, none⟩ = some (.int .i64 m) ∧ w'.cell? ⟨g, 4, none⟩ = some (.int .u64 s) :=
  ⟨hk.cell 0, hk.cell 1, hk.cell 2, hk.cell 3, hk.cell 4⟩


end Go.Proofs.YtfeficdndjiijaaGreatDoor


namespace Go.Proofs.YtfeficdndjiijaaGreatDoor
open Go.RowKit
set_option linter.unusedVariables false
set_option linter.unusedSimpArgs false

theorem gplus_yes (w : World) (G C H D R W : Nat) (zs hs : List Int) (hg : GridIs w G C R W zs) (hh : GridIs w H D R W hs) (hfit : Fit (List.zipWith (fun a b => a + b) zs hs)) : Calls Tryz.prog 225 #[.pointer (some ⟨G, 0, none⟩), .pointer (some ⟨H, 0, none⟩)] w (AllYes w G C R W (List.zipWith (fun a b => a + b) zs hs)) := by
  have HC := all_yes_plus (fun a b => a + b) opok_plus w G C H D R W zs hs hg hh hfit
  go_enter Tryz.func225, Tryz.ntmps225
  go_wp2_with (go_at_call 239; refine HC.mono ?_; clear HC; intro e w1 H1; obtain ⟨rfl, h2⟩ := H1; have H2 := Lib.hid h2; clear h2)
  go_ret
  exact ⟨rfl, H2.out⟩

theorem gminus_yes (w : World) (G C H D R W : Nat) (zs hs : List Int) (hg : GridIs w G C R W zs) (hh : GridIs w H D R W hs) (hfit : Fit (List.zipWith (fun a b => a - b) zs hs)) : Calls Tryz.prog 227 #[.pointer (some ⟨G, 0, none⟩), .pointer (some ⟨H, 0, none⟩)] w (AllYes w G C R W (List.zipWith (fun a b => a - b) zs hs)) := by
  have HC := all_yes_minus (fun a b => a - b) opok_minus w G C H D R W zs hs hg hh hfit
  go_enter Tryz.func227, Tryz.ntmps227
  go_wp2_with (go_at_call 239; refine HC.mono ?_; clear HC; intro e w1 H1; obtain ⟨rfl, h2⟩ := H1; have H2 := Lib.hid h2; clear h2)
  go_ret
  exact ⟨rfl, H2.out⟩

end Go.Proofs.YtfeficdndjiijaaGreatDoor


namespace Go.Proofs.YtfeficdndjiijaaGreatDoor
open Go.RowKit
set_option linter.unusedVariables false
set_option linter.unusedSimpArgs false

def ArrIs (w : World) (A G C : Nat) (b r d m s l : Int) (K : Nat) (zs : List Int) : Prop :=
  Blk w A 284 #[.int .i64 b, .int .i64 r, .int .i64 d, .int .i64 m, .int .u64 s, .int .i64 l, .pointer (some ⟨G, 0, none⟩)] ∧ GridIs w G C 1 K zs
def ExNewPost (w : World) (b r d m s l : Int) (e : Ending) (w' : World) : Prop :=
  ∃ A G C, e = .returned (.tuple #[.pointer (some ⟨A, 0, none⟩), .int .i64 0]) ∧ w.heap.size ≤ A ∧ w.heap.size ≤ G ∧ w.heap.size ≤ C ∧ ArrIs w' A G C b r d m s l (keysI b r d m l).toNat (List.replicate (1 * (keysI b r d m l).toNat) 0) ∧ Below w.heap.size w w'

set_option maxRecDepth 100000 in
set_option maxHeartbeats 4000000 in
theorem exnew_yes (b r d m s l : Int) (h : exactB b r d m l = true) (w : World) :
  Calls Tryz.prog 114 #[.agg #[.int .i64 b, .int .i64 r, .int .i64 d, .int .i64 m, .int .u64 s], .int .i64 l] w (ExNewPost w b r d m s l) := by
 have PE := fun w => exact_any b r d m s l w
 have hk := of_decide_eq_true h
 have hkr := keys_right hk.1
 have PK := Lib.hid (fun w => keys_any b r d m s l w)
 rw [h] at PE
 have HPE := Lib.hid PE
 clear PE h
 obtain ⟨K, hK⟩ : ∃ K : Nat, keysI b r d m l = (K : Int) := ⟨(keysI b r d m l).toNat, by omega⟩
 unfold ExNewPost
 rw [hK] at PK ⊢
 have hK1 : K ≤ 128 := by omega
 have PN := Lib.hid (fun w => new_any 1 (K : Int) w)
 have e1 : clampN 1 8 = 1 := rfl
 have e2 : clampN (K : Int) 128 = K := by unfold clampN; omega
 rw [e1, e2] at PN
 simp only [Int.toNat_natCast]
 clear hk hkr hK e1 e2
 obtain ⟨g1, hb1, hsz1⟩ := news1 w (.cells #[.int .i64 b, .int .i64 r, .int .i64 d, .int .i64 m, .int .u64 s] 24)
 have hx1 : Blk _ w.heap.size 24 #[.int .i64 b, .int .i64 r, .int .i64 d, .int .i64 m, .int .u64 s] := g1
 have HB1 := Lib.hid hb1
 have HX1 := Lib.hid hx1
 clear g1 hb1 hsz1
 go_enter Tryz.func114, Tryz.ntmps114
 go_wp2_with (refine wpList_load_row rfl 24 _ rfl w.heap.size rfl 24 _ (0, 0) _ hx1 Tryz.underlying24 rfl (by kernel_rfl) ?_)
 refine (HPE.out _).mono ?_
 rintro e w2 ⟨rfl, hb⟩
 have HB2 := Lib.hid (btr HB1.out hb)
 have HX2 := Lib.hid (HX1.out.kept hb)
 have ek : IntKind.i64.wrap (K : Int) = (K : Int) := by simp [IntKind.wrap, IntKind.bits, IntKind.signed]; split <;> omega
 clear hb hx1
 go_wp2_with fail
 refine wp_region_held_drew (S := fun w' => Blk w' w.heap.size 24 #[.int .i64 b, .int .i64 r, .int .i64 d, .int .i64 m, .int .u64 s] ∧ w.heap.size ≤ w'.heap.size) (by kernel_rfl) (by exact ⟨HX2.out.drewN 1, HB2.out.size⟩) (fun hHeld => ?_)
 refine tkH (i := 0) (v := ?_) rfl (by kernel_rfl) (fun _ _ _ h => h) (Or.inl ⟨by rfl, ?_⟩) (by assumption) ?_
 rotate_left
 ·intro w hSw
  refine (exec_load_row 24 _ rfl _ rfl 24 _ (0, 0) _ hSw.1 Tryz.underlying24 rfl (by kernel_rfl)).trans ?_
  go_simp
  try with_reducible rfl
 simp only [Act.put, z1, z2, z3, z4, z5, z6]
 refine tkH (i := 1) (v := ?_) rfl (by kernel_rfl) (fun _ _ _ h => h) (Or.inl ⟨by rfl, ?_⟩) (by assumption) ?_
 rotate_left
 ·intro w hSw
  try dsimp only at hSw
  go_simp
  try with_reducible rfl
 simp only [Act.put, z1, z2, z3, z4, z5, z6]
 refine tkH (i := 2) (v := ?_) rfl (by kernel_rfl) (fun _ _ _ h => h) (Or.inl ⟨by rfl, ?_⟩) (by assumption) ?_
 rotate_left
 ·intro w hSw
  refine (exec_load_row 24 _ rfl _ rfl 24 _ (0, 0) _ hSw.1 Tryz.underlying24 rfl (by kernel_rfl)).trans ?_
  go_simp
  try with_reducible rfl
 simp only [Act.put, z1, z2, z3, z4, z5, z6]
 refine tkH (i := 3) (v := ?_) rfl (by kernel_rfl) (fun _ _ _ h => h) (Or.inl ⟨by rfl, ?_⟩) (by assumption) ?_
 rotate_left
 ·intro w hSw
  try dsimp only at hSw
  go_simp
  try with_reducible rfl
 simp only [Act.put, z1, z2, z3, z4, z5, z6]
 refine wpAnyH_ready (rs := [4]) (by kernel_rfl) (by simp) ?_
 refine AllReadyH.cons rfl (fun Kc hKc => ?_) AllReadyH.nil
 go_simp
 go_wp2_with (first | (go_at_call 72; refine (PK.out _).mono ?_; rintro e w3 ⟨rfl, hb'⟩; have HB3 := Lib.hid (btr (below_drewN HB2.out 1) hb')) | (go_at_call 159; refine (PN.out _).mono ?_; rintro e w4 ⟨G, C, rfl, hG, hC, hg, hb'⟩; have HG4 := Lib.hid hg; have HB4 := Lib.hid (btr HB3.out hb'); have hGC : Hid (w.heap.size ≤ G ∧ w.heap.size ≤ C) := ⟨Nat.le_trans hHeld.2 hG, Nat.le_trans hHeld.2 hC⟩; clear hg))
 refine hKc.out _ _ ?_ (fun hHeld => ?_)
 ·first | assumption | exact ⟨hHeld.1.kept hb', Nat.le_trans hHeld.2 hb'.size⟩ | exact ⟨hHeld.1.alloc _, by have := hHeld.2; simp; omega⟩
 clear hKc Kc
 refine tkH (i := 5) (v := ?_) rfl (by kernel_rfl) (fun _ _ _ h => h) (Or.inl ⟨by rfl, ?_⟩) (by assumption) ?_
 rotate_left
 ·intro w hSw
  try dsimp only at hSw
  go_simp
  try with_reducible rfl
 simp only [Act.put, z1, z2, z3, z4, z5, z6]
 refine wpAnyH_ready (rs := [6]) (by kernel_rfl) (by simp) ?_
 refine AllReadyH.cons rfl (fun Kc hKc => ?_) AllReadyH.nil
 go_simp
 go_wp2_with (first | (go_at_call 72; refine (PK.out _).mono ?_; rintro e w3 ⟨rfl, hb'⟩; have HB3 := Lib.hid (btr (below_drewN HB2.out 1) hb')) | (go_at_call 159; refine (PN.out _).mono ?_; rintro e w4 ⟨G, C, rfl, hG, hC, hg, hb'⟩; have HG4 := Lib.hid hg; have HB4 := Lib.hid (btr HB3.out hb'); have hGC : Hid (w.heap.size ≤ G ∧ w.heap.size ≤ C) := ⟨Nat.le_trans hHeld.2 hG, Nat.le_trans hHeld.2 hC⟩; clear hg))
 refine hKc.out _ _ ?_ (fun hHeld => ?_)
 ·first | assumption | exact ⟨hHeld.1.kept hb', Nat.le_trans hHeld.2 hb'.size⟩ | exact ⟨hHeld.1.alloc _, by have := hHeld.2; simp; omega⟩
 clear hKc Kc
 refine tkH (i := 7) (v := ?_) rfl (by kernel_rfl) (fun _ _ _ h => h) (Or.inl ⟨by rfl, ?_⟩) (by assumption) ?_
 rotate_left
 ·intro w hSw
  try dsimp only at hSw
  go_simp
  try with_reducible rfl
 simp only [Act.put, z1, z2, z3, z4, z5, z6]
 refine wpAnyH_ready (rs := [8]) (by kernel_rfl) (by simp) ?_
 refine AllReadyH.cons rfl (fun Kc hKc => ?_) AllReadyH.nil
 go_simp
 refine hKc.out _ _ ?_ (fun hHeld => ?_)
 ·first | assumption | exact ⟨hHeld.1.kept hb', Nat.le_trans hHeld.2 hb'.size⟩ | exact ⟨hHeld.1.alloc _, by have := hHeld.2; simp; omega⟩
 clear hKc Kc
 refine tkH (i := 9) (v := ?_) rfl (by kernel_rfl) (fun _ _ _ h => h) (Or.inl ⟨by rfl, ?_⟩) (by assumption) ?_
 rotate_left
 ·intro w hSw
  try dsimp only at hSw
  go_simp
  try with_reducible rfl
 simp only [Act.put, z1, z2, z3, z4, z5, z6]
 refine tkH (i := 10) (v := ?_) rfl (by kernel_rfl) (fun _ _ _ h => h) (Or.inl ⟨by rfl, ?_⟩) (by assumption) ?_
 rotate_left
 ·intro w hSw
  try dsimp only at hSw
  go_simp
  try with_reducible rfl
 simp only [Act.put, z1, z2, z3, z4, z5, z6]
 refine wpAnyH_done (by kernel_rfl) ?_ _
 have HNEW := Lib.hid (Blk.new w4 284 #[.int .i64 b, .int .i64 r, .int .i64 d, .int .i64 m, .int .u64 s, .int .i64 l, .pointer (some ⟨G, 0, none⟩)])
 have HAL : Hid (Below w4.heap.size w4 (w4.alloc (.cells #[.int .i64 b, .int .i64 r, .int .i64 d, .int .i64 m, .int .u64 s, .int .i64 l, .pointer (some ⟨G, 0, none⟩)] 284))) := Lib.hid ((Below.refl _ _).alloc (Nat.le_refl _) _)
 have HG5 := Lib.hid (HG4.out.kept HAL.out)
 have HB5 := Lib.hid (btr HB4.out HAL.out)
 clear hHeld
 go_wp2_with fail
 go_ret2
 exact ⟨w4.heap.size, G, C, rfl, HB4.out.size, hGC.out.1, hGC.out.2, ⟨HNEW.out, HG5.out⟩, HB5.out⟩
theorem exlevel (w : World) (A G C : Nat) (b r d m s l : Int) (K : Nat) (zs : List Int) (h : ArrIs w A G C b r d m s l K zs) :
    Calls Tryz.prog 187 #[.pointer (some ⟨A, 0, none⟩)] w fun e w' => e = .returned (.int .i64 l) ∧ w = w' := by
  have c5 := h.1.cell 5
  simp at c5
  clear h
  go_enter Tryz.func187, Tryz.ntmps187
  go_wp2
  go_ret
  exact ⟨rfl, rfl⟩
theorem excells (w : World) (A G C : Nat) (b r d m s l : Int) (K : Nat) (zs : List Int) (h : ArrIs w A G C b r d m s l K zs) :
    Calls Tryz.prog 189 #[.pointer (some ⟨A, 0, none⟩)] w (CellsPost w zs) := by
  have c6 := h.1.cell 6
  simp at c6
  have P := Lib.hid (cells_any w G C 1 K zs h.2)
  clear h
  go_enter Tryz.func189, Tryz.ntmps189
  go_wp2_with fail
  with_reducible refine P.out.mono ?_
  rintro e w2 ⟨v, rfl, hrest⟩
  have HR := Lib.hid hrest
  clear hrest
  go_wp2
  go_ret
  exact ⟨v, rfl, HR.out⟩
theorem expoint_yes (w : World) (A G C : Nat) (b r d m s l : Int) (K k : Nat) (zs : List Int) (h : ArrIs w A G C b r d m s l K zs) (hk : k < K) :
  Calls Tryz.prog 278 #[.pointer (some ⟨A, 0, none⟩), .int .u64 (k : Int)] w fun e w' => e = .returned (.tuple #[.int .i64 (cellD zs k), .int .i64 0]) ∧ w = w' := by
 have c6 := h.1.cell 6
 simp at c6
 have hw := h.2.width
 have P := Lib.hid (width_any w G C 1 K zs h.2)
 have P2 : Calls Tryz.prog 281 #[.pointer (some ⟨G, 0, none⟩), .int .i64 0, .int .i64 (k : Int)] w fun e w' => e = .returned (.int .i64 (cellD zs k)) ∧ w = w' := by
  have := at_in w G C 1 K 0 k zs h.2 (by decide) hk
  simpa using this
 have P2 := Lib.hid P2
 have e1 : decide ((K : Int) ≤ (k : Int)) = false := decide_eq_false (by omega)
 have e1' : decide (K ≤ k) = false := decide_eq_false (by omega)
 have e2 : IntKind.u64.wrap (K : Int) = (K : Int) := by rw [wrapU_mod]; omega
 have e3 : IntKind.i64.wrap (k : Int) = (k : Int) := by simp [IntKind.wrap, IntKind.bits, IntKind.signed]; split <;> omega
 clear h
 go_enter Tryz.func278, Tryz.ntmps278
 go_wp2_with fail
 with_reducible refine P.out.mono ?_
 rintro e w2 ⟨rfl, hw2⟩
 subst hw2
 go_wp2_with fail
 with_reducible refine P2.out.mono ?_
 rintro e w2 ⟨rfl, hw2⟩
 subst hw2
 go_wp2
 go_ret2
 exact ⟨rfl, rfl⟩
end Go.Proofs.YtfeficdndjiijaaGreatDoor


namespace Go.Proofs.YtfeficdndjiijaaGreatDoor
open Go.RowKit
set_option linter.unusedVariables false
set_option linter.unusedSimpArgs false

theorem ArrIs.kept {w w' : World} {A G C : Nat} {b r d m s l : Int} {K : Nat} {zs : List Int} (h : ArrIs w A G C b r d m s l K zs) (hb : Below w.heap.size w w') : ArrIs w' A G C b r d m s l K zs := ⟨h.1.kept hb, h.2.kept hb⟩
theorem ArrIs.grown {w w' : World} {A G C : Nat} {b r d m s l : Int} {K : Nat} {zs : List Int} {row : Option Nat} (h : ArrIs w A G C b r d m s l K zs) (hb : w.grownBy w' row) (h0 : some A ≠ row) (h1 : some G ≠ row) (h2 : some C ≠ row) : ArrIs w' A G C b r d m s l K zs := ⟨h.1.grown hb h0, h.2.grown hb h1 h2⟩
theorem ArrIs.drewN {w : World} {A G C : Nat} {b r d m s l : Int} {K : Nat} {zs : List Int} (h : ArrIs w A G C b r d m s l K zs) (n : Nat) : ArrIs (w.drewN n) A G C b r d m s l K zs := h.kept (below_drewN (Below.refl _ _) n)
theorem ArrIs.neAC {w : World} {A G C : Nat} {b r d m s l : Int} {K : Nat} {zs : List Int} (h : ArrIs w A G C b r d m s l K zs) : A ≠ C := by
  obtain ⟨cur, hc, _⟩ := h.2.cells
  exact h.1.ne_ hc (by decide)
theorem ArrIs.put {w w' : World} {A G C : Nat} {b r d m s l : Int} {K : Nat} {zs zs' : List Int} (h : ArrIs w A G C b r d m s l K zs) (hb : w.grownBy w' (some C)) (hg : GridIs w' G C 1 K zs') : ArrIs w' A G C b r d m s l K zs' := ⟨h.1.grown hb (by simpa using h.neAC), hg⟩

instance (x : Int) : Decidable (In64 x) := by unfold In64; infer_instance
def chkI (K : Nat) (m : Int) (zs : List Int) (k : Nat) (d : Int) : Int := if K ≤ k then 2 else if m = 2 ∧ d < 0 then 3 else if In64 (cellD zs k + d) then 0 else 4
def updZ (K : Nat) (m : Int) (zs : List Int) (k : Nat) (d : Int) : List Int := if chkI K m zs k d = 0 then zs.set k (cellD zs k + d) else zs
theorem fitC {zs : List Int} (h : Fit zs) (i : Nat) : In64 (cellD zs i) := by
  unfold cellD
  cases hz : zs[i]? with
  | none => exact ⟨by simp, by simp⟩
  | some x => exact h.get hz
theorem ret_i64q {a b : Int} (h : a = b) : Ending.returned (.int .i64 a) = .returned (.int .i64 b) := by rw [h]

set_option maxHeartbeats 2000000 in
theorem excheck (w : World) (A G C : Nat) (b r d m s l : Int) (K k : Nat) (zs : List Int) (x : Int) (h : ArrIs w A G C b r d m s l K zs) (hx : In64 x) (hk64 : k < 18446744073709551616) :
  Calls Tryz.prog 276 #[.pointer (some ⟨A, 0, none⟩), .int .u64 (k : Int), .int .i64 x] w fun e w' => e = .returned (.int .i64 (chkI K m zs k x)) ∧ Below w.heap.size w w' := by
 have c3 := h.1.cell 3
 have c6 := h.1.cell 6
 simp at c3 c6
 have hw := h.2.width
 have P := Lib.hid (width_any w G C 1 K zs h.2)
 have e2 : IntKind.u64.wrap (K : Int) = (K : Int) := by rw [wrapU_mod]; omega
 by_cases hlt : k < K
 ·have P2 : Calls Tryz.prog 281 #[.pointer (some ⟨G, 0, none⟩), .int .i64 0, .int .i64 (k : Int)] w fun e w' => e = .returned (.int .i64 (cellD zs k)) ∧ w = w' := by
   have := at_in w G C 1 K 0 k zs h.2 (by decide) hlt
   simpa using this
  have P2 := Lib.hid P2
  have hz := fitC h.2.fit k
  have e1 : decide ((K : Int) ≤ (k : Int)) = false := decide_eq_false (by omega)
  have e1' : decide (K ≤ k) = false := decide_eq_false (by omega)
  have e3 : IntKind.i64.wrap (k : Int) = (k : Int) := by simp [IntKind.wrap, IntKind.bits, IntKind.signed]; split <;> omega
  obtain ⟨q, hq⟩ : ∃ q, q = chkI K m zs k x := ⟨_, rfl⟩
  rw [← hq]
  unfold chkI at hq
  rw [if_neg (by omega)] at hq
  clear h hlt hk64
  by_cases hm : m = 2 ∧ x < 0
  ·obtain ⟨rfl, hx0⟩ := hm
   have e4 : decide (x < 0) = true := decide_eq_true hx0
   have HQ : Hid (q = 3) := by show _ = _; rw [hq, if_pos ⟨rfl, hx0⟩]
   clear hq hx0
   go_enter Tryz.func276, Tryz.ntmps276
   go_wp2_with fail
   with_reducible refine P.out.mono ?_
   rintro e w2 ⟨rfl, hw2⟩
   subst hw2
   go_wp2
   go_ret
   exact ⟨ret_i64q HQ.out.symm, Below.refl _ _⟩
  ·rw [if_neg hm] at hq
   have hdec : (m ≠ 2 ∧ (m == 2) = false ∧ decide (m = 2) = false) ∨ ((m == 2) = true ∧ decide (m = 2) = true ∧ m = 2 ∧ decide (x < 0) = false) := by
    by_cases h2 : m = 2
    ·right; exact ⟨by simp [h2], by simp [h2], h2, decide_eq_false (fun hh => hm ⟨h2, hh⟩)⟩
    ·left; exact ⟨h2, by simp [h2], by simp [h2]⟩
   clear hm
   have P3 := fun w => opok_plus (cellD zs k) x w hz hx
   by_cases h64 : In64 (cellD zs k + x)
   ·have P3 := fun w => (P3 w).1 h64
    have P3 := Lib.hid P3
    have HQ : Hid (q = 0) := by show _ = _; rw [hq, if_pos h64]
    clear hq h64 hz
    generalize cellD zs k = z at *
    rcases hdec with ⟨hm2, d1, d2⟩ | ⟨d1, d2, hm2, d3⟩
    all_goals
     first | subst hm2 | skip
     go_enter Tryz.func276, Tryz.ntmps276
     go_wp2_with fail
     with_reducible refine P.out.mono ?_
     rintro e w2 ⟨rfl, hw2⟩
     subst hw2
     go_wp2_with fail
     with_reducible refine P2.out.mono ?_
     rintro e w2 ⟨rfl, hw2⟩
     subst hw2
     go_wp2_with fail
     with_reducible refine (P3.out _).mono ?_
     rintro e w3 ⟨rfl, hb⟩
     have HB := Lib.hid hb
     clear hb
     go_wp2
     go_ret
     exact ⟨ret_i64q HQ.out.symm, HB.out⟩
   ·have P3 := fun w => (P3 w).2 h64
    have P3 := Lib.hid P3
    have HQ : Hid (q = 4) := by show _ = _; rw [hq, if_neg h64]
    clear hq h64 hz
    generalize cellD zs k = z at *
    rcases hdec with ⟨hm2, d1, d2⟩ | ⟨d1, d2, hm2, d3⟩
    all_goals
     first | subst hm2 | skip
     go_enter Tryz.func276, Tryz.ntmps276
     go_wp2_with fail
     with_reducible refine P.out.mono ?_
     rintro e w2 ⟨rfl, hw2⟩
     subst hw2
     go_wp2_with fail
     with_reducible refine P2.out.mono ?_
     rintro e w2 ⟨rfl, hw2⟩
     subst hw2
     go_wp2_with fail
     with_reducible refine (P3.out _).mono ?_
     rintro e w3 ⟨rfl, hb⟩
     have HB := Lib.hid hb
     clear hb
     go_wp2
     go_ret
     exact ⟨ret_i64q HQ.out.symm, HB.out⟩
 ·have HQ : Hid (chkI K m zs k x = 2) := by show _ = _; unfold chkI; rw [if_pos (by omega)]
  have e1 : decide ((K : Int) ≤ (k : Int)) = true := decide_eq_true (by omega)
  have e1' : decide (K ≤ k) = true := decide_eq_true (by omega)
  clear h hlt
  go_enter Tryz.func276, Tryz.ntmps276
  go_wp2_with fail
  with_reducible refine P.out.mono ?_
  rintro e w2 ⟨rfl, hw2⟩
  subst hw2
  go_wp2
  go_ret
  exact ⟨ret_i64q HQ.out.symm, Below.refl _ _⟩

theorem exconfig (w : World) (A G C : Nat) (b r d m s l : Int) (K : Nat) (zs : List Int) (h : ArrIs w A G C b r d m s l K zs) :
  Calls Tryz.prog 186 #[.pointer (some ⟨A, 0, none⟩)] w fun e w' => e = .returned (.agg #[.int .i64 b, .int .i64 r, .int .i64 d, .int .i64 m, .int .u64 s]) ∧ Below w.heap.size w w' := by
 obtain ⟨g1, hb1, hsz1⟩ := news1 w (.cells #[.int .i64 0, .int .i64 0, .int .i64 0, .int .i64 0, .int .u64 0] 24)
 have hx1 : Blk _ w.heap.size 24 #[.int .i64 0, .int .i64 0, .int .i64 0, .int .i64 0, .int .u64 0] := g1
 have hA := h.1.kept hb1
 have c0 := hA.cell 0
 have c1 := hA.cell 1
 have c2 := hA.cell 2
 have c3 := hA.cell 3
 have c4 := hA.cell 4
 simp at c0 c1 c2 c3 c4
 have HX1 := Lib.hid hx1
 have HB1 := Lib.hid hb1
 have n0 := hx1.cell 0
 have n1 := hx1.cell 1
 have n2 := hx1.cell 2
 have n3 := hx1.cell 3
 have n4 := hx1.cell 4
 simp at n0 n1 n2 n3 n4
 have f0 := hx1.frozen 0
 have f1 := hx1.frozen 1
 have f2 := hx1.frozen 2
 have f3 := hx1.frozen 3
 have f4 := hx1.frozen 4
 clear hA hx1 hb1 g1 hsz1 h
 go_enter Tryz.func186, Tryz.ntmps186
 go_wp2_with fail
 refine bodyPost_ret (v := .agg #[.int .i64 b, .int .i64 r, .int .i64 d, .int .i64 m, .int .u64 s]) (results_cell_row rfl _ _ w.heap.size 24 _ (0, 0) _ rfl (heap_alloc_new w _) Tryz.underlying24 rfl (by kernel_rfl)) rfl ⟨rfl, ?_⟩
 exact (Below.refl _ _).alloc (Nat.le_refl _) _

def UpdPost (w : World) (A G C : Nat) (b r d m s l : Int) (K : Nat) (zs : List Int) (k : Nat) (x : Int) (e : Ending) (w' : World) : Prop :=
  e = .returned (.int .i64 (chkI K m zs k x)) ∧ ArrIs w' A G C b r d m s l K (updZ K m zs k x) ∧ w.grownBy w' (some C)
theorem below_gr {w w' : World} {row : Option Nat} (h : Below w.heap.size w w') : w.grownBy w' row := ⟨h.os, h.tape, h.output, h.size, fun k hk _ => h.block k hk⟩
theorem gr_trans {w w1 w2 : World} {row : Option Nat} (h : w.grownBy w1 row) (k : w1.grownBy w2 row) : w.grownBy w2 row :=
  ⟨k.os.trans h.os, k.tape.trans h.tape, k.output.trans h.output, Nat.le_trans h.size k.size, fun j hj hne => (k.block j (Nat.lt_of_lt_of_le hj h.size) hne).trans (h.block j hj hne)⟩
theorem chkI_ok {K : Nat} {m : Int} {zs : List Int} {k : Nat} {x : Int} (h : chkI K m zs k x = 0) : k < K ∧ In64 (cellD zs k + x) := by
  unfold chkI at h
  split at h
  · omega
  split at h
  · omega
  split at h
  · exact ⟨by omega, by assumption⟩
  · omega

set_option maxRecDepth 100000 in
set_option maxHeartbeats 4000000 in
theorem exupdate (w : World) (A G C : Nat) (b r d m s l : Int) (K k : Nat) (zs : List Int) (x : Int) (h : ArrIs w A G C b r d m s l K zs) (hx : In64 x) (hk64 : k < 18446744073709551616) :
  Calls Tryz.prog 279 #[.pointer (some ⟨A, 0, none⟩), .int .u64 (k : Int), .int .i64 x] w (UpdPost w A G C b r d m s l K zs k x) := by
 have PC := excheck w A G C b r d m s l K k zs x h hx hk64
 by_cases hc : chkI K m zs k x = 0
 ·obtain ⟨hlt, h64⟩ := chkI_ok hc
  have hW := h.2.width
  have HU : Hid (UpdPost w A G C b r d m s l K zs k x = fun e w' => e = .returned (.int .i64 0) ∧ ArrIs w' A G C b r d m s l K (zs.set k (cellD zs k + x)) ∧ w.grownBy w' (some C)) := Lib.hid (by
   unfold UpdPost updZ; simp only [hc, if_pos])
  rw [HU.out]
  rw [hc] at PC
  have PC := Lib.hid PC
  have HA := Lib.hid h
  have P2 : Hid (∀ w', GridIs w' G C 1 K zs → Calls Tryz.prog 281 #[.pointer (some ⟨G, 0, none⟩), .int .i64 0, .int .i64 (k : Int)] w' fun e w'' => e = .returned (.int .i64 (cellD zs k)) ∧ w' = w'') := Lib.hid (fun w' h' => by
   have := at_in w' G C 1 K 0 k zs h' (by decide) hlt
   simpa using this)
  have P3 : Hid (∀ w', GridIs w' G C 1 K zs → Calls Tryz.prog 282 #[.pointer (some ⟨G, 0, none⟩), .int .i64 0, .int .i64 (k : Int), .int .i64 (cellD zs k + x)] w' fun e w'' => e = .returned (.bool true) ∧ w'' = w'.setCell ⟨C, k, none⟩ (.int .i64 (cellD zs k + x))) := Lib.hid (fun w' h' => by
   have := put_in w' G C 1 K 0 k (cellD zs k + x) zs h' (by decide) hlt
   simpa using this)
  have hAC : A ≠ C := h.neAC
  have e3 : IntKind.i64.wrap (k : Int) = (k : Int) := by simp [IntKind.wrap, IntKind.bits, IntKind.signed]; split <;> omega
  have H64 := Lib.hid h64
  have e5 : wrap64 (cellD zs k + x) = cellD zs k + x := by unfold wrap64; unfold In64 at h64; omega
  have e6 : IntKind.i64.wrap (cellD zs k + x) = cellD zs k + x := wrapI_of _ h64.1 h64.2
  clear h hlt h64 hk64 hc hW HU hx
  generalize hz : cellD zs k = z at *
  have HZ := Lib.hid hz
  clear hz
  go_enter Tryz.func279, Tryz.ntmps279
  go_wp2_with fail
  with_reducible refine PC.out.mono ?_
  rintro e w2 ⟨rfl, hb⟩
  have HA2 := Lib.hid (HA.out.kept hb)
  have HG2 : Hid (w.grownBy w2 (some C)) := Lib.hid (below_gr hb)
  clear hb
  go_wp2_with fail
  refine wp_region_held_drew (S := fun w' => Blk w' A 284 #[.int .i64 b, .int .i64 r, .int .i64 d, .int .i64 m, .int .u64 s, .int .i64 l, .pointer (some ⟨G, 0, none⟩)]) (by kernel_rfl) (by exact HA2.out.1.drewN 1) (fun hHeld => ?_)
  refine tkH (i := 0) (v := ?_) rfl (by kernel_rfl) (fun _ _ _ h => h) (Or.inl ⟨by rfl, ?_⟩) (by assumption) ?_
  rotate_left
  ·intro w hSw
   try dsimp only at hSw
   go_simp
   try with_reducible rfl
  simp only [Act.put, z1, z2, z3, z4, z5, z6]
  refine tkH (i := 1) (v := ?_) rfl (by kernel_rfl) (fun _ _ _ h => h) (Or.inl ⟨by rfl, ?_⟩) (by assumption) ?_
  rotate_left
  ·intro w hSw
   try dsimp only at hSw
   go_simp
   try with_reducible rfl
  simp only [Act.put, z1, z2, z3, z4, z5, z6]
  refine tkH (i := 2) (v := ?_) rfl (by kernel_rfl) (fun _ _ _ h => h) (Or.inl ⟨by rfl, ?_⟩) (by assumption) ?_
  rotate_left
  ·intro w hSw
   try dsimp only at hSw
   go_simp
   try with_reducible rfl
  simp only [Act.put, z1, z2, z3, z4, z5, z6]
  refine tkH (i := 3) (v := ?_) rfl (by kernel_rfl) (fun _ _ _ h => h) (Or.inl ⟨by rfl, ?_⟩) (by assumption) ?_
  rotate_left
  ·intro w hSw
   have q6 := hSw.cell 6
   simp at q6
   go_simp
   try with_reducible rfl
  simp only [Act.put, z1, z2, z3, z4, z5, z6]
  refine tkH (i := 4) (v := ?_) rfl (by kernel_rfl) (fun _ _ _ h => h) (Or.inl ⟨by rfl, ?_⟩) (by assumption) ?_
  rotate_left
  ·intro w hSw
   try dsimp only at hSw
   go_simp
   try with_reducible rfl
  simp only [Act.put, z1, z2, z3, z4, z5, z6]
  refine tkH (i := 5) (v := ?_) rfl (by kernel_rfl) (fun _ _ _ h => h) (Or.inl ⟨by rfl, ?_⟩) (by assumption) ?_
  rotate_left
  ·intro w hSw
   try dsimp only at hSw
   go_simp
   try with_reducible rfl
  simp only [Act.put, z1, z2, z3, z4, z5, z6]
  refine tkH (i := 6) (v := ?_) rfl (by kernel_rfl) (fun _ _ _ h => h) (Or.inl ⟨by rfl, ?_⟩) (by assumption) ?_
  rotate_left
  ·intro w hSw
   try dsimp only at hSw
   go_simp
   try with_reducible rfl
  simp only [Act.put, z1, z2, z3, z4, z5, z6]
  refine tkH (i := 7) (v := ?_) rfl (by kernel_rfl) (fun _ _ _ h => h) (Or.inl ⟨by rfl, ?_⟩) (by assumption) ?_
  rotate_left
  ·intro w hSw
   try dsimp only at hSw
   go_simp
   try with_reducible rfl
  simp only [Act.put, z1, z2, z3, z4, z5, z6]
  refine tkH (i := 8) (v := ?_) rfl (by kernel_rfl) (fun _ _ _ h => h) (Or.inl ⟨by rfl, ?_⟩) (by assumption) ?_
  rotate_left
  ·intro w hSw
   try dsimp only at hSw
   go_simp
   try with_reducible rfl
  simp only [Act.put, z1, z2, z3, z4, z5, z6]
  refine tkH (i := 9) (v := ?_) rfl (by kernel_rfl) (fun _ _ _ h => h) (Or.inl ⟨by rfl, ?_⟩) (by assumption) ?_
  rotate_left
  ·intro w hSw
   have q6 := hSw.cell 6
   simp at q6
   go_simp
   try with_reducible rfl
  simp only [Act.put, z1, z2, z3, z4, z5, z6]
  refine tkH (i := 10) (v := ?_) rfl (by kernel_rfl) (fun _ _ _ h => h) (Or.inl ⟨by rfl, ?_⟩) (by assumption) ?_
  rotate_left
  ·intro w hSw
   try dsimp only at hSw
   go_simp
   try with_reducible rfl
  simp only [Act.put, z1, z2, z3, z4, z5, z6]
  refine tkH (i := 11) (v := ?_) rfl (by kernel_rfl) (fun _ _ _ h => h) (Or.inl ⟨by rfl, ?_⟩) (by assumption) ?_
  rotate_left
  ·intro w hSw
   try dsimp only at hSw
   go_simp
   try with_reducible rfl
  simp only [Act.put, z1, z2, z3, z4, z5, z6]
  refine tkH (i := 13) (v := ?_) rfl (by kernel_rfl) (fun _ _ _ h => h) (Or.inl ⟨by rfl, ?_⟩) (by assumption) ?_
  rotate_left
  ·intro w hSw
   try dsimp only at hSw
   go_simp
   try with_reducible rfl
  simp only [Act.put, z1, z2, z3, z4, z5, z6]
  refine wpAnyH_ready (rs := [12]) (by kernel_rfl) (by simp) ?_
  refine AllReadyH.cons rfl (fun Kc hKc => ?_) AllReadyH.nil
  go_simp
  go_wp2_with (first | (go_at_call 281; refine (P2.out _ (HA2.out.2.drewN 1)).mono ?_; rintro e w' ⟨rfl, hw'⟩; subst hw') | (go_at_call 282; refine (P3.out _ (HA2.out.2.drewN 1)).mono ?_; rintro e w5 ⟨rfl, hw5⟩; have HW5 := Lib.hid hw5; clear hw5))
  refine hKc.out _ _ ?_ (fun hHeld => ?_)
  ·first | exact hHeld | (rw [HW5.out]; exact hHeld.far hAC _)
  clear hKc Kc
  refine tkH (i := 14) (v := ?_) rfl (by kernel_rfl) (fun _ _ _ h => h) (Or.inl ⟨by rfl, ?_⟩) (by assumption) ?_
  rotate_left
  ·intro w hSw
   try dsimp only at hSw
   go_simp
   try with_reducible rfl
  simp only [Act.put, z1, z2, z3, z4, z5, z6]
  refine wpAnyH_ready (rs := [15]) (by kernel_rfl) (by simp) ?_
  refine AllReadyH.cons rfl (fun Kc hKc => ?_) AllReadyH.nil
  go_simp
  go_wp2_with (first | (go_at_call 281; refine (P2.out _ (HA2.out.2.drewN 1)).mono ?_; rintro e w' ⟨rfl, hw'⟩; subst hw') | (go_at_call 282; refine (P3.out _ (HA2.out.2.drewN 1)).mono ?_; rintro e w5 ⟨rfl, hw5⟩; have HW5 := Lib.hid hw5; clear hw5))
  refine hKc.out _ _ ?_ (fun hHeld => ?_)
  ·first | exact hHeld | (rw [HW5.out]; exact hHeld.far hAC _)
  clear hKc Kc
  refine wpAnyH_done (by kernel_rfl) ?_ _
  clear hHeld
  go_wp2
  go_ret
  refine ⟨rfl, ?_, ?_⟩
  ·rw [HW5.out]
   exact (HA2.out.drewN 1).put (grown_set _ _ _ _) ((HA2.out.2.drewN 1).set k _ H64.out.1 H64.out.2)
  ·rw [HW5.out]
   exact gr_trans HG2.out (gr_trans (below_gr (below_drewN (Below.refl _ _) 1)) (grown_set _ _ _ _))
 ·have HU : Hid (UpdPost w A G C b r d m s l K zs k x = fun e w' => e = .returned (.int .i64 (chkI K m zs k x)) ∧ ArrIs w' A G C b r d m s l K zs ∧ w.grownBy w' (some C)) := Lib.hid (by
   unfold UpdPost updZ; simp only [if_neg hc])
  rw [HU.out]
  have PC := Lib.hid PC
  have HA := Lib.hid h
  generalize chkI K m zs k x = q at *
  have d1 : (q == 0) = false := by simpa using hc
  have d2 : decide (q = 0) = false := by simpa using hc
  clear h hk64 HU hx
  go_enter Tryz.func279, Tryz.ntmps279
  go_wp2_with fail
  with_reducible refine PC.out.mono ?_
  rintro e w2 ⟨rfl, hb⟩
  have HA2 := Lib.hid (HA.out.kept hb)
  have HG2 : Hid (w.grownBy w2 (some C)) := Lib.hid (below_gr hb)
  clear hb
  go_wp2
  go_ret
  exact ⟨rfl, HA2.out, HG2.out⟩
end Go.Proofs.YtfeficdndjiijaaGreatDoor


namespace Go.Proofs.YtfeficdndjiijaaGreatDoor
open Go.RowKit Go.ChangeShapes Go.WideShapes Go.ChangeAt
set_option linter.unusedVariables false
set_option linter.unusedSimpArgs false
def shCfg : Sh := .agg (.cons (.int .i64) (.cons (.int .i64) (.cons (.int .i64) (.cons (.int .i64) (.cons (.int .u64) .unit)))))
theorem valCfg {w : World} {v : Value} (h : shCfg.Val w v) : ∃ b r d m s : Int, v = .agg #[.int .i64 b, .int .i64 r, .int .i64 d, .int .i64 m, .int .u64 s] ∧
    (Lit.int .i64 b).wf = true ∧ (Lit.int .i64 r).wf = true ∧ (Lit.int .i64 d).wf = true ∧ (Lit.int .i64 m).wf = true ∧ (Lit.int .u64 s).wf = true := by
  obtain ⟨cs, rfl, h1⟩ := h
  obtain ⟨b, q, e, wb, h2⟩ := Sh.reads_int h1
  obtain ⟨r, q, rfl, wr, h3⟩ := Sh.reads_int h2
  obtain ⟨d, q, rfl, wd, h4⟩ := Sh.reads_int h3
  obtain ⟨m, q, rfl, wm, h5⟩ := Sh.reads_int h4
  obtain ⟨s, q, rfl, ws, h6⟩ := Sh.reads_int h5
  obtain rfl := Sh.reads_unit h6
  exact ⟨b, r, d, m, s, by rw [agg_of_list e], wb, wr, wd, wm, ws⟩

def anyI (x n : Int) : Int := 1 + x % 65536 % n
theorem anyI_bd (x n : Int) (h : 1 ≤ n) : 1 ≤ anyI x n ∧ anyI x n ≤ n := by
  unfold anyI
  have h1 := Int.emod_nonneg (x % 65536) (show n ≠ 0 by omega)
  have h2 := Int.emod_lt_of_pos (x % 65536) (show 0 < n by omega)
  omega
theorem and16 (n : Int) : bits BinOp.and IntKind.i64 n 65535 = n % 65536 := by
  have h16 : (BitVec.ofInt 64 65535).toNat = 2 ^ 16 - 1 := by decide
  have key : (BitVec.ofInt 64 n &&& BitVec.ofInt 64 65535).toNat = (n % ((2 ^ 64 : Nat) : Int)).toNat % 2 ^ 16 := by
    rw [BitVec.toNat_and, BitVec.toNat_ofInt, h16, Nat.and_two_pow_sub_one_eq_mod]
  show IntKind.i64.wrap ((BitVec.ofInt 64 n &&& BitVec.ofInt 64 65535).toNat : Nat) = n % 65536
  rw [key, IntKind.wrap_i64]
  omega

set_option maxRecDepth 100000 in
set_option maxHeartbeats 1000000 in
theorem any_any (b r d m s p q : Int) (p0 : 1 ≤ p) (p1 : p ≤ 59) (q0 : 1 ≤ q) (q1 : q ≤ 128) (w : World) :
  Calls Tryz.prog 20 #[.agg #[.int .i64 b, .int .i64 r, .int .i64 d, .int .i64 m, .int .u64 s], .int .i64 p, .int .i64 q] w fun e w' =>
   e = .returned (.agg #[.int .i64 (anyI b p), .int .i64 (anyI r 4), .int .i64 (anyI d q), .int .i64 (anyI m 3), .int .u64 s]) ∧ Below w.heap.size w w' := by
 have e1 := and16 b
 have e2 := and16 r
 have e3 := and16 d
 have e4 := and16 m
 have z1 := Int.emod_nonneg (b % 65536) (show p ≠ 0 by omega)
 have z2 := Int.emod_lt_of_pos (b % 65536) (show 0 < p by omega)
 have z3 := Int.emod_nonneg (d % 65536) (show q ≠ 0 by omega)
 have z4 := Int.emod_lt_of_pos (d % 65536) (show 0 < q by omega)
 have y1 : (p == 0) = false := by simp; omega
 have y2 : (q == 0) = false := by simp; omega
 have t1 : (b % 65536).tmod p = b % 65536 % p := Int.tmod_eq_emod_of_nonneg (by omega)
 have t2 : (r % 65536).tmod 4 = r % 65536 % 4 := Int.tmod_eq_emod_of_nonneg (by omega)
 have t3 : (d % 65536).tmod q = d % 65536 % q := Int.tmod_eq_emod_of_nonneg (by omega)
 have t4 : (m % 65536).tmod 3 = m % 65536 % 3 := Int.tmod_eq_emod_of_nonneg (by omega)
 have u1 : IntKind.i64.wrap (b % 65536 % p) = b % 65536 % p := IntWalk.i64_in _ (by omega)
 have u2 : IntKind.i64.wrap (r % 65536 % 4) = r % 65536 % 4 := IntWalk.i64_in _ (by omega)
 have u3 : IntKind.i64.wrap (d % 65536 % q) = d % 65536 % q := IntWalk.i64_in _ (by omega)
 have u4 : IntKind.i64.wrap (m % 65536 % 3) = m % 65536 % 3 := IntWalk.i64_in _ (by omega)
 have v1 : IntKind.i64.wrap (1 + b % 65536 % p) = 1 + b % 65536 % p := IntWalk.i64_in _ (by omega)
 have v2 : IntKind.i64.wrap (1 + r % 65536 % 4) = 1 + r % 65536 % 4 := IntWalk.i64_in _ (by omega)
 have v3 : IntKind.i64.wrap (1 + d % 65536 % q) = 1 + d % 65536 % q := IntWalk.i64_in _ (by omega)
 have v4 : IntKind.i64.wrap (1 + m % 65536 % 3) = 1 + m % 65536 % 3 := IntWalk.i64_in _ (by omega)
 have p0' : ¬ p = 0 := by omega
 have q0' : ¬ q = 0 := by omega
 go_enter Tryz.func20, Tryz.ntmps20
 go_wp2_with fail
 have hk : Blk ((w.alloc (.cells #[.int .i64 b, .int .i64 r, .int .i64 d, .int .i64 m, .int .u64 s] 24)).alloc (.cells #[.int .i64 0, .int .i64 0, .int .i64 0, .int .i64 0, .int .u64 0] 24)) w.heap.size 24 #[.int .i64 b, .int .i64 r, .int .i64 d, .int .i64 m, .int .u64 s] := (Blk.new _ _ _).alloc _
 have hn : Blk ((w.alloc (.cells #[.int .i64 b, .int .i64 r, .int .i64 d, .int .i64 m, .int .u64 s] 24)).alloc (.cells #[.int .i64 0, .int .i64 0, .int .i64 0, .int .i64 0, .int .u64 0] 24)) (w.heap.size + 1) 24 #[.int .i64 0, .int .i64 0, .int .i64 0, .int .i64 0, .int .u64 0] := by
  have := Blk.new (w.alloc (.cells #[.int .i64 b, .int .i64 r, .int .i64 d, .int .i64 m, .int .u64 s] 24)) 24 #[.int .i64 0, .int .i64 0, .int .i64 0, .int .i64 0, .int .u64 0]
  simpa using this
 have hbel : Below w.heap.size w ((w.alloc (.cells #[.int .i64 b, .int .i64 r, .int .i64 d, .int .i64 m, .int .u64 s] 24)).alloc (.cells #[.int .i64 0, .int .i64 0, .int .i64 0, .int .i64 0, .int .u64 0] 24)) := ((Below.refl _ _).alloc (Nat.le_refl _) _).alloc (by simp) _
 generalize ((w.alloc (.cells #[.int .i64 b, .int .i64 r, .int .i64 d, .int .i64 m, .int .u64 s] 24)).alloc (.cells #[.int .i64 0, .int .i64 0, .int .i64 0, .int .i64 0, .int .u64 0] 24)) = wz at *
 refine wp_region_still_tail 25 (by kernel_rfl) (by kernel_rfl) ?_
 simp only [List.take_succ_cons, List.take_zero, List.drop_succ_cons, List.drop_zero]
 replace hk := hk.drew
 replace hn := hn.drew
 replace hbel := hbel.drew
 change Blk { heap := wz.heap, tape := wz.tape, drawn := wz.drawn + 1, os := wz.os, output := wz.output } _ _ _ at hk
 change Blk { heap := wz.heap, tape := wz.tape, drawn := wz.drawn + 1, os := wz.os, output := wz.output } _ _ _ at hn
 change Below _ _ { heap := wz.heap, tape := wz.tape, drawn := wz.drawn + 1, os := wz.os, output := wz.output } at hbel
 generalize ({ heap := wz.heap, tape := wz.tape, drawn := wz.drawn + 1, os := wz.os, output := wz.output } : World) = wd at *
 obtain ⟨c0, c1, c2, c3, c4⟩ := box_cells hk
 repeat still_step
 refine wpStill_nil ?_
 obtain ⟨n0, n1, n2, n3, n4⟩ := box_cells hn
 have f0 := hn.frozen 0
 have f1 := hn.frozen 1
 have f2 := hn.frozen 2
 have f3 := hn.frozen 3
 have f4 := hn.frozen 4
 generalize hG : w.heap.size + 1 = G at *
 go_wp2
 refine bodyPost_ret (v := .agg #[.int .i64 (anyI b p), .int .i64 (anyI r 4), .int .i64 (anyI d q), .int .i64 (anyI m 3), .int .u64 s]) (by simp [results, Tryz.results20, go_sem, n0, n1, n2, n3, n4]; exact ⟨rfl, by unfold anyI; omega, rfl, rfl⟩) rfl ⟨rfl, ?_⟩
 have hlow : w.heap.size ≤ G := by omega
 exact ((((hbel.setCell hlow _).setCell hlow _).setCell hlow _).setCell hlow _).setCell hlow _

section
variable {P : Program}
end

end Go.Proofs.YtfeficdndjiijaaGreatDoor


namespace Go.Proofs.YtfeficdndjiijaaGreatDoor
open Go.RowKit
set_option linter.unusedVariables false
set_option linter.unusedSimpArgs false

def cfgEq (b r d m s b' r' d' m' s' : Int) : Bool := decide (b = b' ∧ r = r' ∧ d = d' ∧ m = m' ∧ s = s')
theorem eqCfg (b r d m s b' r' d' m' s' : Int) (w : World) : (Op.equalIn 10000 24 (.agg #[.int .i64 b, .int .i64 r, .int .i64 d, .int .i64 m, .int .u64 s]) (.agg #[.int .i64 b', .int .i64 r', .int .i64 d', .int .i64 m', .int .u64 s'])).run Tryz.prog w = .ok (cfgEq b r d m s b' r' d' m' s') w := by
  have u3 := Tryz.underlying3
  have u4 := Tryz.underlying22
  have a3 : ∀ w, (isAgg 3).run Tryz.prog w = .ok false w := fun w => by unfold isAgg; rw [Sem.run_bind, run_underlying Tryz.underlying3 w]; rfl
  have a4 : ∀ w, (isAgg 22).run Tryz.prog w = .ok false w := fun w => by unfold isAgg; rw [Sem.run_bind, run_underlying Tryz.underlying22 w]; rfl
  have hS : Tryz.prog.underlying 24 = some (.struct (Tryz.prog.fieldsOf 24)) := by kernel_rfl
  have hp : Tryz.prog.stoodInHeld 24 = false := by kernel_rfl
  rw [show (10000 : Nat) = 9999 + 1 from rfl, run_equalIn_agg w 9999 24 _ _ hS hp]
  simp only [Program.fieldsOf, Tryz.underlying24]
  go_simp
  unfold cfgEq
  by_cases h1 : b = b' <;> by_cases h2 : r = r' <;> by_cases h3 : d = d' <;> by_cases h4 : m = m' <;> by_cases h5 : s = s' <;> simp [h1, h2, h3, h4, h5]
end Go.Proofs.YtfeficdndjiijaaGreatDoor

