import Derived.RangeFuncNested
import Derived.RangeFuncBound
import Derived.RangeFuncCalls
import Derived.RangeFuncLeaves
import Derived.RangeFuncWrites
import Derived.Shelf.Abstract
import Derived.Shelf.RegionOpen
import Derived.WalkKit
import Derived.OwnWalkIn
import Derived.TacticsInMore
import Derived.LoopNIn
import Derived.LoopIn
import Derived.Deep.RegionHeld3
import Derived.StillTailTactics
import Derived.Test.YthbkljeibmkimaaQha
import Derived.Test.YthbkljeibmkimaaQhb
import Derived.Test.YthbkljeibmkimaaQhd
import Derived.Test.YthbkljeibmkimaaQhc
import Derived.Deep.DeepCutAuto
import Derived.Deep.Cut
/-
  No program: a region that draws its order, in a round of a range over a function. Conditions: none beyond those stated at each theorem.
-/
namespace Go.Proofs.Ythbkljeibmkimaa
open Go.RowKit
set_option linter.unusedVariables false
set_option linter.unusedSimpArgs false

section
variable {P : Program}
def noDefer (o : Oper) : Bool := match o.op with
  | .defer _ => false
  | _ => true
theorem noDefer_ne {o : Oper} (h : noDefer o = true) : ∀ c, o.op ≠ .defer c := fun c e => by
  unfold noDefer at h
  rw [e] at h
  cases h
theorem upon_round {l n : Nat} {o : Oper} {a : Act} {next next' : Act → World → Prop} {Q : Exit → Act → World → Prop} {r : Result Next} (hn : ∀ a w, next a w → next' a w) (h : o.upon P a next Q r) : o.uponIn (Fence.wide.inRound l) n P a next' Q r := by
  unfold Oper.upon at h
  split at h
  · exact hn _ _ h
  · exact hn _ _ h
  · exact hn _ _ h
  · refine ⟨(fun hh => by cases hh), CallsIn.inRound l (callsIn_wide.2 (h.mono ?_))⟩
    intro e w' hq
    cases e with
    | returned v => exact hn _ _ hq
    | panicked c => exact hq
    | outgrown => exact hq
  · refine ⟨(fun hh => by cases hh), fun c cs _ => ?_⟩
    obtain ⟨v, w', hr, hs⟩ := h c cs
    exact ⟨v, w', hn _ _ hr, stepsIn_wide.2 hs⟩
  · exact h
  · exact h.elim
theorem wpOps_round {l n : Nat} {ops : Array Oper} {Q : Exit → Act → World → Prop} (hno : ¬ LetsOut Q) (hd : ∀ (i : Nat) (o : Oper), ops[i]? = some o → noDefer o = true) :
    ∀ (is : List Nat) (a : Act) (w : World), wpOps P ops Q is a w → wpOpsIn (Fence.wide.inRound l) n P ops Q is a w := by
  intro is
  induction is with
  | nil => exact fun a w h => h
  | cons i is ih =>
    intro a w h
    simp only [wpOps] at h
    simp only [wpOpsIn]
    cases ho : ops[i]? with
    | none =>
      rw [ho] at h
      exact ih a w h
    | some o =>
      rw [ho] at h
      simp only [] at h ⊢
      by_cases hw : Region.wanted o (yielded ops a.tmps) = true
      · rw [if_pos hw] at h
        rw [if_pos hw]
        rcases h with h | ⟨_, h⟩
        · refine ⟨fun _ _ => trivial, ?_⟩
          show o.uponIn (Fence.wide.inRound l) n P a _ Q ((o.semAt (some l) a.eval).run P w)
          rw [Oper.semAt_some l a.eval o (noDefer_ne (hd i o ho))]
          exact upon_round ih h
        · exact absurd h hno
      · rw [if_neg hw] at h
        rw [if_neg hw]
        exact ⟨fun _ _ => trivial, ih _ _ h⟩
theorem wpIn_round_held {l n id : Nat} {ops : Array Oper} {S : World → Prop} {Q : Exit → Act → World → Prop} {a : Act} {w : World} (hm : P.follows .mixedOrders = true) (hd : ops.all noDefer = true) (hno : ¬ LetsOut Q) (hS : S w.drew)
    (h : S w.drew → wpAnyH P .any ops Q S ops.size (Array.replicate ops.size false) a w.drew) : (Code.region id ops true).wpIn (Fence.wide.inRound l) n P Q a w :=
  wpIn_region_draw fun t => by
    simp only [Region.schedule, hm, Bool.true_or, if_true]
    refine wpOps_round hno (fun i o ho => ?_) _ _ _ (wpAny_sound ops.size t _ a _ (wpAny_of_held _ _ _ _ (h hS)))
    have := Array.all_eq_true.1 hd i (Array.getElem?_eq_some_iff.1 ho).1
    rwa [(Array.getElem?_eq_some_iff.1 ho).2] at this
theorem wpIn_round_any {l n id : Nat} {ops : Array Oper} {Q : Exit → Act → World → Prop} {a : Act} {w : World} (hm : P.follows .mixedOrders = true) (hd : ops.all noDefer = true) (hno : ¬ LetsOut Q)
    (h : wpAny P .any ops Q ops.size (Array.replicate ops.size false) a w.drew) : (Code.region id ops true).wpIn (Fence.wide.inRound l) n P Q a w :=
  wpIn_region_draw fun t => by
    simp only [Region.schedule, hm, Bool.true_or, if_true]
    refine wpOps_round hno (fun i o ho => ?_) _ _ _ (wpAny_sound ops.size t _ a _ h)
    have := Array.all_eq_true.1 hd i (Array.getElem?_eq_some_iff.1 ho).1
    rwa [(Array.getElem?_eq_some_iff.1 ho).2] at this
/-- in a round: what only reads first, then the rest, one behind the other -/
theorem wpIn_round_tail {l n id : Nat} {L : List Oper} {Q : Exit → Act → World → Prop} {a : Act} {w : World} (k : Nat) (hm : P.follows .mixedOrders = true) (hd : L.toArray.all noDefer = true) (hno : ¬ LetsOut Q) (hB : Region.lexTailB .any L.toArray k = true)
    (h : wpStill P L.toArray w.drew (fun a' => wpList P L.toArray Q (L.drop k) a' w.drew) (L.take k) a) : (Code.region id L.toArray true).wpIn (Fence.wide.inRound l) n P Q a w := by
  unfold Region.lexTailB at hB
  simp only [Bool.and_eq_true, decide_eq_true_eq] at hB
  obtain ⟨⟨⟨⟨b1, b2⟩, b3⟩, b4⟩, b5⟩ := hB
  have hk : k < L.length := by simpa using b2
  have e1 : (L.take k).length = k := by rw [List.length_take]; omega
  have e2 : (L.drop k).length = L.toArray.size - k := by rw [List.length_drop]; rfl
  have first : wpAnyL P .any L.toArray w.drew k (fun listed a' => Region.seqB .any L.toArray (L.toArray.size - k) k listed = true ∧ wpList P L.toArray Q (L.drop k) a' w.drew) (L.take k).length (Array.replicate L.toArray.size false) a := by
    refine wpAnyL_lex b1 b3 b4 b2 (L.take k) 0 _ a (fun j hj => ?_) (by omega) ⟨Array.size_replicate, ?_, ?_⟩ (by rw [e1]; exact b5) h
    · rw [e1] at hj
      rw [Nat.zero_add, List.getElem?_toArray, List.getElem?_take, if_pos hj]
    · intro j oj _ hl
      rw [getD_replicate_false] at hl
      cases hl
    · intro t _ ht
      exact getD_in (by rw [Array.size_replicate]; exact ht) (getD_replicate_false _ _)
  have both : wpAny P .any L.toArray Q ((L.take k).length + (L.toArray.size - k)) (Array.replicate L.toArray.size false) a w.drew := by
    refine wpAny_of_head (g := L.toArray.size - k) (fun listed a' hL => ?_) _ _ _ first
    rw [← e2]
    refine wpAny_of_seq (L.drop k) k listed a' w.drew (fun j => ?_) (by rw [e2]; exact hL.1) hL.2
    rw [List.getElem?_drop, List.getElem?_toArray]
  have e3 : (L.take k).length + (L.toArray.size - k) = L.toArray.size := by rw [e1]; omega
  rw [e3] at both
  exact wpIn_round_any hm hd hno both
end
/-- some blocks lie as they lay -/
def KpB (l : List Nat) (W W' : World) : Prop := W.heap.size ≤ W'.heap.size ∧ ∀ i ∈ l, W'.heap[i]? = W.heap[i]?
theorem KpB.trans {l : List Nat} {A B C : World} (h : KpB l A B) (k : KpB l B C) : KpB l A C := ⟨Nat.le_trans h.1 k.1, fun i hi => (k.2 i hi).trans (h.2 i hi)⟩
theorem KpB.put {l : List Nat} {w : World} (hl : ∀ i ∈ l, i < w.heap.size) (W : World) (k : Nat) (o o' : Obj) (hk : w.heap.size ≤ k) (_ : W.heap[k]? = some o) (_ : o.isCells = false) (_ : o.isWalk = false) : KpB l W (W.putObj k o') :=
  ⟨by simp, fun i hi => World.putObj_heap_other (by have := hl i hi; omega)⟩
theorem KpB.blk {l : List Nat} {W W' : World} (h : KpB l W W') {g : Nat} (hg : g ∈ l) {t : TypeId} {cs : Array Value} (hb : Blk W g t cs) : Blk W' g t cs := (h.2 g hg).trans hb
theorem KpB.of_below {l : List Nat} {n : Nat} {W W' : World} (h : Below n W W') (hl : ∀ i ∈ l, i < n) : KpB l W W' := ⟨h.size, fun i hi => h.block i (hl i hi)⟩
theorem KpB.of_grown {l : List Nat} {row : Option Nat} {W W' : World} (h : W.grownBy W' row) (hl : ∀ i ∈ l, i < W.heap.size ∧ some i ≠ row) : KpB l W W' := ⟨h.size, fun i hi => h.block i (hl i hi).1 (hl i hi).2⟩
/-- what is no cells lies as it lay, if a change is one of cells and of what is new -/
theorem kept_others {W W' : World} {row : Option Nat} (h : W.grownBy W' row) (hr : ∀ g, row = some g → ∃ t cs, Blk W g t cs) : KeepsOthers W W' :=
  ⟨h.size, fun k o hk ho => (h.block k (Array.getElem?_eq_some_iff.1 hk).1 (fun e => by
    obtain ⟨t, cs, hb⟩ := hr k e.symm
    unfold Blk at hb
    rw [hb] at hk
    injection hk with hk
    subst hk
    cases ho)).trans hk⟩
/-- a block of cells is none of those that are none -/
theorem Blk.not_other {W : World} {g r : Nat} {t : TypeId} {cs : Array Value} {o : Obj} (h : Blk W g t cs) (hr : W.heap[r]? = some o) (ho : o.isCells = false) : g ≠ r := by
  rintro rfl
  unfold Blk at h
  rw [h] at hr
  injection hr with hr
  subst hr
  cases ho
theorem Blk.walked {W W' : World} {row : Option Nat} {g : Nat} {t : TypeId} {cs : Array Value} (h : Blk W g t cs) (hg : W.grownBy W' row) (hr : ∀ r, row = some r → ∃ o : Obj, W.heap[r]? = some o ∧ o.isCells = false) : Blk W' g t cs :=
  h.grown hg (fun e => by
    obtain ⟨o, ho, hc⟩ := hr g e.symm
    exact h.not_other ho hc rfl)
end Go.Proofs.Ythbkljeibmkimaa

/-
  The walk of sketch.Update. Conditions: none beyond those stated at each theorem.
-/
namespace Go.Proofs.Ythbkljeibmkimaa
open Go.RowKit
set_option linter.unusedVariables false
set_option linter.unusedSimpArgs false

def SkUpPost (w : World) (A G C : Nat) (b r d m s l : Int) (zs : List Int) (k x : Int) (e : Ending) (w' : World) : Prop :=
  e = .returned (.int .i64 (skErr b r d m s l zs k x)) ∧ SkIs w' A G C b r d m s l (skUpd b r d m s l zs k x) ∧ w.grownBy w' (some C)
theorem skErr_ok {b r d m s l : Int} {zs : List Int} {k x : Int} (h : skErr b r d m s l zs k x = 0) : k < keysI b r d m l ∧ (m = 2 → 0 ≤ x ∧ In64 (kthL (readZ d.toNat zs (colsZ d s l k r.toNat)) 0 + x)) ∧ (m ≠ 2 → changeFits d.toNat zs (colsZ d s l k r.toNat) x) := by
  unfold skErr at h
  split at h
  · cases h
  · rename_i h1
    refine ⟨by omega, fun hm => ?_, fun hm => ?_⟩
    · rw [if_pos hm] at h
      split at h
      · cases h
      · split at h
        · rename_i h2 h3; exact ⟨by omega, h3⟩
        · cases h
    · rw [if_neg hm] at h
      split at h
      · assumption
      · cases h
set_option maxRecDepth 100000 in
set_option maxHeartbeats 8000000 in
theorem skupdate (w : World) (A G C : Nat) (b r d m s l : Int) (zs : List Int) (h : SkIs w A G C b r d m s l zs) (hr : rightB b r d m = true) (s0 : 0 ≤ s) (s1 : s ≤ 18446744073709551615) (k x : Int) (k0 : 0 ≤ k) (k1 : k ≤ 18446744073709551615) (hx : In64 x) :
    Calls Try.prog 88 #[.pointer (some ⟨A, 0, none⟩), .int .u64 k, .int .i64 x] w (SkUpPost w A G C b r d m s l zs k x) := by
  have PC := Lib.hid (skcheck w A G C b r d m s l zs h hr s0 s1 k x k0 k1 hx)
  have HA := Lib.hid h
  have HNE := Lib.hid h.neA
  by_cases h0 : skErr b r d m s l zs k x = 0
  · obtain ⟨hk, hc2, hcn⟩ := skErr_ok h0
    obtain ⟨R, W, rfl, rfl, h1, h2, h3, h4⟩ := sk_nat (w := w) (A := A) (G := G) (C := C) (s := s) (l := l) (zs := zs) hr
    rw [h0] at PC
    have H0 := Lib.hid h0
    have PK := Lib.hid (fun w => cols_any b W m s l k R s0 s1 k0 k1 hk w)
    have HM : Hid (meetB R W (colsZ W s l k R) = true) := Lib.hid (by have := colsZ_meet (d := (W : Int)) (s := s) (l := l) (k := k) h1 (by omega); simpa using this)
    rw [Int.toNat_natCast, Int.toNat_natCast] at hc2 hcn
    clear h hk
    by_cases hm : m = 2
    · have HC2 := Lib.hid (hc2 hm)
      have HU : Hid (skUpd b R W m s l zs k x = raiseZ W zs (colsZ W s l k R) (kthL (readZ W zs (colsZ W s l k R)) 0 + x)) := Lib.hid (by unfold skUpd; rw [if_pos h0, if_pos hm, Int.toNat_natCast, Int.toNat_natCast])
      clear h0 hc2 hcn
      subst hm
      go_enter Try.func88, Try.ntmps88
      go_wp2_with fail
      with_reducible refine PC.out.mono ?_
      rintro e w2 ⟨rfl, hb⟩
      have HA1 := Lib.hid (HA.out.kept hb)
      have HB1 := Lib.hid hb
      clear hb
      go_wp2_with fail
      refine wp_region_still_tail 9 (by kernel_rfl) (by kernel_rfl) ?_
      simp only [List.take_succ_cons, List.take_zero, List.drop_succ_cons, List.drop_zero]
      have HA2 : Hid (SkIs { heap := w2.heap, tape := w2.tape, drawn := w2.drawn + 1, os := w2.os, output := w2.output } A G C b R W _ s l zs) := Lib.hid (HA1.out.kept (below_drewN (Below.refl _ _) 1))
      have HB2 : Hid (Below w.heap.size w { heap := w2.heap, tape := w2.tape, drawn := w2.drawn + 1, os := w2.os, output := w2.output }) := Lib.hid (below_drewN HB1.out 1)
      generalize ({ heap := w2.heap, tape := w2.tape, drawn := w2.drawn + 1, os := w2.os, output := w2.output } : World) = wd at *
      have q1 := HA2.out.box.cell 1
      have q2 := HA2.out.box.cell 2
      have q3 := HA2.out.box.cell 3
      have q4 := HA2.out.box.cell 4
      have q5 := HA2.out.box.cell 5
      have q6 := HA2.out.box.cell 6
      simp at q1 q2 q3 q4 q5 q6
      repeat still_step
      refine wpStill_nil ?_
      go_wp2_with fail
      with_reducible refine (PK.out _).mono ?_
      intro e w3 hpost
      obtain ⟨gc, rfl, hgc, -, hints, hb⟩ := hpost.ints
      have HA3 := Lib.hid (HA2.out.kept hb)
      have HB3 := Lib.hid (btr HB2.out hb)
      have HGR : Hid (GridIs w3 G C R W zs) := Lib.hid (by
        have h1 := HA3.out.grid
        rw [Int.toNat_natCast, Int.toNat_natCast] at h1
        exact h1)
      have HIN := Lib.hid hints
      have hgC : gc ≠ C := by have := HA2.out.grid.ltC; omega
      have HGC : Hid ((Value.slice (some ⟨gc, 0, none⟩) R R).ownBlock ≠ some C) := Lib.hid (by simpa [Value.ownBlock] using hgC)
      clear hb hpost hints q1 q2 q3 q4 q5 q6 hgc hgC
      have q0 := HA3.out.box.cell 0
      have q4 := HA3.out.box.cell 4
      simp at q0 q4
      go_wp2_with fail
      have PR := Lib.hid (raise_yes w3 G C R W zs (colsZ W s l k R) x _ HGR.out HIN.out HM.out hx HGC.out)
      clear q0 q4
      with_reducible refine PR.out.mono ?_
      rintro e w4 ⟨u, hu, hpost⟩
      have hku := kthL_of hu
      obtain ⟨c0, c1⟩ := HC2.out
      rw [hku] at c1
      have hres : e = .returned (.int .i64 0) ∧ GridIs w4 G C R W (raiseZ W zs (colsZ W s l k R) (u + x)) ∧ w3.grownBy w4 (some C) := by
        rcases hpost with ⟨h1, -⟩ | ⟨-, h1, -⟩ | ⟨-, -, h1, h2, h3⟩
        · omega
        · exact absurd c1 h1
        · exact ⟨h1, h2, h3⟩
      obtain ⟨rfl, hg, hgr⟩ := hres
      have HS4 : Hid (SkIs w4 A G C b R W 2 s l (skUpd b R W 2 s l zs k x)) := Lib.hid (by
        rw [HU.out, hku]
        exact ⟨HA3.out.box.grown hgr (by simpa using HNE.out), by rw [Int.toNat_natCast, Int.toNat_natCast]; exact hg⟩)
      have HG4 : Hid (w.grownBy w4 (some C)) := Lib.hid (gr_trans (below_gr HB3.out) hgr)
      clear hu hpost hku c0 c1 hg hgr
      go_wp2
      go_ret
      exact ⟨ret_err H0.out.symm, HS4.out, HG4.out⟩
    · have HCN := Lib.hid (hcn hm)
      have HU : Hid (skUpd b R W m s l zs k x = changeZ W zs (colsZ W s l k R) x) := Lib.hid (by unfold skUpd; rw [if_pos h0, if_neg hm, Int.toNat_natCast, Int.toNat_natCast])
      have em : (m == 2) = false := by simp [hm]
      have em' : decide (m = 2) = false := by simp [hm]
      clear h0 hc2 hcn
      go_enter Try.func88, Try.ntmps88
      go_wp2_with fail
      with_reducible refine PC.out.mono ?_
      rintro e w2 ⟨rfl, hb⟩
      have HA1 := Lib.hid (HA.out.kept hb)
      have HB1 := Lib.hid hb
      clear hb
      go_wp2_with fail
      refine wp_region_still_tail 9 (by kernel_rfl) (by kernel_rfl) ?_
      simp only [List.take_succ_cons, List.take_zero, List.drop_succ_cons, List.drop_zero]
      have HA2 : Hid (SkIs { heap := w2.heap, tape := w2.tape, drawn := w2.drawn + 1, os := w2.os, output := w2.output } A G C b R W _ s l zs) := Lib.hid (HA1.out.kept (below_drewN (Below.refl _ _) 1))
      have HB2 : Hid (Below w.heap.size w { heap := w2.heap, tape := w2.tape, drawn := w2.drawn + 1, os := w2.os, output := w2.output }) := Lib.hid (below_drewN HB1.out 1)
      generalize ({ heap := w2.heap, tape := w2.tape, drawn := w2.drawn + 1, os := w2.os, output := w2.output } : World) = wd at *
      have q1 := HA2.out.box.cell 1
      have q2 := HA2.out.box.cell 2
      have q3 := HA2.out.box.cell 3
      have q4 := HA2.out.box.cell 4
      have q5 := HA2.out.box.cell 5
      have q6 := HA2.out.box.cell 6
      simp at q1 q2 q3 q4 q5 q6
      repeat still_step
      refine wpStill_nil ?_
      go_wp2_with fail
      with_reducible refine (PK.out _).mono ?_
      intro e w3 hpost
      obtain ⟨gc, rfl, hgc, -, hints, hb⟩ := hpost.ints
      have HA3 := Lib.hid (HA2.out.kept hb)
      have HB3 := Lib.hid (btr HB2.out hb)
      have HGR : Hid (GridIs w3 G C R W zs) := Lib.hid (by
        have h1 := HA3.out.grid
        rw [Int.toNat_natCast, Int.toNat_natCast] at h1
        exact h1)
      have HIN := Lib.hid hints
      have hgC : gc ≠ C := by have := HA2.out.grid.ltC; omega
      have HGC : Hid ((Value.slice (some ⟨gc, 0, none⟩) R R).ownBlock ≠ some C) := Lib.hid (by simpa [Value.ownBlock] using hgC)
      clear hb hpost hints q1 q2 q3 q4 q5 q6 hgc hgC
      have q0 := HA3.out.box.cell 0
      have q4 := HA3.out.box.cell 4
      simp at q0 q4
      go_wp2_with fail
      have PR := Lib.hid (change_yes w3 G C R W zs (colsZ W s l k R) x _ HGR.out HIN.out HM.out hx HGC.out)
      clear q0 q4
      with_reducible refine PR.out.mono ?_
      intro e w4 hpost
      have hres : e = .returned (.int .i64 0) ∧ GridIs w4 G C R W (changeZ W zs (colsZ W s l k R) x) ∧ w3.grownBy w4 (some C) := by
        rcases hpost with ⟨-, h1⟩ | ⟨h1, -⟩
        · exact h1
        · exact absurd HCN.out h1
      obtain ⟨rfl, hg, hgr⟩ := hres
      have HS4 : Hid (SkIs w4 A G C b R W m s l (skUpd b R W m s l zs k x)) := Lib.hid (by
        rw [HU.out]
        exact ⟨HA3.out.box.grown hgr (by simpa using HNE.out), by rw [Int.toNat_natCast, Int.toNat_natCast]; exact hg⟩)
      have HG4 : Hid (w.grownBy w4 (some C)) := Lib.hid (gr_trans (below_gr HB3.out) hgr)
      clear hpost hg hgr
      go_wp2
      go_ret
      exact ⟨ret_err H0.out.symm, HS4.out, HG4.out⟩
  · have HU : Hid (skUpd b r d m s l zs k x = zs) := Lib.hid (by unfold skUpd; rw [if_neg h0])
    have e0 : (skErr b r d m s l zs k x != 0) = true := by simp [h0]
    unfold SkUpPost
    generalize skErr b r d m s l zs k x = q at *
    clear h h0
    go_enter Try.func88, Try.ntmps88
    go_wp2_with fail
    with_reducible refine PC.out.mono ?_
    rintro e w2 ⟨rfl, hb⟩
    have HA1 := Lib.hid (HA.out.kept hb)
    have HB1 := Lib.hid hb
    clear hb
    go_wp2
    go_ret
    exact ⟨rfl, by rw [HU.out]; exact HA1.out, below_gr HB1.out⟩
end Go.Proofs.Ythbkljeibmkimaa

/-
  The walks of a stack's iterator over its levels. Conditions: none beyond those stated at each theorem.
-/
namespace Go.Proofs.Ythbkljeibmkimaa
open Go.RowKit Go.Shelf
set_option linter.unusedVariables false
set_option linter.unusedSimpArgs false
attribute [local go_sem] Oper.semAt_some

theorem stat (S : Nat) (k : Int) (w : World) :
    Calls Try.prog 35 #[.pointer (some ⟨S, 0, none⟩), .int .u64 k] w fun e w' => e = .returned (.func (.func 46) #[] #[.pointer (some ⟨w.heap.size, 0, none⟩), .pointer (some ⟨w.heap.size + 1, 0, none⟩)]) ∧ w' = (w.alloc (.cells #[.pointer (some ⟨S, 0, none⟩)] 29)).alloc (.cells #[.int .u64 k] 22) := by
  go_enter Try.func35, Try.ntmps35
  go_wp2
  go_ret
  exact ⟨rfl, rfl⟩
/-- a level's number, told to a loop -/
abbrev LvN (q : Nat) := { n : Nat // n ≤ q }
def uptoN (q : Nat) : Nat → List (LvN q)
  | 0 => []
  | k + 1 => if h : k ≤ q then uptoN q k ++ [⟨k, h⟩] else uptoN q k
theorem uptoN_succ (q k : Nat) (hk : k ≤ q) : uptoN q (k + 1) = uptoN q k ++ [⟨k, hk⟩] := by
  rw [uptoN, dif_pos hk]
theorem uptoN_map (q k : Nat) (hk : k ≤ q + 1) : (uptoN q k).map (·.1) = List.range k := by
  induction k with
  | zero => rfl
  | succ k ih => rw [uptoN_succ q k (by omega), List.map_append, ih (by omega), List.range_succ]; rfl
theorem uptoN_len (q k : Nat) (hk : k ≤ q + 1) : (uptoN q k).length = k := by
  have := congrArg List.length (uptoN_map q k hk)
  simpa using this
set_option maxRecDepth 100000 in
set_option maxHeartbeats 4000000 in
theorem stat1 (n : Nat) (hn : 1 ≤ n) (l Bs Bk S L q cap k : Nat) (cs : Array Value) (X : Nat → Value) (hq : q ≤ 59) (J Jx : List (LvN q) → World → Prop)
    (hX : ∀ n, n ≤ q → ∃ t a, X n = .iface t (.pointer (some ⟨a, 0, none⟩)))
    (hY : ∀ pre x W, J pre W → pre.length < q + 1 → YieldAt Fence.wide (n - 1) Try.prog l #[X x.1, .int .u64 ((k / 2 ^ x.1 : Nat) : Int)] W fun e W' =>
      (e = .returned (.bool true) ∧ J (pre ++ [x]) W' ∧ KpB [Bs, Bk, S, L] W W') ∨ (e = .returned (.bool false) ∧ Jx (pre ++ [x]) W'))
    (W : World) (hBs : Blk W Bs 29 #[.pointer (some ⟨S, 0, none⟩)]) (hBk : Blk W Bk 22 #[.int .u64 (k : Int)]) (hS : ∃ b r d m s, Blk W S 88 #[b, r, d, m, s, .slice (some ⟨L, 0, none⟩) (q + 1) cap])
    (hL : Blk W L 69 cs) (hcs : ∀ n, n ≤ q → cs[n]? = some (X n)) (h0 : J [] W) :
    CallsIn Fence.wide n Try.prog 46 #[.func (.yield l) #[] #[], .pointer (some ⟨Bs, 0, none⟩), .pointer (some ⟨Bk, 0, none⟩)] W fun e W' => (∃ v, e = .returned v) ∧
      ((∃ ys, ys = uptoN q (q + 1) ∧ J ys W') ∨ (∃ pre, (∃ j, j ≤ q + 1 ∧ pre = uptoN q j) ∧ Jx pre W')) := by
  obtain ⟨vb, vr, vd, vm, vs, hS⟩ := hS
  have HX := Lib.hid hX
  have HY := Lib.hid hY
  have HCS := Lib.hid hcs
  have HBS := Lib.hid hBs
  have HBK := Lib.hid hBk
  have HL := Lib.hid hL
  have HLT : Hid (Bs < W.heap.size ∧ Bk < W.heap.size ∧ S < W.heap.size ∧ L < W.heap.size) := Lib.hid ⟨hBs.lt, hBk.lt, hS.lt, hL.lt⟩
  have c0 := hBs.cell 0
  have c5 := hS.cell 5
  simp at c0 c5
  clear hX hY hcs hBs hBk hS hL
  refine callsIn_of_wp Try.func46 rfl trivial ?_ rfl
  simp only [Try.ntmps46, List.size_toArray, List.length_cons, List.length_nil, Nat.reduceAdd, Nat.reduceSub, Array.replicate_succ, Array.replicate_zero, List.push_toArray, List.append_toArray, List.nil_append, List.cons_append]
  gi_wp2
  gi_loopw [11] (fun i wr => ∃ j : Nat, j ≤ q + 1 ∧ i = .int .i64 (j : Int) ∧ J (uptoN q j) wr ∧ KpB [Bs, Bk, S, L] W wr) (fun i _ => q + 1 - (intOf i).toNat)
  case atStart => exact ⟨0, by omega, rfl, by simpa [uptoN] using h0, Nat.le_refl _, fun _ _ => rfl⟩
  case round =>
    obtain ⟨j, hj, rfl, hJs, hkp⟩ := hrel
    clear c0 c5
    have HKP := Lib.hid hkp
    by_cases hlt : j < q + 1
    · have hjq : j ≤ q := by omega
      have ck := (hkp.blk (by simp) HBK.out).cell 0
      have cx := ((hkp.blk (by simp) HL.out).cell j).trans (HCS.out j hjq)
      simp at ck
      have HSUC := Lib.hid (uptoN_succ q j hjq)
      obtain ⟨t, a, hx⟩ := HX.out j hjq
      rw [hx] at cx
      obtain ⟨fn, tmps, assign, body, hy, hR⟩ := HY.out _ ⟨j, hjq⟩ wr hJs (by rw [uptoN_len q j (by omega)]; exact hlt)
      dsimp only at hy
      rw [hx] at hy
      rw [HSUC.out.symm] at hR
      clear hkp hJs hx
      have i0 : (0 : Int) ≤ (j : Int) := by omega
      have i1 : (j : Int) < (q : Int) + 1 := by omega
      have ed : ((k / 2 ^ j : Nat) : Int) = (k : Int) / 2 ^ j := by rw [Int.natCast_ediv, Int.natCast_pow]; rfl
      rw [ed] at hy
      clear ed
      gi_wp2
      refine hR.mono ?_
      rintro e W3 (⟨rfl, hJ3, hk3⟩ | ⟨rfl, hJx3⟩)
      · have HJ3 := Lib.hid hJ3
        have HK3 := Lib.hid (KpB.trans HKP.out hk3)
        clear hJ3 hk3 cx ck hy hR
        gi_wp2
        go_roundw
        case rel => exact ⟨j + 1, by omega, by simp, HJ3.out, HK3.out⟩
        case measure => simp [intOf]; omega
      · have HJ3 := Lib.hid hJx3
        clear hJx3 cx ck hy hR
        gi_wp2
        refine bodyPost_ret (results_none rfl _ _ _) rfl ?_
        exact ⟨⟨_, rfl⟩, .inr ⟨_, ⟨j + 1, by omega, rfl⟩, HJ3.out⟩⟩
    · obtain rfl : j = q + 1 := by omega
      have HJ := Lib.hid hJs
      clear hJs hkp
      gi_wp2
      go_end0
      exact ⟨⟨_, rfl⟩, .inl ⟨_, rfl, HJ.out⟩⟩
/-- what a stack's iterator does: it tells all levels, in their order, or some of the first ones -/
theorem st_stops (n : Nat) (hn : 1 ≤ n) (Bs Bk S L q cap k : Nat) (cs : Array Value) (X : Nat → Value) (hq : q ≤ 59) (w : World)
    (hX : ∀ n, n ≤ q → ∃ t a, X n = .iface t (.pointer (some ⟨a, 0, none⟩)))
    (hBs : Blk w Bs 29 #[.pointer (some ⟨S, 0, none⟩)]) (hBk : Blk w Bk 22 #[.int .u64 (k : Int)]) (hS : ∃ b r d m s, Blk w S 88 #[b, r, d, m, s, .slice (some ⟨L, 0, none⟩) (q + 1) cap])
    (hL : Blk w L 69 cs) (hcs : ∀ n, n ≤ q → cs[n]? = some (X n)) :
    SeqStopsK Fence.wide n Try.prog 46 #[.pointer (some ⟨Bs, 0, none⟩), .pointer (some ⟨Bk, 0, none⟩)] (fun x : LvN q => #[X x.1, .int .u64 ((k / 2 ^ x.1 : Nat) : Int)]) (KpB [Bs, Bk, S, L]) (fun ys => ys = uptoN q (q + 1)) (fun pre => ∃ j, j ≤ q + 1 ∧ pre = uptoN q j) (q + 1) w := fun l J Jx W hW _ _ hY h0 => by
  obtain ⟨vb, vr, vd, vm, vs, hS⟩ := hS
  exact stat1 n hn l Bs Bk S L q cap k cs X hq J Jx hX hY W (hBs.kept hW) (hBk.kept hW) ⟨vb, vr, vd, vm, vs, hS.kept hW⟩ (hL.kept hW) hcs h0
end Go.Proofs.Ythbkljeibmkimaa

/-
  A stack's levels by their methods; the walk of first. Conditions: none beyond those stated at each theorem.
-/
namespace Go.Proofs.Ythbkljeibmkimaa
open Go.RowKit
set_option linter.unusedVariables false
set_option linter.unusedSimpArgs false

section
variable {W W' : World} {row : Option Nat}
theorem GridIs.walked {G C R V : Nat} {zs : List Int} (h : GridIs W G C R V zs) (hg : W.grownBy W' row) (hr : ∀ r, row = some r → ∃ o : Obj, W.heap[r]? = some o ∧ o.isCells = false) : GridIs W' G C R V zs := by
  obtain ⟨cap, hG, -⟩ := h.fields
  obtain ⟨cur, hC, -⟩ := h.cells
  have key : ∀ g t cs, Blk W g t cs → some g ≠ row := fun g t cs hb e => by
    obtain ⟨o, ho, hc⟩ := hr g e.symm
    exact hb.not_other ho hc rfl
  exact h.grown hg (key _ _ _ hG) (key _ _ _ hC)
theorem LevIs.walked {x : Value} {A G C : Nat} {b r d m s l : Int} {zs : List Int} (h : LevIs W x A G C b r d m s l zs) (hg : W.grownBy W' row) (hr : ∀ r, row = some r → ∃ o : Obj, W.heap[r]? = some o ∧ o.isCells = false) : LevIs W' x A G C b r d m s l zs := by
  rcases h with ⟨h1, h2, h3⟩ | ⟨h1, h2, h3⟩
  · exact .inl ⟨h1, h2, h3.1.walked hg hr, h3.2.walked hg hr⟩
  · exact .inr ⟨h1, h2, h3.box.walked hg hr, h3.grid.walked hg hr⟩
theorem StIs.walked {base S L : Nat} {b r d m s : Int} {X : Nat → Value} {A G C : Nat → Nat} {Z : Nat → List Int} (h : StIs W base S L b r d m s X A G C Z) (hg : W.grownBy W' row) (hr : ∀ r, row = some r → ∃ o : Obj, W.heap[r]? = some o ∧ o.isCells = false) : StIs W' base S L b r d m s X A G C Z := by
  obtain ⟨cap, h1, h2⟩ := h.box
  obtain ⟨cur, h3, h4⟩ := h.row
  exact ⟨⟨cap, h1.walked hg hr, h2⟩, h.right, ⟨cur, h3.walked hg hr, h4⟩, fun n hn => (h.lev n hn).walked hg hr, h.apart, h.low⟩
end
theorem Try.mExCheck (k : Nat) (a : Addr) (w : World) : (method (k + 1) 101 (.pointer (some a)) "Check").run Try.prog w = .ok (70, .pointer (some a)) w := by kernel_rfl
theorem Try.mSkCheck (k : Nat) (a : Addr) (w : World) : (method (k + 1) 104 (.pointer (some a)) "Check").run Try.prog w = .ok (83, .pointer (some a)) w := by kernel_rfl
theorem Try.mExUpdate (k : Nat) (a : Addr) (w : World) : (method (k + 1) 101 (.pointer (some a)) "Update").run Try.prog w = .ok (75, .pointer (some a)) w := by kernel_rfl
theorem Try.mSkUpdate (k : Nat) (a : Addr) (w : World) : (method (k + 1) 104 (.pointer (some a)) "Update").run Try.prog w = .ok (88, .pointer (some a)) w := by kernel_rfl
/-- a method that a level has -/
def HasM (x : Value) (A : Nat) (name : String) (f : FuncId) : Prop :=
  ∃ T, x = .iface T (.pointer (some ⟨A, 0, none⟩)) ∧ (∀ (j : Nat) (W : World), (method (j + 1) T (.pointer (some ⟨A, 0, none⟩)) name).run Try.prog W = .ok (f, .pointer (some ⟨A, 0, none⟩)) W) ∧
    ∀ (args : Array Value) (W : World), (callFunc f args).run Try.prog W = .ok (.enter f args) W
theorem lvcheck (w : World) (x : Value) (A G C : Nat) (b r d m s l : Int) (zs : List Int) (h : LevIs w x A G C b r d m s l zs) (hr : rightB b r d m = true) (s0 : 0 ≤ s) (s1 : s ≤ 18446744073709551615) (k : Nat) (hk : k < 18446744073709551616) (y : Int) (hy : In64 y) :
    ∃ f, HasM x A "Check" f ∧ Calls Try.prog f #[.pointer (some ⟨A, 0, none⟩), .int .u64 (k : Int), .int .i64 y] w fun e w' => e = .returned (.int .i64 (lvErr b r d m s l zs k y)) ∧ Below w.heap.size w w' := by
  rcases h with ⟨h1, h2, h3⟩ | ⟨h1, h2, h3⟩
  · refine ⟨_, ⟨_, h2, fun j W => Try.mExCheck j _ W, enters_of Try.func70 (by kernel_rfl) rfl⟩, ?_⟩
    have e : lvErr b r d m s l zs k y = chkI (keysI b r d m l).toNat m zs k y := by unfold lvErr; rw [if_pos h1]
    rw [e]
    exact excheck w A G C b r d m s l _ k zs y h3 hy hk
  · refine ⟨_, ⟨_, h2, fun j W => Try.mSkCheck j _ W, enters_of Try.func83 (by kernel_rfl) rfl⟩, ?_⟩
    have e : lvErr b r d m s l zs k y = skErr b r d m s l zs (k : Int) y := by unfold lvErr; rw [if_neg (by rw [h1]; decide)]
    rw [e]
    exact skcheck w A G C b r d m s l zs h3 hr s0 s1 (k : Int) y (by omega) (by omega) hy
def LvUpPost (w : World) (x : Value) (A G C : Nat) (b r d m s l : Int) (zs : List Int) (k : Nat) (y : Int) (e : Ending) (w' : World) : Prop :=
  e = .returned (.int .i64 (lvErr b r d m s l zs k y)) ∧ LevIs w' x A G C b r d m s l (lvUpd b r d m s l zs k y) ∧ w.grownBy w' (some C)
theorem lvupdate (w : World) (x : Value) (A G C : Nat) (b r d m s l : Int) (zs : List Int) (h : LevIs w x A G C b r d m s l zs) (hr : rightB b r d m = true) (s0 : 0 ≤ s) (s1 : s ≤ 18446744073709551615) (k : Nat) (hk : k < 18446744073709551616) (y : Int) (hy : In64 y) :
    ∃ f, HasM x A "Update" f ∧ Calls Try.prog f #[.pointer (some ⟨A, 0, none⟩), .int .u64 (k : Int), .int .i64 y] w (LvUpPost w x A G C b r d m s l zs k y) := by
  rcases h with ⟨h1, h2, h3⟩ | ⟨h1, h2, h3⟩
  · refine ⟨_, ⟨_, h2, fun j W => Try.mExUpdate j _ W, enters_of Try.func75 (by kernel_rfl) rfl⟩, ?_⟩
    refine (exupdate w A G C b r d m s l _ k zs y h3 hy hk).mono ?_
    rintro e w' ⟨he, ha, hg⟩
    refine ⟨?_, .inl ⟨h1, h2, ?_⟩, hg⟩
    · rw [he]; unfold lvErr; rw [if_pos h1]
    · unfold lvUpd; rw [if_pos h1]; exact ha
  · refine ⟨_, ⟨_, h2, fun j W => Try.mSkUpdate j _ W, enters_of Try.func88 (by kernel_rfl) rfl⟩, ?_⟩
    refine (skupdate w A G C b r d m s l zs h3 hr s0 s1 (k : Int) y (by omega) (by omega) hy).mono ?_
    rintro e w' ⟨he, ha, hg⟩
    refine ⟨?_, .inr ⟨h1, h2, ?_⟩, hg⟩
    · rw [he]; unfold lvErr; rw [if_neg (by rw [h1]; decide)]
    · unfold lvUpd; rw [if_neg (by rw [h1]; decide)]; exact ha
set_option maxRecDepth 100000 in
set_option maxHeartbeats 4000000 in
theorem first_any (g : Nat) (a c : Int) (w : World) (hb : Blk w g 33 #[.int .i64 a, .int .i64 c]) :
    Calls Try.prog 36 #[.slice (some ⟨g, 0, none⟩) 2 2] w fun e w' => e = .returned (.int .i64 (firstI a c)) ∧ w = w' := by
  have c0 := hb.cell 0
  have c1 := hb.cell 1
  simp at c0 c1
  have hq : ∃ q, q = firstI a c := ⟨_, rfl⟩
  obtain ⟨q, hq⟩ := hq
  rw [← hq]
  unfold firstI at hq
  have HQ := Lib.hid hq
  clear hb hq
  by_cases ha : a = 0
  · subst ha
    have HQ : Hid (q = c) := Lib.hid (by rw [HQ.out, if_pos rfl])
    by_cases hc : c = 0
    · subst hc
      go_enter Try.func36, Try.ntmps36
      go_wp2
      go_loop [8] (fun i => ∃ j : Nat, j ≤ 2 ∧ i = .int .i64 (j : Int)) (fun i => 2 - (intOf i).toNat)
      case atStart => exact ⟨0, by omega, rfl⟩
      case round =>
        obtain ⟨j, hj, rfl⟩ := hrel
        rcases (show j = 0 ∨ j = 1 ∨ j = 2 by omega) with rfl | rfl | rfl
        · go_wp2
          go_round
          case rel => exact ⟨1, by omega, rfl⟩
          case measure => simp [intOf]
        · go_wp2
          go_round
          case rel => exact ⟨2, by omega, rfl⟩
          case measure => simp [intOf]
        · go_wp2
          go_ret
          exact ⟨ret_err HQ.out.symm, rfl⟩
    · have n1 : (c != 0) = true := by simp [hc]
      clear hc
      go_enter Try.func36, Try.ntmps36
      go_wp2
      go_loop [8] (fun i => ∃ j : Nat, j ≤ 1 ∧ i = .int .i64 (j : Int)) (fun i => 2 - (intOf i).toNat)
      case atStart => exact ⟨0, by omega, rfl⟩
      case round =>
        obtain ⟨j, hj, rfl⟩ := hrel
        rcases (show j = 0 ∨ j = 1 by omega) with rfl | rfl
        · go_wp2
          go_round
          case rel => exact ⟨1, by omega, rfl⟩
          case measure => simp [intOf]
        · go_wp2
          go_ret
          exact ⟨ret_err HQ.out.symm, rfl⟩
  · have HQ : Hid (q = a) := Lib.hid (by rw [HQ.out, if_neg ha])
    have n1 : (a != 0) = true := by simp [ha]
    clear ha
    go_enter Try.func36, Try.ntmps36
    go_wp2
    go_loop [8] (fun i => i = .int .i64 0) (fun i => 2 - (intOf i).toNat)
    case atStart => rfl
    case round =>
      subst hrel
      go_wp2
      go_ret
      exact ⟨ret_err HQ.out.symm, rfl⟩
end Go.Proofs.Ythbkljeibmkimaa

/-
  The walk of a stack's Update. Conditions: none beyond those stated at each theorem.
-/
namespace Go.Proofs.Ythbkljeibmkimaa
open Go.RowKit Go.Shelf
set_option linter.unusedVariables false
set_option linter.unusedSimpArgs false
attribute [local go_sem] Oper.semAt_some

/-- of what was there, at most the rows' blocks have changed -/
structure RGr (w w' : World) (B : Nat → Nat) (R : Nat) : Prop where
  os : w'.os = w.os
  tape : w'.tape = w.tape
  output : w'.output = w.output
  size : w.heap.size ≤ w'.heap.size
  block : ∀ k, k < w.heap.size → (∀ r, r < R → k ≠ B r) → w'.heap[k]? = w.heap[k]?
theorem RGr.of_below {w w' : World} {B : Nat → Nat} {R : Nat} (h : Below w.heap.size w w') : RGr w w' B R := ⟨h.os, h.tape, h.output, h.size, fun k hk _ => h.block k hk⟩
theorem RGr.trans {w w1 w2 : World} {B : Nat → Nat} {R : Nat} (h : RGr w w1 B R) (k : RGr w1 w2 B R) : RGr w w2 B R :=
  ⟨k.os.trans h.os, k.tape.trans h.tape, k.output.trans h.output, Nat.le_trans h.size k.size, fun j hj hne => (k.block j (Nat.lt_of_lt_of_le hj h.size) hne).trans (h.block j hj hne)⟩
theorem RGr.set {w : World} {B : Nat → Nat} {R r c : Nat} (hr : r < R) (u : Value) : RGr w (w.setCell ⟨B r, c, none⟩ u) B R :=
  ⟨rfl, rfl, rfl, by simp [World.setCell], fun k hk hne => Below.heap_setCell _ _ _ _ (by simpa using hne r hr)⟩

def StUpPost (w : World) (base S L : Nat) (b r d m s : Int) (X : Nat → Value) (A G C : Nat → Nat) (Z : Nat → List Int) (k : Nat) (x : Int) (e : Ending) (w' : World) : Prop :=
  e = .returned (.int .i64 (stErr b r d m s Z k x)) ∧ StIs w' base S L b r d m s X A G C (stUpd b r d m s Z k x) ∧ RGr w w' C (b.toNat + 1)
theorem stupdate_key (w : World) (base S L : Nat) (b r d m s : Int) (X : Nat → Value) (A G C : Nat → Nat) (Z : Nat → List Int) (h : StIs w base S L b r d m s X A G C Z) (k : Nat) (x : Int) (hk : keysI b r d m 0 ≤ (k : Int)) :
    Calls Try.prog 18 #[.pointer (some ⟨S, 0, none⟩), .int .u64 (k : Int), .int .i64 x] w (StUpPost w base S L b r d m s X A G C Z k x) := by
  have HE : Hid (stErr b r d m s Z k x = 2) := Lib.hid (by unfold stErr; rw [if_pos hk])
  have HU : Hid (∀ n, stUpd b r d m s Z k x n = Z n) := Lib.hid (fun n => by unfold stUpd; rw [HE.out, if_neg (by decide)])
  unfold StUpPost
  rw [HE.out]
  have PK := Lib.hid (fun w => keys_any b r d m s 0 w)
  have e1 : decide (keysI b r d m 0 ≤ (k : Int)) = true := decide_eq_true hk
  have hal : Below w.heap.size w (w.alloc (.cells #[.int .i64 x] 2)) := (Below.refl _ _).alloc (Nat.le_refl _) _
  obtain ⟨cap, hbx, -⟩ := h.box
  have hA := hbx.kept hal
  have c0 := hA.cell 0
  have c1 := hA.cell 1
  have c2 := hA.cell 2
  have c3 := hA.cell 3
  have c4 := hA.cell 4
  simp at c0 c1 c2 c3 c4
  have HS := Lib.hid (h.kept hal)
  have HB := Lib.hid hal
  clear h hk hbx hal hA
  go_enter Try.func18, Try.ntmps18
  go_wp2_with fail
  generalize (w.alloc (.cells #[.int .i64 x] 2)) = w1 at *
  with_reducible refine (PK.out _).mono ?_
  rintro e w2 ⟨rfl, hb⟩
  have HS2 := Lib.hid (HS.out.kept hb)
  have HB2 := Lib.hid (btr HB.out hb)
  clear hb c0 c1 c2 c3 c4
  go_wp2
  go_ret
  exact ⟨rfl, HS2.out.setC (fun n _ => (HU.out n).symm), RGr.of_below HB2.out⟩
/-- the numbers of levels -/
def vals {q : Nat} (l : List (LvN q)) : List Nat := l.map (·.1)
theorem vals_snoc {q : Nat} (l : List (LvN q)) (y : LvN q) : vals (l ++ [y]) = vals l ++ [y.1] := by simp [vals]
theorem vals_all (q : Nat) : vals (uptoN q (q + 1)) = List.range (q + 1) := uptoN_map q (q + 1) (Nat.le_refl _)
/-- between two rounds of the first loop: what lies, and the first answer that is none -/
structure ChkI (W0 W : World) (base S L : Nat) (b r d m s : Int) (X : Nat → Value) (A G C : Nat → Nat) (Z : Nat → List Int) (BD BB T : Nat) (x v : Int) : Prop where
  top : T ≤ W.heap.size
  st : StIs W base S L b r d m s X A G C Z
  num : Blk W BD 2 #[.int .i64 x]
  bad : Blk W BB 33 #[.int .i64 v]
  bel : Below W0.heap.size W0 W
theorem ChkI.kept {W0 W W' : World} {base S L : Nat} {b r d m s : Int} {X : Nat → Value} {A G C : Nat → Nat} {Z : Nat → List Int} {BD BB T : Nat} {x v : Int} (h : ChkI W0 W base S L b r d m s X A G C Z BD BB T x v) (hb : Below W.heap.size W W') : ChkI W0 W' base S L b r d m s X A G C Z BD BB T x v :=
  ⟨Nat.le_trans h.top hb.size, h.st.kept hb, h.num.kept hb, h.bad.kept hb, btr h.bel hb⟩
theorem ChkI.walked {W0 W W' : World} {base S L : Nat} {b r d m s : Int} {X : Nat → Value} {A G C : Nat → Nat} {Z : Nat → List Int} {BD BB T : Nat} {x v : Int} {row : Option Nat} (h : ChkI W0 W base S L b r d m s X A G C Z BD BB T x v) (hg : W.grownBy W' row) (hr : ∀ r, row = some r → W0.heap.size ≤ r ∧ ∃ o : Obj, W.heap[r]? = some o ∧ o.isCells = false) : ChkI W0 W' base S L b r d m s X A G C Z BD BB T x v :=
  ⟨Nat.le_trans h.top hg.size, h.st.walked hg (fun r e => (hr r e).2), h.num.walked hg (fun r e => (hr r e).2), h.bad.walked hg (fun r e => (hr r e).2), h.bel.grown hg h.bel.size (fun k e => (hr k e).1)⟩
/-- the answer is laid -/
theorem ChkI.put {W0 W : World} {base S L : Nat} {b r d m s : Int} {X : Nat → Value} {A G C : Nat → Nat} {Z : Nat → List Int} {BD BB T : Nat} {x v : Int} (h : ChkI W0 W base S L b r d m s X A G C Z BD BB T x v) (hB : W0.heap.size ≤ BB) (u : Int) : ChkI W0 (W.setCell ⟨BB, 0, none⟩ (.int .i64 u)) base S L b r d m s X A G C Z BD BB T x u :=
  ⟨by simpa using h.top, h.st.far h.bad (by decide) (by decide) (grown_set W BB 0 _), h.num.far (by simpa using h.num.ne_ h.bad (by decide)) _, by simpa using h.bad.set_ 0 (.int .i64 u), h.bel.setCell (p := ⟨BB, 0, none⟩) hB _⟩
theorem ChkI.round {W0 W w5 : World} {base S L : Nat} {b r d m s : Int} {X : Nat → Value} {A G C : Nat → Nat} {Z : Nat → List Int} {BD BB T : Nat} {x v : Int} (h : ChkI W0 W base S L b r d m s X A G C Z BD BB T x v) (hb : Below W.heap.size W w5) (o : Obj) (hB : W0.heap.size ≤ BB) (u : Int) (l : List Nat) (hl : ∀ i ∈ l, i < W.heap.size ∧ i ≠ BB) :
    KeepsOthers W ((w5.alloc o).setCell ⟨BB, 0, none⟩ (.int .i64 u)) ∧ KpB l W ((w5.alloc o).setCell ⟨BB, 0, none⟩ (.int .i64 u)) ∧ ChkI W0 ((w5.alloc o).setCell ⟨BB, 0, none⟩ (.int .i64 u)) base S L b r d m s X A G C Z BD BB T x u := by
  have h2 : Below W.heap.size W (w5.alloc o) := btr hb (below_alloc1 w5 o)
  have h3 : W.grownBy ((w5.alloc o).setCell ⟨BB, 0, none⟩ (.int .i64 u)) (some BB) := gr_trans (below_gr h2) (grown_set _ BB 0 _)
  exact ⟨kept_others h3 (fun g e => ⟨_, _, by cases e; exact h.bad⟩), KpB.of_grown h3 (fun i hi => ⟨(hl i hi).1, by simpa using (hl i hi).2⟩), (h.kept h2).put hB u⟩
/-- the answers of some levels, one behind the other -/
noncomputable def foldE (b r d m s : Int) (Z : Nat → List Int) (k : Nat) (x : Int) (l : List Nat) : Int := l.foldl (fun a (n : Nat) => firstI a (lvErr b r d m s (n : Int) (Z n) (k / 2 ^ n) x)) 0
theorem foldE_snoc (b r d m s : Int) (Z : Nat → List Int) (k : Nat) (x : Int) (l : List Nat) (n : Nat) : foldE b r d m s Z k x (l ++ [n]) = firstI (foldE b r d m s Z k x l) (lvErr b r d m s (n : Int) (Z n) (k / 2 ^ n) x) := by
  unfold foldE
  rw [List.foldl_append]
  rfl
/-- what a level comes to, updated so often -/
noncomputable def timesU (b r d m s : Int) (k : Nat) (x : Int) (n : Nat) (zs : List Int) : Nat → List Int
  | 0 => zs
  | j + 1 => lvUpd b r d m s (n : Int) (timesU b r d m s k x n zs j) (k / 2 ^ n) x
/-- between two rounds of the second loop -/
structure UpdI (W0 W : World) (base S L : Nat) (b r d m s : Int) (X : Nat → Value) (A G C : Nat → Nat) (Z : Nat → List Int) (BD T D1 : Nat) (x : Int) (k : Nat) (l : List Nat) : Prop where
  top : T ≤ W.heap.size
  st : StIs W base S L b r d m s X A G C (fun n => timesU b r d m s k x n (Z n) (l.count n))
  num : Blk W BD 2 #[.int .i64 x]
  gr : RGr W0 W C (b.toNat + 1)
  mark : W.heap[D1]? = some (.deferred (some []))
theorem RGr.grown {W0 W W' : World} {C : Nat → Nat} {q : Nat} {row : Option Nat} (h : RGr W0 W C q) (hg : W.grownBy W' row) (hr : ∀ r, row = some r → W0.heap.size ≤ r ∨ ∃ n, n < q ∧ r = C n) : RGr W0 W' C q :=
  ⟨hg.os.trans h.os, hg.tape.trans h.tape, hg.output.trans h.output, Nat.le_trans h.size hg.size, fun k hk hne => (hg.block k (Nat.lt_of_lt_of_le hk h.size) (fun e => by
    rcases hr k e.symm with h1 | ⟨n, hn, e2⟩
    · omega
    · exact hne n hn e2)).trans (h.block k hk hne)⟩
theorem UpdI.walked {W0 W W' : World} {base S L : Nat} {b r d m s : Int} {X : Nat → Value} {A G C : Nat → Nat} {Z : Nat → List Int} {BD T D1 : Nat} {x : Int} {k : Nat} {l : List Nat} {row : Option Nat} {B : Nat} (h : UpdI W0 W base S L b r d m s X A G C Z BD T D1 x k l) (h0 : W0.heap.size ≤ B) (h1 : D1 < B) (hg : W.grownBy W' row) (hr : ∀ r, row = some r → B ≤ r ∧ ∃ o : Obj, W.heap[r]? = some o ∧ o.isCells = false) : UpdI W0 W' base S L b r d m s X A G C Z BD T D1 x k l :=
  ⟨Nat.le_trans h.top hg.size, h.st.walked hg (fun r e => (hr r e).2), h.num.walked hg (fun r e => (hr r e).2), h.gr.grown hg (fun r e => .inl (by have := (hr r e).1; omega)),
    (hg.block D1 (Array.getElem?_eq_some_iff.1 h.mark).1 (fun e => by have := (hr D1 e.symm).1; omega)).trans h.mark⟩
theorem UpdI.next {W0 W W' : World} {base S L : Nat} {b r d m s : Int} {X : Nat → Value} {A G C : Nat → Nat} {Z : Nat → List Int} {BD T D1 : Nat} {x : Int} {k : Nat} {l : List Nat} (h : UpdI W0 W base S L b r d m s X A G C Z BD T D1 x k l) (hT : BD < T) {n : Nat} (hn : n ≤ b.toNat) (hBD : BD ≠ C n) {e : Ending}
    (hp : LvUpPost W (X n) (A n) (G n) (C n) b r d m s n (timesU b r d m s k x n (Z n) (l.count n)) (k / 2 ^ n) x e W') : UpdI W0 W' base S L b r d m s X A G C Z BD T D1 x k (l ++ [n]) := by
  obtain ⟨-, hl, hg⟩ := hp
  obtain ⟨cur, hC⟩ := (h.st.lev n hn).cells
  refine ⟨Nat.le_trans h.top hg.size, (h.st.put hn hg hl).setC (fun j hj => ?_), h.num.grown hg (by simpa using hBD), h.gr.grown hg (fun r e => .inr ⟨n, by omega, by have := Option.some.inj e; omega⟩), ?_⟩
  · by_cases e : j = n
    · subst e
      rw [upN_same, List.count_append, List.count_singleton_self]
      rfl
    · rw [upN_other _ _ e, List.count_append, List.count_singleton, if_neg (by simpa using fun e2 => e e2.symm), Nat.add_zero]
  · refine (hg.block D1 (Array.getElem?_eq_some_iff.1 h.mark).1 (fun e => ?_)).trans h.mark
    have e := Option.some.inj e
    have h1 := h.mark
    unfold Blk at hC
    rw [e, hC] at h1
    cases h1
theorem count_upto (q n : Nat) : (List.range q).count n = if n < q then 1 else 0 := by
  induction q with
  | zero => simp
  | succ q ih =>
    rw [List.range_succ, List.count_append, ih, List.count_singleton]
    by_cases h1 : n < q
    · rw [if_pos h1, if_neg (by simp; omega), if_pos (by omega)]
    · by_cases h2 : n = q
      · subst h2; simp
      · rw [if_neg h1, if_neg (by simp; omega), if_neg (by omega)]
theorem shr_small {k : Nat} (hk : k < 18446744073709551616) (n : Nat) : k / 2 ^ n < 18446744073709551616 := Nat.lt_of_le_of_lt (Nat.div_le_self _ _) hk
set_option maxRecDepth 100000 in
set_option maxHeartbeats 8000000 in
theorem stupdate_in (w : World) (base S L : Nat) (b r d m s : Int) (X : Nat → Value) (A G C : Nat → Nat) (Z : Nat → List Int) (h : StIs w base S L b r d m s X A G C Z) (s0 : 0 ≤ s) (s1 : s ≤ 18446744073709551615) (k : Nat) (hk64 : k < 18446744073709551616) (x : Int) (hx : In64 x) (hk : (k : Int) < keysI b r d m 0) :
    Calls Try.prog 18 #[.pointer (some ⟨S, 0, none⟩), .int .u64 (k : Int), .int .i64 x] w (StUpPost w base S L b r d m s X A G C Z k x) := by
  obtain ⟨q, hq⟩ : ∃ q : Nat, b.toNat = q := ⟨_, rfl⟩
  have hR := right_of h.right
  have hq59 : q ≤ 59 := by omega
  have PK := Lib.hid (fun w => keys_any b r d m s 0 w)
  have e1 : decide (keysI b r d m 0 ≤ (k : Int)) = false := decide_eq_false (by omega)
  have hal : Below w.heap.size w (w.alloc (.cells #[.int .i64 x] 2)) := (Below.refl _ _).alloc (Nat.le_refl _) _
  have HNUM := Lib.hid (Blk.new w 2 #[.int .i64 x])
  obtain ⟨cap, hbx, hcap⟩ := h.box
  rw [hq] at hbx hcap
  have hA := hbx.kept hal
  have c0 := hA.cell 0
  have c1 := hA.cell 1
  have c2 := hA.cell 2
  have c3 := hA.cell 3
  have c4 := hA.cell 4
  simp at c0 c1 c2 c3 c4
  have HCL : Hid (∀ n, n ≤ b.toNat → C n < w.heap.size) := Lib.hid (fun n hn => (h.lev n hn).ltC)
  have HS := Lib.hid (h.kept hal)
  have HB := Lib.hid hal
  have HRT := Lib.hid h.right
  have HKK := Lib.hid hk
  have HQ := Lib.hid hq
  have PI := Lib.hid hbx
  clear h hbx hal hA hR hk hcap hq
  refine (callsIn_wide (n := 6)).1 ?_
  refine callsIn_of_wp_marks Try.func18 rfl trivial ?_ rfl
  simp only [Try.ntmps18, List.size_toArray, List.length_cons, List.length_nil, Nat.reduceAdd, Nat.reduceSub, Array.replicate_succ, Array.replicate_zero, List.push_toArray, List.append_toArray, List.nil_append, List.cons_append]
  gi_wp2_with fail
  generalize hw1 : (w.alloc (.cells #[.int .i64 x] 2)) = w1 at *
  have HW1 := Lib.hid hw1
  clear hw1
  refine ⟨trivial, ?_⟩
  with_reducible refine (callsIn_wide.2 (PK.out _)).mono ?_
  rintro e w2 ⟨rfl, hb⟩
  have HS2 := Lib.hid (HS.out.kept hb)
  have HB2 := Lib.hid (btr HB.out hb)
  have HN2 := Lib.hid (HNUM.out.kept hb)
  clear hb c0 c1 c2 c3 c4
  gi_wp2_with fail
  have HS3 := Lib.hid (HS2.out.kept (below_alloc1 w2 (.cells #[.int .i64 0] 33)))
  have HB3 := Lib.hid (btr HB2.out (below_alloc1 w2 (.cells #[.int .i64 0] 33)))
  have HN3 := Lib.hid (HN2.out.kept (below_alloc1 w2 (.cells #[.int .i64 0] 33)))
  have HE3 := Lib.hid (Blk.new w2 33 #[.int .i64 0])
  have HSZ : Hid (w.heap.size ≤ w2.heap.size) := Lib.hid HB2.out.size
  generalize (w2.alloc (.cells #[.int .i64 0] 33)) = w3 at *
  refine ⟨trivial, ?_⟩
  with_reducible refine (callsIn_wide.2 (stat S (k : Int) w3)).mono ?_
  rintro e w4 ⟨rfl, hw4⟩
  obtain ⟨ga, gb, gc, gd⟩ := news2 w3 (.cells #[.pointer (some ⟨S, 0, none⟩)] 29) (.cells #[.int .u64 (k : Int)] 22)
  rw [← hw4] at ga gb gc gd
  have HGA : Hid (Blk w4 w3.heap.size 29 #[.pointer (some ⟨S, 0, none⟩)]) := Lib.hid ga
  have HGB : Hid (Blk w4 (w3.heap.size + 1) 22 #[.int .u64 (k : Int)]) := Lib.hid gb
  have HI0 : Hid (ChkI w w4 base S L b r d m s X A G C Z w.heap.size w2.heap.size w4.heap.size x (foldE b r d m s Z k x [])) := Lib.hid ⟨Nat.le_refl _, HS3.out.kept gc, HN3.out.kept gc, HE3.out.kept gc, btr HB3.out gc⟩
  have HTOP : Hid (w3.heap.size + 2 = w4.heap.size ∧ w2.heap.size < w3.heap.size) := Lib.hid ⟨gd.symm, HE3.out.lt⟩
  clear hw4 ga gb gc gd
  gi_wp2_with fail
  obtain ⟨capS, hbx, -⟩ := HI0.out.st.box
  obtain ⟨cur, hrow, hcur⟩ := HI0.out.st.row
  rw [HQ.out] at hbx hcur
  have HXO : Hid (∀ n, n ≤ q → ∃ t a, X n = .iface t (.pointer (some ⟨a, 0, none⟩))) := Lib.hid (fun n hn => by
    obtain ⟨t, ht⟩ := (HI0.out.st.lev n (by rw [HQ.out]; exact hn)).open_
    exact ⟨t, _, ht⟩)
  have HNE : Hid (S < w4.heap.size ∧ L < w4.heap.size ∧ S ≠ w2.heap.size ∧ L ≠ w2.heap.size) := Lib.hid ⟨hbx.lt, hrow.lt, hbx.ne_ HI0.out.bad (by decide), hrow.ne_ HI0.out.bad (by decide)⟩
  refine wpIn_rangeFunc_ownF rfl (by omega) (gf := 46) (lb := #[.pointer (some ⟨w3.heap.size, 0, none⟩), .pointer (some ⟨w3.heap.size + 1, 0, none⟩)]) rfl trivial (enters_of Try.func46 (by kernel_rfl) rfl)
    (st_stops (6 - 1) (by omega) w3.heap.size (w3.heap.size + 1) S L q capS k cur X hq59 w4 HXO.out HGA.out HGB.out ⟨_, _, _, _, _, hbx⟩ hrow hcur) KpB.trans (KpB.put (by
      have h1 := HTOP.out; have h2 := HNE.out
      intro i hi
      simp at hi
      omega)) (Below.refl _ _) (fun _ => rfl)
    (fun (pre : List (LvN q)) W => ChkI w W base S L b r d m s X A G C Z w.heap.size w2.heap.size w4.heap.size x (foldE b r d m s Z k x (vals pre)))
    (fun _ _ _ => False)
    (fun pre W W' row hs hg hr => hs.walked hg (fun r e => ⟨by have h1 := (hr r e).1; have h2 := HI0.out.bel.size; omega, (hr r e).2⟩))
    (fun _ _ _ _ _ hs _ _ => hs)
    HI0.out
    (fun (y : LvN q) => { tmps := #[.pointer (some ⟨S, 0, none⟩), .int .u64 (k : Int), .int .i64 x, undef, undef, .pointer (some ⟨w.heap.size, 0, none⟩), .int .i64 0, .pointer (some ⟨w2.heap.size, 0, none⟩), X y.1, .int .u64 ((k / 2 ^ y.1 : Nat) : Int), undef, undef,
      .int .u64 (k : Int), .pointer (some ⟨S, 0, none⟩), .pointer (some ⟨S, 0, none⟩), .pointer (some ⟨S, 0, none⟩), .agg #[.int .i64 b, .int .i64 r, .int .i64 d, .int .i64 m, .int .u64 s], .int .u64 (keysI b r d m 0), .bool false, .pointer (some ⟨S, 0, none⟩), .int .u64 (k : Int),
      .func (.func 46) #[] #[.pointer (some ⟨w3.heap.size, 0, none⟩), .pointer (some ⟨w3.heap.size + 1, 0, none⟩)], X y.1, .int .u64 ((k / 2 ^ y.1 : Nat) : Int), undef, undef, undef, undef, undef, undef, undef, undef, undef, undef, undef, undef, undef, undef, undef, undef, undef, undef, undef], defers := [] }) ?assign ?body ?done ?stop
  case assign =>
    intro l y W K hK
    obtain ⟨t, a, hx⟩ := HXO.out y.1 y.2
    simp only [hx] at hK ⊢
    gi_wp2
    exact hK
  case body =>
    intro l pre y W hI _
    have HI := Lib.hid hI
    have hyb : y.1 ≤ b.toNat := by have := HQ.out; have := y.2; omega
    obtain ⟨f, ⟨TX, hX, hm, hen⟩, PCk⟩ := lvcheck W.drew (X y.1) _ _ _ b r d m s (y.1 : Int) (Z y.1) ((hI.st.lev y.1 hyb).kept (below_drewN (Below.refl _ _) 1)) HRT.out s0 s1 (k / 2 ^ y.1) (shr_small hk64 _) x hx
    rw [show ((k / 2 ^ y.1 : Nat) : Int) = (k : Int) / 2 ^ y.1 by rw [Int.natCast_ediv, Int.natCast_pow]; rfl] at PCk
    have PCk := Lib.hid PCk
    have HI1 : Hid (ChkI w W.drew base S L b r d m s X A G C Z w.heap.size w2.heap.size w4.heap.size x (foldE b r d m s Z k x (vals pre))) := Lib.hid (hI.kept (below_drewN (Below.refl _ _) 1))
    have HF := Lib.hid (foldE_snoc b r d m s Z k x (vals pre) y.1)
    have HEND : Hid (∀ w5 o, Below W.drew.heap.size W.drew w5 → ∀ u, u = foldE b r d m s Z k x (vals (pre ++ [y])) → KeepsOthers W ((w5.alloc o).setCell ⟨w2.heap.size, 0, none⟩ (.int .i64 u)) ∧ KpB [w3.heap.size, w3.heap.size + 1, S, L] W ((w5.alloc o).setCell ⟨w2.heap.size, 0, none⟩ (.int .i64 u)) ∧ ChkI w ((w5.alloc o).setCell ⟨w2.heap.size, 0, none⟩ (.int .i64 u)) base S L b r d m s X A G C Z w.heap.size w2.heap.size w4.heap.size x (foldE b r d m s Z k x (vals (pre ++ [y])))) := Lib.hid (fun w5 o hb u hu => by
      rw [← hu]
      refine hI.round (btr (below_drewN (Below.refl _ _) 1) hb) o HSZ.out u _ (fun i hi => ?_)
      have h1 := HTOP.out; have h2 := HNE.out; have h3 := hI.top
      simp at hi
      omega)
    have HUE : Hid (firstI (foldE b r d m s Z k x (vals pre)) (lvErr b r d m s (y.1 : Int) (Z y.1) (k / 2 ^ y.1) x) = foldE b r d m s Z k x (vals (pre ++ [y]))) := Lib.hid (by rw [vals_snoc, HF.out])
    simp only [hX]
    clear hI hX
    gi_wp2_with fail
    refine wpIn_round_any (by kernel_rfl) (by kernel_rfl) (by rintro ⟨_, _, h⟩; exact h) ?_; generalize W.drew = Wd at *; have q0 := HI1.out.bad.cell 0; have q1 := HI1.out.num.cell 0; simp at q0 q1
    refine wpAny_take (i := 1) (v := ?_) rfl (by kernel_rfl) (by kernel_rfl) (by kernel_rfl) (fun _ _ _ h => h) (Or.inl ⟨by rfl, ?_⟩) ?_
    rotate_left
    · intro w
      go_simp
      try with_reducible rfl
    simp only [Act.put, List.setIfInBounds_toArray, List.set_cons_zero, List.set_cons_succ, List.getElem_toArray, List.getElem_cons_zero, List.getElem_cons_succ]
    refine wpAny_take (i := 2) (v := ?_) rfl (by kernel_rfl) (by kernel_rfl) (by kernel_rfl) (fun _ _ _ h => h) (Or.inl ⟨by rfl, ?_⟩) ?_
    rotate_left
    · intro w
      go_simp
      try with_reducible rfl
    simp only [Act.put, List.setIfInBounds_toArray, List.set_cons_zero, List.set_cons_succ, List.getElem_toArray, List.getElem_cons_zero, List.getElem_cons_succ]
    refine wpAny_ready (rs := [0, 3]) (by kernel_rfl) (by simp) ?_
    refine AllReady.cons rfl (fun Kc hKc => ?_) (AllReady.cons rfl (fun Kc hKc => ?_) AllReady.nil)
    · have HKc := Lib.hid hKc
      clear hKc
      go_simp
      refine HKc.out _ _ ?_
      clear HKc Kc
      refine wpAny_ready (rs := [3]) (by kernel_rfl) (by simp) ?_
      refine AllReady.cons rfl (fun Kc hKc => ?_) AllReady.nil
      have HKc := Lib.hid hKc
      clear hKc
      go_simp
      refine HKc.out _ _ ?_
      clear HKc Kc
      refine wpAny_ready (rs := [4]) (by kernel_rfl) (by simp) ?_
      refine AllReady.cons rfl (fun Kc hKc => ?_) AllReady.nil
      have HKc := Lib.hid hKc
      clear hKc
      go_simp
      go_wp2_with (first | (with_reducible refine PCk.out.mono ?_; rintro e w5 ⟨rfl, hb⟩; have HI5 := Lib.hid (HI1.out.kept hb); have HP := Lib.hid (HEND.out w5 (.cells #[.int .i64 (foldE b r d m s Z k x (vals pre)), .int .i64 (lvErr b r d m s (y.1 : Int) (Z y.1) (k / 2 ^ y.1) x)] 33) hb _ HUE.out); have q0 := HI5.out.bad.cell 0; simp at q0; clear hb) | (go_at_call 36; refine (first_any w5.heap.size _ _ _ (Blk.new w5 _ _)).mono ?_; rintro e w6 ⟨rfl, hw6⟩; subst hw6; have HI6 := Lib.hid (HI5.out.kept (below_alloc1 w5 (.cells #[.int .i64 (foldE b r d m s Z k x (vals pre)), .int .i64 (lvErr b r d m s (y.1 : Int) (Z y.1) (k / 2 ^ y.1) x)] 33))); have f0 := HI6.out.bad.frozen 0; have q0 := HI6.out.bad.cell 0; simp at q0 f0))
      refine HKc.out _ _ ?_
      clear HKc Kc
      refine wpAny_ready (rs := [5]) (by kernel_rfl) (by simp) ?_
      refine AllReady.cons rfl (fun Kc hKc => ?_) AllReady.nil
      have HKc := Lib.hid hKc
      clear hKc
      go_simp
      refine HKc.out _ _ ?_
      clear HKc Kc
      refine wpAny_ready (rs := [6]) (by kernel_rfl) (by simp) ?_
      refine AllReady.cons rfl (fun Kc hKc => ?_) AllReady.nil
      have HKc := Lib.hid hKc
      clear hKc
      go_simp
      go_wp2_with (first | (with_reducible refine PCk.out.mono ?_; rintro e w5 ⟨rfl, hb⟩; have HI5 := Lib.hid (HI1.out.kept hb); have HP := Lib.hid (HEND.out w5 (.cells #[.int .i64 (foldE b r d m s Z k x (vals pre)), .int .i64 (lvErr b r d m s (y.1 : Int) (Z y.1) (k / 2 ^ y.1) x)] 33) hb _ HUE.out); have q0 := HI5.out.bad.cell 0; simp at q0; clear hb) | (go_at_call 36; refine (first_any w5.heap.size _ _ _ (Blk.new w5 _ _)).mono ?_; rintro e w6 ⟨rfl, hw6⟩; subst hw6; have HI6 := Lib.hid (HI5.out.kept (below_alloc1 w5 (.cells #[.int .i64 (foldE b r d m s Z k x (vals pre)), .int .i64 (lvErr b r d m s (y.1 : Int) (Z y.1) (k / 2 ^ y.1) x)] 33))); have f0 := HI6.out.bad.frozen 0; have q0 := HI6.out.bad.cell 0; simp at q0 f0))
      refine HKc.out _ _ ?_
      clear HKc Kc
      refine wpAny_ready (rs := [7]) (by kernel_rfl) (by simp) ?_
      refine AllReady.cons rfl (fun Kc hKc => ?_) AllReady.nil
      have HKc := Lib.hid hKc
      clear hKc
      go_simp
      refine HKc.out _ _ ?_
      clear HKc Kc
      refine wpAny_done (by kernel_rfl) ?_ _
      gi_wp2
      exact HP.out
    · have HKc := Lib.hid hKc
      clear hKc
      go_simp
      refine HKc.out _ _ ?_
      clear HKc Kc
      refine wpAny_ready (rs := [0, 4]) (by kernel_rfl) (by simp) ?_
      refine AllReady.cons rfl (fun Kc hKc => ?_) (AllReady.cons rfl (fun Kc hKc => ?_) AllReady.nil)
      · have HKc := Lib.hid hKc
        clear hKc
        go_simp
        refine HKc.out _ _ ?_
        clear HKc Kc
        refine wpAny_ready (rs := [4]) (by kernel_rfl) (by simp) ?_
        refine AllReady.cons rfl (fun Kc hKc => ?_) AllReady.nil
        have HKc := Lib.hid hKc
        clear hKc
        go_simp
        go_wp2_with (first | (with_reducible refine PCk.out.mono ?_; rintro e w5 ⟨rfl, hb⟩; have HI5 := Lib.hid (HI1.out.kept hb); have HP := Lib.hid (HEND.out w5 (.cells #[.int .i64 (foldE b r d m s Z k x (vals pre)), .int .i64 (lvErr b r d m s (y.1 : Int) (Z y.1) (k / 2 ^ y.1) x)] 33) hb _ HUE.out); have q0 := HI5.out.bad.cell 0; simp at q0; clear hb) | (go_at_call 36; refine (first_any w5.heap.size _ _ _ (Blk.new w5 _ _)).mono ?_; rintro e w6 ⟨rfl, hw6⟩; subst hw6; have HI6 := Lib.hid (HI5.out.kept (below_alloc1 w5 (.cells #[.int .i64 (foldE b r d m s Z k x (vals pre)), .int .i64 (lvErr b r d m s (y.1 : Int) (Z y.1) (k / 2 ^ y.1) x)] 33))); have f0 := HI6.out.bad.frozen 0; have q0 := HI6.out.bad.cell 0; simp at q0 f0))
        refine HKc.out _ _ ?_
        clear HKc Kc
        refine wpAny_ready (rs := [5]) (by kernel_rfl) (by simp) ?_
        refine AllReady.cons rfl (fun Kc hKc => ?_) AllReady.nil
        have HKc := Lib.hid hKc
        clear hKc
        go_simp
        refine HKc.out _ _ ?_
        clear HKc Kc
        refine wpAny_ready (rs := [6]) (by kernel_rfl) (by simp) ?_
        refine AllReady.cons rfl (fun Kc hKc => ?_) AllReady.nil
        have HKc := Lib.hid hKc
        clear hKc
        go_simp
        go_wp2_with (first | (with_reducible refine PCk.out.mono ?_; rintro e w5 ⟨rfl, hb⟩; have HI5 := Lib.hid (HI1.out.kept hb); have HP := Lib.hid (HEND.out w5 (.cells #[.int .i64 (foldE b r d m s Z k x (vals pre)), .int .i64 (lvErr b r d m s (y.1 : Int) (Z y.1) (k / 2 ^ y.1) x)] 33) hb _ HUE.out); have q0 := HI5.out.bad.cell 0; simp at q0; clear hb) | (go_at_call 36; refine (first_any w5.heap.size _ _ _ (Blk.new w5 _ _)).mono ?_; rintro e w6 ⟨rfl, hw6⟩; subst hw6; have HI6 := Lib.hid (HI5.out.kept (below_alloc1 w5 (.cells #[.int .i64 (foldE b r d m s Z k x (vals pre)), .int .i64 (lvErr b r d m s (y.1 : Int) (Z y.1) (k / 2 ^ y.1) x)] 33))); have f0 := HI6.out.bad.frozen 0; have q0 := HI6.out.bad.cell 0; simp at q0 f0))
        refine HKc.out _ _ ?_
        clear HKc Kc
        refine wpAny_ready (rs := [7]) (by kernel_rfl) (by simp) ?_
        refine AllReady.cons rfl (fun Kc hKc => ?_) AllReady.nil
        have HKc := Lib.hid hKc
        clear hKc
        go_simp
        refine HKc.out _ _ ?_
        clear HKc Kc
        refine wpAny_done (by kernel_rfl) ?_ _
        gi_wp2
        exact HP.out
      · have HKc := Lib.hid hKc
        clear hKc
        go_simp
        go_wp2_with (first | (with_reducible refine PCk.out.mono ?_; rintro e w5 ⟨rfl, hb⟩; have HI5 := Lib.hid (HI1.out.kept hb); have HP := Lib.hid (HEND.out w5 (.cells #[.int .i64 (foldE b r d m s Z k x (vals pre)), .int .i64 (lvErr b r d m s (y.1 : Int) (Z y.1) (k / 2 ^ y.1) x)] 33) hb _ HUE.out); have q0 := HI5.out.bad.cell 0; simp at q0; clear hb) | (go_at_call 36; refine (first_any w5.heap.size _ _ _ (Blk.new w5 _ _)).mono ?_; rintro e w6 ⟨rfl, hw6⟩; subst hw6; have HI6 := Lib.hid (HI5.out.kept (below_alloc1 w5 (.cells #[.int .i64 (foldE b r d m s Z k x (vals pre)), .int .i64 (lvErr b r d m s (y.1 : Int) (Z y.1) (k / 2 ^ y.1) x)] 33))); have f0 := HI6.out.bad.frozen 0; have q0 := HI6.out.bad.cell 0; simp at q0 f0))
        refine HKc.out _ _ ?_
        clear HKc Kc
        refine wpAny_ready (rs := [0]) (by kernel_rfl) (by simp) ?_
        refine AllReady.cons rfl (fun Kc hKc => ?_) AllReady.nil
        have HKc := Lib.hid hKc
        clear hKc
        go_simp
        refine HKc.out _ _ ?_
        clear HKc Kc
        refine wpAny_ready (rs := [5]) (by kernel_rfl) (by simp) ?_
        refine AllReady.cons rfl (fun Kc hKc => ?_) AllReady.nil
        have HKc := Lib.hid hKc
        clear hKc
        go_simp
        refine HKc.out _ _ ?_
        clear HKc Kc
        refine wpAny_ready (rs := [6]) (by kernel_rfl) (by simp) ?_
        refine AllReady.cons rfl (fun Kc hKc => ?_) AllReady.nil
        have HKc := Lib.hid hKc
        clear hKc
        go_simp
        go_wp2_with (first | (with_reducible refine PCk.out.mono ?_; rintro e w5 ⟨rfl, hb⟩; have HI5 := Lib.hid (HI1.out.kept hb); have HP := Lib.hid (HEND.out w5 (.cells #[.int .i64 (foldE b r d m s Z k x (vals pre)), .int .i64 (lvErr b r d m s (y.1 : Int) (Z y.1) (k / 2 ^ y.1) x)] 33) hb _ HUE.out); have q0 := HI5.out.bad.cell 0; simp at q0; clear hb) | (go_at_call 36; refine (first_any w5.heap.size _ _ _ (Blk.new w5 _ _)).mono ?_; rintro e w6 ⟨rfl, hw6⟩; subst hw6; have HI6 := Lib.hid (HI5.out.kept (below_alloc1 w5 (.cells #[.int .i64 (foldE b r d m s Z k x (vals pre)), .int .i64 (lvErr b r d m s (y.1 : Int) (Z y.1) (k / 2 ^ y.1) x)] 33))); have f0 := HI6.out.bad.frozen 0; have q0 := HI6.out.bad.cell 0; simp at q0 f0))
        refine HKc.out _ _ ?_
        clear HKc Kc
        refine wpAny_ready (rs := [7]) (by kernel_rfl) (by simp) ?_
        refine AllReady.cons rfl (fun Kc hKc => ?_) AllReady.nil
        have HKc := Lib.hid hKc
        clear hKc
        go_simp
        refine HKc.out _ _ ?_
        clear HKc Kc
        refine wpAny_done (by kernel_rfl) ?_ _
        gi_wp2
        exact HP.out
  case done =>
    intro D xs W hD hxs hI hK
    subst hxs
    rw [vals_all] at hI
    have hfe : foldE b r d m s Z k x (List.range (q + 1)) = stErr b r d m s Z k x := by
      have h1 := stErr_firsts (s := s) (Z := Z) (x := x) HRT.out HKK.out
      rw [HQ.out] at h1
      exact h1
    rw [hfe] at hI
    have HI := Lib.hid hI
    have HK := Lib.hid hK
    have hDs : w.heap.size ≤ D := by have := HI0.out.bel.size; omega
    have HDS := Lib.hid hDs
    have q0 := hI.bad.cell 0
    simp at q0
    clear hI hfe hK hDs
    by_cases h0 : stErr b r d m s Z k x = 0
    · have H0 := Lib.hid h0
      rw [h0] at q0
      clear h0
      gi_wp2_with fail
      refine ⟨trivial, ?_⟩
      with_reducible refine (callsIn_wide.2 (stat S (k : Int) W)).mono ?_
      rintro e w5 ⟨rfl, hw5⟩
      obtain ⟨ga, gb, gc, gd⟩ := news2 W (.cells #[.pointer (some ⟨S, 0, none⟩)] 29) (.cells #[.int .u64 (k : Int)] 22)
      rw [← hw5] at ga gb gc gd
      have HGA5 : Hid (Blk w5 W.heap.size 29 #[.pointer (some ⟨S, 0, none⟩)]) := Lib.hid ga
      have HGB5 : Hid (Blk w5 (W.heap.size + 1) 22 #[.int .u64 (k : Int)]) := Lib.hid gb
      have HT5 : Hid (W.heap.size + 2 = w5.heap.size ∧ w4.heap.size ≤ W.heap.size ∧ D < W.heap.size ∧ w.heap.size ≤ W.heap.size) := Lib.hid ⟨gd.symm, HI.out.top, (Array.getElem?_eq_some_iff.1 HK.out).1, HI.out.bel.size⟩
      have HJ0 : Hid (UpdI w w5 base S L b r d m s X A G C Z w.heap.size w5.heap.size D x k []) := Lib.hid ⟨Nat.le_refl _, (HI.out.st.kept gc).setC (fun n _ => rfl), HI.out.num.kept gc, RGr.of_below (btr HI.out.bel gc), (gc.block D HT5.out.2.2.1).trans HK.out⟩
      clear hw5 ga gb gc gd q0
      gi_wp2_with fail
      obtain ⟨capS2, hbx2, -⟩ := HJ0.out.st.box
      obtain ⟨cur2, hrow2, hcur2⟩ := HJ0.out.st.row
      rw [HQ.out] at hbx2 hcur2
      have HLT5 : Hid (S < w5.heap.size ∧ L < w5.heap.size ∧ w.heap.size < w5.heap.size) := Lib.hid ⟨hbx2.lt, hrow2.lt, HJ0.out.num.lt⟩
      refine wpIn_rangeFunc_ownF rfl (by omega) (gf := 46) (lb := #[.pointer (some ⟨W.heap.size, 0, none⟩), .pointer (some ⟨W.heap.size + 1, 0, none⟩)]) rfl trivial (enters_of Try.func46 (by kernel_rfl) rfl)
        (st_stops (6 - 1) (by omega) W.heap.size (W.heap.size + 1) S L q capS2 k cur2 X hq59 w5 HXO.out HGA5.out HGB5.out ⟨_, _, _, _, _, hbx2⟩ hrow2 hcur2) KpB.trans (KpB.put (by
          have h1 := HT5.out; have h2 := HLT5.out
          intro i hi
          simp at hi
          omega)) (Below.refl _ _) (fun _ => rfl)
        (fun (pre : List (LvN q)) W' => UpdI w W' base S L b r d m s X A G C Z w.heap.size w5.heap.size D x k (vals pre))
        (fun _ _ _ => False)
        (fun pre W1 W2 row hs hg hr => hs.walked (B := w5.heap.size) (by have := HT5.out; omega) (by have := HT5.out; omega) hg hr)
        (fun _ _ _ _ _ hs _ _ => hs)
        HJ0.out
        (fun (y : LvN q) => { tmps := #[.pointer (some ⟨S, 0, none⟩), .int .u64 (k : Int), .int .i64 x, undef, undef, .pointer (some ⟨w.heap.size, 0, none⟩), .int .i64 0, .pointer (some ⟨w2.heap.size, 0, none⟩), undef, undef, X y.1, .int .u64 ((k / 2 ^ y.1 : Nat) : Int),
          .int .u64 (k : Int), .pointer (some ⟨S, 0, none⟩), .pointer (some ⟨S, 0, none⟩), .pointer (some ⟨S, 0, none⟩), .agg #[.int .i64 b, .int .i64 r, .int .i64 d, .int .i64 m, .int .u64 s], .int .u64 (keysI b r d m 0), .bool false, .pointer (some ⟨S, 0, none⟩), .int .u64 (k : Int),
          .func (.func 46) #[] #[.pointer (some ⟨w3.heap.size, 0, none⟩), .pointer (some ⟨w3.heap.size + 1, 0, none⟩)], undef, undef, undef, undef, undef, undef, undef, undef, undef, .int .i64 0, .bool false, undef, .pointer (some ⟨S, 0, none⟩), .int .u64 (k : Int),
          .func (.func 46) #[] #[.pointer (some ⟨W.heap.size, 0, none⟩), .pointer (some ⟨W.heap.size + 1, 0, none⟩)], X y.1, .int .u64 ((k / 2 ^ y.1 : Nat) : Int), undef, undef, undef, undef], defers := [] }) ?assign2 ?body2 ?done2 ?stop2
      case assign2 =>
        intro l y W K hK
        obtain ⟨t, a, hx⟩ := HXO.out y.1 y.2
        simp only [hx] at hK ⊢
        gi_wp2
        exact hK
      case body2 =>
        intro l pre y W1 hI1 _
        have hyb : y.1 ≤ b.toNat := by have := HQ.out; have := y.2; omega
        have HI1 := Lib.hid hI1
        obtain ⟨f, ⟨TX, hX, hm, hen⟩, PUp⟩ := lvupdate W1 (X y.1) _ _ _ b r d m s (y.1 : Int) _ (hI1.st.lev y.1 hyb) HRT.out s0 s1 (k / 2 ^ y.1) (shr_small hk64 _) x hx
        obtain ⟨curC, hC⟩ := (hI1.st.lev y.1 hyb).cells
        obtain ⟨capS3, hb3, -⟩ := hI1.st.box
        obtain ⟨cur3, hr3, -⟩ := hI1.st.row
        have HNE3 : Hid (∀ i ∈ [W.heap.size, W.heap.size + 1, S, L], i < W1.heap.size ∧ i ≠ C y.1) := Lib.hid (by
          have h1 := HT5.out; have h2 := HLT5.out; have h3 := hI1.top
          have n1 := hb3.ne_ hC (by decide)
          have n2 := hr3.ne_ hC (by decide)
          have n3 : C y.1 < W.heap.size := by
            obtain ⟨c2, h5⟩ := (HI.out.st.lev y.1 hyb).cells
            exact h5.lt
          intro i hi
          simp at hi
          omega)
        have HBN : Hid (w.heap.size ≠ C y.1) := Lib.hid (by have := HCL.out y.1 hyb; omega)
        have PUp2 : Calls Try.prog f #[.pointer (some ⟨A y.1, 0, none⟩), .int .u64 ((k : Int) / 2 ^ y.1), .int .i64 x] W1 fun e W2 => (∃ v, e = .returned v) ∧ KeepsOthers W1 W2 ∧ KpB [W.heap.size, W.heap.size + 1, S, L] W1 W2 ∧ UpdI w W2 base S L b r d m s X A G C Z w.heap.size w5.heap.size D x k (vals (pre ++ [y])) := by
          rw [show ((k / 2 ^ y.1 : Nat) : Int) = (k : Int) / 2 ^ y.1 by rw [Int.natCast_ediv, Int.natCast_pow]; rfl] at PUp
          refine PUp.mono (fun e W2 hp => ?_)
          have hp2 := hp
          obtain ⟨he, -, hg⟩ := hp2
          refine ⟨⟨_, he⟩, kept_others hg (fun g e => ⟨_, _, by cases e; exact hC⟩), KpB.of_grown hg (fun i hi => ⟨(HNE3.out i hi).1, by simpa using (HNE3.out i hi).2⟩), ?_⟩
          rw [vals_snoc]
          exact HI1.out.next (by have := HLT5.out; omega) hyb HBN.out hp
        have PUp2 := Lib.hid PUp2
        have q1 := hI1.num.cell 0
        simp at q1
        simp only [hX]
        clear hI1 hX PUp hC hb3 hr3
        gi_wp2_with fail
        refine ⟨trivial, ?_⟩
        with_reducible refine (CallsIn.inRound l (callsIn_wide.2 PUp2.out)).mono ?_
        rintro e W2 ⟨⟨v, rfl⟩, hp⟩
        have HP := Lib.hid hp
        clear hp q1
        gi_wp2
        exact HP.out
      case done2 =>
        intro D2 xs W2 hD2 hxs hI2 hK2
        subst hxs
        rw [vals_all] at hI2
        have hne : D ≠ D2 := by have := HT5.out; omega
        have g1 := grownBy_putObj' W2 D2 (.deferred none)
        have hK1 : (W2.putObj D2 (.deferred none)).heap[D]? = some (.deferred (some [])) := (World.putObj_heap_other hne).trans hI2.mark
        have g2 := grownBy_putObj' (W2.putObj D2 (.deferred none)) D (.deferred none)
        have HP : Hid (StUpPost w base S L b r d m s X A G C Z k x (.returned (.int .i64 0)) ((W2.putObj D2 (.deferred none)).putObj D (.deferred none))) := Lib.hid (by
          refine ⟨by rw [H0.out], ?_, ?_⟩
          · refine ((hI2.st.walked g1 (fun r e => by cases e; exact ⟨_, hK2, rfl⟩)).walked g2 (fun r e => by cases e; exact ⟨_, hK1, rfl⟩)).setC (fun n hn => ?_)
            have hc : (List.range (q + 1)).count n = 1 := by
              rw [HQ.out] at hn
              rw [count_upto, if_pos (by omega)]
            unfold stUpd
            rw [if_pos H0.out, hc]
            rfl
          · exact (hI2.gr.grown g1 (fun r e => .inl (by cases e; have := HT5.out; omega))).grown g2 (fun r e => .inl (by cases e; exact HDS.out)))
        have HK1 := Lib.hid hK1
        have HK2 := Lib.hid hK2
        clear hI2 g1 g2 hK1 hK2
        gi_wp2
        refine ⟨by simp, .inl ⟨_, _, rfl, run_takeDeferred HK2.out, by simp, .inl ⟨_, _, rfl, run_takeDeferred HK1.out, ?_⟩⟩⟩
        refine ⟨.int .i64 0, ?_, HP.out⟩
        simp [results, Try.results18, go_sem]
      case stop2 =>
        intro D c pre W _ _ h _
        exact h.elim
    · have n1 : (stErr b r d m s Z k x != 0) = true := by simp [h0]
      have HU : Hid (∀ n, stUpd b r d m s Z k x n = Z n) := Lib.hid (fun n => by unfold stUpd; rw [if_neg h0])
      have HP : Hid (StUpPost w base S L b r d m s X A G C Z k x (.returned (.int .i64 (stErr b r d m s Z k x))) (W.putObj D (.deferred none))) := Lib.hid
        ⟨rfl, (HI.out.st.walked (grownBy_putObj' W D _) (fun r e => by cases e; exact ⟨_, HK.out, rfl⟩)).setC (fun n _ => (HU.out n).symm), (RGr.of_below HI.out.bel).grown (grownBy_putObj' W D _) (fun r e => .inl (by cases e; exact HDS.out))⟩
      generalize stErr b r d m s Z k x = e0 at *
      clear h0
      gi_wp2
      refine ⟨by simp, .inl ⟨_, _, rfl, run_takeDeferred HK.out, ?_⟩⟩
      refine ⟨.int .i64 e0, ?_, HP.out⟩
      simp [results, Try.results18, go_sem]
  case stop =>
    intro D c pre W _ _ h _
    exact h.elim
theorem stupdate (w : World) (base S L : Nat) (b r d m s : Int) (X : Nat → Value) (A G C : Nat → Nat) (Z : Nat → List Int) (h : StIs w base S L b r d m s X A G C Z) (s0 : 0 ≤ s) (s1 : s ≤ 18446744073709551615) (k : Nat) (hk64 : k < 18446744073709551616) (x : Int) (hx : In64 x) :
    Calls Try.prog 18 #[.pointer (some ⟨S, 0, none⟩), .int .u64 (k : Int), .int .i64 x] w (StUpPost w base S L b r d m s X A G C Z k x) := by
  by_cases hk : keysI b r d m 0 ≤ (k : Int)
  · exact stupdate_key w base S L b r d m s X A G C Z h k x hk
  · exact stupdate_in w base S L b r d m s X A G C Z h s0 s1 k hk64 x hx (by omega)
end Go.Proofs.Ythbkljeibmkimaa

/-
  What a stack tells of its pieces; what must be in any case (layer 18). Conditions: none beyond those stated at each theorem.
-/
namespace Go.Proofs.Ythbkljeibmkimaa
open Go.RowKit Go.Maps
set_option linter.unusedVariables false
set_option linter.unusedSimpArgs false

theorem In64.zero : In64 0 := by unfold In64; omega
theorem kthL_mem (l : List Int) (k : Nat) : kthL l k ∈ l ∨ kthL l k = 0 := by
  unfold kthL
  split
  · rename_i h
    exact .inl h.choose_spec.1
  · exact .inr rfl
/-- what a stack tells of a piece that is there; of another one nought -/
noncomputable def ptOf (b : Nat) (r d m s : Int) (Z : Nat → List Int) (n i : Nat) : Int := if n ≤ b ∧ i < 2 ^ (b - n) then lvPt (b : Int) r d m s (n : Int) (Z n) i else 0
theorem ptOf_in {b : Nat} {r d m s : Int} {Z : Nat → List Int} {n i : Nat} (hn : n ≤ b) (hi : i < 2 ^ (b - n)) : ptOf b r d m s Z n i = lvPt (b : Int) r d m s (n : Int) (Z n) i := by unfold ptOf; rw [if_pos ⟨hn, hi⟩]
theorem lvPt_mem (b r d m s l : Int) (zs : List Int) (k : Nat) : (∃ i, lvPt b r d m s l zs k = cellD zs i) ∨ lvPt b r d m s l zs k = 0 := by
  unfold lvPt
  split
  · exact .inl ⟨k, rfl⟩
  · rcases kthL_mem (readZ d.toNat zs (colsZ d s l (k : Int) r.toNat)) (if m = 3 then (r.toNat - 1) / 2 else 0) with h | h
    · unfold readZ at h
      rw [List.mem_map] at h
      obtain ⟨q, -, e⟩ := h
      exact .inl ⟨_, e.symm⟩
    · exact .inr h
theorem ptOf64 {w : World} {base S L b : Nat} {r d m s : Int} {X : Nat → Value} {A G C : Nat → Nat} {Z : Nat → List Int} (h : StIs w base S L (b : Int) r d m s X A G C Z) (n i : Nat) : In64 (ptOf b r d m s Z n i) := by
  unfold ptOf
  split
  · rename_i hh
    rcases lvPt_mem (b : Int) r d m s (n : Int) (Z n) i with ⟨j, e⟩ | e
    · rw [e]; exact cell_fit (h.lev n (by simpa using hh.1)).fit j
    · rw [e]; exact In64.zero
  · exact In64.zero
theorem StIs.bounds {w : World} {base S L b : Nat} {r d m s : Int} {X : Nat → Value} {A G C : Nat → Nat} {Z : Nat → List Int} (h : StIs w base S L (b : Int) r d m s X A G C Z) : 1 ≤ b ∧ b ≤ 59 := by
  have := right_of h.right
  omega
theorem keysI_nat {b n : Nat} {r d m : Int} (hr : rightB (b : Int) r d m = true) (hn : n ≤ b) : keysI (b : Int) r d m (n : Int) = ((2 ^ (b - n) : Nat) : Int) := by
  rw [keysI_yes hr (by omega) (by omega), show ((b : Int) - (n : Int)).toNat = b - n by omega]
  simp
theorem ptis_of {w : World} {base S L b : Nat} {r d m s : Int} {X : Nat → Value} {A G C : Nat → Nat} {Z : Nat → List Int} (h : StIs w base S L (b : Int) r d m s X A G C Z) (s0 : 0 ≤ s) (s1 : s ≤ 18446744073709551615) : PtIs w S b r d m s (ptOf b r d m s Z) := by
  refine ⟨fun wq hq => stconfig wq base S L _ r d m s X A G C Z (h.kept hq), fun wq hq n i hn hi => ?_⟩
  have h2 := two_lt (n := b - n) (by have := h.bounds; omega)
  have e : ((2 ^ (b - n) : Nat) : Int) = (2 : Int) ^ (b - n) := by simp
  rw [ptOf_in hn hi]
  exact stpoint wq base S L _ r d m s X A G C Z (h.kept hq) s0 s1 n (by simpa using hn) i (by omega) (by rw [keysI_nat h.right hn]; omega)
theorem below_rgr {w w1 w2 : World} {B q : Nat} {C : Nat → Nat} (h : Below B w w1) (hB : B ≤ w1.heap.size) (k : RGr w1 w2 C q) (hC : ∀ n, n < q → B ≤ C n) : Below B w w2 :=
  ⟨k.os.trans h.os, k.tape.trans h.tape, k.output.trans h.output, Nat.le_trans h.size k.size, fun j hj => (k.block j (by omega) (fun r hr e => by have := hC r hr; omega)).trans (h.block j hj)⟩
theorem stErr_zero {b r d m s : Int} {Z : Nat → List Int} {k : Nat} {x : Int} (h1 : ¬ keysI b r d m 0 ≤ (k : Int)) (h2 : ¬ (m = 2 ∧ x < 0)) (h3 : ∀ n : Nat, n ≤ b.toNat → lvErr b r d m s (n : Int) (Z n) (k / 2 ^ n) x = 0) : stErr b r d m s Z k x = 0 := by
  unfold stErr; rw [if_neg h1, if_neg h2, if_pos h3]
theorem lvErr_ex {b r d m s l : Int} {zs : List Int} {k : Nat} {x : Int} (h : exactB b r d m l = true) : lvErr b r d m s l zs k x = chkI (keysI b r d m l).toNat m zs k x := by unfold lvErr; rw [if_pos h]
theorem lvUpd_ex {b r d m s l : Int} {zs : List Int} {k : Nat} {x : Int} (h : exactB b r d m l = true) : lvUpd b r d m s l zs k x = updZ (keysI b r d m l).toNat m zs k x := by unfold lvUpd; rw [if_pos h]
theorem stUpd_ok {b r d m s : Int} {Z : Nat → List Int} {k : Nat} {x : Int} (h : stErr b r d m s Z k x = 0) (n : Nat) : stUpd b r d m s Z k x n = lvUpd b r d m s (n : Int) (Z n) (k / 2 ^ n) x := by unfold stUpd; rw [if_pos h]
noncomputable def shZ1 : Nat → List Int := stUpd 2 1 4 1 0 (zeroZ 2 1 4 1) 1 5
noncomputable def shZ2 : Nat → List Int := stUpd 2 1 4 1 0 shZ1 2 3
theorem sh_ex : exactB 2 1 4 1 0 = true ∧ exactB 2 1 4 1 1 = true ∧ exactB 2 1 4 1 2 = true := by decide
theorem sh_err1 : stErr 2 1 4 1 0 (zeroZ 2 1 4 1) 1 5 = 0 := stErr_zero (by decide) (by decide) (fun n hn => by
  obtain ⟨e0, e1, e2⟩ := sh_ex
  match n, hn with
  | 0, _ => exact (lvErr_ex e0).trans (by decide)
  | 1, _ => exact (lvErr_ex e1).trans (by decide)
  | 2, _ => exact (lvErr_ex e2).trans (by decide)
  | n + 3, h => simp at h)
theorem sh_z1 : shZ1 0 = [0, 5, 0, 0] ∧ shZ1 1 = [5, 0] ∧ shZ1 2 = [5] := by
  obtain ⟨e0, e1, e2⟩ := sh_ex
  unfold shZ1
  rw [stUpd_ok sh_err1, stUpd_ok sh_err1, stUpd_ok sh_err1]
  exact ⟨(lvUpd_ex e0).trans (by decide), (lvUpd_ex e1).trans (by decide), (lvUpd_ex e2).trans (by decide)⟩
theorem sh_err2 : stErr 2 1 4 1 0 shZ1 2 3 = 0 := stErr_zero (by decide) (by decide) (fun n hn => by
  obtain ⟨e0, e1, e2⟩ := sh_ex
  obtain ⟨z0, z1, z2⟩ := sh_z1
  match n, hn with
  | 0, _ => rw [z0]; exact (lvErr_ex e0).trans (by decide)
  | 1, _ => rw [z1]; exact (lvErr_ex e1).trans (by decide)
  | 2, _ => rw [z2]; exact (lvErr_ex e2).trans (by decide)
  | n + 3, h => simp at h)
theorem sh_z2 : shZ2 0 = [0, 5, 3, 0] ∧ shZ2 1 = [5, 3] ∧ shZ2 2 = [8] := by
  obtain ⟨e0, e1, e2⟩ := sh_ex
  obtain ⟨z0, z1, z2⟩ := sh_z1
  unfold shZ2
  rw [stUpd_ok sh_err2, stUpd_ok sh_err2, stUpd_ok sh_err2, z0, z1, z2]
  exact ⟨(lvUpd_ex e0).trans (by decide), (lvUpd_ex e1).trans (by decide), (lvUpd_ex e2).trans (by decide)⟩
noncomputable def shP : Nat → Nat → Int := ptOf 2 1 4 1 0 shZ2
theorem sh_pt : shP 2 0 = 8 ∧ shP 1 0 = 5 ∧ shP 1 1 = 3 ∧ shP 0 0 = 0 ∧ shP 0 1 = 5 ∧ shP 0 2 = 3 ∧ shP 0 3 = 0 := by
  obtain ⟨e0, e1, e2⟩ := sh_ex
  obtain ⟨z0, z1, z2⟩ := sh_z2
  have h : ∀ (n i : Nat) (v : Int) (zs : List Int), n ≤ 2 → i < 2 ^ (2 - n) → exactB 2 1 4 1 (n : Int) = true → shZ2 n = zs → cellD zs i = v → shP n i = v := fun n i v zs h1 h2 h3 h4 h5 => by
    unfold shP
    rw [ptOf_in h1 h2]
    unfold lvPt
    have h6 : exactB ((2 : Nat) : Int) 1 4 1 (n : Int) = true := h3
    rw [if_pos h6, h4, h5]
  exact ⟨h 2 0 _ _ (by decide) (by decide) e2 z2 (by decide), h 1 0 _ _ (by decide) (by decide) e1 z1 (by decide), h 1 1 _ _ (by decide) (by decide) e1 z1 (by decide), h 0 0 _ _ (by decide) (by decide) e0 z0 (by decide), h 0 1 _ _ (by decide) (by decide) e0 z0 (by decide), h 0 2 _ _ (by decide) (by decide) e0 z0 (by decide), h 0 3 _ _ (by decide) (by decide) e0 z0 (by decide)⟩
theorem sh_heavy : hvOut shP 4 2 3 = [(2, 0), (1, 0), (0, 1)] ∧ askedUp shP 4 2 3 = 5 ∧ hvOut shP 3 2 3 = [(2, 0), (1, 0), (1, 1), (0, 1), (0, 2)] ∧ askedUp shP 3 2 3 = 7 := by
  obtain ⟨p1, p2, p3, p4, p5, p6, p7⟩ := sh_pt
  refine ⟨?_, ?_, ?_, ?_⟩
  all_goals simp [hvOut, askedUp, rowAt, foundR, toldR, kids, p1, p2, p3, p4, p5, p6, p7]
theorem sh_hier : hiKept shP 3 2 = some [(0, 1, 5), (0, 2, 3)] := by
  obtain ⟨p1, p2, p3, p4, p5, p6, p7⟩ := sh_pt
  have hT : hiT shP 3 2 = [(0, 1), (0, 2), (1, 0), (1, 1), (2, 0)] := by
    unfold hiT
    rw [sh_heavy.2.2.1]
    decide
  unfold hiKept
  rw [hT]
  simp [keptAt, rest, wI, fits, p1, p2, p3, p4, p5, p6, p7]
theorem sh_errs : hvErr shP 4 7 2 = 0 ∧ hvErr shP 4 4 2 = 7 ∧ hvErr shP 0 7 2 = 1 ∧ hvErr shP 3 7 2 = 0 ∧ hiErr shP 3 7 2 = 0 := by
  obtain ⟨h1, h2, h3, h4⟩ := sh_heavy
  have e : hvErr shP 3 7 2 = 0 := by unfold hvErr; rw [h4]; decide
  refine ⟨by unfold hvErr; rw [h2]; decide, by unfold hvErr; rw [h2]; decide, by unfold hvErr; decide, e, ?_⟩
  unfold hiErr
  rw [if_pos e, sh_hier]
set_option maxRecDepth 100000 in
set_option maxHeartbeats 8000000 in
theorem shown18 (w : World) : Calls Try.prog 7 #[] w fun e w' => e = .returned (.bool true) ∧ Below w.heap.size w w' := by
  have PN := Lib.hid (fun w => stnew_yes 2 1 4 1 0 (by decide) w)
  have PU1 : Hid (∀ (w : World) (base S L : Nat) (X : Nat → Value) (A G C : Nat → Nat), StIs w base S L 2 1 4 1 0 X A G C (zeroZ 2 1 4 1) → Calls Try.prog 18 #[.pointer (some ⟨S, 0, none⟩), .int .u64 1, .int .i64 5] w fun e w' => e = .returned (.int .i64 0) ∧ StIs w' base S L 2 1 4 1 0 X A G C shZ1 ∧ RGr w w' C 3) := Lib.hid (fun w base S L X A G C h => (stupdate w base S L 2 1 4 1 0 X A G C _ h (by decide) (by decide) 1 (by decide) 5 (by unfold In64; omega)).mono (fun e w' hp => by
    obtain ⟨h1, h2, h3⟩ := hp
    rw [sh_err1] at h1
    exact ⟨h1, h2, h3⟩))
  have PU2 : Hid (∀ (w : World) (base S L : Nat) (X : Nat → Value) (A G C : Nat → Nat), StIs w base S L 2 1 4 1 0 X A G C shZ1 → Calls Try.prog 18 #[.pointer (some ⟨S, 0, none⟩), .int .u64 2, .int .i64 3] w fun e w' => e = .returned (.int .i64 0) ∧ StIs w' base S L 2 1 4 1 0 X A G C shZ2 ∧ RGr w w' C 3) := Lib.hid (fun w base S L X A G C h => (stupdate w base S L 2 1 4 1 0 X A G C _ h (by decide) (by decide) 2 (by decide) 3 (by unfold In64; omega)).mono (fun e w' hp => by
    obtain ⟨h1, h2, h3⟩ := hp
    rw [sh_err2] at h1
    exact ⟨h1, h2, h3⟩))
  have PV : Hid (∀ (w : World) (base S L : Nat) (X : Nat → Value) (A G C : Nat → Nat), StIs w base S L 2 1 4 1 0 X A G C shZ2 → ∀ least budget, In64 least → In64 budget → Calls Try.prog 9 #[.pointer (some ⟨S, 0, none⟩), .int .i64 least, .int .i64 budget] w (HvPost w shP least budget 2)) := Lib.hid (fun w base S L X A G C h least budget h1 h2 => hvheavy w S 2 1 4 1 0 shP (ptis_of (b := 2) h (by decide) (by decide)) (by decide) (by decide) least budget h1 h2)
  have PH : Hid (∀ (w : World) (base S L : Nat) (X : Nat → Value) (A G C : Nat → Nat), StIs w base S L 2 1 4 1 0 X A G C shZ2 → ∀ least budget, In64 least → In64 budget → Calls Try.prog 15 #[.pointer (some ⟨S, 0, none⟩), .int .i64 least, .int .i64 budget] w (HiPost w shP least budget 2)) := Lib.hid (fun w base S L X A G C h least budget h1 h2 => hvhier w S 2 1 4 1 0 shP (ptis_of (b := 2) h (by decide) (by decide)) (fun n i => ptOf64 (b := 2) h n i) (by decide) (by decide) least budget h1 h2)
  have i4 : In64 4 := by unfold In64; omega
  have i7 : In64 7 := by unfold In64; omega
  have i3 : In64 3 := by unfold In64; omega
  have I := Lib.hid (And.intro i4 (And.intro i7 i3))
  clear i4 i7 i3
  go_enter Try.func7, Try.ntmps7
  go_wp2_with fail
  with_reducible refine (PN.out _).mono ?_
  rintro e w1 ⟨S, L, X, A, G, C, rfl, hS, hst, hb⟩
  have HS := Lib.hid hst
  have HB := Lib.hid hb
  have HLO : Hid (∀ n, n < 3 → w.heap.size ≤ C n) := Lib.hid (fun n hn => hst.low n (by simp; omega))
  clear hst hb hS
  go_wp2_with fail
  with_reducible refine (PU1.out _ _ _ _ _ _ _ _ HS.out).mono ?_
  rintro e w2 ⟨rfl, hst, hr⟩
  have HS2 := Lib.hid hst
  have HB2 := Lib.hid (below_rgr HB.out HB.out.size hr HLO.out)
  clear hst hr HS HB
  go_wp2_with fail
  with_reducible refine (PU2.out _ _ _ _ _ _ _ _ HS2.out).mono ?_
  rintro e w3 ⟨rfl, hst, hr⟩
  have HS3 := Lib.hid hst
  have HB3 := Lib.hid (below_rgr HB2.out HB2.out.size hr HLO.out)
  clear hst hr HS2 HB2 HLO
  go_wp2_with fail
  with_reducible refine (PV.out _ _ _ _ _ _ _ _ HS3.out 4 7 I.out.1 I.out.2.1).mono ?_
  rintro e w4 ⟨v, rfl, hv, -, hb⟩
  have e1 := sh_errs.1
  have HV := Lib.hid (hv e1)
  have HS4 := Lib.hid (HS3.out.kept hb)
  have HB4 := Lib.hid (btr HB3.out hb)
  rw [e1]
  clear hv e1 hb
  go_wp2_with fail
  with_reducible refine (PV.out _ _ _ _ _ _ _ _ HS4.out 4 4 I.out.1 I.out.1).mono ?_
  rintro e w5 ⟨v2, rfl, -, -, hb⟩
  have e1 := sh_errs.2.1
  have HV5 := Lib.hid (HV.out.kept hb)
  have HS5 := Lib.hid (HS4.out.kept hb)
  have HB5 := Lib.hid (btr HB4.out hb)
  rw [e1]
  clear e1 hb
  go_wp2_with fail
  with_reducible refine (PV.out _ _ _ _ _ _ _ _ HS5.out 0 7 In64.zero I.out.2.1).mono ?_
  rintro e w6 ⟨v3, rfl, -, -, hb⟩
  have e1 := sh_errs.2.2.1
  have HV6 := Lib.hid (HV5.out.kept hb)
  have HS6 := Lib.hid (HS5.out.kept hb)
  have HB6 := Lib.hid (btr HB5.out hb)
  rw [e1]
  clear e1 hb
  go_wp2_with fail
  with_reducible refine (PH.out _ _ _ _ _ _ _ _ HS6.out 3 7 I.out.2.2 I.out.2.1).mono ?_
  rintro e w7 ⟨v4, rfl, hv, -, hb⟩
  obtain ⟨o, ho, hown⟩ := hv sh_errs.2.2.2.2
  rw [sh_hier] at ho
  cases ho
  have e1 := sh_errs.2.2.2.2
  have HV7 := HV6.out.kept hb
  have HB7 := Lib.hid (btr HB6.out hb)
  rw [e1]
  rw [sh_heavy.1] at HV7
  obtain ⟨p1, p2, p3, p4, p5, p6, p7⟩ := sh_pt
  obtain ⟨g, cap, hv1, -, -, -, -, hr0⟩ := HV7.range (t := 0) rfl
  obtain ⟨g', cap', hv1', -, -, -, -, hr2⟩ := HV7.range (t := 2) rfl
  rw [hv1] at hv1'
  simp only [Value.slice.injEq, Option.some.injEq, Addr.mk.injEq] at hv1'
  obtain ⟨⟨rfl, -⟩, -, rfl⟩ := hv1'
  obtain ⟨gh, caph, hv2, -, -, -, -, hr1⟩ := hown.range (t := 1) rfl
  subst hv1 hv2
  simp only [p1, p5, p6] at hr0 hr2 hr1
  clear e1 hb hv hown HV7
  have a0 := hr0 0 _ rfl
  have a1 := hr0 1 _ rfl
  have a2 := hr0 2 _ rfl
  have b0 := hr2 0 _ rfl
  have b1 := hr2 1 _ rfl
  have b2 := hr2 2 _ rfl
  have c0 := hr1 0 _ rfl
  have c1 := hr1 1 _ rfl
  have c2 := hr1 2 _ rfl
  have c3 := hr1 3 _ rfl
  simp at a0 a1 a2 b0 b1 b2 c0 c1 c2 c3
  clear hr0 hr1 hr2
  go_wp2
  go_ret
  exact ⟨rfl, HB7.out⟩
end Go.Proofs.Ythbkljeibmkimaa

/-
  Plain: a config and updates as an argument. Conditions: none beyond those stated at each theorem.
-/
namespace Go.Proofs.Ythbkljeibmkimaa
open Go.RowKit
set_option linter.unusedVariables false
set_option linter.unusedSimpArgs false

/-- the slice l holds n updates: keys ks, numbers ds -/
def UpdsAt (w : World) (l : Value) (n : Nat) (ks : Nat → Nat) (ds : Nat → Int) : Prop :=
  ∃ (ao : Option Addr) (cap : Nat), l = .slice ao n cap ∧ n ≤ maxLen ∧ (∀ i, i < n → In64 (ds i) ∧ ks i < 18446744073709551616) ∧
    (0 < n → ∃ b off, ao = some ⟨b, off, none⟩ ∧ b < w.heap.size ∧ ∀ i, i < n → w.cell? ⟨b, off + i * 2, none⟩ = some (.int .u64 (ks i : Int)) ∧ w.cell? ⟨b, off + i * 2 + 1, none⟩ = some (.int .i64 (ds i)))
theorem UpdsAt.kept {w w' : World} {l : Value} {n : Nat} {ks : Nat → Nat} {ds : Nat → Int} (h : UpdsAt w l n ks ds) (hb : Below w.heap.size w w') : UpdsAt w' l n ks ds := by
  obtain ⟨ao, cap, e, hm, hu, h⟩ := h
  refine ⟨ao, cap, e, hm, hu, fun h0 => ?_⟩
  obtain ⟨b, off, e2, hlt, hc⟩ := h h0
  refine ⟨b, off, e2, Nat.lt_of_lt_of_le hlt hb.size, fun i hi => ?_⟩
  obtain ⟨c1, c2⟩ := hc i hi
  exact ⟨(hb.cell (p := ⟨b, off + i * 2, none⟩) hlt).trans c1, (hb.cell (p := ⟨b, off + i * 2 + 1, none⟩) hlt).trans c2⟩
def shUpd : Sh := .agg (.cons (.int .u64) (.cons (.int .i64) .unit))
theorem upds_of_val {w : World} {v : Value} (h : (Sh.slice shUpd).Val w v) : ∃ n ks ds, UpdsAt w v n ks ds := by
  obtain ⟨ao, len, cap, h1, hl, hm, hx⟩ := h
  have h1 : v = .slice ao len cap := by simpa using h1
  subst h1
  by_cases h0 : 0 < len
  · obtain ⟨b, off, rfl, hb, hc⟩ := hx h0
    have key : ∀ i, i < len → ∃ (k : Nat) (z : Int), (In64 z ∧ k < 18446744073709551616) ∧ w.cell? ⟨b, off + i * 2, none⟩ = some (.int .u64 (k : Int)) ∧ w.cell? ⟨b, off + i * 2 + 1, none⟩ = some (.int .i64 z) := by
      intro i hi
      obtain ⟨c0, hcl, hcell, hr⟩ := hc i hi
      obtain ⟨k, d1, rfl, hk, hr⟩ := Sh.reads_int hr
      obtain ⟨z, d3, rfl, hz, hr⟩ := Sh.reads_int hr
      have e : shUpd.size = 2 := rfl
      have a0 := hcell 0 (by decide)
      have a1 := hcell 1 (by decide)
      rw [e] at a0 a1
      simp [Lit.wf, IntKind.min, IntKind.max, IntKind.signed, IntKind.bits] at hz hk
      refine ⟨k.toNat, z, ⟨⟨by omega, by omega⟩, by omega⟩, ?_, by simpa [Nat.add_assoc] using a1⟩
      rw [Int.toNat_of_nonneg (by omega)]
      simpa using a0
    refine ⟨len, fun i => if h : i < len then (key i h).choose else 0, fun i => if h : i < len then (key i h).choose_spec.choose else 0, some ⟨b, off, none⟩, cap, rfl, by omega, fun i hi => ?_, fun _ => ⟨b, off, rfl, hb, fun i hi => ?_⟩⟩
    · simp only [dif_pos hi]; exact (key i hi).choose_spec.choose_spec.1
    · simp only [dif_pos hi]; exact (key i hi).choose_spec.choose_spec.2
  · obtain rfl : len = 0 := by omega
    exact ⟨0, fun _ => 0, fun _ => 0, ao, cap, rfl, by omega, fun i hi => by omega, fun h => by omega⟩
/-- a config, and updates -/
def shPlay : Sh := .agg (.cons shCfg (.cons (.slice shUpd) .unit))
theorem valPlay {w : World} {v : Value} (h : shPlay.Val w v) : ∃ b r d m s l n ks ds, v = .agg #[.int .i64 b, .int .i64 r, .int .i64 d, .int .i64 m, .int .u64 s, l] ∧ UpdsAt w l n ks ds ∧ In64 b ∧ In64 r ∧ In64 d ∧ In64 m ∧ 0 ≤ s ∧ s ≤ 18446744073709551615 := by
  obtain ⟨cs, rfl, h⟩ := h
  obtain ⟨c, q, e, hc, h⟩ := Sh.reads_agg h
  obtain ⟨b, q1, rfl, hb, h2⟩ := Sh.reads_int hc
  obtain ⟨r, q2, rfl, hr, h3⟩ := Sh.reads_int h2
  obtain ⟨d, q3, rfl, hd, h4⟩ := Sh.reads_int h3
  obtain ⟨m, q4, rfl, hm, h5⟩ := Sh.reads_int h4
  obtain ⟨s, q5, rfl, hs, h6⟩ := Sh.reads_int h5
  obtain rfl := Sh.reads_unit h6
  obtain ⟨l, q7, rfl, hl, h⟩ := Sh.reads_slice h
  obtain rfl := Sh.reads_unit h
  obtain ⟨n, ks, ds, hs2⟩ := upds_of_val hl
  simp [Lit.wf, IntKind.min, IntKind.max, IntKind.signed, IntKind.bits] at hb hr hd hm hs
  exact ⟨b, r, d, m, s, l, n, ks, ds, by rw [agg_of_list e]; rfl, hs2, ⟨by omega, by omega⟩, ⟨by omega, by omega⟩, ⟨by omega, by omega⟩, ⟨by omega, by omega⟩, by omega, by omega⟩
end Go.Proofs.Ythbkljeibmkimaa

/-
  Plain: updates that are small never are refused. Conditions: none beyond those stated at each theorem.
-/
namespace Go.Proofs.Ythbkljeibmkimaa
open Go.RowKit
set_option linter.unusedVariables false
set_option linter.unusedSimpArgs false

theorem any_right9 (b r d m p : Int) (p0 : 1 ≤ p) (p1 : p ≤ 59) : rightB (anyI b p) (anyI r 4) (anyI d 9) (anyI m 3) = true := by
  have h1 := anyI_bd b p p0
  have h2 := anyI_bd r 4 (by decide)
  have h3 := anyI_bd d 9 (by decide)
  have h4 := anyI_bd m 3 (by decide)
  exact right_mk (by omega)
def Bdd (B : Int) (zs : List Int) : Prop := ∀ i, -B ≤ cellD zs i ∧ cellD zs i ≤ B
theorem cellD_set_or (zs : List Int) (k i : Nat) (v : Int) : cellD (zs.set k v) i = cellD zs i ∨ cellD (zs.set k v) i = v := by
  unfold cellD
  rw [List.getElem?_set]
  split
  · split
    · exact .inr rfl
    · rename_i h1 h2
      left
      rw [List.getElem?_eq_none (by omega)]
  · exact .inl rfl
theorem setsZ_or (W : Nat) (zs : List Int) (cf : Nat → Nat) (vf : Nat → Int) : ∀ (k i : Nat), cellD (setsZ W zs cf vf k) i = cellD zs i ∨ ∃ r, r < k ∧ cellD (setsZ W zs cf vf k) i = vf r
  | 0, i => .inl rfl
  | k + 1, i => by
    unfold setsZ
    rcases cellD_set_or (setsZ W zs cf vf k) (k * W + cf k) i (vf k) with h | h
    · rw [h]
      rcases setsZ_or W zs cf vf k i with h2 | ⟨r, h2, h3⟩
      · exact .inl h2
      · exact .inr ⟨r, by omega, h3⟩
    · exact .inr ⟨k, by omega, h⟩
theorem lv_bd {b r d m s l B E : Int} {zs : List Int} {k : Nat} {x : Int} (hk : (k : Int) < keysI b r d m l) (hm : ¬ (m = 2 ∧ x < 0)) (hB : Bdd B zs) (h0 : 0 ≤ B) (hE : -E ≤ x ∧ x ≤ E) (hBE : B + E ≤ 4611686018427387904) : lvErr b r d m s l zs k x = 0 ∧ Bdd (B + E) (lvUpd b r d m s l zs k x) := by
  have hkk := keysI_bd b r d m l
  have hmono : Bdd (B + E) zs := fun i => by have := hB i; omega
  by_cases he : exactB b r d m l = true
  · rw [lvErr_ex he, lvUpd_ex he]
    have hc := hB k
    have e : chkI (keysI b r d m l).toNat m zs k x = 0 := by
      unfold chkI
      rw [if_neg (by omega), if_neg hm, if_pos (by unfold In64; omega)]
    refine ⟨e, fun i => ?_⟩
    unfold updZ
    rw [if_pos e]
    rcases cellD_set_or zs k i (cellD zs k + x) with h | h
    · rw [h]; exact hmono i
    · rw [h]; omega
  · have e1 : lvErr b r d m s l zs k x = skErr b r d m s l zs (k : Int) x := by unfold lvErr; rw [if_neg he]
    have e2 : lvUpd b r d m s l zs k x = skUpd b r d m s l zs (k : Int) x := by unfold lvUpd; rw [if_neg he]
    rw [e1, e2]
    have hcell : ∀ q, cellD zs q ≤ B ∧ -B ≤ cellD zs q := fun q => ⟨(hB q).2, (hB q).1⟩
    by_cases h2 : m = 2
    · have hx : ¬ x < 0 := fun h => hm ⟨h2, h⟩
      have hv : -B ≤ kthL (readZ d.toNat zs (colsZ d s l (k : Int) r.toNat)) 0 ∧ kthL (readZ d.toNat zs (colsZ d s l (k : Int) r.toNat)) 0 ≤ B := by
        rcases kthL_mem (readZ d.toNat zs (colsZ d s l (k : Int) r.toNat)) 0 with h | h
        · unfold readZ at h
          rw [List.mem_map] at h
          obtain ⟨q, -, e⟩ := h
          unfold readZ
          rw [← e]
          have := hcell (q * d.toNat + colN (colsZ d s l (k : Int) r.toNat) q)
          omega
        · rw [h]; omega
      have e : skErr b r d m s l zs (k : Int) x = 0 := by
        unfold skErr
        rw [if_neg (by omega), if_pos h2, if_neg hx, if_pos (by unfold In64; omega)]
      refine ⟨e, fun i => ?_⟩
      unfold skUpd
      rw [if_pos e, if_pos h2]
      unfold raiseZ
      rcases setsZ_or d.toNat zs (colN (colsZ d s l (k : Int) r.toNat)) (riseV d.toNat zs (colsZ d s l (k : Int) r.toNat) (kthL (readZ d.toNat zs (colsZ d s l (k : Int) r.toNat)) 0 + x)) (colsZ d s l (k : Int) r.toNat).length i with h | ⟨q, -, h⟩
      · rw [h]; exact hmono i
      · rw [h]
        unfold riseV
        split
        · omega
        · exact hmono _
    · have hf : changeFits d.toNat zs (colsZ d s l (k : Int) r.toNat) x := fun q hq => by
        have := hcell (q * d.toNat + colN (colsZ d s l (k : Int) r.toNat) q)
        unfold In64
        omega
      have e : skErr b r d m s l zs (k : Int) x = 0 := by
        unfold skErr
        rw [if_neg (by omega), if_neg h2, if_pos hf]
      refine ⟨e, fun i => ?_⟩
      unfold skUpd
      rw [if_pos e, if_neg h2]
      unfold changeZ
      rcases setsZ_or d.toNat zs (colN (colsZ d s l (k : Int) r.toNat)) (fun q => cellD zs (q * d.toNat + colN (colsZ d s l (k : Int) r.toNat) q) + x) (colsZ d s l (k : Int) r.toNat).length i with h | ⟨q, -, h⟩
      · rw [h]; exact hmono i
      · rw [h]
        have := hcell (q * d.toNat + colN (colsZ d s l (k : Int) r.toNat) q)
        omega
theorem st_bd {b : Nat} {r d m s B E : Int} {Z : Nat → List Int} {k : Nat} {x : Int} (hr : rightB (b : Int) r d m = true) (hk : (k : Int) < keysI (b : Int) r d m 0) (hm : ¬ (m = 2 ∧ x < 0)) (hB : ∀ n, n ≤ b → Bdd B (Z n)) (h0 : 0 ≤ B) (hE : -E ≤ x ∧ x ≤ E) (hBE : B + E ≤ 4611686018427387904) :
    stErr (b : Int) r d m s Z k x = 0 ∧ ∀ n, n ≤ b → Bdd (B + E) (stUpd (b : Int) r d m s Z k x n) := by
  have key : ∀ n, n ≤ b → lvErr (b : Int) r d m s (n : Int) (Z n) (k / 2 ^ n) x = 0 ∧ Bdd (B + E) (lvUpd (b : Int) r d m s (n : Int) (Z n) (k / 2 ^ n) x) := fun n hn => lv_bd (key_down hr hk (by simpa using hn)) hm (hB n hn) h0 hE hBE
  have e : stErr (b : Int) r d m s Z k x = 0 := stErr_zero (by omega) hm (fun n hn => (key n (by simpa using hn)).1)
  exact ⟨e, fun n hn => by rw [stUpd_ok e]; exact (key n hn).2⟩
/-- an update, cut -/
def cutD (m x : Int) : Int := if m = 2 then max (x.tmod 1099511627776) (-(x.tmod 1099511627776)) else x.tmod 1099511627776
theorem cutD_bd (m x : Int) : -1099511627776 ≤ cutD m x ∧ cutD m x ≤ 1099511627776 ∧ ¬ (m = 2 ∧ cutD m x < 0) := by
  have h1 := Int.tmod_lt_of_pos x (show 0 < (1099511627776 : Int) by decide)
  have h2 : -1099511627776 < x.tmod 1099511627776 := by
    have := Int.tmod_lt_of_pos (-x) (show 0 < (1099511627776 : Int) by decide)
    rw [Int.neg_tmod] at this
    omega
  unfold cutD
  split <;> omega
/-- the levels behind so many updates -/
noncomputable def fedZ (b r d m s : Int) (kk : Nat → Nat) (xx : Nat → Int) : Nat → Nat → List Int
  | 0 => zeroZ b r d m
  | t + 1 => stUpd b r d m s (fedZ b r d m s kk xx t) (kk t) (xx t)
theorem zero_bd (b r d m : Int) (n : Nat) : Bdd 0 (zeroZ b r d m n) := fun i => by
  have : cellD (zeroZ b r d m n) i = 0 := by
    unfold cellD zeroZ
    rw [List.getElem?_replicate]
    split <;> rfl
  rw [this]
  omega
theorem fed_bd {b : Nat} {r d m s : Int} (hr : rightB (b : Int) r d m = true) {kk : Nat → Nat} {xx : Nat → Int} (hk : ∀ t : Nat, (kk t : Int) < keysI (b : Int) r d m 0) (hx : ∀ t : Nat, -1099511627776 ≤ xx t ∧ xx t ≤ 1099511627776 ∧ ¬ (m = 2 ∧ xx t < 0)) :
    ∀ t : Nat, t ≤ 60 → (∀ n, n ≤ b → Bdd (1099511627776 * (t : Int)) (fedZ (b : Int) r d m s kk xx t n)) ∧ (t < 60 → stErr (b : Int) r d m s (fedZ (b : Int) r d m s kk xx t) (kk t) (xx t) = 0)
  | 0, _ => ⟨fun n hn => by rw [show (1099511627776 * ((0 : Nat) : Int)) = 0 by simp]; exact zero_bd (b : Int) r d m n, fun _ => (st_bd (B := 0) (E := 1099511627776) hr (hk 0) (hx 0).2.2 (fun n hn => zero_bd _ _ _ _ n) (by omega) ⟨(hx 0).1, (hx 0).2.1⟩ (by omega)).1⟩
  | t + 1, ht => by
    obtain ⟨h1, h2⟩ := fed_bd hr hk hx t (by omega)
    have h3 := st_bd (s := s) (B := 1099511627776 * (t : Int)) (E := 1099511627776) hr (hk t) (hx t).2.2 h1 (by omega) ⟨(hx t).1, (hx t).2.1⟩ (by omega)
    have e : 1099511627776 * (t : Int) + 1099511627776 = 1099511627776 * ((t + 1 : Nat) : Int) := by omega
    rw [e] at h3
    exact ⟨h3.2, fun h => (st_bd (s := s) (B := 1099511627776 * ((t + 1 : Nat) : Int)) (E := 1099511627776) hr (hk (t + 1)) (hx (t + 1)).2.2 h3.2 (by omega) ⟨(hx (t + 1)).1, (hx (t + 1)).2.1⟩ (by omega)).1⟩
end Go.Proofs.Ythbkljeibmkimaa

/-
  The walks of gaugerref15.Cut and of fed. Conditions: none beyond those stated at each theorem.
-/
namespace Go.Proofs.Ythbkljeibmkimaa
open Go.RowKit
set_option linter.unusedVariables false
set_option linter.unusedSimpArgs false

theorem results_tmp_row {P : Program} {fn : Func} {p q : Tmp} {ty : TypeId} (h : fn.results = #[.tmp p, .cell q ty]) (tmps : Array Value) (w : World) (g : Nat) (t : TypeId) (cs : Array Value) (fr : Nat × Nat) (d : TypeDesc)
    (hq : tmps.getD q undef = .pointer (some ⟨g, 0, none⟩)) (hg : w.heap[g]? = some (.cells cs t fr))
    (hu : P.underlying ty = some d) (hd : (match d with | .struct _ | .array _ _ => true | _ => false) = true) (hi : (P.info? ty).map (·.size) = some cs.size) :
    (results fn tmps).run P w = .ok (.tuple #[tmps.getD p undef, .agg cs]) w := by
  have hq' : tmps[q]?.getD undef = .pointer (some ⟨g, 0, none⟩) := by simpa using hq
  simp [results, h, hq', asAddr, run_loadVar_row w g t ty cs fr d hg hu hd hi]
theorem grown_setRow (w : World) (g : Nat) (cs : Array Value) : w.grownBy (w.setRow g cs) (some g) := ⟨rfl, rfl, rfl, by simp, fun k _ hne => setRow_other w g k cs (fun e => hne (by rw [e]))⟩
structure CutS (w0 w' : World) (A : Nat) (c5 u2 : Array Value) : Prop where
  c : Blk w' A 24 c5
  u : Blk w' (A + 1) 38 u2
  r : ∃ cs, Blk w' (A + 1 + 1) 38 cs ∧ cs.size = 2
  b : Below A w0 w'
theorem CutS.kept {w0 w1 w2 : World} {A : Nat} {c5 u2 : Array Value} (h : CutS w0 w1 A c5 u2) (hb : Below w1.heap.size w1 w2) : CutS w0 w2 A c5 u2 := by
  obtain ⟨cs, h1, h2⟩ := h.r
  have := h.c.lt
  exact ⟨h.c.kept hb, h.u.kept hb, ⟨cs, h1.kept hb, h2⟩, h.b.trans (hb.mono (by omega))⟩
theorem CutS.drew {w0 w1 : World} {A : Nat} {c5 u2 : Array Value} (h : CutS w0 w1 A c5 u2) (n : Nat) : CutS w0 (w1.drewN n) A c5 u2 := h.kept (below_drewN (Below.refl _ _) n)
theorem CutS.set {w0 w1 : World} {A : Nat} {c5 u2 : Array Value} (h : CutS w0 w1 A c5 u2) (cs : Array Value) (hs : cs.size = 2) : CutS w0 (w1.setRow (A + 1 + 1) cs) A c5 u2 := by
  obtain ⟨cs0, h1, h2⟩ := h.r
  exact ⟨h.c.rowFar (by omega), h.u.rowFar (by omega), ⟨cs, h1.rowNew, hs⟩, below_setRow h.b (by omega) cs⟩
def cutK (K : Int) (k : Nat) : Nat := k % K.toNat
set_option maxRecDepth 100000 in
set_option maxHeartbeats 8000000 in
theorem cut_upd (b r d m s : Int) (hr : rightB b r d m = true) (k : Nat) (hk : k < 18446744073709551616) (x : Int) (hx : In64 x) (w : World) :
    Calls Try.prog 11 #[.agg #[.int .i64 b, .int .i64 r, .int .i64 d, .int .i64 m, .int .u64 s], .agg #[.int .u64 (k : Int), .int .i64 x]] w fun e w' => e = .returned (.agg #[.int .u64 (cutK (keysI b r d m 0) k : Int), .int .i64 (cutD m x)]) ∧ Below w.heap.size w w' := by
  have PK := Lib.hid (fun w => rkeys_any b r d m s 0 w)
  have hR := right_of hr
  have hkb := keysI_bd b r d m 0
  have hk0 : 0 < keysI b r d m 0 := by
    rw [keysI_yes hr (by omega) (by omega)]
    exact Int.pow_pos (by decide)
  obtain ⟨Q, hQ⟩ : ∃ Q, Q = keysI b r d m 0 := ⟨_, rfl⟩
  rw [← hQ] at PK hk0 hkb ⊢
  have HKK : Hid ((k : Int) % Q = (cutK Q k : Int)) := Lib.hid (by
    unfold cutK
    rw [Int.natCast_emod, Int.toNat_of_nonneg (by omega)])
  have htm : (k : Int).tmod Q = (k : Int) % Q := Int.tmod_eq_emod_of_nonneg (by omega)
  obtain ⟨y, hy⟩ : ∃ y, y = x.tmod 1099511627776 := ⟨_, rfl⟩
  have hyb : -1099511627776 ≤ y ∧ y ≤ 1099511627776 := by
    have h1 := Int.tmod_lt_of_pos x (show 0 < (1099511627776 : Int) by decide)
    have h2 := Int.tmod_lt_of_pos (-x) (show 0 < (1099511627776 : Int) by decide)
    rw [Int.neg_tmod] at h2
    omega
  have HCD : Hid (cutD m x = if m = 2 then max y (-y) else y) := Lib.hid (by unfold cutD; rw [← hy])
  obtain ⟨g1, g2, g3, hb1', hsz1⟩ := news3 w (.cells #[.int .i64 b, .int .i64 r, .int .i64 d, .int .i64 m, .int .u64 s] 24) (.cells #[.int .u64 (k : Int), .int .i64 x] 38) (.cells #[.int .u64 0, .int .i64 0] 38)
  have HX1 : Hid (Blk _ w.heap.size 24 #[.int .i64 b, .int .i64 r, .int .i64 d, .int .i64 m, .int .u64 s]) := Lib.hid g1
  have HX2 : Hid (Blk _ (w.heap.size + 1) 38 #[.int .u64 (k : Int), .int .i64 x]) := Lib.hid g2
  have HX3 : Hid (Blk _ (w.heap.size + 1 + 1) 38 #[.int .u64 0, .int .i64 0]) := Lib.hid g3
  have HB1 := Lib.hid hb1'
  have HQ := Lib.hid (And.intro hk0 hkb)
  have HK64 := Lib.hid hk
  have q3 := HX1.out.cell 3
  have u1 := HX2.out.cell 1
  simp at q3 u1
  clear g1 g2 g3 hb1' hsz1 hR hQ hr hk hkb
  go_enter Try.func11, Try.ntmps11
  go_upto_if 11 with fail
  generalize (((w.alloc (.cells #[.int .i64 b, .int .i64 r, .int .i64 d, .int .i64 m, .int .u64 s] 24)).alloc (.cells #[.int .u64 (k : Int), .int .i64 x] 38)).alloc (.cells #[.int .u64 0, .int .i64 0] 38)) = w1 at *
  rw [← hy]
  clear hy
  go_cut [5] (fun v wx => v = .int .i64 (cutD m x) ∧ w1 = wx)
  case first =>
    by_cases hm : m = 2
    · subst hm
      have hn1 : wrap64 (-y) = -y := by unfold wrap64; omega
      have hn2 : IntKind.i64.wrap (-y) = -y := wrapI_of _ (by omega) (by omega)
      have HR : Hid (max y (-y) = cutD 2 x) := Lib.hid (by rw [HCD.out, if_pos rfl])
      go_wp2_with fail
      all_goals (go_meet; exact ⟨by rw [← HR.out]; congr 1; omega, rfl⟩)
    · have hmb : (m == 2) = false := by simp [hm]
      have HR : Hid (y = cutD m x) := Lib.hid (by rw [HCD.out, if_neg hm])
      go_wp2_with fail
      go_meet
      exact ⟨by rw [← HR.out], rfl⟩
  case rest =>
    obtain ⟨rfl, hw⟩ := hcut
    subst hw
    clear hyb HCD q3 u1 hx
    have hqn : ¬ Q = 0 := by have := HQ.out.1; omega
    obtain ⟨A, hA⟩ : ∃ A, A = w.heap.size := ⟨_, rfl⟩
    rw [← hA] at HX1 HX2 HX3 HB1 ⊢
    have HCS : Hid (CutS w w1 A #[.int .i64 b, .int .i64 r, .int .i64 d, .int .i64 m, .int .u64 s] #[.int .u64 (k : Int), .int .i64 x]) := Lib.hid ⟨HX1.out, HX2.out, ⟨_, HX3.out, rfl⟩, HB1.out⟩
    have HAW := Lib.hid hA
    clear hA HX1 HX2 HX3 HB1
    go_upto_region 4 with fail
    refine wp_region_held_drew (S := fun w' => CutS w w' A #[.int .i64 b, .int .i64 r, .int .i64 d, .int .i64 m, .int .u64 s] #[.int .u64 (k : Int), .int .i64 x]) (by kernel_rfl) (by exact HCS.out.drew 1) (fun hHeld => ?_)
    refine wpAnyH_take (i := 0) (v := ?_) rfl (by kernel_rfl) (by kernel_rfl) (by kernel_rfl) (fun _ _ _ h => h) (Or.inl ⟨by rfl, ?_⟩) (by assumption) ?_
    rotate_left
    · intro w hSw
      try dsimp only at hSw
      go_simp
      try with_reducible rfl
    simp only [Act.put, List.setIfInBounds_toArray, List.set_cons_zero, List.set_cons_succ, List.getElem_toArray, List.getElem_cons_zero, List.getElem_cons_succ]
    refine wpAnyH_take (i := 1) (v := ?_) rfl (by kernel_rfl) (by kernel_rfl) (by kernel_rfl) (fun _ _ _ h => h) (Or.inl ⟨by rfl, ?_⟩) (by assumption) ?_
    rotate_left
    · intro w hSw
      have u0 := hSw.u.cell 0
      simp at u0
      try (refine (exec_load_row 24 _ rfl A rfl 24 _ (0, 0) _ hSw.c Try.underlying24 rfl (by kernel_rfl)).trans ?_)
      go_simp
      try with_reducible rfl
    simp only [Act.put, List.setIfInBounds_toArray, List.set_cons_zero, List.set_cons_succ, List.getElem_toArray, List.getElem_cons_zero, List.getElem_cons_succ]
    refine wpAnyH_take (i := 2) (v := ?_) rfl (by kernel_rfl) (by kernel_rfl) (by kernel_rfl) (fun _ _ _ h => h) (Or.inl ⟨by rfl, ?_⟩) (by assumption) ?_
    rotate_left
    · intro w hSw
      have u0 := hSw.u.cell 0
      simp at u0
      try (refine (exec_load_row 24 _ rfl A rfl 24 _ (0, 0) _ hSw.c Try.underlying24 rfl (by kernel_rfl)).trans ?_)
      go_simp
      try with_reducible rfl
    simp only [Act.put, List.setIfInBounds_toArray, List.set_cons_zero, List.set_cons_succ, List.getElem_toArray, List.getElem_cons_zero, List.getElem_cons_succ]
    refine wpAnyH_take (i := 5) (v := ?_) rfl (by kernel_rfl) (by kernel_rfl) (by kernel_rfl) (fun _ _ _ h => h) (Or.inl ⟨by rfl, ?_⟩) (by assumption) ?_
    rotate_left
    · intro w hSw
      try dsimp only at hSw
      go_simp
      try with_reducible rfl
    simp only [Act.put, List.setIfInBounds_toArray, List.set_cons_zero, List.set_cons_succ, List.getElem_toArray, List.getElem_cons_zero, List.getElem_cons_succ]
    refine wpAnyH_ready (rs := [3]) (by kernel_rfl) (by simp) ?_
    refine AllReadyH.cons rfl (fun Kc hKc => ?_) AllReadyH.nil
    go_simp
    go_wp2_with ((with_reducible refine (PK.out _).mono ?_; rintro e wq ⟨rfl, hb'⟩))
    refine hKc.out _ _ ?_ (fun hHeld => ?_)
    · first | assumption | exact hHeld | exact hHeld.kept hb' | exact hHeld.set _ rfl
    clear hKc Kc
    refine wpAnyH_take (i := 4) (v := ?_) rfl (by kernel_rfl) (by kernel_rfl) (by kernel_rfl) (fun _ _ _ h => h) (Or.inl ⟨by rfl, ?_⟩) (by assumption) ?_
    rotate_left
    · intro w hSw
      try dsimp only at hSw
      go_simp
      try with_reducible rfl
    simp only [Act.put, List.setIfInBounds_toArray, List.set_cons_zero, List.set_cons_succ, List.getElem_toArray, List.getElem_cons_zero, List.getElem_cons_succ]
    refine wpAnyH_take (i := 6) (v := ?_) rfl (by kernel_rfl) (by kernel_rfl) (by kernel_rfl) (fun _ _ _ h => h) (Or.inl ⟨by rfl, ?_⟩) (by assumption) ?_
    rotate_left
    · intro w hSw
      try dsimp only at hSw
      go_simp
      try with_reducible rfl
    simp only [Act.put, List.setIfInBounds_toArray, List.set_cons_zero, List.set_cons_succ, List.getElem_toArray, List.getElem_cons_zero, List.getElem_cons_succ]
    refine wpAnyH_ready (rs := [7]) (by kernel_rfl) (by simp) ?_
    refine AllReadyH.cons rfl (fun Kc hKc => ?_) AllReadyH.nil
    obtain ⟨cs, hcs, hcz⟩ := hHeld.r; have HAR := Lib.hid (hcs.rowNew (cs' := #[.int .u64 ((k : Int) % Q), .int .i64 (cutD m x)])); refine wp_store_row 38 _ _ rfl (A + 1 + 1) #[.int .u64 ((k : Int) % Q), .int .i64 (cutD m x)] rfl rfl 38 _ hcs (by kernel_rfl) hcz (by simp [Value.oneCell']) ?_
    refine hKc.out _ _ ?_ (fun hHeld => ?_)
    · first | assumption | exact hHeld | exact hHeld.kept hb' | exact hHeld.set _ rfl
    clear hKc Kc
    refine wpAnyH_done (by kernel_rfl) ?_ _
    have HBR := Lib.hid hHeld.b
    clear hHeld
    go_wp2_with fail
    refine bodyPost_ret (results_cell_row rfl _ _ (A + 1 + 1) 38 _ (0, 0) _ rfl HAR.out Try.underlying38 rfl (by kernel_rfl)) rfl ?_
    exact ⟨by rw [HKK.out], by rw [← HAW.out]; exact HBR.out⟩
theorem Blk.rgr {w w' : World} {g q : Nat} {t : TypeId} {cs : Array Value} {C : Nat → Nat} (h : Blk w g t cs) (k : RGr w w' C q) (hC : ∀ n, n < q → g < C n) : Blk w' g t cs := (k.block g h.lt (fun n hn e => by have := hC n hn; omega)).trans h
theorem UpdsAt.range {w : World} {ao : Option Addr} {n cap : Nat} {ks : Nat → Nat} {ds : Nat → Int} (h : UpdsAt w (.slice ao n cap) n ks ds) {t : Nat} (ht : t < n) : ∃ g off, ao = some ⟨g, off, none⟩ ∧ g < w.heap.size ∧ w.rangeAt g (off + t * 2) [.int .u64 (ks t : Int), .int .i64 (ds t)] := by
  obtain ⟨ao', cap', e, -, -, hc⟩ := h
  simp only [Value.slice.injEq] at e
  obtain ⟨rfl, -, rfl⟩ := e
  obtain ⟨g, off, e, hlt, hcell⟩ := hc (by omega)
  obtain ⟨c1, c2⟩ := hcell t ht
  refine ⟨g, off, e, hlt, fun j u hu => ?_⟩
  match j, hu with
  | 0, hu => simp at hu; subst hu; exact c1
  | 1, hu => simp at hu; subst hu; exact c2
  | j + 2, hu => simp at hu
/-- what stands beside the stack while it is fed -/
structure FedE (w0 w' : World) (A D : Nat) (xs zs cs : Array Value) : Prop where
  x : Blk w' A 27 xs
  z : Blk w' (A + 1) 24 zs
  c : Blk w' D 24 cs
  b : Below w0.heap.size w0 w'
theorem FedE.kept {w0 w1 w2 : World} {A D : Nat} {xs zs cs : Array Value} (h : FedE w0 w1 A D xs zs cs) (hb : Below w1.heap.size w1 w2) : FedE w0 w2 A D xs zs cs := ⟨h.x.kept hb, h.z.kept hb, h.c.kept hb, btr h.b hb⟩
theorem FedE.rgr {w0 w1 w2 : World} {A D q : Nat} {xs zs cs : Array Value} {C : Nat → Nat} (h : FedE w0 w1 A D xs zs cs) (k : RGr w1 w2 C q) (hA : w0.heap.size ≤ A) (hC : ∀ n, n < q → A + 1 < C n ∧ D < C n) : FedE w0 w2 A D xs zs cs :=
  ⟨h.x.rgr k (fun n hn => by have := hC n hn; omega), h.z.rgr k (fun n hn => by have := hC n hn; omega), h.c.rgr k (fun n hn => (hC n hn).2), below_rgr h.b h.b.size k (fun n hn => by have := hC n hn; omega)⟩
/-- the mode of a fed stack -/
def fedM (xm mode : Int) : Int := if 0 < mode then mode else anyI xm 3
noncomputable def fedKK (b r d m : Int) (ks : Nat → Nat) (t : Nat) : Nat := cutK (keysI b r d m 0) (ks t)
def fedXX (m : Int) (ds : Nat → Int) (t : Nat) : Int := cutD m (ds t)
def FedPost (w : World) (b : Nat) (r d m s : Int) (ks : Nat → Nat) (ds : Nat → Int) (n : Nat) (e : Ending) (w' : World) : Prop :=
  ∃ S L X A G C, e = .returned (.tuple #[.pointer (some ⟨S, 0, none⟩), .agg #[.int .i64 (b : Int), .int .i64 r, .int .i64 d, .int .i64 m, .int .u64 s]]) ∧ w.heap.size ≤ S ∧ StIs w' w.heap.size S L (b : Int) r d m s X A G C (fedZ (b : Int) r d m s (fedKK (b : Int) r d m ks) (fedXX m ds) (min n 60)) ∧ Below w.heap.size w w'
theorem fed_key {b : Nat} {r d m : Int} (hr : rightB (b : Int) r d m = true) (ks : Nat → Nat) (t : Nat) : (fedKK (b : Int) r d m ks t : Int) < keysI (b : Int) r d m 0 := by
  have hR := right_of hr
  have h0 : 0 < keysI (b : Int) r d m 0 := by
    rw [keysI_yes hr (by omega) (by omega)]
    exact Int.pow_pos (by decide)
  unfold fedKK cutK
  have := Nat.mod_lt (ks t) (show 0 < (keysI (b : Int) r d m 0).toNat by omega)
  omega
set_option maxRecDepth 100000 in
set_option maxHeartbeats 8000000 in
theorem fed_any (xb xr xd xm s : Int) (l : Value) (n : Nat) (ks : Nat → Nat) (ds : Nat → Int) (p mode : Int) (p0 : 1 ≤ p) (p1 : p ≤ 59) (hmode : mode = 0 ∨ mode = 1 ∨ mode = 2) (s0 : 0 ≤ s) (s1 : s ≤ 18446744073709551615) (w : World) (hl : UpdsAt w l n ks ds) :
    Calls Try.prog 8 #[.agg #[.int .i64 xb, .int .i64 xr, .int .i64 xd, .int .i64 xm, .int .u64 s, l], .int .i64 p, .int .i64 mode] w (FedPost w (anyI xb p).toNat (anyI xr 4) (anyI xd 9) (fedM xm mode) s ks ds n) := by
  have HL := Lib.hid hl
  obtain ⟨ao, cap, rfl, hmx, hd64, hcells⟩ := hl
  have HD64 := Lib.hid hd64
  clear hcells hd64
  have PA := Lib.hid (fun w => any_any xb xr xd xm s p 9 p0 p1 (by decide) (by decide) w)
  have HR0 := any_right9 xb xr xd xm p p0 p1
  have hbb := anyI_bd xb p p0
  obtain ⟨b, hb⟩ : ∃ b : Nat, (b : Int) = anyI xb p := ⟨(anyI xb p).toNat, by omega⟩
  obtain ⟨r, hr⟩ : ∃ r, r = anyI xr 4 := ⟨_, rfl⟩
  obtain ⟨d, hd⟩ : ∃ d, d = anyI xd 9 := ⟨_, rfl⟩
  obtain ⟨m0, hm0⟩ : ∃ m0, m0 = anyI xm 3 := ⟨_, rfl⟩
  obtain ⟨m, hm⟩ : ∃ m, m = fedM xm mode := ⟨_, rfl⟩
  have HR : Hid (rightB (b : Int) r d m = true) := Lib.hid (by
    rw [← hb, ← hr, ← hd, ← hm0] at HR0
    have h1 := right_of HR0
    have h2 : m = 1 ∨ m = 2 ∨ m = 3 := by
      rw [hm]
      unfold fedM
      rw [← hm0]
      split <;> omega
    exact right_mk (by omega))
  rw [← hb, ← hr, ← hd, ← hm0] at PA
  rw [show (anyI xb p).toNat = b by omega, ← hr, ← hd, ← hm]
  have HM : Hid (m = if 0 < mode then mode else m0) := Lib.hid (by rw [hm, hm0]; rfl)
  clear hb hr hd hm hm0 HR0 hbb p0 p1
  have PS := Lib.hid (fun w => stnew_yes (b : Int) r d m s HR.out w)
  have PC := Lib.hid (fun (k : Nat) (hk : k < 18446744073709551616) (x : Int) (hx : In64 x) w => cut_upd (b : Int) r d m s HR.out k hk x hx w)
  have HFB := Lib.hid (fun t => fed_bd (s := s) HR.out (kk := fedKK (b : Int) r d m ks) (xx := fedXX m ds) (fed_key HR.out ks) (fun t => cutD_bd m (ds t)) t)
  obtain ⟨g1, g2, hb1, hsz1⟩ := news2 w (.cells #[.int .i64 xb, .int .i64 xr, .int .i64 xd, .int .i64 xm, .int .u64 s, .slice ao n cap] 27) (.cells #[.int .i64 0, .int .i64 0, .int .i64 0, .int .i64 0, .int .u64 0] 24)
  have HX1 : Hid (Blk _ w.heap.size 27 #[.int .i64 xb, .int .i64 xr, .int .i64 xd, .int .i64 xm, .int .u64 s, .slice ao n cap]) := Lib.hid g1
  have HX2 : Hid (Blk _ (w.heap.size + 1) 24 #[.int .i64 0, .int .i64 0, .int .i64 0, .int .i64 0, .int .u64 0]) := Lib.hid g2
  have HB1 := Lib.hid hb1
  have q0 := HX1.out.cell 0
  have q1 := HX1.out.cell 1
  have q2 := HX1.out.cell 2
  have q3 := HX1.out.cell 3
  have q4 := HX1.out.cell 4
  simp at q0 q1 q2 q3 q4
  clear g1 g2 hb1 hsz1
  go_enter Try.func8, Try.ntmps8
  go_wp2_with fail
  generalize ((w.alloc (.cells #[.int .i64 xb, .int .i64 xr, .int .i64 xd, .int .i64 xm, .int .u64 s, .slice ao n cap] 27)).alloc (.cells #[.int .i64 0, .int .i64 0, .int .i64 0, .int .i64 0, .int .u64 0] 24)) = w1 at *
  with_reducible refine (PA.out _).mono ?_
  rintro e w2 ⟨rfl, hb⟩
  obtain ⟨g3, hb3, hsz3⟩ := news1 w2 (.cells #[.int .i64 (b : Int), .int .i64 r, .int .i64 d, .int .i64 m0, .int .u64 s] 24)
  have g3 : Blk _ w2.heap.size 24 #[.int .i64 (b : Int), .int .i64 r, .int .i64 d, .int .i64 m0, .int .u64 s] := g3
  have HE0 : Hid (FedE w _ w.heap.size w2.heap.size #[.int .i64 xb, .int .i64 xr, .int .i64 xd, .int .i64 xm, .int .u64 s, .slice ao n cap] #[.int .i64 0, .int .i64 0, .int .i64 0, .int .i64 0, .int .u64 0] #[.int .i64 (b : Int), .int .i64 r, .int .i64 d, .int .i64 m0, .int .u64 s]) := Lib.hid ⟨(HX1.out.kept hb).kept hb3, (HX2.out.kept hb).kept hb3, g3, btr (btr HB1.out hb) hb3⟩
  have HW2 : Hid (w.heap.size + 1 < w2.heap.size) := Lib.hid (HX2.out.kept hb).lt
  clear g3 hb hb3 hsz3 HX1 HX2 HB1 q0 q1 q2 q3 q4
  go_upto_if 18 with fail
  generalize (w2.alloc (.cells #[.int .i64 (b : Int), .int .i64 r, .int .i64 d, .int .i64 m0, .int .u64 s] 24)) = w3 at *
  generalize w2.heap.size = D at *
  go_cut [] (fun wx => FedE w wx w.heap.size D #[.int .i64 xb, .int .i64 xr, .int .i64 xd, .int .i64 xm, .int .u64 s, .slice ao n cap] #[.int .i64 0, .int .i64 0, .int .i64 0, .int .i64 0, .int .u64 0] #[.int .i64 (b : Int), .int .i64 r, .int .i64 d, .int .i64 m, .int .u64 s])
  case first =>
    by_cases hm1 : 0 < mode
    · have HE1 : Hid (FedE w (w3.setCell ⟨D, 3, none⟩ (.int .i64 mode)) w.heap.size D #[.int .i64 xb, .int .i64 xr, .int .i64 xd, .int .i64 xm, .int .u64 s, .slice ao n cap] #[.int .i64 0, .int .i64 0, .int .i64 0, .int .i64 0, .int .u64 0] #[.int .i64 (b : Int), .int .i64 r, .int .i64 d, .int .i64 m, .int .u64 s]) := Lib.hid (by
        have h1 := HE0.out
        have hD := HW2.out
        have e : m = mode := by rw [HM.out, if_pos hm1]
        rw [e]
        refine ⟨h1.x.far (by simp; omega) _, h1.z.far (by simp; omega) _, by simpa using h1.c.set_ 3 (.int .i64 mode), ?_⟩
        exact ⟨h1.b.os, h1.b.tape, h1.b.output, by have := h1.b.size; simpa [World.setCell] using this, fun k hk => (Below.heap_setCell _ _ _ _ (by simp; omega)).trans (h1.b.block k hk)⟩)
      have qc := HE0.out.c.cell 3
      have qf := HE0.out.c.frozen 3
      simp at qc
      go_wp2_with fail
      go_meet
      exact HE1.out
    · have HE1 : Hid (FedE w w3 w.heap.size D #[.int .i64 xb, .int .i64 xr, .int .i64 xd, .int .i64 xm, .int .u64 s, .slice ao n cap] #[.int .i64 0, .int .i64 0, .int .i64 0, .int .i64 0, .int .u64 0] #[.int .i64 (b : Int), .int .i64 r, .int .i64 d, .int .i64 m, .int .u64 s]) := Lib.hid (by
        have e : m = m0 := by rw [HM.out, if_neg hm1]
        rw [e]
        exact HE0.out)
      go_wp2_with fail
      go_meet
      exact HE1.out
  case rest =>
    have HE1 := Lib.hid hcut
    clear hcut HE0 HM hmode
    have hc1 := HE1.out.c
    go_wp2_with (refine wpList_load_row rfl 24 _ rfl D rfl 24 _ (0, 0) _ hc1 Try.underlying24 rfl (by kernel_rfl) ?_)
    with_reducible refine (PS.out _).mono ?_
    rintro e w4 ⟨S, L, X, A, G, C, rfl, hS, hst, hb⟩
    have HE2 := Lib.hid (HE1.out.kept hb)
    have HCC : Hid (∀ q, q < b + 1 → w.heap.size + 1 < C q ∧ D < C q) := Lib.hid (fun q hq => by
      have h1 := hst.low q (by simp; omega)
      have h2 := HE1.out.c.lt
      have h3 := HE1.out.z.lt
      omega)
    have HSS : Hid (w.heap.size ≤ S) := Lib.hid (Nat.le_trans HE1.out.b.size hS)
    have HST : Hid (StIs w4 w.heap.size S L (b : Int) r d m s X A G C (fedZ (b : Int) r d m s (fedKK (b : Int) r d m ks) (fedXX m ds) 0)) := Lib.hid (hst.low_ HE1.out.b.size)
    clear hst hb hS hc1 PS PA
    go_wp2_with fail
    go_loopw [11] (fun i wr => ∃ t : Nat, i = .int .i64 (t : Int) ∧ t ≤ n ∧ t ≤ 60 ∧ StIs wr w.heap.size S L (b : Int) r d m s X A G C (fedZ (b : Int) r d m s (fedKK (b : Int) r d m ks) (fedXX m ds) t) ∧ FedE w wr w.heap.size D #[.int .i64 xb, .int .i64 xr, .int .i64 xd, .int .i64 xm, .int .u64 s, .slice ao n cap] #[.int .i64 0, .int .i64 0, .int .i64 0, .int .i64 0, .int .u64 0] #[.int .i64 (b : Int), .int .i64 r, .int .i64 d, .int .i64 m, .int .u64 s]) (fun i _ => 60 - (intOf i).toNat)
    case atStart => exact ⟨0, rfl, Nat.zero_le _, Nat.zero_le _, HST.out, HE2.out⟩
    case round =>
      clear HST HE2 HE1
      obtain ⟨t, rfl, htn, ht6, hst, hfe⟩ := hrel
      have HST := Lib.hid hst
      have HFE := Lib.hid hfe
      have q5 := hfe.x.cell 5
      simp at q5
      clear hst hfe
      by_cases hlt : t < n ∧ t < 60
      · have hz1 : (t : Int) < (n : Int) := by omega
        have hz2 : (t : Int) < 60 := by omega
        have HUA := Lib.hid (HL.out.kept HFE.out.b)
        obtain ⟨gu, off, rfl, hgl, hrg⟩ := HUA.out.range hlt.1
        have HRG := Lib.hid hrg
        have HGL := Lib.hid hgl
        have PCT := Lib.hid (fun w => PC.out (ks t) (HD64.out t hlt.1).2 (ds t) (HD64.out t hlt.1).1 w)
        obtain ⟨k, hk⟩ : ∃ k, k = fedKK (b : Int) r d m ks t := ⟨_, rfl⟩
        obtain ⟨y, hy⟩ : ∃ y, y = fedXX m ds t := ⟨_, rfl⟩
        have hkq : cutK (keysI (b : Int) r d m 0) (ks t) = k := hk.symm
        have hyq : cutD m (ds t) = y := hy.symm
        rw [hkq, hyq] at PCT
        have HUP : Hid (∀ wq, StIs wq w.heap.size S L (b : Int) r d m s X A G C (fedZ (b : Int) r d m s (fedKK (b : Int) r d m ks) (fedXX m ds) t) → Calls Try.prog 18 #[.pointer (some ⟨S, 0, none⟩), .int .u64 (k : Int), .int .i64 y] wq fun e w' => e = .returned (.int .i64 0) ∧ StIs w' w.heap.size S L (b : Int) r d m s X A G C (fedZ (b : Int) r d m s (fedKK (b : Int) r d m ks) (fedXX m ds) (t + 1)) ∧ RGr wq w' C (b + 1)) := Lib.hid (fun wq hq => by
          have h1 := cutD_bd m (ds t)
          have h2 := fed_key HR.out ks t
          have h3 := keysI_bd (b : Int) r d m 0
          have h4 := (HFB.out t (by omega)).2 hlt.2
          rw [hk, hy]
          refine (stupdate wq w.heap.size S L (b : Int) r d m s X A G C _ hq s0 s1 (fedKK (b : Int) r d m ks t) (by omega) (fedXX m ds t) (by unfold fedXX In64; omega)).mono (fun e w' hp => ?_)
          obtain ⟨p1, p2, p3⟩ := hp
          rw [h4] at p1
          exact ⟨p1, p2, p3⟩)
        generalize wr = w5 at *
        clear hlt hgl hrg hk hy hkq hyq
        go_upto_region 10 with fail
        go_cut [12] (fun u wx => ∃ U, u = .pointer (some ⟨U, 0, none⟩) ∧ Blk wx U 38 #[.int .u64 (k : Int), .int .i64 y] ∧ Below w5.heap.size w5 wx)
        case first =>
          refine wp_region_held_drew (S := fun w' => Below w5.heap.size w5 w') (by kernel_rfl) (by exact below_drewN (Below.refl _ _) 1) (fun hHeld => ?_)
          refine wpAnyH_take (i := 0) (v := ?_) rfl (by kernel_rfl) (by kernel_rfl) (by kernel_rfl) (fun _ _ _ h => h) (Or.inl ⟨by rfl, ?_⟩) (by assumption) ?_
          rotate_left
          · intro w hSw
            have q6 := (HFE.out.x.kept hSw).cell 5
            have q7 := range_block HRG.out (hSw.block _ HGL.out)
            simp at q6
            try (first | refine (exec_load_row 24 _ rfl D rfl 24 _ (0, 0) _ (HFE.out.c.kept hSw) Try.underlying24 rfl (by kernel_rfl)).trans ?_ | refine (exec_load_mid 38 _ rfl gu (off + t * 2) rfl [.int .u64 (ks t : Int), .int .i64 (ds t)] _ q7 Try.underlying38 rfl (by kernel_rfl)).trans ?_)
            go_simp
            try with_reducible rfl
          simp only [Act.put, List.setIfInBounds_toArray, List.set_cons_zero, List.set_cons_succ, List.getElem_toArray, List.getElem_cons_zero, List.getElem_cons_succ]
          refine wpAnyH_take (i := 1) (v := ?_) rfl (by kernel_rfl) (by kernel_rfl) (by kernel_rfl) (fun _ _ _ h => h) (Or.inl ⟨by rfl, ?_⟩) (by assumption) ?_
          rotate_left
          · intro w hSw
            try dsimp only at hSw
            go_simp
            try with_reducible rfl
          simp only [Act.put, List.setIfInBounds_toArray, List.set_cons_zero, List.set_cons_succ, List.getElem_toArray, List.getElem_cons_zero, List.getElem_cons_succ]
          refine wpAnyH_take (i := 2) (v := ?_) rfl (by kernel_rfl) (by kernel_rfl) (by kernel_rfl) (fun _ _ _ h => h) (Or.inl ⟨by rfl, ?_⟩) (by assumption) ?_
          rotate_left
          · intro w hSw
            have q6 := (HFE.out.x.kept hSw).cell 5
            have q7 := range_block HRG.out (hSw.block _ HGL.out)
            simp at q6
            try (first | refine (exec_load_row 24 _ rfl D rfl 24 _ (0, 0) _ (HFE.out.c.kept hSw) Try.underlying24 rfl (by kernel_rfl)).trans ?_ | refine (exec_load_mid 38 _ rfl gu (off + t * 2) rfl [.int .u64 (ks t : Int), .int .i64 (ds t)] _ q7 Try.underlying38 rfl (by kernel_rfl)).trans ?_)
            go_simp
            try with_reducible rfl
          simp only [Act.put, List.setIfInBounds_toArray, List.set_cons_zero, List.set_cons_succ, List.getElem_toArray, List.getElem_cons_zero, List.getElem_cons_succ]
          refine wpAnyH_take (i := 3) (v := ?_) rfl (by kernel_rfl) (by kernel_rfl) (by kernel_rfl) (fun _ _ _ h => h) (Or.inl ⟨by rfl, ?_⟩) (by assumption) ?_
          rotate_left
          · intro w hSw
            try dsimp only at hSw
            go_simp
            try with_reducible rfl
          simp only [Act.put, List.setIfInBounds_toArray, List.set_cons_zero, List.set_cons_succ, List.getElem_toArray, List.getElem_cons_zero, List.getElem_cons_succ]
          refine wpAnyH_take (i := 4) (v := ?_) rfl (by kernel_rfl) (by kernel_rfl) (by kernel_rfl) (fun _ _ _ h => h) (Or.inl ⟨by rfl, ?_⟩) (by assumption) ?_
          rotate_left
          · intro w hSw
            try dsimp only at hSw
            go_simp
            try with_reducible rfl
          simp only [Act.put, List.setIfInBounds_toArray, List.set_cons_zero, List.set_cons_succ, List.getElem_toArray, List.getElem_cons_zero, List.getElem_cons_succ]
          refine wpAnyH_take (i := 5) (v := ?_) rfl (by kernel_rfl) (by kernel_rfl) (by kernel_rfl) (fun _ _ _ h => h) (Or.inl ⟨by rfl, ?_⟩) (by assumption) ?_
          rotate_left
          · intro w hSw
            have q6 := (HFE.out.x.kept hSw).cell 5
            have q7 := range_block HRG.out (hSw.block _ HGL.out)
            simp at q6
            try (first | refine (exec_load_row 24 _ rfl D rfl 24 _ (0, 0) _ (HFE.out.c.kept hSw) Try.underlying24 rfl (by kernel_rfl)).trans ?_ | refine (exec_load_mid 38 _ rfl gu (off + t * 2) rfl [.int .u64 (ks t : Int), .int .i64 (ds t)] _ q7 Try.underlying38 rfl (by kernel_rfl)).trans ?_)
            go_simp
            try with_reducible rfl
          simp only [Act.put, List.setIfInBounds_toArray, List.set_cons_zero, List.set_cons_succ, List.getElem_toArray, List.getElem_cons_zero, List.getElem_cons_succ]
          refine wpAnyH_ready (rs := [6, 7]) (by kernel_rfl) (by simp) ?_
          refine AllReadyH.cons rfl (fun Kc hKc => ?_) (AllReadyH.cons rfl (fun Kc hKc => ?_) AllReadyH.nil)
          · go_simp
            go_wp2_with ((with_reducible refine (PCT.out _).mono ?_; rintro e wq ⟨rfl, hb'⟩; try have HAQ := Lib.hid (HAQ.out.kept hb')))
            refine hKc.out _ _ ?_ (fun hHeld => ?_)
            · first | assumption | exact hHeld | exact btr hHeld hb' | exact hHeld.alloc hHeld.size _ | exact below_setRow hHeld hPrev.out _
            clear hKc Kc
            refine wpAnyH_ready (rs := [7]) (by kernel_rfl) (by simp) ?_
            refine AllReadyH.cons rfl (fun Kc hKc => ?_) AllReadyH.nil
            go_simp
            have hPrev := Lib.hid hHeld.size
            refine hKc.out _ _ ?_ (fun hHeld => ?_)
            · first | assumption | exact hHeld | exact btr hHeld hb' | exact hHeld.alloc hHeld.size _ | exact below_setRow hHeld hPrev.out _
            clear hKc Kc
            first | have HAQ := Lib.hid (fresh_of hHeld) | have HAQ := Lib.hid (fresh_drew hHeld)
            refine wpAnyH_ready (rs := [8]) (by kernel_rfl) (by simp) ?_
            refine AllReadyH.cons rfl (fun Kc hKc => ?_) AllReadyH.nil
            have HAR := Lib.hid (HAQ.out.rowNew (cs' := #[.int .u64 (k : Int), .int .i64 y])); refine wp_store_row 38 _ _ rfl _ #[.int .u64 (k : Int), .int .i64 y] rfl (by rfl) 38 _ HAQ.out (by kernel_rfl) rfl (by simp [Value.oneCell']) ?_
            refine hKc.out _ _ ?_ (fun hHeld => ?_)
            · first | assumption | exact hHeld | exact btr hHeld hb' | exact hHeld.alloc hHeld.size _ | exact below_setRow hHeld hPrev.out _
            clear hKc Kc
            refine wpAnyH_done (by kernel_rfl) ?_ _
            have HBZ := Lib.hid hHeld
            clear hHeld
            go_wp2_with fail
            go_meet
            exact ⟨_, rfl, HAR.out, HBZ.out⟩
          · go_simp
            have hPrev := Lib.hid hHeld.size
            refine hKc.out _ _ ?_ (fun hHeld => ?_)
            · first | assumption | exact hHeld | exact btr hHeld hb' | exact hHeld.alloc hHeld.size _ | exact below_setRow hHeld hPrev.out _
            clear hKc Kc
            first | have HAQ := Lib.hid (fresh_of hHeld) | have HAQ := Lib.hid (fresh_drew hHeld)
            refine wpAnyH_ready (rs := [6]) (by kernel_rfl) (by simp) ?_
            refine AllReadyH.cons rfl (fun Kc hKc => ?_) AllReadyH.nil
            go_simp
            go_wp2_with ((with_reducible refine (PCT.out _).mono ?_; rintro e wq ⟨rfl, hb'⟩; try have HAQ := Lib.hid (HAQ.out.kept hb')))
            refine hKc.out _ _ ?_ (fun hHeld => ?_)
            · first | assumption | exact hHeld | exact btr hHeld hb' | exact hHeld.alloc hHeld.size _ | exact below_setRow hHeld hPrev.out _
            clear hKc Kc
            refine wpAnyH_ready (rs := [8]) (by kernel_rfl) (by simp) ?_
            refine AllReadyH.cons rfl (fun Kc hKc => ?_) AllReadyH.nil
            have HAR := Lib.hid (HAQ.out.rowNew (cs' := #[.int .u64 (k : Int), .int .i64 y])); refine wp_store_row 38 _ _ rfl _ #[.int .u64 (k : Int), .int .i64 y] rfl (by rfl) 38 _ HAQ.out (by kernel_rfl) rfl (by simp [Value.oneCell']) ?_
            refine hKc.out _ _ ?_ (fun hHeld => ?_)
            · first | assumption | exact hHeld | exact btr hHeld hb' | exact hHeld.alloc hHeld.size _ | exact below_setRow hHeld hPrev.out _
            clear hKc Kc
            refine wpAnyH_done (by kernel_rfl) ?_ _
            have HBZ := Lib.hid hHeld
            clear hHeld
            go_wp2_with fail
            go_meet
            exact ⟨_, rfl, HAR.out, HBZ.out⟩
        case rest =>
          obtain ⟨U, rfl, hu, hb⟩ := hcut
          have HST2 := Lib.hid (HST.out.kept hb)
          have HFE2 := Lib.hid (HFE.out.kept hb)
          have u0 := hu.cell 0
          have u1 := hu.cell 1
          simp at u0 u1
          clear hu hb HST HFE q5 HUA HRG HGL
          generalize wc = w6 at *
          go_wp2_with (with_reducible refine (HUP.out _ HST2.out).mono ?_; rintro e w7 ⟨rfl, hst, hrg⟩; have HST3 := Lib.hid hst; have HFE3 := Lib.hid (HFE2.out.rgr hrg (Nat.le_refl _) HCC.out); clear hst hrg u0 u1)
          go_roundw
          case rel => exact ⟨t + 1, by go_num, by omega, by omega, HST3.out, HFE3.out⟩
          case measure => simp [intOf]; omega
      · have HT : Hid (min n 60 = t) := Lib.hid (by omega)
        have HFD : Hid (FedE w { heap := wr.heap, tape := wr.tape, drawn := wr.drawn + 1, os := wr.os, output := wr.output } w.heap.size D #[.int .i64 xb, .int .i64 xr, .int .i64 xd, .int .i64 xm, .int .u64 s, .slice ao n cap] #[.int .i64 0, .int .i64 0, .int .i64 0, .int .i64 0, .int .u64 0] #[.int .i64 (b : Int), .int .i64 r, .int .i64 d, .int .i64 m, .int .u64 s]) := Lib.hid (HFE.out.kept (below_drewN (Below.refl _ _) 1))
        have HSD : Hid (StIs { heap := wr.heap, tape := wr.tape, drawn := wr.drawn + 1, os := wr.os, output := wr.output } w.heap.size S L (b : Int) r d m s X A G C (fedZ (b : Int) r d m s (fedKK (b : Int) r d m ks) (fedXX m ds) t)) := Lib.hid (HST.out.kept (below_drewN (Below.refl _ _) 1))
        by_cases ht : t < n
        · have hz1 : (t : Int) < (n : Int) := by omega
          have hz2 : ¬ (t : Int) < 60 := by omega
          go_wp2_with fail
          refine wp_region_still_tail 3 (by kernel_rfl) (by kernel_rfl) ?_
          simp only [List.take_succ_cons, List.take_zero, List.drop_succ_cons, List.drop_zero]
          generalize ({ heap := wr.heap, tape := wr.tape, drawn := wr.drawn + 1, os := wr.os, output := wr.output } : World) = wd at *
          have hcr := HFD.out.c.range 0 [.int .i64 (b : Int), .int .i64 r, .int .i64 d, .int .i64 m, .int .u64 s] (fun j u hu => by rw [Nat.zero_add]; simpa using hu)
          repeat (first | refine wpStill_load_mid (by rfl) 24 _ rfl D 0 rfl [.int .i64 (b : Int), .int .i64 r, .int .i64 d, .int .i64 m, .int .u64 s] _ hcr Try.underlying24 rfl (by kernel_rfl) ?_ | still_step)
          refine wpStill_nil ?_
          try simp only [Act.put, List.setIfInBounds_toArray, List.set_cons_zero, List.set_cons_succ, List.getElem_toArray, List.getElem_cons_zero, List.getElem_cons_succ]
          refine wpList_store_row rfl 24 _ _ rfl (w.heap.size + 1) #[.int .i64 (b : Int), .int .i64 r, .int .i64 d, .int .i64 m, .int .u64 s] rfl (by rfl) 24 _ HFD.out.z (by kernel_rfl) rfl (by simp [Value.oneCell']) ?_
          have HZP : Hid (Blk (wd.setRow (w.heap.size + 1) #[.int .i64 (b : Int), .int .i64 r, .int .i64 d, .int .i64 m, .int .u64 s]) (w.heap.size + 1) 24 #[.int .i64 (b : Int), .int .i64 r, .int .i64 d, .int .i64 m, .int .u64 s]) := Lib.hid HFD.out.z.rowNew
          have HQ : Hid (FedPost w b r d m s ks ds n (.returned (.tuple #[.pointer (some ⟨S, 0, none⟩), .agg #[.int .i64 (b : Int), .int .i64 r, .int .i64 d, .int .i64 m, .int .u64 s]])) (wd.setRow (w.heap.size + 1) #[.int .i64 (b : Int), .int .i64 r, .int .i64 d, .int .i64 m, .int .u64 s])) := Lib.hid ⟨S, L, X, A, G, C, rfl, HSS.out, by
            rw [HT.out]
            exact HSD.out.far HFD.out.z ⟨by decide, by decide, by decide, by decide⟩ ⟨by decide, by decide⟩ (grown_setRow _ _ _), below_setRow HFD.out.b (by omega) _⟩
          generalize (wd.setRow (w.heap.size + 1) #[.int .i64 (b : Int), .int .i64 r, .int .i64 d, .int .i64 m, .int .u64 s]) = wz at *
          go_wp2_with fail
          refine bodyPost_ret (results_tmp_row rfl _ _ (w.heap.size + 1) 24 _ (0, 0) _ rfl HZP.out Try.underlying24 rfl (by kernel_rfl)) rfl ?_
          exact HQ.out
        · have hz1 : ¬ (t : Int) < (n : Int) := by omega
          go_wp2_with fail
          refine wp_region_still_tail 3 (by kernel_rfl) (by kernel_rfl) ?_
          simp only [List.take_succ_cons, List.take_zero, List.drop_succ_cons, List.drop_zero]
          generalize ({ heap := wr.heap, tape := wr.tape, drawn := wr.drawn + 1, os := wr.os, output := wr.output } : World) = wd at *
          have hcr := HFD.out.c.range 0 [.int .i64 (b : Int), .int .i64 r, .int .i64 d, .int .i64 m, .int .u64 s] (fun j u hu => by rw [Nat.zero_add]; simpa using hu)
          repeat (first | refine wpStill_load_mid (by rfl) 24 _ rfl D 0 rfl [.int .i64 (b : Int), .int .i64 r, .int .i64 d, .int .i64 m, .int .u64 s] _ hcr Try.underlying24 rfl (by kernel_rfl) ?_ | still_step)
          refine wpStill_nil ?_
          try simp only [Act.put, List.setIfInBounds_toArray, List.set_cons_zero, List.set_cons_succ, List.getElem_toArray, List.getElem_cons_zero, List.getElem_cons_succ]
          refine wpList_store_row rfl 24 _ _ rfl (w.heap.size + 1) #[.int .i64 (b : Int), .int .i64 r, .int .i64 d, .int .i64 m, .int .u64 s] rfl (by rfl) 24 _ HFD.out.z (by kernel_rfl) rfl (by simp [Value.oneCell']) ?_
          have HZP : Hid (Blk (wd.setRow (w.heap.size + 1) #[.int .i64 (b : Int), .int .i64 r, .int .i64 d, .int .i64 m, .int .u64 s]) (w.heap.size + 1) 24 #[.int .i64 (b : Int), .int .i64 r, .int .i64 d, .int .i64 m, .int .u64 s]) := Lib.hid HFD.out.z.rowNew
          have HQ : Hid (FedPost w b r d m s ks ds n (.returned (.tuple #[.pointer (some ⟨S, 0, none⟩), .agg #[.int .i64 (b : Int), .int .i64 r, .int .i64 d, .int .i64 m, .int .u64 s]])) (wd.setRow (w.heap.size + 1) #[.int .i64 (b : Int), .int .i64 r, .int .i64 d, .int .i64 m, .int .u64 s])) := Lib.hid ⟨S, L, X, A, G, C, rfl, HSS.out, by
            rw [HT.out]
            exact HSD.out.far HFD.out.z ⟨by decide, by decide, by decide, by decide⟩ ⟨by decide, by decide⟩ (grown_setRow _ _ _), below_setRow HFD.out.b (by omega) _⟩
          generalize (wd.setRow (w.heap.size + 1) #[.int .i64 (b : Int), .int .i64 r, .int .i64 d, .int .i64 m, .int .u64 s]) = wz at *
          go_wp2_with fail
          refine bodyPost_ret (results_tmp_row rfl _ _ (w.heap.size + 1) 24 _ (0, 0) _ rfl HZP.out Try.underlying24 rfl (by kernel_rfl)) rfl ?_
          exact HQ.out
end Go.Proofs.Ythbkljeibmkimaa
