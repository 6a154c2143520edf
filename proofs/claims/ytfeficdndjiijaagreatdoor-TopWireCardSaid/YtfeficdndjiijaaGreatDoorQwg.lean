import Derived.Test.YtfeficdndjiijaaGreatDoorQwf
import Derived.StillTail
import Derived.Deep.MidRow
import Derived.Test.YtfeficdndjiijaaGreatDoorQwa
import Derived.Maps.OwnOps
import Derived.Maps.OwnSet
import Derived.Maps.Views
import Derived.Maps.Keyed
import Derived.Shelf.SlGeneric
import Derived.Shelf.SlLaysZI
import Derived.Shelf.SlLaysM
import Derived.Ground.GgzProg
import Derived.Ground.SlgmProg
import Derived.Test.YtfeficdndjiijaaGreatDoorProg
import Derived.Shelf.SlIterI.Nil
import Derived.Shelf.SortM.Plain
import Derived.Shelf.SortM.SortNone
import Derived.Deep.Cut
/-
  Contracts of the functions that TopWire reaches, and the plain laws that it leans on. Conditions: none beyond those stated at each theorem.
-/
namespace Go.Proofs.YtfeficdndjiijaaGreatDoor
open Go.RowKit
set_option linter.unusedVariables false
set_option linter.unusedSimpArgs false

def Stays (PC : Value → World → Prop) : Prop := ∀ c w w', PC c w → Below w.heap.size w w' → PC c w'
set_option maxRecDepth 100000 in
set_option maxHeartbeats 4000000 in
theorem parse_of (PC : Value → World → Prop) (hPC : Stays PC) (l : List UInt8) (ws : List (List UInt8)) (hl : l = joinW ws) (hg : ∀ a ∈ ws, GoodW a) (hasc : Asc l) (hn : l.length ≤ 65536) (hwl : ws.length ≤ 65536) (hws : ws ≠ []) (w : World) (ht : Tab w)
  (hcmd : ∀ (w1 : World) (R : Nat) (v : Value) (en : Int), w.heap.size ≤ w1.heap.size → Rd w1 R v 0 en → WdAt w1 v ws → Tab w1 →
   Calls Tryz.prog 44 #[.pointer (some ⟨R, 0, none⟩)] w1 fun e w' => ∃ c, e = .returned c ∧ PC c w' ∧ Rd w' R v (ws.length : Int) en ∧ w1.grownBy w' (some R)) :
  Calls Tryz.prog 21 #[.string (sB l)] w fun e w' => ∃ c, e = .returned (.tuple #[c, .int .i64 0, .int .i64 0]) ∧ PC c w' ∧ Below w.heap.size w w' := by
 have PT := Lib.hid (fun w => torn_any (sB l) (fun i h => hasc.str i h) w)
 have PW := Lib.hid (fun w => words_any l ws hl hg hn w)
 have HT := Lib.hid ht
 have HC := Lib.hid hcmd
 have HPC := Lib.hid hPC
 have HWS := Lib.hid hws
 have hsz : (sB l).size = l.length := sB_size l
 obtain ⟨n, hnn⟩ : ∃ n, n = l.length := ⟨_, rfl⟩
 rw [← hnn] at hsz hn
 have hn' : ¬ ((n : Int) > 65536) := by omega
 clear hl hg hasc ht hcmd hPC hws hnn
 generalize sB l = S at *
 go_enter Tryz.func21, Tryz.ntmps21
 go_wp2_with fail
 with_reducible refine (PT.out _).mono ?_
 rintro e w2 ⟨rfl, hb⟩
 have HB2 := Lib.hid hb
 have HT2 := Lib.hid (HT.out.kept hb)
 clear hb
 go_wp2_with fail
 with_reducible refine (PW.out _).mono ?_
 rintro e w3 ⟨v, rfl, hv, hb⟩
 have HB3 := Lib.hid (btr HB2.out hb)
 have HT3 := Lib.hid (HT2.out.kept hb)
 have hat := hv.at_ HWS.out
 obtain ⟨g, cap, cur, rfl, hgb, hgc⟩ := hat
 have HV3 : Hid (WdAt w3 (.slice (some ⟨g, 0, none⟩) ws.length cap) ws) := Lib.hid ⟨g, cap, cur, rfl, hgb, hgc⟩
 obtain ⟨m, hm⟩ : ∃ m, m = ws.length := ⟨_, rfl⟩
 have HM := Lib.hid hm
 have hm0 : 0 < m := by rw [hm]; exact List.length_pos_iff.2 HWS.out
 rw [← hm] at HV3 ⊢
 rw [← hm] at hwl
 rw [← hm] at HC
 clear hb hv hgb hgc hm
 obtain ⟨w4, hw4⟩ : ∃ w4, w4 = w3.alloc (.cells #[.slice (some ⟨g, 0, none⟩) m cap, .int .i64 0, .int .i64 (-1), .int .i64 (n : Int)] 107) := ⟨_, rfl⟩
 have hb4 : Below w3.heap.size w3 w4 := by rw [hw4]; exact (Below.refl _ w3).alloc (Nat.le_refl _) _
 have hr4 : Rd w4 w3.heap.size (.slice (some ⟨g, 0, none⟩) m cap) 0 (n : Int) := by rw [hw4]; exact Blk.new w3 _ _
 have HV4 := Lib.hid (HV3.out.kept hb4)
 have HT4 := Lib.hid (HT3.out.kept hb4)
 have HB4 := Lib.hid (btr HB3.out hb4)
 have HR4 := Lib.hid hr4
 have PC4 := Lib.hid (HC.out w4 w3.heap.size _ (n : Int) HB4.out.size HR4.out HV4.out HT4.out)
 have hR := HB3.out.size
 have c0 := hr4.cell 0
 simp at c0
 have hm1 : ¬ (m = 0) := by omega
 have hm2 : ¬ ((m : Int) = 0) := by omega
 clear hb4 hr4
 go_wp2_with fail
 rw [← hw4]
 clear hw4
 generalize w3.heap.size = R at *
 go_wp2_with fail
 with_reducible refine PC4.out.mono ?_
 rintro e w5 ⟨c, rfl, hpc, hr5, hg5⟩
 have HPC5 := Lib.hid hpc
 have HB5 : Hid (Below w.heap.size w w5) := Lib.hid (HB4.out.grown hg5 HB4.out.size (fun k e => by have := Option.some.inj e; omega))
 have c0 := hr5.cell 0
 have c1 := hr5.cell 1
 have c2 := hr5.cell 2
 simp at c0 c1 c2
 have hbad : ((-1 : Int) < 0) := by decide
 have hbad2 : ¬ ((0 : Int) ≤ -1) := by decide
 have hlt : ¬ ((m : Int) < (m : Int)) := by omega
 have HR5 := Lib.hid hr5
 clear hpc hr5 hg5 PC4
 go_wp2_with fail
 go_quiet (fail)
 go_wp2_with fail
 go_ret3
 exact ⟨c, rfl, HPC.out _ _ _ HPC5.out (below_drewN (Below.refl _ _) _), btr HB5.out (below_drewN (Below.refl _ _) _)⟩
end Go.Proofs.YtfeficdndjiijaaGreatDoor


namespace Go.Proofs.YtfeficdndjiijaaGreatDoor
open Go
set_option linter.unusedVariables false
set_option linter.unusedSimpArgs false
section
variable {P : Program} {ops : Array Oper} {md : Region.Mode} {w : World}
def sinkS (md : Region.Mode) (ops : Array Oper) (skip : List Nat) (n : Nat) : Bool :=
  (List.range n).all fun i => skip.contains i || (List.range (n + 1)).any fun j => decide (i < j) && Region.waitsFor md ops j i
theorem tail_waits_s {skip : List Nat} {n : Nat} {listed : Array Bool} (hs : sinkS md ops skip n = true) (hc : Region.chainB md ops n = true) (hn : n < ops.size) (inv : HeadInv md ops n listed) (hk : ∀ i ∈ skip, listed.getD i true ≠ false) :
  ∀ (d i : Nat), n - i = d → i < n → listed.getD i true = false → ∀ t, n ≤ t → t ∉ Region.ready md ops listed := by
 intro d
 induction d using Nat.strongRecOn with
 | _ d ih =>
  intro i hd hi hun t ht hr
  obtain ⟨_, ot, hot, hall⟩ := mem_ready.1 hr
  have htlt : t < ops.size := (Array.getElem?_eq_some_iff.1 hot).1
  by_cases htn : t = n
  ·subst htn
   have h0 := List.all_eq_true.1 hs i (List.mem_range.2 hi)
   rw [Bool.or_eq_true] at h0
   have h1 : (List.range (t + 1)).any (fun j => decide (i < j) && Region.waitsFor md ops j i) = true := by
    rcases h0 with h0 | h0
    ·exact absurd hun (hk i (by simpa using h0))
    ·exact h0
   obtain ⟨j, hj, hj2⟩ := List.any_eq_true.1 h1
   simp only [Bool.and_eq_true, decide_eq_true_eq] at hj2
   obtain ⟨oj, hoj, e, he, hb, hon⟩ := Region.waitsFor_spec hj2.2
   have hjle : j ≤ t := by have := List.mem_range.1 hj; omega
   by_cases hjt : j = t
   ·subst hjt
    have : oj = ot := Option.some.inj (hoj.symm.trans hot)
    subst this
    have h2 := hall e he hb
    rw [hon, getD_both hun] at h2
    cases h2
   ·cases hl : listed.getD j false with
    | true =>
     have h2 := inv.closed j oj hoj hl e he hb
     rw [hon, getD_both hun] at h2
     cases h2
    | false =>
     have hjs : j < listed.size := by rw [inv.size]; omega
     exact ih (t - j) (by omega) j rfl (by omega) (getD_in hjs hl) t (Nat.le_refl _) hr
  ·have h1 := List.all_eq_true.1 hc t (List.mem_range.2 htlt)
   simp only [Bool.or_eq_true, decide_eq_true_eq] at h1
   rcases h1 with h1 | h1
   ·omega
   ·obtain ⟨o', ho', e, he, hb, hon⟩ := Region.waitsFor_spec h1
    have : o' = ot := Option.some.inj (ho'.symm.trans hot)
    subst this
    have h2 := hall e he hb
    rw [hon, getD_both (inv.tail (t - 1) (by omega) (by omega))] at h2
    cases h2
theorem skip_set {skip : List Nat} {listed : Array Bool} (hk : ∀ i ∈ skip, listed.getD i true ≠ false) (j : Nat) : ∀ i ∈ skip, (listed.setIfInBounds j true).getD i true ≠ false := fun i hi => by
  by_cases h : j = i
  · subst h
    intro h2
    rcases Nat.lt_or_ge j listed.size with h3 | h3
    · simp [h3] at h2
    · simp [Array.getElem?_eq_none h3] at h2
  · rw [getD_set_ne true h]; exact hk i hi
theorem wpAnyL_first_s {skip : List Nat} {n i : Nat} {oi : Oper} {v : Value} {L : Array Bool → Act → Prop} (hi : ops[i]? = some oi) (hsel : ∀ (j : Nat) (o : Oper) cs b, ops[j]? = some o → o.op ≠ .select cs b)
  (hs : sinkS md ops skip n = true) (hc : Region.chainB md ops n = true) (hn : n < ops.size) (hin : i < n)
  (hdone : ∀ listed a, L listed a → ∀ j ∈ Region.ready md ops listed, n ≤ j) :
  ∀ (f : Nat) (listed : Array Bool) (a : Act), HeadInv md ops n listed → (∀ i ∈ skip, listed.getD i true ≠ false) →
   (∀ j oj, ops[j]? = some oj → j ≠ i → listed.getD j true = false → (∀ e ∈ oj.after, Region.binds md e = true → e.on ≠ i) → oi.apart ops oj = true) →
   i ∈ Region.ready md ops listed → YieldsAt P ops w oi v a →
   wpAnyL P md ops w n L f (listed.setIfInBounds i true) (a.put oi.dst v) → wpAnyL P md ops w n L (f + 1) listed a := by
 intro f
 induction f with
 | zero =>
  intro listed a inv hk _ hr hy H
  have hun := (mem_ready.1 hr).1
  refine ⟨fun h => (by rw [h] at hr; cases hr), fun j hj => ?_⟩
  have hjn : j < n := by
   rcases Nat.lt_or_ge j n with h | h
   ·exact h
   ·exact absurd hj (tail_waits_s hs hc hn inv hk _ i rfl hin hun j h)
  refine ⟨hjn, ?_⟩
  by_cases hji : j = i
  ·subst hji; exact hy.stOp hi H
  ·have := hdone _ _ H j (ready_mono hj hji)
   omega
 | succ f ih =>
  intro listed a inv hk hfree hr hy H
  have hun := (mem_ready.1 hr).1
  refine ⟨fun h => (by rw [h] at hr; cases hr), fun j hj => ?_⟩
  have hjn : j < n := by
   rcases Nat.lt_or_ge j n with h | h
   ·exact h
   ·exact absurd hj (tail_waits_s hs hc hn inv hk _ i rfl hin hun j h)
  refine ⟨hjn, ?_⟩
  by_cases hji : j = i
  ·subst hji; exact hy.stOp hi H
  ·have h1 := (H.2 j (ready_mono hj hji)).2
   obtain ⟨hjun, oj, hoj, hall⟩ := mem_ready.1 hj
   have hnot : ∀ e ∈ oj.after, Region.binds md e = true → e.on ≠ i := fun e he hb heq => by
    have h1 := hall e he hb
    rw [heq, getD_both hun] at h1
    cases h1
   have h2 := stOp_put hoj (hfree j oj hoj hji hjun hnot) (fun cs b => hsel i oi cs b hi) (fun cs b => hsel j oj cs b hoj) hy h1
   have hfree' : ∀ k ok, ops[k]? = some ok → k ≠ i → (listed.setIfInBounds j true).getD k true = false →
     (∀ e ∈ ok.after, Region.binds md e = true → e.on ≠ i) → oi.apart ops ok = true := fun k ok hk hki hun hno => by
    refine hfree k ok hk hki ?_ hno
    by_cases hjk : j = k
    ·subst hjk; exact hjun
    ·rw [getD_set_ne true hjk] at hun; exact hun
   refine stOp_mono (fun a' h3 => ih (listed.setIfInBounds j true) a' (inv.set hj hjn) (skip_set hk j) hfree' (ready_mono hr (Ne.symm hji)) h3.1 ?_) h2
   rw [Array.setIfInBounds_comm _ _ hji]
   exact h3.2
def lexHeadM (md : Region.Mode) (ops : Array Oper) (g : Nat) : List Bool → Nat → Array Bool → Bool
  | [], k, listed => Region.seqB md ops g k listed
  | true :: m, k, listed => (Region.ready md ops listed).contains k && Region.free md ops listed k && lexHeadM md ops g m (k + 1) (listed.setIfInBounds k true)
  | false :: m, k, listed => lexHeadM md ops g m (k + 1) listed
def dropAt {α : Type} : List Bool → List α → List α
  | true :: m, x :: l => x :: dropAt m l
  | false :: m, _ :: l => dropAt m l
  | _, _ => []
def cntM : List Bool → Nat
  | [] => 0
  | true :: m => cntM m + 1
  | false :: m => cntM m
theorem wpAnyL_lexM {skip : List Nat} {n g : Nat} {Lq : Act → Prop} (hsel : Region.noSelect ops = true) (hs : sinkS md ops skip n = true) (hc : Region.chainB md ops n = true) (hn : n < ops.size) :
  ∀ (m : List Bool) (l : List Oper) (k : Nat) (listed : Array Bool) (a : Act), (∀ j, j < m.length → l[j]? = ops[k + j]?) → m.length ≤ l.length → k + m.length = n → HeadInv md ops n listed → (∀ i ∈ skip, listed.getD i true ≠ false) →
  lexHeadM md ops g m k listed = true → wpStill P ops w Lq (dropAt m l) a →
  wpAnyL P md ops w n (fun listed' a' => Region.seqB md ops g n listed' = true ∧ Lq a') (cntM m) listed a
 | [], l, k, listed, a, _, _, hk, _, _, hB, h => by
  have : k = n := by simpa using hk
  subst this
  exact ⟨by simpa [lexHeadM] using hB, by cases l <;> exact h⟩
 | _ :: _, [], k, listed, a, _, hl, _, _, _, _, _ => by simp at hl
 | true :: m, o :: l, k, listed, a, hl, hml, hk, inv, hsk, hB, h => by
  have h0 : ops[k]? = some o := by simpa using (hl 0 (by simp)).symm
  simp only [lexHeadM, Bool.and_eq_true] at hB
  obtain ⟨⟨hr, hf⟩, hB'⟩ := hB
  have hkn : k < n := by simp only [List.length_cons] at hk; omega
  have hr' : k ∈ Region.ready md ops listed := by simpa using hr
  have hst : stOp P ops w k (wpStill P ops w Lq (dropAt m l)) a := by unfold stOp; simp only [h0]; exact h
  obtain ⟨v, hy, hK⟩ := yieldsAt_of_stOp h0 hst
  exact wpAnyL_first_s h0 (Region.noSelect_spec hsel) hs hc hn hkn (fun listed' a' hL => seqB_ready hL.1) (cntM m) listed a inv hsk (Region.free_spec h0 hf) hr' hy
   (wpAnyL_lexM hsel hs hc hn m l (k + 1) _ _ (fun j hj => by have := hl (j + 1) (by simp; omega); simpa [Nat.add_assoc, Nat.add_comm 1 j] using this) (by simpa using hml) (by simp only [List.length_cons] at hk; omega) (inv.set hr' hkn) (skip_set hsk k) hB' hK)
 | false :: m, o :: l, k, listed, a, hl, hml, hk, inv, hsk, hB, h => by
  exact wpAnyL_lexM hsel hs hc hn m l (k + 1) listed a (fun j hj => by have := hl (j + 1) (by simp; omega); simpa [Nat.add_assoc, Nat.add_comm 1 j] using this) (by simpa using hml) (by simp only [List.length_cons] at hk; omega) inv hsk hB h
def closedB (md : Region.Mode) (ops : Array Oper) (listed : Array Bool) : Bool :=
  (List.range ops.size).all fun j => !(listed.getD j false) || match ops[j]? with
    | some oj => oj.after.all fun e => !(Region.binds md e) || listed.getD e.on false
    | none => true
def stillB (md : Region.Mode) (ops : Array Oper) (m : List Bool) (skip : List Nat) (listed : Array Bool) : Bool :=
  Region.noSelect ops && decide (m.length < ops.size) && sinkS md ops skip m.length && Region.chainB md ops m.length && decide (listed.size = ops.size) && closedB md ops listed &&
    ((List.range ops.size).all fun t => decide (t < m.length) || !(listed.getD t true)) && (skip.all fun i => listed.getD i true) && lexHeadM md ops (ops.size - m.length) m 0 listed
theorem wpAny_still_tail {Q : Exit → Act → World → Prop} {a : Act} {l : List Oper} {listed : Array Bool} (m : List Bool) (skip : List Nat) (f : Nat) (hf : f = cntM m + (l.toArray.size - m.length)) (hB : stillB .any l.toArray m skip listed = true)
  (h : wpStill P l.toArray w (fun a' => wpList P l.toArray Q (l.drop m.length) a' w) (dropAt m l) a) : wpAny P .any l.toArray Q f listed a w := by
 simp only [stillB, Bool.and_eq_true, decide_eq_true_eq] at hB
 obtain ⟨⟨⟨⟨⟨⟨⟨⟨hsel, hn⟩, hs⟩, hc⟩, hsz⟩, hcl⟩, htl⟩, hsk⟩, hlex⟩ := hB
 have inv0 : HeadInv .any l.toArray m.length listed := by
  refine ⟨hsz, fun j oj hj hl e he hb => ?_, fun t ht ht' => ?_⟩
  ·have h1 := List.all_eq_true.1 hcl j (List.mem_range.2 (Array.getElem?_eq_some_iff.1 hj).1)
   rw [hl, hj] at h1
   simp only [Bool.not_true, Bool.false_or] at h1
   have h2 := Array.all_eq_true'.1 h1 e he
   rw [hb] at h2
   simpa using h2
  ·have h1 := List.all_eq_true.1 htl t (List.mem_range.2 ht')
   have h2 : ¬ t < m.length := by omega
   simpa [h2] using h1
 have hsk' : ∀ i ∈ skip, listed.getD i true ≠ false := fun i hi => by
  have := List.all_eq_true.1 hsk i hi
  rw [this]; decide
 have H := wpAnyL_lexM (md := .any) (g := l.toArray.size - m.length) hsel hs hc hn m l 0 listed a (fun j hj => by simp) (by simp at hn; omega) (by simp) inv0 hsk' hlex h
 have hdl : (l.drop m.length).length = l.toArray.size - m.length := by simp
 have := wpAny_of_head (Q' := Q) (g := l.toArray.size - m.length) (fun listed a' hL => by
  have := wpAny_of_seq (md := .any) (Q' := Q) (l.drop m.length) m.length listed a' w (fun j => by simp [List.getElem?_drop]) (by rw [hdl]; exact hL.1) hL.2
  rwa [hdl] at this) (cntM m) listed a H
 rw [hf]
 exact this
end
section
variable {P : Program}
theorem still_load_mid {op : Oper} {a : Act} {w : World} {K : Act → Prop} (ty : TypeId) (x : Operand) (ho : op.op = .load ty x)
    (b o : Nat) (hx : a.eval x = .pointer (some ⟨b, o, none⟩)) (cs : List Value) (d : TypeDesc) (hc : w.rangeAt b o cs)
    (hu : P.underlying ty = some d) (hd : d.isRow = true) (hi : (P.info? ty).map (·.size) = some cs.length)
    (h : K (a.put op.dst (.agg cs.toArray))) : op.still P a w K := by
  unfold Oper.still execOp
  simp only [ho, hx, Instr.loadAt, Instr.sureAddr, Sem.run_bind, Sem.run_pure, Result.andThen_ok, run_loadVar_mid w b o ty cs d hc hu hd hi, Oper.stillUpon]
  exact ⟨trivial, h⟩
theorem wpStill_load_mid {ops : Array Oper} {rest : List Oper} {op : Oper} {a : Act} {w : World} {Q : Act → Prop} (hw : Region.wanted op (yielded ops a.tmps) = true) (ty : TypeId) (x : Operand) (ho : op.op = .load ty x)
    (b o : Nat) (hx : a.eval x = .pointer (some ⟨b, o, none⟩)) (cs : List Value) (d : TypeDesc) (hc : w.rangeAt b o cs)
    (hu : P.underlying ty = some d) (hd : d.isRow = true) (hi : (P.info? ty).map (·.size) = some cs.length)
    (h : wpStill P ops w Q rest (a.put op.dst (.agg cs.toArray))) : wpStill P ops w Q (op :: rest) a := by
  refine wpStill_step (fun K hK => ?_)
  rw [if_pos hw]
  exact still_load_mid ty x ho b o hx cs d hc hu hd hi (hK _ h)
end
end Go.Proofs.YtfeficdndjiijaaGreatDoor


namespace Go.Proofs.YtfeficdndjiijaaGreatDoor
open Go.RowKit Go.Maps
set_option linter.unusedVariables false
set_option linter.unusedSimpArgs false

theorem blkRange {w : World} {g : Nat} {t : TypeId} {cs : Array Value} (h : Blk w g t cs) (o : Nat) (xs : List Value) (hx : ∀ (j : Nat) (u : Value), xs[j]? = some u → cs[o + j]? = some u) : w.rangeAt g o xs := fun j u hu => by
  rw [h.cell (o + j)]
  exact hx j u hu
theorem wpStill_load_blk {P : Program} {ops : Array Oper} {rest : List Oper} {op : Oper} {a : Act} {w : World} {Q : Act → Prop} (hw : Region.wanted op (yielded ops a.tmps) = true) (ty : TypeId) (x : Operand) (ho : op.op = .load ty x)
    (b : Nat) (hx : a.eval x = .pointer (some ⟨b, 0, none⟩)) (cs : Array Value) (t : TypeId) (d : TypeDesc) (hc : Blk w b t cs)
    (hu : P.underlying ty = some d) (hd : d.isRow = true) (hi : (P.info? ty).map (·.size) = some cs.size)
    (h : wpStill P ops w Q rest (a.put op.dst (.agg cs))) : wpStill P ops w Q (op :: rest) a :=
  wpStill_load_mid hw ty x ho b 0 hx cs.toList d (blkRange hc 0 cs.toList (fun j u hu => by rw [Nat.zero_add]; simpa using hu)) hu hd (by simpa using hi) (by simpa using h)
def thPtr (p : Option Nat) : Value := .pointer (p.map fun b => ⟨b, 0, none⟩)
def thVal (p q : Option Nat) : Value := .agg #[thPtr p, thPtr q]
def thNum (p : Option Nat) : DataW Unit := match p with
  | none => .nil
  | some b => .lit (.int .u64 (b : Int))
def thD (p q : Option Nat) : DataW Unit := .agg [thNum p, thNum q]
theorem thPtr_inj {p q : Option Nat} (h : thPtr p = thPtr q) : p = q := by
  unfold thPtr at h
  cases p <;> cases q <;> simp_all
theorem thVal_inj {p q p' q' : Option Nat} (h : thVal p q = thVal p' q') : p = p' ∧ q = q' := by
  unfold thVal at h
  simp at h
  exact ⟨thPtr_inj h.1, thPtr_inj h.2⟩
theorem thNum_inj {p q : Option Nat} (h : thNum p = thNum q) : p = q := by
  unfold thNum at h
  cases p <;> cases q <;> simp_all
  omega
theorem thD_inj {p q p' q' : Option Nat} (h : thD p q = thD p' q') : p = p' ∧ q = q' := by
  unfold thD at h
  simp at h
  exact ⟨thNum_inj h.1, thNum_inj h.2⟩
open Classical in
noncomputable def thElem (v : Value) : Option (DataW Unit × List MemPlace) :=
  if h : ∃ pq : Option Nat × Option Nat, v = thVal pq.1 pq.2 then some (thD h.choose.1 h.choose.2, []) else none
theorem thElem_mk (p q : Option Nat) : thElem (thVal p q) = some (thD p q, []) := by
  have h : ∃ pq : Option Nat × Option Nat, thVal p q = thVal pq.1 pq.2 := ⟨(p, q), rfl⟩
  unfold thElem
  rw [dif_pos h]
  have := thVal_inj h.choose_spec
  rw [← this.1, ← this.2]
theorem thElem_inv {v : Value} {p q : Option Nat} {ps : List MemPlace} (h : thElem v = some (thD p q, ps)) : v = thVal p q := by
  unfold thElem at h
  split at h
  · rename_i hx
    simp only [Option.some.injEq, Prod.mk.injEq] at h
    have := thD_inj h.1
    rw [hx.choose_spec, this.1, this.2]
  · cases h
theorem keyInt : Keyed Tryz.prog 3 := int_keyed Tryz.underlying3
theorem keyOfInt (h : Int) (h0 : In64 h) : keyOf Tryz.prog 3 (.int .i64 h) = some (.int .i64 h) := keyOf_int_mk Tryz.underlying3 (by
  simp [Lit.wf, IntKind.min, IntKind.max, IntKind.signed, IntKind.bits]
  unfold In64 at h0
  omega)
def AggIs (w : World) (A b n : Nat) (T : Nat → Option Nat × Option Nat) : Prop :=
  Blk w A 77 #[.map (some b), .int .i64 (n : Int)] ∧ ∃ D : DataW Unit, w.ownsMap Tryz.prog 3 thElem b n D ∧ Maps.size D = n ∧
    ∀ h : Int, In64 h → has D (.int .i64 h) = decide (1 ≤ h ∧ h ≤ (n : Int)) ∧ (1 ≤ h ∧ h ≤ (n : Int) → D.atKey (.int .i64 h) (thD none none) = thD (T h.toNat).1 (T h.toNat).2)
theorem AggIs.kept {w w' : World} {A b n : Nat} {T : Nat → Option Nat × Option Nat} (h : AggIs w A b n T) (hb : Below w.heap.size w w') : AggIs w' A b n T := by
  obtain ⟨h1, D, h2, h3⟩ := h
  exact ⟨h1.kept hb, D, h2.kept (row := none) ⟨hb.os, hb.tape, hb.output, hb.size, fun k hk _ => hb.block k hk⟩ (by simp), h3⟩
theorem AggIs.grown {w w' : World} {A b n : Nat} {T : Nat → Option Nat × Option Nat} {row : Option Nat} (h : AggIs w A b n T) (hb : w.grownBy w' row) (hA : some A ≠ row) (hB : some b ≠ row) : AggIs w' A b n T := by
  obtain ⟨h1, D, h2, h3⟩ := h
  exact ⟨h1.grown hb hA, D, h2.kept hb hB, h3⟩
theorem AggIs.lt {w : World} {A b n : Nat} {T : Nat → Option Nat × Option Nat} (h : AggIs w A b n T) : A < w.heap.size ∧ b < w.heap.size := by
  obtain ⟨h1, D, h2, h3⟩ := h
  exact ⟨h1.lt, h2.lt⟩
theorem AggIs.ne {w : World} {A b n : Nat} {T : Nat → Option Nat × Option Nat} (h : AggIs w A b n T) : A ≠ b := by
  obtain ⟨h1, D, ⟨es, clock, h2, -⟩, h3⟩ := h
  intro e
  subst e
  rw [show w.heap[A]? = _ from h1] at h2
  cases h2
def Chg (l : List Nat) (w w' : World) : Prop := w'.os = w.os ∧ w'.tape = w.tape ∧ w'.output = w.output ∧ w.heap.size ≤ w'.heap.size ∧ ∀ k, k < w.heap.size → k ∉ l → w'.heap[k]? = w.heap[k]?
theorem Chg.below {l : List Nat} {w w' : World} (h : Below w.heap.size w w') : Chg l w w' := ⟨h.os, h.tape, h.output, h.size, fun k hk _ => h.block k hk⟩
theorem Chg.gr {w w' : World} {g : Nat} (h : w.grownBy w' (some g)) : Chg [g] w w' := ⟨h.os, h.tape, h.output, h.size, fun k hk hn => h.block k hk (fun e => hn (by rw [Option.some.inj e]; simp))⟩
theorem Chg.mono {l l' : List Nat} {w w' : World} (h : Chg l w w') (hl : ∀ k ∈ l, k ∈ l' ∨ w.heap.size ≤ k) : Chg l' w w' := ⟨h.1, h.2.1, h.2.2.1, h.2.2.2.1, fun k hk hn => h.2.2.2.2 k hk (fun hm => by rcases hl k hm with h1 | h1; exact hn h1; omega)⟩
theorem Chg.trans {l : List Nat} {w w1 w2 : World} (h : Chg l w w1) (k : Chg l w1 w2) : Chg l w w2 :=
  ⟨k.1.trans h.1, k.2.1.trans h.2.1, k.2.2.1.trans h.2.2.1, Nat.le_trans h.2.2.2.1 k.2.2.2.1, fun x hx hn => (k.2.2.2.2 x (Nat.lt_of_lt_of_le hx h.2.2.2.1) hn).trans (h.2.2.2.2 x hx hn)⟩
set_option maxRecDepth 100000 in
set_option maxHeartbeats 2000000 in
theorem aggnew (w : World) : Calls Tryz.prog 13 #[] w fun e w' => ∃ A b, e = .returned (.pointer (some ⟨A, 0, none⟩)) ∧ w.heap.size ≤ A ∧ w.heap.size ≤ b ∧ AggIs w' A b 0 (fun _ => (none, none)) ∧ Below w.heap.size w w' := by
  have hmm := run_makeMap (P := Tryz.prog) 75
  go_enter Tryz.func13, Tryz.ntmps13
  go_wp2_with fail
  go_ret
  refine ⟨w.heap.size + 1, w.heap.size, rfl, by omega, Nat.le_refl _, ⟨?_, .map [], (World.ownsMap_made w _ _ _).alloc _, rfl, fun h _ => ⟨?_, fun h1 => ?_⟩⟩, ((Below.refl _ w).alloc (Nat.le_refl _) _).alloc (by simp) _⟩
  · have := Blk.new (w.alloc (.map #[] 0)) 77 #[.map (some w.heap.size), .int .i64 0]
    simpa using this
  · have e : decide (1 ≤ h ∧ h ≤ ((0 : Nat) : Int)) = false := decide_eq_false (by omega)
    rw [e]
    simp [has]
  · omega
def upT (T : Nat → Option Nat × Option Nat) (n : Nat) (p q : Option Nat) : Nat → Option Nat × Option Nat := fun k => if k = n then (p, q) else T k
theorem keyLitInt (h : Int) (h0 : In64 h) : WideAt.IsKeyLit (.int .i64 h) := keyInt.key (keyOfInt h h0)
theorem AggIs.put {p q : Option Nat} {w' : World} {A b n : Nat} {T : Nat → Option Nat × Option Nat} {D : DataW Unit} (hn : n < 32) (hm : IsMap D) (hs : Maps.size D = n) (hsz : Maps.size (D.put (.int .i64 ((n : Int) + 1)) (thD p q)) = n + 1)
  (hD : ∀ h : Int, In64 h → has D (.int .i64 h) = decide (1 ≤ h ∧ h ≤ (n : Int)) ∧ (1 ≤ h ∧ h ≤ (n : Int) → D.atKey (.int .i64 h) (thD none none) = thD (T h.toNat).1 (T h.toNat).2))
  (hb : Blk w' A 77 #[.map (some b), .int .i64 ((n : Int) + 1)]) (ho : w'.ownsMap Tryz.prog 3 thElem b (n + 1) (D.put (.int .i64 ((n : Int) + 1)) (thD p q))) : AggIs w' A b (n + 1) (upT T (n + 1) p q) := by
 refine ⟨by simpa using hb, _, ho, hsz, fun h h0 => ?_⟩
 have hn1 : In64 ((n : Int) + 1) := by unfold In64; omega
 by_cases e : h = (n : Int) + 1
 ·subst e
  refine ⟨?_, fun _ => ?_⟩
  ·rw [has_put_same hm (keyLitInt _ hn1)]
   exact (decide_eq_true (by omega)).symm
  ·rw [atKey_put_same hm (keyLitInt _ hn1)]
   have e2 : ((n : Int) + 1).toNat = n + 1 := by omega
   rw [e2]
   simp [upT]
 ·have hne : (Lit.int .i64 h) ≠ .int .i64 ((n : Int) + 1) := by simpa using e
  rw [has_put_other hne, atKey_put_other hne]
  obtain ⟨h1, h2⟩ := hD h h0
  refine ⟨?_, fun h3 => ?_⟩
  ·rw [h1]
   have : (1 ≤ h ∧ h ≤ (n : Int)) ↔ (1 ≤ h ∧ h ≤ ((n + 1 : Nat) : Int)) := by omega
   simp only [this]
  ·rw [h2 (by omega)]
   have e2 : h.toNat ≠ n + 1 := by omega
   simp [upT, e2]
theorem zeroTh (w : World) : (zeroValue 84).run Tryz.prog w = .ok (thVal none none) w := by kernel_rfl
set_option maxRecDepth 100000 in
set_option maxHeartbeats 4000000 in
theorem aggmade (w : World) (A b n : Nat) (T : Nat → Option Nat × Option Nat) (p q : Option Nat) (h : AggIs w A b n T) (hn : n < 32) :
  Calls Tryz.prog 47 #[.pointer (some ⟨A, 0, none⟩), thVal p q, .int .i64 0] w fun e w' => e = .returned (.tuple #[.iface 135 (.agg #[.int .i64 ((n : Int) + 1)]), .int .i64 0]) ∧ AggIs w' A b (n + 1) (upT T (n + 1) p q) ∧ Chg [A, b] w w' := by
 obtain ⟨h1, D, h2, h3, h4⟩ := h
 have HD := Lib.hid h4
 have HS := Lib.hid h3
 have HM := Lib.hid h2.isMap
 have HTI := Lib.hid (h2.tidy keyInt)
 have HNE : Hid (A ≠ b) := Lib.hid (AggIs.ne ⟨h1, D, h2, h3, h4⟩)
 have HLT := Lib.hid (And.intro h1.lt h2.lt)
 unfold thVal
 obtain ⟨vp, hvp⟩ : ∃ vp, vp = thPtr p := ⟨_, rfl⟩
 obtain ⟨vq, hvq⟩ : ∃ vq, vq = thPtr q := ⟨_, rfl⟩
 rw [← hvp, ← hvq]
 have HV := Lib.hid (And.intro hvp hvq)
 have hb1 : Below w.heap.size w (w.alloc (.cells #[vp, vq] 84)) := (Below.refl _ w).alloc (Nat.le_refl _) _
 have HX1 := Lib.hid (Blk.new w 84 #[vp, vq])
 have ho := h2.kept (w' := w.alloc (.cells #[vp, vq] 84)) (row := none) (below_gr hb1) (by simp)
 have HO := Lib.hid ho
 have ha := h1.kept hb1
 have HA := Lib.hid ha
 have HB1 := Lib.hid hb1
 have c0 := ha.cell 0
 have c1 := ha.cell 1
 have f1 := ha.frozen 1
 simp at c0 c1
 have hn2 : ¬ ((32 : Int) ≤ (Maps.size D : Int)) := by omega
 clear h1 h2 h3 h4 hb1 ha ho hvp hvq
 go_enter Tryz.func47, Tryz.ntmps47
 go_wp2_with (at_len; refine wpList_len_own _ rfl _ 75 rfl 3 84 Tryz.underlying75 thElem b n D rfl HO.out ?_)
 have hgA : (w.alloc (.cells #[vp, vq] 84)).grownBy ((w.alloc (.cells #[vp, vq] 84)).setCell ⟨A, 1, none⟩ (.int .i64 ((n : Int) + 1))) (some A) := gr_setC (World.grownBy.refl _ _) 1 _
 have hA2 : Blk ((w.alloc (.cells #[vp, vq] 84)).setCell ⟨A, 1, none⟩ (.int .i64 ((n : Int) + 1))) A 77 #[.map (some b), .int .i64 ((n : Int) + 1)] := by simpa using Blk.set_ HA.out 1 (.int .i64 ((n : Int) + 1))
 have hO2 := HO.out.kept hgA (by simp; exact fun e => HNE.out e.symm)
 have hX2 := HX1.out.grown hgA (by have := HLT.out.1; simp; omega)
 have HC2 : Hid (Chg [A, b] w ((w.alloc (.cells #[vp, vq] 84)).setCell ⟨A, 1, none⟩ (.int .i64 ((n : Int) + 1)))) := Lib.hid ((Chg.below HB1.out).trans ((Chg.gr hgA).mono (fun k hk => .inl (by simp at hk; simp [hk]))))
 have HLX : Hid (w.heap.size < ((w.alloc (.cells #[vp, vq] 84)).setCell ⟨A, 1, none⟩ (.int .i64 ((n : Int) + 1))).heap.size) := Lib.hid hX2.lt
 generalize ((w.alloc (.cells #[vp, vq] 84)).setCell ⟨A, 1, none⟩ (.int .i64 ((n : Int) + 1))) = w2 at *
 clear c0 c1 f1 hgA
 refine wp_region_still_tail 9 (by kernel_rfl) (by kernel_rfl) ?_
 simp only [List.take_succ_cons, List.take_zero, List.drop_succ_cons, List.drop_zero]
 have hbd : Below w2.heap.size w2 { heap := w2.heap, tape := w2.tape, drawn := w2.drawn + 1, os := w2.os, output := w2.output } := below_drewN (Below.refl _ _) 1
 have ha3 := hA2.kept hbd
 have hx3 := hX2.kept hbd
 have hO3 := hO2.kept (below_gr (row := none) hbd) (by simp)
 have HC3 := Lib.hid (HC2.out.trans (Chg.below hbd))
 generalize ({ heap := w2.heap, tape := w2.tape, drawn := w2.drawn + 1, os := w2.os, output := w2.output } : World) = w3 at *
 have HA3 := Lib.hid ha3
 have HO3 := Lib.hid hO3
 have c0 := ha3.cell 0
 have c1 := ha3.cell 1
 simp at c0 c1
 clear hA2 hO2 hX2 hbd ha3 hO3
 have hIt : (Tryz.prog.info? 84).map (·.size) = some (#[vp, vq] : Array Value).size := by kernel_rfl
 repeat (first | refine wpStill_load_blk (by rfl) 84 _ rfl w.heap.size rfl #[vp, vq] _ _ hx3 Tryz.underlying84 rfl hIt ?_ | still_step)
 refine wpStill_nil ?_
 have hval : thElem (.agg #[vp, vq]) = some (thD p q, []) := by
  rw [HV.out.1, HV.out.2]; exact thElem_mk p q
 have hk64 : In64 ((n : Int) + 1) := by unfold In64; omega
 have hnm : n < maxLen := by unfold maxLen; omega
 go_frame
 go_wp2_with (at_mapUpdate; go_loud (refine wpList_mapUpdate_own _ rfl _ _ _ 75 rfl 3 84 keyInt Tryz.underlying75 thElem b n D rfl HO3.out hnm _ _ _ rfl rfl (keyOfInt _ hk64) (thD p q) [] hval ?_))
 intro w5 hown5 hgrow5
 have ha5 := HA3.out.grown hgrow5 (by simpa using HNE.out)
 have c1' := ha5.cell 1
 simp at c1'
 have HA5 := Lib.hid ha5
 have HO5 := Lib.hid hown5
 have HC5 := Lib.hid (HC3.out.trans ((Chg.gr hgrow5).mono (fun k hk => .inl (by simp at hk; simp [hk]))))
 clear c0 c1 ha5 hown5 hgrow5
 go_wp2_with fail
 go_ret2
 refine ⟨rfl, AggIs.put hn HM.out HS.out ?_ HD.out HA5.out HO5.out, HC5.out⟩
 rw [size_put HTI.out, (HD.out _ hk64).1, decide_eq_false (by omega), HS.out]
 rfl
end Go.Proofs.YtfeficdndjiijaaGreatDoor


namespace Go.Proofs.YtfeficdndjiijaaGreatDoor
open Go.RowKit
set_option linter.unusedVariables false
set_option linter.unusedSimpArgs false

set_option maxRecDepth 100000 in
set_option maxHeartbeats 4000000 in
theorem line_of (A : Nat) (S : ByteArray) (w : World) (PC : Value → World → Prop) (R1 : Value → World → Prop) (Fin : ByteArray → World → Prop) (hif : ∀ c w, PC c w → ∃ t v, c = .iface t v)
  (hp : Calls Tryz.prog 21 #[.string S] w fun e w' => ∃ c, e = .returned (.tuple #[c, .int .i64 0, .int .i64 0]) ∧ PC c w' ∧ Below w.heap.size w w')
  (hd : ∀ c w1, Below w.heap.size w w1 → PC c w1 → Calls Tryz.prog 24 #[.pointer (some ⟨A, 0, none⟩), c] w1 fun e w' => ∃ r, e = .returned (.tuple #[r, .int .i64 0]) ∧ R1 r w')
  (ht : ∀ r w2, R1 r w2 → Calls Tryz.prog 25 #[r] w2 fun e w' => ∃ s, e = .returned (.string s) ∧ Fin s w') :
  Calls Tryz.prog 8 #[.pointer (some ⟨A, 0, none⟩), .string S] w fun e w' => ∃ s, e = .returned (.tuple #[.string s, .bool true]) ∧ Fin s w' := by
 have HP := Lib.hid hp
 have HD := Lib.hid hd
 have HT := Lib.hid ht
 have HIF := Lib.hid hif
 clear hp hd ht hif
 go_enter Tryz.func8, Tryz.ntmps8
 go_wp2_with fail
 with_reducible refine HP.out.mono ?_
 rintro e w1 ⟨c, rfl, hc, hb⟩
 obtain ⟨t, v, rfl⟩ := HIF.out _ _ hc
 have HD1 := Lib.hid (HD.out _ _ hb hc)
 clear hb hc HD HIF HP
 go_wp2_with fail
 with_reducible refine HD1.out.mono ?_
 rintro e w2 ⟨r, rfl, hr⟩
 have HT1 := Lib.hid (HT.out _ _ hr)
 clear hr HT HD1
 go_wp2_with fail
 with_reducible refine HT1.out.mono ?_
 rintro e w3 ⟨s, rfl, hf⟩
 have HF := Lib.hid hf
 clear hf HT1
 go_wp2_with fail
 go_ret2
 exact ⟨s, rfl, HF.out⟩
end Go.Proofs.YtfeficdndjiijaaGreatDoor


namespace Go.Proofs.YtfeficdndjiijaaGreatDoor
open Go.RowKit
set_option linter.unusedVariables false
set_option linter.unusedSimpArgs false

theorem fmtUintSmall (k : Nat) (hk : k < 100) (w : World) : Calls Tryz.prog 54 #[.int .u64 (k : Int), .int .i64 10] w fun e w' => e = .returned (.string (sB (Lib.decDigits k))) ∧ w = w' := by
  have P := Lib.hid (fun w => Tryz.internal_strconv_small k hk w)
  have hk' : (k : Int) < 100 := by omega
  have hk2 : IntKind.i64.wrap (k : Int) = (k : Int) := wrapI_of _ (by omega) (by omega)
  have P2 : Hid (∀ w, Calls Tryz.prog 101 #[.int .u64 (k : Int), .int .i64 10] w fun e w' => e = .returned (.string (sB (Lib.decDigits k))) ∧ w = w') := Lib.hid (fun w => by
    go_enter Tryz.func101, Tryz.ntmps101
    go_wp2_with fail
    with_reducible refine (P.out _).mono ?_
    rintro e w2 ⟨rfl, hw⟩
    subst hw
    go_wp2_with fail
    go_ret
    exact ⟨rfl, rfl⟩)
  go_enter Tryz.func54, Tryz.ntmps54
  go_wp2_with fail
  with_reducible refine (P2.out _).mono ?_
  rintro e w2 ⟨rfl, hw⟩
  subst hw
  go_wp2_with fail
  go_ret
  exact ⟨rfl, rfl⟩
theorem hd_size (a : List UInt8) (n : Int) (h0 : -9223372036854775808 ≤ n) (h1 : n ≤ 9223372036854775807) (ha : a.length ≤ 100) : ¬ 9223372036854775807 < (sB a).size + (sB (Lib.itoa n)).size := by
  have := itoa_len n h0 h1
  rw [sB_size]
  omega
theorem taDoneDone (w : World) : (Instr.typeAssert (.iface 133 (.agg #[])) 68 133 true).run Tryz.prog w = .ok (.tuple #[.agg #[], .bool true]) w := by kernel_rfl
theorem taHandleDone (n : Int) (w : World) : (Instr.typeAssert (.iface 135 (.agg #[.int .i64 n])) 68 133 true).run Tryz.prog w = .ok (.tuple #[.agg #[], .bool false]) w := by kernel_rfl
theorem taHandleHandle (n : Int) (w : World) : (Instr.typeAssert (.iface 135 (.agg #[.int .i64 n])) 68 135 true).run Tryz.prog w = .ok (.tuple #[.agg #[.int .i64 n], .bool true]) w := by kernel_rfl
theorem taNumberDone (n : Int) (w : World) : (Instr.typeAssert (.iface 137 (.agg #[.int .i64 n])) 68 133 true).run Tryz.prog w = .ok (.tuple #[.agg #[], .bool false]) w := by kernel_rfl
theorem taNumberHandle (n : Int) (w : World) : (Instr.typeAssert (.iface 137 (.agg #[.int .i64 n])) 68 135 true).run Tryz.prog w = .ok (.tuple #[.agg #[.int .i64 0], .bool false]) w := by kernel_rfl
theorem taNumberNumber (n : Int) (w : World) : (Instr.typeAssert (.iface 137 (.agg #[.int .i64 n])) 68 137 true).run Tryz.prog w = .ok (.tuple #[.agg #[.int .i64 n], .bool true]) w := by kernel_rfl
theorem taKeyDone (n : Int) (w : World) : (Instr.typeAssert (.iface 140 (.agg #[.int .u64 n])) 68 133 true).run Tryz.prog w = .ok (.tuple #[.agg #[], .bool false]) w := by kernel_rfl
theorem taKeyHandle (n : Int) (w : World) : (Instr.typeAssert (.iface 140 (.agg #[.int .u64 n])) 68 135 true).run Tryz.prog w = .ok (.tuple #[.agg #[.int .i64 0], .bool false]) w := by kernel_rfl
theorem taKeyNumber (n : Int) (w : World) : (Instr.typeAssert (.iface 140 (.agg #[.int .u64 n])) 68 137 true).run Tryz.prog w = .ok (.tuple #[.agg #[.int .i64 0], .bool false]) w := by kernel_rfl
theorem taKeyKey (n : Int) (w : World) : (Instr.typeAssert (.iface 140 (.agg #[.int .u64 n])) 68 140 true).run Tryz.prog w = .ok (.tuple #[.agg #[.int .u64 n], .bool true]) w := by kernel_rfl
set_option maxRecDepth 100000 in
set_option maxHeartbeats 4000000 in
theorem text_done (w : World) : Calls Tryz.prog 25 #[.iface 133 (.agg #[])] w fun e w' => e = .returned (.string (sB [100, 111, 110, 101])) ∧ Below w.heap.size w w' := by
  have t1 := taDoneDone
  go_enter Tryz.func25, Tryz.ntmps25
  go_wp2_with fail
  go_ret
  exact ⟨rfl, ((Below.refl _ w).alloc (Nat.le_refl _) _).alloc (by simp) _⟩
set_option maxRecDepth 100000 in
set_option maxHeartbeats 4000000 in
theorem text_handle (n : Int) (h0 : -9223372036854775808 ≤ n) (h1 : n ≤ 9223372036854775807) (w : World) (ht : Tab w) : Calls Tryz.prog 25 #[.iface 135 (.agg #[.int .i64 n])] w fun e w' => e = .returned (.string (sB ([104, 97, 110, 100, 108, 101, 32] ++ Lib.itoa n))) ∧ Below w.heap.size w w' := by
 have P := Lib.hid (fun w ht => itoaAny n h0 h1 w ht)
 have HT := Lib.hid ht
 have hsz := hd_size [104, 97, 110, 100, 108, 101, 32] n h0 h1 (by decide)
 have HAP := Lib.hid (sB_append [104, 97, 110, 100, 108, 101, 32] (Lib.itoa n))
 have HB : Hid (Below w.heap.size w ((w.alloc (.cells #[.pointer none, .slice none 0 0] 132)).alloc (.cells #[.int .i64 n] 135))) := Lib.hid (((Below.refl _ w).alloc (Nat.le_refl _) _).alloc (by simp) _)
 have t0 := taHandleDone n
 have t1 := taHandleHandle n
 clear ht h0 h1
 obtain ⟨S, hS⟩ : ∃ S, S = sB (Lib.itoa n) := ⟨_, rfl⟩
 rw [← hS] at P hsz HAP
 obtain ⟨H, hH⟩ : ∃ H, H = sB [104, 97, 110, 100, 108, 101, 32] := ⟨_, rfl⟩
 have HH := Lib.hid hH
 have hsz' : ¬ 9223372036854775807 < 7 + S.size := by rw [sB_size] at hsz; exact hsz
 clear hS hH
 go_enter Tryz.func25, Tryz.ntmps25
 go_wp2_with fail
 with_reducible refine (P.out _ (HT.out.kept HB.out)).mono ?_
 rintro e w2 ⟨rfl, hb⟩
 have HB2 := Lib.hid (btr HB.out hb)
 clear hb
 go_wp2_with fail
 go_ret
 exact ⟨congrArg (fun s => Ending.returned (Value.string s)) HAP.out, HB2.out⟩
set_option maxRecDepth 100000 in
set_option maxHeartbeats 4000000 in
theorem text_number (n : Int) (h0 : -9223372036854775808 ≤ n) (h1 : n ≤ 9223372036854775807) (w : World) (ht : Tab w) : Calls Tryz.prog 25 #[.iface 137 (.agg #[.int .i64 n])] w fun e w' => e = .returned (.string (sB ([110, 117, 109, 98, 101, 114, 32] ++ Lib.itoa n))) ∧ Below w.heap.size w w' := by
 have P := Lib.hid (fun w ht => fmtInt n h0 h1 w ht)
 have HT := Lib.hid ht
 have hsz := hd_size [110, 117, 109, 98, 101, 114, 32] n h0 h1 (by decide)
 have HAP := Lib.hid (sB_append [110, 117, 109, 98, 101, 114, 32] (Lib.itoa n))
 have HB : Hid (Below w.heap.size w ((w.alloc (.cells #[.pointer none, .slice none 0 0] 132)).alloc (.cells #[.int .i64 n] 137))) := Lib.hid (((Below.refl _ w).alloc (Nat.le_refl _) _).alloc (by simp) _)
 have t0 := taNumberDone n
 have t1 := taNumberHandle n
 have t2 := taNumberNumber n
 clear ht h0 h1
 obtain ⟨S, hS⟩ : ∃ S, S = sB (Lib.itoa n) := ⟨_, rfl⟩
 rw [← hS] at P hsz HAP
 obtain ⟨H, hH⟩ : ∃ H, H = sB [110, 117, 109, 98, 101, 114, 32] := ⟨_, rfl⟩
 have HH := Lib.hid hH
 have hsz' : ¬ 9223372036854775807 < 7 + S.size := by rw [sB_size] at hsz; exact hsz
 clear hS hH
 go_enter Tryz.func25, Tryz.ntmps25
 go_wp2_with fail
 with_reducible refine (P.out _ (HT.out.kept HB.out)).mono ?_
 rintro e w2 ⟨rfl, hb⟩
 have HB2 := Lib.hid (btr HB.out hb)
 clear hb
 go_wp2_with fail
 go_ret
 exact ⟨congrArg (fun s => Ending.returned (Value.string s)) HAP.out, HB2.out⟩
set_option maxRecDepth 100000 in
set_option maxHeartbeats 4000000 in
theorem text_key (k : Nat) (hk : k < 100) (w : World) : Calls Tryz.prog 25 #[.iface 140 (.agg #[.int .u64 (k : Int)])] w fun e w' => e = .returned (.string (sB ([107, 101, 121, 32] ++ Lib.decDigits k))) ∧ Below w.heap.size w w' := by
  have P := Lib.hid (fun w => fmtUintSmall k hk w)
  have hsz : ¬ 9223372036854775807 < 4 + (sB (Lib.decDigits k)).size := by
    rw [sB_size]; have := dec_len k (by omega); omega
  have HAP := Lib.hid (sB_append [107, 101, 121, 32] (Lib.decDigits k))
  have t0 := taKeyDone (k : Int)
  have t1 := taKeyHandle (k : Int)
  have t2 := taKeyNumber (k : Int)
  have t3 := taKeyKey (k : Int)
  clear hk
  generalize sB (Lib.decDigits k) = S at *
  go_enter Tryz.func25, Tryz.ntmps25
  go_wp2_with fail
  with_reducible refine (P.out _).mono ?_
  rintro e w2 ⟨rfl, hw⟩
  subst hw
  go_wp2_with fail
  go_ret
  exact ⟨congrArg (fun s => Ending.returned (Value.string s)) HAP.out, ((Below.refl _ w).alloc (Nat.le_refl _) _).alloc (by simp) _⟩
end Go.Proofs.YtfeficdndjiijaaGreatDoor


namespace Go.Proofs.YtfeficdndjiijaaGreatDoor
open Go.RowKit Go.Maps
set_option linter.unusedVariables false
set_option linter.unusedSimpArgs false

theorem AggIs.look {w : World} {A b n : Nat} {T : Nat → Option Nat × Option Nat} (h : AggIs w A b n T) (k : Int) (h1 : 1 ≤ k) (h2 : k ≤ (n : Int)) (hn : n ≤ 100) :
    (Instr.lookup 75 (.map (some b)) (.int .i64 k) true).run Tryz.prog w = .ok (.tuple #[thVal (T k.toNat).1 (T k.toNat).2, .bool true]) w := by
  obtain ⟨-, D, ho, -, hD⟩ := h
  have hk : In64 k := by unfold In64; omega
  obtain ⟨v, ps, hrun, hv⟩ := ho.look_ok keyInt Tryz.underlying75 (zeroTh w) (thElem_mk none none) (keyOfInt k hk)
  obtain ⟨h3, h4⟩ := hD k hk
  rw [hrun, h3, decide_eq_true ⟨h1, h2⟩]
  rw [h4 ⟨h1, h2⟩] at hv
  rw [thElem_inv hv]
theorem done_ok (w : World) : Calls Tryz.prog 85 #[.int .i64 0] w fun e w' => e = .returned (.tuple #[.iface 133 (.agg #[]), .int .i64 0]) ∧ w = w' := by
  go_enter Tryz.func85, Tryz.ntmps85
  go_wp2_with fail
  go_ret2
  exact ⟨rfl, rfl⟩
theorem num_ok (n : Int) (w : World) : Calls Tryz.prog 93 #[.int .i64 n, .int .i64 0] w fun e w' => e = .returned (.tuple #[.iface 137 (.agg #[.int .i64 n]), .int .i64 0]) ∧ w = w' := by
  go_enter Tryz.func93, Tryz.ntmps93
  go_wp2_with fail
  go_ret2
  exact ⟨rfl, rfl⟩
theorem thstack (S : Nat) (w : World) : Calls Tryz.prog 90 #[.agg #[.pointer (some ⟨S, 0, none⟩), .pointer none]] w fun e w' => e = .returned (.pointer (some ⟨S, 0, none⟩)) ∧ Below w.heap.size w w' := by
  go_enter Tryz.func90, Tryz.ntmps90
  go_wp2_with fail
  go_ret
  exact ⟨rfl, (Below.refl _ w).alloc (Nat.le_refl _) _⟩
theorem thstackP (S : Nat) (w : World) : Calls Tryz.prog 90 #[.agg #[thPtr (some S), thPtr none]] w fun e w' => e = .returned (.pointer (some ⟨S, 0, none⟩)) ∧ Below w.heap.size w w' := thstack S w
theorem freshOf {B : Nat} {w w1 : World} {cs : Array Value} {t : TypeId} (h : Below B w (w1.alloc (.cells cs t))) : Blk (w1.alloc (.cells cs t)) w1.heap.size t cs := Blk.new w1 t cs
theorem freshDrew {B : Nat} {w w1 : World} {cs : Array Value} {t : TypeId} (h : Below B w (w1.alloc (.cells cs t)).drew) : Blk (w1.alloc (.cells cs t)).drew w1.heap.size t cs := Blk.new w1 t cs
theorem blkRowNew {w : World} {g : Nat} {t : TypeId} {cs cs' : Array Value} (h : Blk w g t cs) : Blk (w.setRow g cs') g t cs' := setRow_heap w g cs cs' t (0, 0) h
set_option maxRecDepth 100000 in
set_option maxHeartbeats 4000000 in
theorem aggadd (w : World) (A b n : Nat) (T : Nat → Option Nat × Option Nat) (h key d : Int) (S : Nat) (hA : AggIs w A b n T) (h1 : 1 ≤ h) (h2 : h ≤ (n : Int)) (hn : n ≤ 100) (hT : T h.toNat = (some S, none)) (U : World → World → Prop)
  (hU : ∀ w1, Below w.heap.size w w1 → Calls Tryz.prog 87 #[.pointer (some ⟨S, 0, none⟩), .int .u64 key, .int .i64 d] w1 fun e w' => e = .returned (.int .i64 0) ∧ U w1 w') :
  Calls Tryz.prog 49 #[.pointer (some ⟨A, 0, none⟩), .agg #[.int .i64 h, .bool false, .string ⟨#[]⟩, .int .u64 key, .int .i64 d]] w fun e w' => e = .returned (.tuple #[.iface 133 (.agg #[]), .int .i64 0]) ∧ ∃ w1, Below w.heap.size w w1 ∧ U w1 w' := by
 have HA := Lib.hid hA
 have HH := Lib.hid (And.intro h1 (And.intro h2 hn))
 have HT := Lib.hid hT
 have HU := Lib.hid hU
 have PD := Lib.hid done_ok
 have hb1 : Below w.heap.size w (w.alloc (.cells #[.int .i64 h, .bool false, .string ⟨#[]⟩, .int .u64 key, .int .i64 d] 117)) := (Below.refl _ w).alloc (Nat.le_refl _) _
 have HX1 := Lib.hid (Blk.new w 117 #[.int .i64 h, .bool false, .string ⟨#[]⟩, .int .u64 key, .int .i64 d])
 have HA1 := Lib.hid (hA.kept hb1)
 have HB1 := Lib.hid hb1
 clear hA h1 h2 hn hT hU hb1
 go_enter Tryz.func49, Tryz.ntmps49
 go_wp2_with fail
 generalize (w.alloc (.cells #[.int .i64 h, .bool false, .string ⟨#[]⟩, .int .u64 key, .int .i64 d] 117)) = w1 at *
 generalize hX : w.heap.size = X at *
 have HXX := Lib.hid hX
 clear hX
 have HXW : Hid (X ≤ w1.heap.size) := Lib.hid (Nat.le_of_lt HX1.out.lt)
 refine wp_region_held_drew (S := fun w' => Below w1.heap.size w1 w') (by kernel_rfl) (by exact below_drewN (Below.refl _ _) 1) (fun hHeld => ?_)
 refine tkH (i := 0) (v := ?_) rfl (by kernel_rfl) (fun _ _ _ h => h) (Or.inl ⟨by rfl, ?_⟩) (by assumption) ?_
 rotate_left
 ·intro w hSw
  try dsimp only at hSw
  go_simp
  try with_reducible rfl
 simp only [Act.put, z1, z2, z3, z4, z5, z6]
 refine tkH (i := 1) (v := ?_) rfl (by kernel_rfl) (fun _ _ _ h => h) (Or.inl ⟨by rfl, ?_⟩) (by assumption) ?_
 rotate_left
 ·intro w hSw
  try dsimp only at hSw
  go_simp
  try with_reducible rfl
 simp only [Act.put, z1, z2, z3, z4, z5, z6]
 refine tkH (i := 2) (v := ?_) rfl (by kernel_rfl) (fun _ _ _ h => h) (Or.inl ⟨by rfl, ?_⟩) (by assumption) ?_
 rotate_left
 ·intro w hSw
  try dsimp only at hSw
  go_simp
  try with_reducible rfl
 simp only [Act.put, z1, z2, z3, z4, z5, z6]
 refine tkH (i := 3) (v := ?_) rfl (by kernel_rfl) (fun _ _ _ h => h) (Or.inl ⟨by rfl, ?_⟩) (by assumption) ?_
 rotate_left
 ·intro w hSw
  have q0 := (HA1.out.kept hSw).1.cell 0
  have q1 := (HX1.out.kept hSw).cell 0
  have hlk := (HA1.out.kept hSw).look h HH.out.1 HH.out.2.1 HH.out.2.2
  rw [HT.out] at hlk
  simp at q0 q1
  go_simp
  try with_reducible rfl
 simp only [Act.put, z1, z2, z3, z4, z5, z6]
 refine tkH (i := 4) (v := ?_) rfl (by kernel_rfl) (fun _ _ _ h => h) (Or.inl ⟨by rfl, ?_⟩) (by assumption) ?_
 rotate_left
 ·intro w hSw
  try dsimp only at hSw
  go_simp
  try with_reducible rfl
 simp only [Act.put, z1, z2, z3, z4, z5, z6]
 refine tkH (i := 5) (v := ?_) rfl (by kernel_rfl) (fun _ _ _ h => h) (Or.inl ⟨by rfl, ?_⟩) (by assumption) ?_
 rotate_left
 ·intro w hSw
  have q0 := (HA1.out.kept hSw).1.cell 0
  have q1 := (HX1.out.kept hSw).cell 0
  have hlk := (HA1.out.kept hSw).look h HH.out.1 HH.out.2.1 HH.out.2.2
  rw [HT.out] at hlk
  simp at q0 q1
  go_simp
  try with_reducible rfl
 simp only [Act.put, z1, z2, z3, z4, z5, z6]
 refine tkH (i := 6) (v := ?_) rfl (by kernel_rfl) (fun _ _ _ h => h) (Or.inl ⟨by rfl, ?_⟩) (by assumption) ?_
 rotate_left
 ·intro w hSw
  have q0 := (HA1.out.kept hSw).1.cell 0
  have q1 := (HX1.out.kept hSw).cell 0
  have hlk := (HA1.out.kept hSw).look h HH.out.1 HH.out.2.1 HH.out.2.2
  rw [HT.out] at hlk
  simp at q0 q1
  go_simp
  try with_reducible rfl
 simp only [Act.put, z1, z2, z3, z4, z5, z6]
 refine tkH (i := 7) (v := ?_) rfl (by kernel_rfl) (fun _ _ _ h => h) (Or.inl ⟨by rfl, ?_⟩) (by assumption) ?_
 rotate_left
 ·intro w hSw
  try dsimp only at hSw
  go_simp
  try with_reducible rfl
 simp only [Act.put, z1, z2, z3, z4, z5, z6]
 refine tkH (i := 8) (v := ?_) rfl (by kernel_rfl) (fun _ _ _ h => h) (Or.inl ⟨by rfl, ?_⟩) (by assumption) ?_
 rotate_left
 ·intro w hSw
  try dsimp only at hSw
  go_simp
  try with_reducible rfl
 simp only [Act.put, z1, z2, z3, z4, z5, z6]
 refine tkH (i := 9) (v := ?_) rfl (by kernel_rfl) (fun _ _ _ h => h) (Or.inl ⟨by rfl, ?_⟩) (by assumption) ?_
 rotate_left
 ·intro w hSw
  try dsimp only at hSw
  go_simp
  try with_reducible rfl
 simp only [Act.put, z1, z2, z3, z4, z5, z6]
 refine wpAnyH_ready (rs := [10]) (by kernel_rfl) (by simp) ?_
 refine AllReadyH.cons rfl (fun Kc hKc => ?_) AllReadyH.nil
 go_simp
 have hPrev := Lib.hid hHeld.size
 refine hKc.out _ _ ?_ (fun hHeld => ?_)
 ·first | assumption | exact hHeld | exact hHeld.alloc hHeld.size _ | exact below_setRow hHeld hPrev.out _
 clear hKc Kc
 first | have HAQ := Lib.hid (freshOf hHeld) | have HAQ := Lib.hid (freshDrew hHeld)
 refine wpAnyH_ready (rs := [11]) (by kernel_rfl) (by simp) ?_
 refine AllReadyH.cons rfl (fun Kc hKc => ?_) AllReadyH.nil
 have HAR := Lib.hid (blkRowNew (cs' := #[thPtr (some S), thPtr none]) HAQ.out); refine wp_store_row 84 _ _ rfl _ #[thPtr (some S), thPtr none] rfl (by rfl) 84 _ HAQ.out (by kernel_rfl) rfl (by simp [Value.oneCell', thPtr]) ?_
 refine hKc.out _ _ ?_ (fun hHeld => ?_)
 ·first | assumption | exact hHeld | exact hHeld.alloc hHeld.size _ | exact below_setRow hHeld hPrev.out _
 clear hKc Kc
 refine tkH (i := 12) (v := ?_) rfl (by kernel_rfl) (fun _ _ _ h => h) (Or.inl ⟨by rfl, ?_⟩) (by assumption) ?_
 rotate_left
 ·intro w hSw
  try dsimp only at hSw
  go_simp
  try with_reducible rfl
 simp only [Act.put, z1, z2, z3, z4, z5, z6]
 refine wpAnyH_done (by kernel_rfl) ?_ _
 generalize ((w1.alloc (.cells #[.pointer none, .pointer none] 84)).drew.setRow w1.heap.size #[thPtr (some S), thPtr none]) = wz at *
 have hx := HX1.out.kept hHeld
 have t0 := HAR.out.cell 0
 have t1 := HAR.out.cell 1
 have x2 := hx.cell 3
 have x3 := hx.cell 4
 have x1 := hx.cell 1
 simp [thPtr] at t0 t1 x1 x2 x3
 have HB9 : Hid (Below X w wz) := Lib.hid (HB1.out.trans (hHeld.mono HXW.out))
 have HU9 := Lib.hid (HU.out _ HB9.out)
 clear hHeld hx HAR HAQ
 go_wp2_with fail
 with_reducible refine HU9.out.mono ?_
 rintro e w9 ⟨rfl, hu⟩
 have HUU := Lib.hid hu
 clear hu HU HU9 t0 t1 x1 x2 x3
 go_wp2_with fail
 with_reducible refine (PD.out _).mono ?_
 rintro e w10 ⟨rfl, hw⟩
 subst hw
 go_wp2_with fail
 go_ret2
 exact ⟨rfl, wz, by rw [HXX.out]; exact HB9.out, HUU.out⟩
end Go.Proofs.YtfeficdndjiijaaGreatDoor


namespace Go.Proofs
open Go.Shelf
def Tryz.keysA_ren : Go.Shelf.Ren := ⟨fun | 7 => 30 | 10 => 63 | n => n, fun | 23 => 75 | 26 => 3 | 3 => 84 | 28 => 80 | 0 => 0 | 27 => 79 | 33 => 166 | 4 => 4 | n => n, fun | n => n⟩
theorem Tryz.keysA : Go.Proofs.SlLaysZI.n7 Tryz.prog Tryz.keysA_ren := {
  mixed := by kernel_rfl
  f7 := ⟨Tryz.f30.name, by decide, Tryz.func30.trans (congrArg some (by kernel_rfl))⟩
  f10 := ⟨Tryz.f63.name, by decide, Tryz.func63.trans (congrArg some (by kernel_rfl))⟩
  t0 := Tryz.underlying0
  a0 := Tryz.isAgg0
  z0 := Tryz.sizeOf0
  v0 := Tryz.zeroValue0
  t4 := Tryz.underlying4
  a4 := Tryz.isAgg4
  z4 := Tryz.sizeOf4
  v4 := Tryz.zeroValue4
  t23 := Tryz.underlying75
  a23 := Tryz.isAgg75
  z23 := Tryz.sizeOf75
  v23 := Tryz.zeroValue75
  t26 := Tryz.underlying3
  a26 := Tryz.isAgg3
  z26 := Tryz.sizeOf3
  v26 := Tryz.zeroValue3
  t27 := Tryz.underlying79
  a27 := Tryz.isAgg79
  z27 := Tryz.sizeOf79
  v27 := Tryz.zeroValue79
  t28 := Tryz.underlying80
  a28 := Tryz.isAgg80
  z28 := Tryz.sizeOf80
  v28 := Tryz.zeroValue80
  t33 := Tryz.underlying166
  a33 := Tryz.isAgg166
  z33 := Tryz.sizeOf166
  v33 := Tryz.zeroValue166 }
def Tryz.sortedA_ren : Go.Shelf.Ren := ⟨fun | 6 => 29 | 8 => 61 | 9 => 62 | 11 => 108 | 13 => 110 | 12 => 109 | 23 => 158 | 24 => 116 | 14 => 149 | 15 => 150 | 16 => 151 | 17 => 152 | 18 => 153 | 19 => 154 | 20 => 155 | 21 => 156 | 22 => 157 | 25 => 194 | 26 => 195 | 27 => 196 | 28 => 197 | 29 => 198 | 30 => 199 | 31 => 228 | n => n, fun | 26 => 3 | 28 => 80 | 24 => 45 | 0 => 0 | 3 => 3 | 37 => 160 | 48 => 73 | 50 => 22 | 4 => 4 | 40 => 272 | 39 => 271 | 45 => 277 | 5 => 5 | 9 => 9 | 51 => 330 | 55 => 334 | 57 => 355 | 58 => 356 | 33 => 166 | n => n, fun | n => n⟩
theorem Tryz.sortedA : Go.Proofs.SlLaysZI.n6 Tryz.prog Tryz.sortedA_ren := {
  mixed := by kernel_rfl
  f6 := ⟨Tryz.f29.name, by decide, Tryz.func29.trans (congrArg some (by kernel_rfl))⟩
  f8 := ⟨Tryz.f61.name, by decide, Tryz.func61.trans (congrArg some (by kernel_rfl))⟩
  f11 := ⟨Tryz.f108.name, by decide, Tryz.func108.trans (congrArg some (by kernel_rfl))⟩
  t0 := Tryz.underlying0
  a0 := Tryz.isAgg0
  z0 := Tryz.sizeOf0
  v0 := Tryz.zeroValue0
  t24 := Tryz.underlying45
  a24 := Tryz.isAgg45
  z24 := Tryz.sizeOf45
  v24 := Tryz.zeroValue45
  t26 := Tryz.underlying3
  a26 := Tryz.isAgg3
  z26 := Tryz.sizeOf3
  v26 := Tryz.zeroValue3
  t28 := Tryz.underlying80
  a28 := Tryz.isAgg80
  z28 := Tryz.sizeOf80
  v28 := Tryz.zeroValue80
  i26 := by kernel_rfl }
def Tryz.sortA_ren : Go.Shelf.Ren := ⟨fun | 5 => 62 | 8 => 110 | 7 => 109 | 19 => 158 | 20 => 116 | 10 => 149 | 11 => 150 | 12 => 151 | 13 => 152 | 14 => 153 | 15 => 154 | 16 => 155 | 17 => 156 | 18 => 157 | 30 => 194 | 31 => 195 | 32 => 196 | 33 => 197 | 34 => 198 | 35 => 199 | 40 => 228 | n => n, fun | 23 => 45 | 25 => 3 | 3 => 3 | 32 => 160 | 22 => 45 | 0 => 0 | 44 => 73 | 46 => 22 | 4 => 4 | 36 => 272 | 35 => 271 | 41 => 277 | 5 => 5 | 9 => 9 | 53 => 330 | 57 => 334 | 63 => 355 | 64 => 356 | n => n, fun | n => n⟩
theorem Tryz.sortA : Go.Proofs.SlLaysM.n5 Tryz.prog Tryz.sortA_ren := {
 mixed := by kernel_rfl
 f5 := ⟨Tryz.f62.name, by decide, Tryz.func62.trans (congrArg some (by kernel_rfl))⟩
 f7 := ⟨Tryz.f109.name, by decide, Tryz.func109.trans (congrArg some (by kernel_rfl))⟩
 f8 := Tryz.func110.trans (congrArg some (by kernel_rfl))
 f10 := ⟨Tryz.f149.name, by decide, Tryz.func149.trans (congrArg some (by kernel_rfl))⟩
 f11 := ⟨Tryz.f150.name, by decide, Tryz.func150.trans (congrArg some (by kernel_rfl))⟩
 f12 := ⟨Tryz.f151.name, by decide, Tryz.func151.trans (congrArg some (by kernel_rfl))⟩
 f13 := ⟨Tryz.f152.name, by decide, Tryz.func152.trans (congrArg some (by kernel_rfl))⟩
 f14 := ⟨Tryz.f153.name, by decide, Tryz.func153.trans (congrArg some (by kernel_rfl))⟩
 f15 := ⟨Tryz.f154.name, by decide, Tryz.func154.trans (congrArg some (by kernel_rfl))⟩
 f16 := ⟨Tryz.f155.name, by decide, Tryz.func155.trans (congrArg some (by kernel_rfl))⟩
 f17 := ⟨Tryz.f156.name, by decide, Tryz.func156.trans (congrArg some (by kernel_rfl))⟩
 f18 := ⟨Tryz.f157.name, by decide, Tryz.func157.trans (congrArg some (by kernel_rfl))⟩
 f19 := Tryz.func158.trans (congrArg some (by kernel_rfl))
 f20 := Tryz.func116.trans (congrArg some (by kernel_rfl))
 f30 := ⟨Tryz.f194.name, by decide, Tryz.func194.trans (congrArg some (by kernel_rfl))⟩
 f31 := Tryz.func195.trans (congrArg some (by kernel_rfl))
 f32 := Tryz.func196.trans (congrArg some (by kernel_rfl))
 f33 := ⟨Tryz.f197.name, by decide, Tryz.func197.trans (congrArg some (by kernel_rfl))⟩
 f34 := ⟨Tryz.f198.name, by decide, Tryz.func198.trans (congrArg some (by kernel_rfl))⟩
 f35 := ⟨Tryz.f199.name, by decide, Tryz.func199.trans (congrArg some (by kernel_rfl))⟩
 f40 := ⟨Tryz.f228.name, by decide, Tryz.func228.trans (congrArg some (by kernel_rfl))⟩
 t0 := Tryz.underlying0
 a0 := Tryz.isAgg0
 z0 := Tryz.sizeOf0
 v0 := Tryz.zeroValue0
 t3 := Tryz.underlying3
 a3 := Tryz.isAgg3
 z3 := Tryz.sizeOf3
 v3 := Tryz.zeroValue3
 t4 := Tryz.underlying4
 a4 := Tryz.isAgg4
 z4 := Tryz.sizeOf4
 v4 := Tryz.zeroValue4
 t5 := Tryz.underlying5
 a5 := Tryz.isAgg5
 z5 := Tryz.sizeOf5
 v5 := Tryz.zeroValue5
 t9 := Tryz.underlying9
 a9 := Tryz.isAgg9
 z9 := Tryz.sizeOf9
 v9 := Tryz.zeroValue9
 t22 := Tryz.underlying45
 a22 := Tryz.isAgg45
 z22 := Tryz.sizeOf45
 v22 := Tryz.zeroValue45
 t23 := Tryz.underlying45
 a23 := Tryz.isAgg45
 z23 := Tryz.sizeOf45
 v23 := Tryz.zeroValue45
 t25 := Tryz.underlying3
 a25 := Tryz.isAgg3
 z25 := Tryz.sizeOf3
 v25 := Tryz.zeroValue3
 t32 := Tryz.underlying160
 a32 := Tryz.isAgg160
 z32 := Tryz.sizeOf160
 v32 := Tryz.zeroValue160
 t35 := Tryz.underlying271
 a35 := Tryz.isAgg271
 z35 := Tryz.sizeOf271
 v35 := Tryz.zeroValue271
 t36 := Tryz.underlying272
 a36 := Tryz.isAgg272
 z36 := Tryz.sizeOf272
 v36 := Tryz.zeroValue272
 t41 := Tryz.underlying277
 a41 := Tryz.isAgg277
 z41 := Tryz.sizeOf277
 v41 := Tryz.zeroValue277
 t44 := Tryz.underlying73
 a44 := Tryz.isAgg73
 z44 := Tryz.sizeOf73
 v44 := Tryz.zeroValue73
 t46 := Tryz.underlying22
 a46 := Tryz.isAgg22
 z46 := Tryz.sizeOf22
 v46 := Tryz.zeroValue22
 t53 := Tryz.underlying330
 a53 := Tryz.isAgg330
 z53 := Tryz.sizeOf330
 v53 := Tryz.zeroValue330
 t57 := Tryz.underlying334
 a57 := Tryz.isAgg334
 z57 := Tryz.sizeOf334
 v57 := Tryz.zeroValue334
 t63 := Tryz.underlying355
 a63 := Tryz.isAgg355
 z63 := Tryz.sizeOf355
 v63 := Tryz.zeroValue355
 t64 := Tryz.underlying356
 a64 := Tryz.isAgg356
 z64 := Tryz.sizeOf356
 v64 := Tryz.zeroValue356 }
end Go.Proofs


namespace Go.Proofs.YtfeficdndjiijaaGreatDoor
open Go.RowKit Go.Maps Go.Sort Go.Shelf
set_option linter.unusedVariables false
set_option linter.unusedSimpArgs false

theorem sortsA (m : Nat) : AnyZI.SortsIn Tryz.prog Tryz.sortedA_ren Fence.wide m :=
  ⟨fun blk off cap ss W hH hblk hsz => callsIn_wide.2 (AnyM.slices_Sort_int Tryz.sortA blk off cap ss W hH hblk hsz),
   fun p cap W => callsIn_wide.2 (AnyM.slices_Sort_int_none Tryz.sortA p cap W)⟩
theorem AggIs.keyIn {w : World} {b n : Nat} {D : DataW Unit} (ho : w.ownsMap Tryz.prog 3 thElem b n D) (hD : ∀ h : Int, In64 h → has D (.int .i64 h) = decide (1 ≤ h ∧ h ≤ (n : Int))) : ∀ x ∈ intKeys D, 1 ≤ x ∧ x ≤ (n : Int) := by
  obtain ⟨es, rfl, hko⟩ := ho.keysOf
  intro x hx
  obtain ⟨p, hp, rfl⟩ := List.mem_map.1 hx
  obtain ⟨v, hv⟩ := hko p hp
  obtain ⟨y, _, hy, hl⟩ := Maps.keyOf_i64 Tryz.underlying3 hv
  have hin : In64 y := by
    simp [Lit.wf, IntKind.min, IntKind.max, IntKind.signed, IntKind.bits] at hl
    unfold In64
    omega
  have h1 := hD y hin
  have h2 : has (.map es) (.int .i64 y) = true := by
    rw [has_eq, List.any_eq_true]
    exact ⟨p, hp, by rw [hy]; simp [Lit.sameKey]⟩
  rw [h2] at h1
  have h3 := of_decide_eq_true h1.symm
  rw [hy]
  exact h3
theorem len_keys {w : World} {b n : Nat} {D : DataW Unit} (ho : w.ownsMap Tryz.prog 3 thElem b n D) : (intKeys D).length = Maps.size D := by
  obtain ⟨es, rfl, hko⟩ := ho.keysOf
  simp [intKeys, Maps.size]
set_option maxRecDepth 100000 in
set_option maxHeartbeats 2000000 in
theorem handles_any (w : World) (A b n : Nat) (T : Nat → Option Nat × Option Nat) (h : AggIs w A b n T) (hn : n ≤ 100) :
  Calls Tryz.prog 14 #[.pointer (some ⟨A, 0, none⟩)] w fun e w' => ∃ (v : Value) (ss : List Int), e = .returned v ∧ ss.length = n ∧ (∀ x ∈ ss, 1 ≤ x ∧ x ≤ (n : Int)) ∧
   IntsAt w' v ss ∧ Below w.heap.size w w' := by
 obtain ⟨h1, D, hown, hsz, hD⟩ := h
 have HK := Lib.hid (AggIs.keyIn hown (fun h h0 => (hD h h0).1))
 have HL := Lib.hid (len_keys hown)
 have HS := Lib.hid hsz
 have c0 := h1.cell 0
 simp at c0
 refine (callsIn_wide (n := 6)).1 ?_
 have hbl := hown.lt
 have hmax : Maps.size D ≤ maxLen := by unfold maxLen; omega
 have hbytes : Maps.size D * 8 ≤ 140737488355328 := by omega
 have hseq : SeqGives Fence.wide 2 Tryz.prog 63 #[.pointer (some ⟨w.heap.size, 0, none⟩)] encZ (fun ss => ss.Perm (intKeys D)) (Maps.size D) (w.alloc (.cells #[.map (some b)] 75)) :=
  AnyZI.keys_gives (ρ := Tryz.keysA_ren) { Tryz.keysA with } Fence.wide _ trivial rfl (by omega) w.heap.size b n D _ (by simp) (by simp) (by
   obtain ⟨es, clock, hb, Ft, hs, hD⟩ := hown
   exact ⟨es, clock, (Below.heap_alloc _ _ b hbl).trans hb, Ft, hs, hD⟩)
 have cK : ∀ mb W, CallsIn Fence.wide 5 Tryz.prog 30 #[.map mb] W fun e w' => e = .returned (.func (.func 63) #[] #[.pointer (some ⟨W.heap.size, 0, none⟩)]) ∧ w' = W.alloc (.cells #[.map mb] 75) := fun mb W => AnyZI.keys_in Tryz.keysA Fence.wide 5 trivial rfl mb W
 have cS := AnyZI.sorted_in Tryz.sortedA Fence.wide 5 trivial trivial trivial trivial rfl (by omega) (sortsA _) (enters_of Tryz.func62 (by kernel_rfl) rfl) 63 #[.pointer (some ⟨w.heap.size, 0, none⟩)] trivial (enters_of Tryz.func63 (by kernel_rfl) rfl) _ _ hmax hbytes _ hseq
 change CallsIn _ _ Tryz.prog 29 _ _ _ at cS
 have hfK : Fence.wide.fn 30 := trivial
 have hfS : Fence.wide.fn 29 := trivial
 clear hseq hmax hbytes hsz hD hown h1
 refine callsIn_of_wp Tryz.func14 rfl trivial ?_ rfl
 simp only [Tryz.ntmps14, List.size_toArray, List.length_cons, List.length_nil, Nat.reduceAdd, Nat.reduceSub, Array.replicate_succ, Array.replicate_zero, List.push_toArray, List.append_toArray, List.nil_append, List.cons_append]
 gi_wp2_with (first
  | (gi_at_call 30; refine (cK _ _).mono ?_; rintro e w' ⟨rfl, rfl⟩)
  | (gi_at_call 29; refine cS.mono ?_; rintro e w' ⟨v, ss, rfl, hS, hrow, hnil, hb⟩))
 go_ret
 have hlen : ss.length = n := by rw [hS.length_eq, HL.out, HS.out]
 refine ⟨v, ss.mergeSort (fun x y => decide (x ≤ y)), rfl, ?_, fun x hx => ?_, ?_, ((Below.refl _ w).alloc (Nat.le_refl _) _).trans (hb.mono (by simp))⟩
 ·rw [List.length_mergeSort, hlen]
 ·exact HK.out x (hS.mem_iff.1 (List.mem_mergeSort.1 hx))
 ·refine IntsAt.of_own (n := ss.length) (ownsRow_base_a hrow (Nat.zero_le _)) (by rw [List.length_mergeSort])
end Go.Proofs.YtfeficdndjiijaaGreatDoor


namespace Go.Proofs.YtfeficdndjiijaaGreatDoor
open Go.RowKit
set_option linter.unusedVariables false
set_option linter.unusedSimpArgs false

def putN (u : Nat) : List Int := if h : u < 128 then [(u : Int)] else ((128 + u % 128 : Nat) : Int) :: putN (u / 128)
termination_by u
decreasing_by omega
theorem putN_lt {u : Nat} (h : u < 128) : putN u = [(u : Int)] := by rw [putN, dif_pos h]
theorem putN_ge {u : Nat} (h : ¬ u < 128) : putN u = ((128 + u % 128 : Nat) : Int) :: putN (u / 128) := by rw [putN, dif_neg h]
def valL : List Int → Nat
  | [] => 0
  | x :: l => x.toNat % 128 + 128 * valL l
def VL : List Int → Prop
  | [] => False
  | x :: l => if l = [] then 0 ≤ x ∧ x < 128 else 128 ≤ x ∧ x ≤ 255 ∧ VL l ∧ l ≠ [0]
theorem putN_ne (u : Nat) : putN u ≠ [] := by
  by_cases h : u < 128
  · rw [putN_lt h]; simp
  · rw [putN_ge h]; simp
theorem putN_val (u : Nat) : valL (putN u) = u := by
  induction u using Nat.strongRecOn with
  | ind u ih =>
    by_cases h : u < 128
    · rw [putN_lt h]; simp [valL]; omega
    · rw [putN_ge h, valL, ih _ (by omega)]; omega
theorem putN_inj {u v : Nat} (h : putN u = putN v) : u = v := by rw [← putN_val u, h, putN_val]
theorem putN_zero {u : Nat} (h : putN u = [0]) : u = 0 := by rw [← putN_val u, h]; rfl
theorem putN_VL (u : Nat) : VL (putN u) := by
  induction u using Nat.strongRecOn with
  | ind u ih =>
    by_cases h : u < 128
    · rw [putN_lt h]; simp [VL]; omega
    · rw [putN_ge h, VL, if_neg (putN_ne _)]
      exact ⟨by omega, by omega, ih _ (by omega), fun e => by have := putN_zero e; omega⟩
theorem VL_put {l : List Int} (h : VL l) : putN (valL l) = l := by
  induction l with
  | nil => exact absurd h (by simp [VL])
  | cons x l ih =>
    unfold VL at h
    by_cases hl : l = []
    · rw [if_pos hl] at h
      subst hl
      rw [valL, valL, putN_lt (by omega)]
      have : ((x.toNat % 128 + 128 * 0 : Nat) : Int) = x := by omega
      rw [this]
    · rw [if_neg hl] at h
      obtain ⟨h1, h2, h3, h4⟩ := h
      have ih := ih h3
      have hv : valL l ≠ 0 := fun e => by
        rw [e, putN_lt (by decide)] at ih
        exact h4 ih.symm
      rw [valL, putN_ge (by omega)]
      have e1 : ((128 + (x.toNat % 128 + 128 * valL l) % 128 : Nat) : Int) = x := by omega
      have e2 : (x.toNat % 128 + 128 * valL l) / 128 = valL l := by omega
      rw [e1, e2, ih]
theorem VL_byts {l : List Int} (h : VL l) : Byts l := by
  induction l with
  | nil => exact Byts.nil
  | cons x l ih =>
    unfold VL at h
    intro u hu
    by_cases hl : l = []
    · rw [if_pos hl] at h
      subst hl
      simp at hu
      subst hu
      omega
    · rw [if_neg hl] at h
      rcases List.mem_cons.1 hu with rfl | hu
      · omega
      · exact ih h.2.2.1 u hu
theorem putN_byts (u : Nat) : Byts (putN u) := VL_byts (putN_VL u)
theorem VL_marks {l : List Int} (h : VL l) : ∀ k, (k + 1 < l.length → 128 ≤ cellD l k ∧ cellD l k ≤ 255) ∧ (k + 1 = l.length → 0 ≤ cellD l k ∧ cellD l k < 128) := by
  induction l with
  | nil => exact absurd h (by simp [VL])
  | cons x l ih =>
    unfold VL at h
    intro k
    by_cases hl : l = []
    · rw [if_pos hl] at h
      subst hl
      refine ⟨fun hk => by simp at hk, fun hk => ?_⟩
      have : k = 0 := by simpa using hk
      subst this
      simpa [cellD] using h
    · rw [if_neg hl] at h
      cases k with
      | zero => exact ⟨fun _ => by simpa [cellD] using ⟨h.1, h.2.1⟩, fun hk => by
          have : l.length = 0 := by simpa using hk.symm
          exact absurd (List.eq_nil_of_length_eq_zero this) hl⟩
      | succ k =>
        have := ih h.2.2.1 k
        refine ⟨fun hk => ?_, fun hk => ?_⟩
        · have := this.1 (by simpa using hk)
          simpa [cellD] using this
        · have := this.2 (by simpa using hk)
          simpa [cellD] using this
theorem VL_last {l : List Int} (h : VL l) (h1 : 1 < l.length) : cellD l (l.length - 1) ≠ 0 := by
  induction l with
  | nil => simp at h1
  | cons x l ih =>
    unfold VL at h
    have hl : l ≠ [] := fun e => by subst e; simp at h1
    rw [if_neg hl] at h
    obtain ⟨h2, h3, h4, h5⟩ := h
    obtain ⟨y, m, rfl⟩ : ∃ y m, l = y :: m := by
      cases l with
      | nil => exact absurd rfl hl
      | cons y m => exact ⟨y, m, rfl⟩
    cases m with
    | nil =>
      simp [cellD]
      intro e
      exact h5 (by rw [e])
    | cons z m =>
      have := ih h4 (by simp)
      simpa [cellD] using this
theorem VL_prefix {l m r s : List Int} (h1 : VL l) (h2 : VL m) (h : l ++ r = m ++ s) : l = m := by
  induction l generalizing m with
  | nil => exact absurd h1 (by simp [VL])
  | cons x l ih =>
    cases m with
    | nil => exact absurd h2 (by simp [VL])
    | cons y m =>
      simp only [List.cons_append, List.cons.injEq] at h
      obtain ⟨rfl, h⟩ := h
      unfold VL at h1 h2
      by_cases hl : l = []
      · rw [if_pos hl] at h1
        by_cases hm : m = []
        · rw [hl, hm]
        · rw [if_neg hm] at h2; omega
      · rw [if_neg hl] at h1
        by_cases hm : m = []
        · rw [if_pos hm] at h2; omega
        · rw [if_neg hm] at h2
          rw [ih h1.2.2.1 h2.2.2.1 h]
def TakeS (bs : List Int) (u n : Nat) : Prop := u < 18446744073709551616 ∧ n = (putN u).length ∧ ∃ r, bs = putN u ++ r
theorem TakeS.unique {bs : List Int} {u v n m : Nat} (h : TakeS bs u n) (k : TakeS bs v m) : u = v ∧ n = m := by
  obtain ⟨-, h2, r, h3⟩ := h
  obtain ⟨-, k2, s, k3⟩ := k
  have := VL_prefix (putN_VL u) (putN_VL v) (by rw [← h3, k3])
  have e := putN_inj this
  subst e
  exact ⟨rfl, by omega⟩
theorem putN_len {u : Nat} : ∀ {k : Nat}, u < 128 ^ (k + 1) → (putN u).length ≤ k + 1 := by
  induction u using Nat.strongRecOn with
  | ind u ih =>
    intro k hu
    by_cases h : u < 128
    · rw [putN_lt h]; simp
    · rw [putN_ge h]
      cases k with
      | zero => omega
      | succ k =>
        have := ih (u / 128) (by omega) (k := k) (by rw [Nat.pow_succ] at hu; exact Nat.div_lt_of_lt_mul (by rw [Nat.mul_comm]; exact hu))
        simp only [List.length_cons]
        omega
theorem putN_len10 {u : Nat} (h : u < 18446744073709551616) : (putN u).length ≤ 10 := putN_len (k := 9) (by omega)
theorem putN_pos (u : Nat) : 1 ≤ (putN u).length := by
  cases h : putN u with
  | nil => exact absurd h (putN_ne u)
  | cons x l => simp
end Go.Proofs.YtfeficdndjiijaaGreatDoor


namespace Go.Proofs.YtfeficdndjiijaaGreatDoor
open Go.RowKit
set_option linter.unusedVariables false
set_option linter.unusedSimpArgs false

theorem nw_ofInt (x : BitVec 32) : BitVec.ofInt 32 (nw x) = x := bw_nw x
theorem wrap_nw (x : BitVec 32) : IntKind.u32.wrap (nw x) = nw x := by rw [wrap_bw, bw_nw]
theorem xor_nw (x y : BitVec 32) : bits BinOp.xor IntKind.u32 (nw x) (nw y) = nw (x ^^^ y) := by
  show IntKind.u32.wrap ((BitVec.ofInt 32 (nw x) ^^^ BitVec.ofInt 32 (nw y)).toNat : Int) = _
  rw [nw_ofInt, nw_ofInt]
  exact wrap_nw (x ^^^ y)
theorem and_nw (x y : BitVec 32) : bits BinOp.and IntKind.u32 (nw x) (nw y) = nw (x &&& y) := by
  show IntKind.u32.wrap ((BitVec.ofInt 32 (nw x) &&& BitVec.ofInt 32 (nw y)).toNat : Int) = _
  rw [nw_ofInt, nw_ofInt]
  exact wrap_nw (x &&& y)
theorem shr_nw (x : BitVec 32) (k : Nat) : nw x / ((2 ^ k : Nat) : Int) = nw (x >>> k) := by
  unfold nw
  rw [BitVec.toNat_ushiftRight, Nat.shiftRight_eq_div_pow]
  exact (Int.natCast_ediv ..).symm
theorem lsb_nw (x : BitVec 32) : nw x % 2 = if x.getLsbD 0 then 1 else 0 := by
  unfold nw
  rw [show ((x.toNat : Int) % 2) = ((x.toNat % 2 : Nat) : Int) by omega]
  have : x.getLsbD 0 = decide (x.toNat % 2 = 1) := by simp [BitVec.getLsbD, Nat.testBit_zero]
  rw [this]
  by_cases h : x.toNat % 2 = 1
  · simp [h]
  · simp [h]; omega
theorem byte_nw (u : Int) (h : 0 ≤ u ∧ u ≤ 255) : u = nw (bw u) := (nw_bw u (by omega) (by omega)).symm
theorem step1_if (y : BitVec 32) (h : y.getLsbD 0 = true) : step1 y = y >>> 1 ^^^ PO := by unfold step1; rw [if_pos h]
theorem step1_else (y : BitVec 32) (h : y.getLsbD 0 = false) : step1 y = y >>> 1 := by unfold step1; rw [h]; simp
theorem po_nw : (3988292384 : Int) = nw PO := by decide +kernel
theorem ones_nw : (4294967295 : Int) = nw (~~~ 0#32) := by decide +kernel
theorem not_nw (x : BitVec 32) : bits BinOp.xor IntKind.u32 (nw x) 4294967295 = nw (~~~ x) := by
  rw [ones_nw, xor_nw]
  congr 1
  apply BitVec.eq_of_getLsbD_eq
  intro i hi
  have h : ∀ i, i < 32 → (~~~ 0#32).getLsbD i = true := by decide +kernel
  rw [BitVec.getLsbD_xor, h i hi, BitVec.getLsbD_not]
  simp [hi]
theorem crcL_take {bs : List Int} {r : BitVec 32} {j : Nat} (h : j < bs.length) : crcL r (bs.take (j + 1)) = stepN 8 (crcL r (bs.take j) ^^^ bw (cellD bs j)) := by
  have e : bs[j]? = some (cellD bs j) := by simp [cellD, h]
  rw [List.take_add_one, e, crcL_append]
  rfl
theorem BytesAt.cell {w : World} {ao : Option Addr} {n cap : Nat} {bs : List Int} (h : BytesAt w (.slice ao n cap) bs) {j : Nat} (hj : j < bs.length) : ∃ g off, ao = some ⟨g, off, none⟩ ∧ g < w.heap.size ∧ w.cell? ⟨g, off + j, none⟩ = some (.int .u8 (cellD bs j)) := by
  obtain ⟨ao2, cap2, e, h1, h2, h3⟩ := h
  simp only [Value.slice.injEq] at e
  obtain ⟨rfl, -, rfl⟩ := e
  rcases h3 with ⟨rfl, rfl⟩ | ⟨g, off, rfl, hg, hcc⟩
  · simp at hj
  · exact ⟨g, off, rfl, hg, hcc j _ (by simp [cellD, hj])⟩
set_option maxRecDepth 100000 in
set_option maxHeartbeats 4000000 in
theorem rext_any (s : Int) (v : Value) (bs : List Int) (w : World) (hv : BytesAt w v bs) (hb : Byts bs) (h0 : 0 ≤ s) (h1 : s ≤ 4294967295) (hlen : bs.length ≤ 100000) :
  Calls Tryz.prog 28 #[.int .u32 s, v] w fun e w' => e = .returned (.int .u32 (sumI s bs)) ∧ w = w' := by
 have HV := Lib.hid hv
 obtain ⟨ao, cap, rfl, hcap, hmx, hc⟩ := hv
 have HC := Lib.hid hc
 obtain ⟨n, hn⟩ : ∃ n, n = bs.length := ⟨_, rfl⟩
 have HN := Lib.hid hn
 rw [← hn] at hcap hlen ⊢
 clear hc hn
 have HB := Lib.hid hb
 have e0 : bits BinOp.xor IntKind.u32 s 4294967295 = nw (~~~ (bw s)) := by
  conv => lhs; rw [← nw_bw s h0 h1]
  exact not_nw _
 go_enter Tryz.func28, Tryz.ntmps28
 go_wp2_with fail
 go_loop [5, 6] (fun r i => ∃ j : Nat, j ≤ n ∧ i = .int .i64 (j : Int) ∧ r = .int .u32 (nw (crcL (~~~ (bw s)) (bs.take j)))) (fun _ i => n - (intOf i).toNat)
 case atStart => exact ⟨0, by omega, rfl, by first | rfl | rw [e0]; rfl⟩
 case round =>
  obtain ⟨j, hj, rfl, rfl⟩ := hrel
  by_cases hlt : j < n
  ·have hjl : j < bs.length := by have := HN.out; omega
   have HNX := Lib.hid (crcL_take (r := ~~~ (bw s)) hjl)
   obtain ⟨g, off, rfl, hg, cx⟩ := HV.out.cell hjl
   have hb8 := hb.cellD j
   generalize crcL (~~~ (bw s)) (bs.take j) = x at *
   have i0 : (0 : Int) ≤ (j : Int) := by omega
   have i1 : (j : Int) < (n : Int) := by omega
   generalize cellD bs j = u at *
   have hx : bits BinOp.xor IntKind.u32 (nw x) u = nw (x ^^^ bw u) := by
    conv => lhs; rw [byte_nw u hb8]
    exact xor_nw _ _
   clear hjl hb HB e0
   go_wp2_with fail
   go_loop [5, 7] (fun r i => ∃ k : Nat, k ≤ 8 ∧ i = .int .i64 (k : Int) ∧ r = .int .u32 (nw (stepN k (x ^^^ bw u)))) (fun _ i => 8 - (intOf i).toNat)
   case atStart => exact ⟨0, by omega, rfl, by first | rfl | rw [hx]; rfl⟩
   case round =>
    obtain ⟨k, hk, rfl, rfl⟩ := hrel
    by_cases hlk : k < 8
    ·have hst : stepN (k + 1) (x ^^^ bw u) = step1 (stepN k (x ^^^ bw u)) := rfl
     have HST := Lib.hid hst
     clear hst hx
     generalize stepN k (x ^^^ bw u) = y at *
     have hyb := nw_bd y
     have f1 : (nw y).tdiv 2 % (4294967296 : Int) = nw (y >>> 1) := by
      rw [Int.tdiv_eq_ediv_of_nonneg hyb.1, ← shr_nw y 1]; omega
     have f2 : bits BinOp.xor IntKind.u32 (nw (y >>> 1)) 3988292384 = nw (y >>> 1 ^^^ PO) := by
      conv => lhs; rw [po_nw]
      exact xor_nw _ _
     by_cases hl : y.getLsbD 0 = true
     ·have f3 : ((nw y).tmod 2 == 1) = true := by rw [Int.tmod_eq_emod_of_nonneg hyb.1, lsb_nw, hl]; rfl
      have HS := Lib.hid (step1_if y hl)
      clear hl hyb
      go_wp2
      go_round
      case rel => exact ⟨k + 1, by omega, by go_num, by rw [HST.out, HS.out]⟩
      case measure => simp [intOf]; omega
     ·have hl : y.getLsbD 0 = false := by simpa using hl
      have f3 : ((nw y).tmod 2 == 1) = false := by rw [Int.tmod_eq_emod_of_nonneg hyb.1, lsb_nw, hl]; rfl
      have HS := Lib.hid (step1_else y hl)
      clear hl hyb
      go_wp2
      go_round
      case rel => exact ⟨k + 1, by omega, by go_num, by rw [HST.out, HS.out, f1]⟩
      case measure => simp [intOf]; omega
    ·obtain rfl : k = 8 := by omega
     go_wp2
     go_round
     case rel => exact ⟨j + 1, by omega, by go_num, by rw [HNX.out]⟩
     case measure => simp [intOf]; omega
  ·obtain rfl : j = n := by omega
   have ht : bs.take j = bs := List.take_of_length_le (by have := HN.out; omega)
   rw [ht]
   have hnn := not_nw (crcL (~~~ (bw s)) bs)
   have HS : Hid (sumI s bs = nw (~~~ (crcL (~~~ (bw s)) bs))) := Lib.hid rfl
   generalize crcL (~~~ (bw s)) bs = x at *
   clear ht e0
   go_wp2
   go_ret
   exact ⟨congrArg (fun z => Ending.returned (.int .u32 z)) HS.out.symm, rfl⟩
theorem and1_nw (y : BitVec 32) : bits BinOp.and IntKind.u32 (nw y) 1 = if y.getLsbD 0 then 1 else 0 := by
  have h1 : (1 : Int) = nw 1#32 := by decide +kernel
  conv => lhs; rw [h1]
  rw [and_nw]
  have h2 : y &&& 1#32 = if y.getLsbD 0 then 1#32 else 0#32 := by
    apply BitVec.eq_of_getLsbD_eq
    intro i hi
    rw [BitVec.getLsbD_and]
    by_cases hi0 : i = 0
    · subst hi0
      cases h : y.getLsbD 0 <;> simp
    · have : (1#32).getLsbD i = false := by simp [hi0]
      rw [this, Bool.and_false]
      split <;> simp [hi0]
  rw [h2]
  split <;> decide +kernel
theorem step_mul (y : BitVec 32) : bits BinOp.xor IntKind.u32 (nw y / 2) (3988292384 * bits BinOp.and IntKind.u32 (nw y) 1 % 4294967296) = nw (step1 y) := by
  have h2 : nw y / (2 : Int) = nw (y >>> 1) := by have := shr_nw y 1; simpa using this
  rw [and1_nw, h2]
  unfold step1
  split
  · rw [show (3988292384 : Int) * 1 % 4294967296 = nw PO by decide +kernel, xor_nw]
  · rw [show (3988292384 : Int) * 0 % 4294967296 = nw 0#32 by decide +kernel, xor_nw]
def tabI (k : Nat) : Int := nw (stepN 8 (BitVec.ofNat 32 k))
def tabA : Array Value := ((List.range 256).map fun k => Value.int .u32 (tabI k)).toArray
theorem tabA_size : tabA.size = 256 := by simp [tabA]
theorem tabA_get (i : Nat) (h : i < 256) : tabA[i]? = some (.int .u32 (tabI i)) := by simp [tabA, h]
theorem tabA_one : tabA.all (·.oneCell') = true := by
  rw [Array.all_eq_true_iff_forall_mem]
  intro v hv
  simp [tabA] at hv
  obtain ⟨a, _, rfl⟩ := hv
  rfl
theorem tab_info : (Tryz.prog.info? 226).map (·.size) = some tabA.size := by rw [tabA_size]; kernel_rfl
theorem zero_row (w : World) : (w.alloc (.cells Tryz.zeroCells226 226)).rowIs w.heap.size 226 256 (fun _ => .int .u32 0) := by
  have h : Tryz.zeroCells226 = Array.replicate 256 (.int .u32 0) := by kernel_rfl
  refine ⟨_, Blk.new w _ _, Tryz.zeroCells226_size, fun i hi => ?_⟩
  rw [h]
  simp [hi]
set_option maxRecDepth 100000 in
set_option maxHeartbeats 4000000 in
theorem csteps_any (w : World) :
  Calls Tryz.prog 111 #[] w fun e w' => e = .returned (.agg tabA) ∧ Below w.heap.size w w' := by
 have hz := zero_row w
 have hb : Below w.heap.size w (w.alloc (.cells Tryz.zeroCells226 226)) := (Below.refl _ _).alloc (Nat.le_refl _) _
 go_enter Tryz.func111, Tryz.ntmps111
 go_wp2_with fail
 generalize (w.alloc (.cells Tryz.zeroCells226 226)) = wz at *
 generalize hA : w.heap.size = A at *
 have HA := Lib.hid hA
 have HZ := Lib.hid hz
 have HB := Lib.hid hb
 clear hA hz hb
 go_loopw [3] (fun i wr => ∃ j : Nat, j ≤ 256 ∧ i = .int .i64 (j : Int) ∧ wr.rowIs A 226 256 (fun k => .int .u32 (if k < j then tabI k else 0)) ∧ Below A w wr) (fun i _ => 256 - (intOf i).toNat)
 case atStart => exact ⟨0, by omega, rfl, HZ.out.congr (fun k _ => by simp), HB.out⟩
 case round =>
  obtain ⟨j, hj, rfl, hrow, hbel⟩ := hrel
  clear HZ HB
  have HR := Lib.hid hrow
  have HB := Lib.hid hbel
  clear hrow hbel
  by_cases hlt : j < 256
  ·have e1 : IntKind.u32.wrap (j : Int) = nw (BitVec.ofNat 32 j) := by rw [wrap_bw]; rfl
   have i0 : (0 : Int) ≤ (j : Int) := by omega
   have i1 : (j : Int) < 256 := by omega
   have ht : nw (stepN 8 (BitVec.ofNat 32 j)) = tabI j := rfl
   have HT := Lib.hid ht
   clear ht
   generalize BitVec.ofNat 32 j = x at *
   go_wp2_with fail
   go_loop [2, 8] (fun r i => ∃ k : Nat, k ≤ 8 ∧ i = .int .i64 (k : Int) ∧ r = .int .u32 (nw (stepN k x))) (fun _ i => 8 - (intOf i).toNat)
   case atStart => exact ⟨0, by omega, rfl, by first | rfl | (rw [e1]; rfl)⟩
   case round =>
    obtain ⟨k, hk, rfl, rfl⟩ := hrel
    by_cases hlk : k < 8
    ·have HS : Hid (stepN (k + 1) x = step1 (stepN k x)) := Lib.hid rfl
     have g1 := step_mul (stepN k x)
     generalize stepN k x = y at *
     go_wp2
     go_round
     case rel => exact ⟨k + 1, by omega, by go_num, by first | rw [HS.out] | rw [HS.out, g1]⟩
     case measure => simp [intOf]; omega
    ·obtain rfl : k = 8 := by omega
     have hfz := HR.out.frozen j
     have hcz := HR.out.cell hlt
     have HSET := Lib.hid (HR.out.set j (.int .u32 (nw (stepN 8 x))))
     generalize nw (stepN 8 x) = z at *
     clear e1
     go_wp2
     go_roundw
     case rel => exact ⟨j + 1, by omega, by go_num, HSET.out.congr (fun k hk => by
      by_cases e : k = j
      ·subst e; simp [HT.out]
      ·rw [if_neg e]; by_cases h : k < j
       ·rw [if_pos h, if_pos (by omega)]
       ·rw [if_neg h, if_neg (by omega)]), HB.out.setCell (Nat.le_refl _) _⟩
     case measure => simp [intOf]; omega
  ·obtain rfl : j = 256 := by omega
   have hblk : Blk wr A 226 tabA := Blk.of_row (by rw [tabA_size]; exact HR.out) (fun i hi => by rw [tabA_size] at hi; rw [tabA_get i hi, if_pos hi])
   have HBK := Lib.hid hblk
   have HIn := tab_info
   go_wp2_with (first | refine wpList_load_row rfl 226 _ rfl A rfl 226 tabA (0, 0) _ HBK.out Tryz.underlying226 rfl HIn ?_ | refine wpList_store_row rfl 226 _ _ rfl A tabA rfl rfl 226 _ HBK.out HIn (by rfl) tabA_one ?_)
   have HZ9 : (wr.setRow A tabA).heap[A]? = some (.cells tabA 226 (0, 0)) := setRow_heap wr A _ _ _ _ HBK.out
   have HB9 : Below A w (wr.setRow A tabA) := HB.out.trans ⟨rfl, rfl, rfl, by simp, fun k hk => setRow_other wr A k tabA (by omega)⟩
   generalize wr.setRow A tabA = w9 at *
   exact bodyPost_ret (results_cell_row rfl _ _ A 226 tabA (0, 0) _ rfl HZ9 Tryz.underlying226 rfl HIn) rfl ⟨rfl, by rw [HA.out]; exact HB9⟩
end Go.Proofs.YtfeficdndjiijaaGreatDoor


namespace Go.Proofs.YtfeficdndjiijaaGreatDoor
open Go.RowKit
set_option linter.unusedVariables false
set_option linter.unusedSimpArgs false

theorem not_form (x : BitVec 32) : bits BinOp.xor IntKind.u32 (if IntKind.u32.signed = true then -1 else IntKind.u32.max) (nw x) = nw (~~~ x) := by
  have h : (if IntKind.u32.signed = true then -1 else IntKind.u32.max) = (4294967295 : Int) := by decide +kernel
  rw [h, ← not_nw]
  show IntKind.u32.wrap ((BitVec.ofInt 32 4294967295 ^^^ BitVec.ofInt 32 (nw x)).toNat : Int) = IntKind.u32.wrap ((BitVec.ofInt 32 (nw x) ^^^ BitVec.ofInt 32 4294967295).toNat : Int)
  rw [BitVec.xor_comm]
def qI (r : BitVec 32) (x : Int) : Nat := ((r ^^^ bw x) &&& 255#32).toNat
theorem qI_lt (r : BitVec 32) (x : Int) : qI r x < 256 := by
  unfold qI
  rw [BitVec.toNat_and]
  exact Nat.lt_of_le_of_lt Nat.and_le_right (by decide)
theorem qI_val (r : BitVec 32) (x : Int) (hx : 0 ≤ x ∧ x ≤ 255) : bits BinOp.xor IntKind.u8 (IntKind.u8.wrap (nw r)) x = (qI r x : Int) := by
 obtain ⟨n, rfl⟩ := Int.eq_ofNat_of_zero_le hx.1
 have hn : n ≤ 255 := by omega
 have ha : IntKind.u8.wrap (nw r) = ((r.toNat % 256 : Nat) : Int) := by
  unfold nw
  simp [IntKind.wrap, IntKind.bits, IntKind.signed]
 have hr : r.toNat % 256 < 256 := Nat.mod_lt _ (by decide)
 have e1 : BitVec.ofInt 8 ((r.toNat % 256 : Nat) : Int) = BitVec.ofNat 8 (r.toNat % 256) := BitVec.ofInt_natCast ..
 have e2 : BitVec.ofInt 8 (n : Int) = BitVec.ofNat 8 n := BitVec.ofInt_natCast ..
 rw [ha]
 show IntKind.u8.wrap ((BitVec.ofInt 8 ((r.toNat % 256 : Nat) : Int) ^^^ BitVec.ofInt 8 (n : Int)).toNat : Int) = _
 rw [e1, e2, BitVec.toNat_xor, BitVec.toNat_ofNat, BitVec.toNat_ofNat]
 have h8 : (2 : Nat) ^ 8 = 256 := rfl
 rw [h8, Nat.mod_mod, Nat.mod_eq_of_lt (show n < 256 by omega)]
 have hq : qI r (n : Int) = (r.toNat % 256) ^^^ n := by
  unfold qI
  rw [BitVec.toNat_and, BitVec.toNat_xor]
  have : (bw (n : Int)).toNat = n := by
   unfold bw
   rw [BitVec.toNat_ofInt]
   omega
  rw [this, show (255#32).toNat = 2 ^ 8 - 1 from rfl, Nat.and_two_pow_sub_one_eq_mod, Nat.xor_mod_two_pow, h8, Nat.mod_eq_of_lt (show n < 256 by omega)]
 rw [hq]
 have hlt : (r.toNat % 256) ^^^ n < 256 := by rw [← h8]; exact Nat.xor_lt_two_pow (by omega) (by omega)
 simp [IntKind.wrap, IntKind.bits, IntKind.signed]
 omega
theorem crcB_q (r : BitVec 32) (x : Int) (hx : 0 ≤ x ∧ x ≤ 255) : bits BinOp.xor IntKind.u32 (nw (r >>> 8)) (tabI (qI r x)) = nw (crcB r (bw x)) := by
  have h := crcB_table r (bw x) (by have := nw_bw x hx.1 (by omega); unfold nw at this; omega)
  unfold tabI
  rw [xor_nw, h]
  congr 3
  unfold qI
  rw [BitVec.ofNat_toNat, BitVec.setWidth_eq]
set_option maxRecDepth 100000 in
set_option maxHeartbeats 4000000 in
theorem estep_any (w : World) (x : Int) (r : BitVec 32) (RB TB : Nat) (hx : 0 ≤ x ∧ x ≤ 255) (hR : Blk w RB 73 #[.int .u32 (nw r)]) (hT : Blk w TB 226 tabA) :
  Calls Tryz.prog 112 #[.int .u8 x, .pointer (some ⟨RB, 0, none⟩), .pointer (some ⟨TB, 0, none⟩)] w fun e w' => (∃ v, e = .returned v) ∧ w' = (w.drewN 1).setCell ⟨RB, 0, none⟩ (.int .u32 (nw (crcB r (bw x)))) := by
 have e1 := qI_val r x hx
 have e2 := crcB_q r x hx
 have hq := qI_lt r x
 have e3 : (0 : Int) ≤ (qI r x : Int) := by omega
 have e4 : (qI r x : Int) < 256 := by omega
 have e5 : nw r / (256 : Int) = nw (r >>> 8) := by have := shr_nw r 8; simpa using this
 have HR := Lib.hid hR
 have HT := Lib.hid hT
 have ct := (hT.cell (qI r x)).trans (tabA_get _ hq)
 have c0 := hR.cell 0
 have f0 := hR.frozen 0
 simp at c0
 clear hR hT hq
 generalize qI r x = q at *
 generalize crcB r (bw x) = z at *
 generalize tabI q = tq at *
 go_enter Tryz.func112, Tryz.ntmps112
 go_wp2_with fail
 refine wp_region_still_tail 9 (by kernel_rfl) (by kernel_rfl) ?_
 simp only [List.take_succ_cons, List.take_zero, List.drop_succ_cons, List.drop_zero]
 have HWD : Hid (({ heap := w.heap, tape := w.tape, drawn := w.drawn + 1, os := w.os, output := w.output } : World) = w.drewN 1) := Lib.hid rfl
 change World.cell? { heap := w.heap, tape := w.tape, drawn := w.drawn + 1, os := w.os, output := w.output } _ = _ at c0 ct
 change World.frozen? { heap := w.heap, tape := w.tape, drawn := w.drawn + 1, os := w.os, output := w.output } _ = _ at f0
 generalize ({ heap := w.heap, tape := w.tape, drawn := w.drawn + 1, os := w.os, output := w.output } : World) = wd at *
 repeat still_step
 refine wpStill_nil ?_
 go_wp2
 (try simp only [Exit.inBlock, Exit.then])
 refine bodyPost_end (results_none rfl _ _ _) rfl ?_
 exact ⟨⟨_, rfl⟩, by rw [HWD.out]⟩
set_option maxRecDepth 100000 in
set_option maxHeartbeats 4000000 in
theorem extend_any (s : Int) (v : Value) (bs : List Int) (w : World) (hv : BytesAt w v bs) (hb : Byts bs) (h0 : 0 ≤ s) (h1 : s ≤ 4294967295) (hlen : bs.length ≤ 100000) :
  Calls Tryz.prog 64 #[.int .u32 s, v] w fun e w' => e = .returned (.int .u32 (sumI s bs)) ∧ Below w.heap.size w w' := by
 have PS := Lib.hid csteps_any
 have HV := Lib.hid hv
 obtain ⟨ao, cap, rfl, hcap, hmx, hc⟩ := hv
 obtain ⟨n, hn⟩ : ∃ n, n = bs.length := ⟨_, rfl⟩
 have HN := Lib.hid hn
 rw [← hn] at hcap hlen ⊢
 clear hc hn
 have HB := Lib.hid hb
 have hmf : ∀ (fn : Fn) (first cap : Array Value) (w : World), (Instr.makeFunc fn first cap).run Tryz.prog w = .ok (.func fn first cap) w := fun _ _ _ _ => rfl
 go_enter Tryz.func64, Tryz.ntmps64
 go_wp2_with fail
 with_reducible refine (PS.out _).mono ?_
 rintro e w2 ⟨rfl, hb⟩
 have HB2 := Lib.hid hb
 have HIn := tab_info
 have HZS : Hid (tabA.size = Tryz.zeroCells226.size) := Lib.hid (tabA_size.trans Tryz.zeroCells226_size.symm)
 have HZB := Lib.hid (Blk.new w2 226 Tryz.zeroCells226)
 go_upto_region 2 with (refine wpList_store_row rfl 226 _ _ rfl w2.heap.size tabA rfl rfl 226 Tryz.zeroCells226 HZB.out HIn HZS.out tabA_one ?_)
 have HT3 : Hid (Blk ((w2.alloc (.cells Tryz.zeroCells226 226)).setRow w2.heap.size tabA) w2.heap.size 226 tabA) := Lib.hid (setRow_heap _ _ _ _ _ _ HZB.out)
 have HB3 : Hid (Below w.heap.size w ((w2.alloc (.cells Tryz.zeroCells226 226)).setRow w2.heap.size tabA)) := Lib.hid ((HB2.out.alloc HB2.out.size _).trans ⟨rfl, rfl, rfl, by simp, fun k hk => setRow_other _ w2.heap.size k tabA (by have := HB2.out.size; omega)⟩)
 have HS3 : Hid (((w2.alloc (.cells Tryz.zeroCells226 226)).setRow w2.heap.size tabA).heap.size = w2.heap.size + 1) := Lib.hid (by simp)
 generalize ((w2.alloc (.cells Tryz.zeroCells226 226)).setRow w2.heap.size tabA) = w3 at *
 have HTL : Hid (w.heap.size ≤ w2.heap.size) := Lib.hid HB2.out.size
 generalize w2.heap.size = TB at *
 clear hb HIn HZS HZB HB2
 have e0 : bits BinOp.xor IntKind.u32 (if IntKind.u32.signed = true then -1 else IntKind.u32.max) s = nw (~~~ (bw s)) := by
  conv => lhs; rw [← nw_bw s h0 h1]
  exact not_form _
 generalize hx0 : ~~~ (bw s) = x0 at *
 have HX0 := Lib.hid hx0
 clear hx0
 go_upto_region 4 with fail
 have hRB : Blk (w3.alloc (.cells #[.int .u32 (nw x0)] 73)) w3.heap.size 73 #[.int .u32 (nw x0)] := Blk.new _ _ _
 have HRB := Lib.hid hRB
 have HT4 := Lib.hid (HT3.out.alloc (.cells #[.int .u32 (nw x0)] 73))
 have HB4 := Lib.hid (HB3.out.alloc HB3.out.size (.cells #[.int .u32 (nw x0)] 73))
 have HNE : Hid (w3.heap.size ≠ TB ∧ w.heap.size ≤ w3.heap.size) := Lib.hid ⟨by have := HT3.out.lt; omega, HB3.out.size⟩
 clear hRB e0 HS3
 generalize (w3.alloc (.cells #[.int .u32 (nw x0)] 73)) = w4 at *
 generalize w3.heap.size = RB at *
 go_wp2_with fail
 go_loopw [16] (fun i wr => ∃ j : Nat, j ≤ n ∧ i = .int .i64 (j : Int) ∧ Blk wr RB 73 #[.int .u32 (nw (crcL x0 (bs.take j)))] ∧ Blk wr TB 226 tabA ∧ Below w.heap.size w wr) (fun i _ => n - (intOf i).toNat)
 case atStart => exact ⟨0, by omega, rfl, HRB.out, HT4.out, HB4.out⟩
 case round =>
  obtain ⟨j, hj, rfl, hr, ht, hbel⟩ := hrel
  clear HRB HT4 HB4 HB3 HT3
  have HR := Lib.hid hr
  have HT := Lib.hid ht
  have HBL := Lib.hid hbel
  clear hr ht
  by_cases hlt : j < n
  ·have hjl : j < bs.length := by have := HN.out; omega
   have HNX := Lib.hid (crcL_take (r := x0) hjl)
   obtain ⟨g, off, rfl, hg, cx0⟩ := HV.out.cell hjl
   have cx := (hbel.cell (p := ⟨g, off + j, none⟩) hg).trans cx0
   have hb8 := HB.out.cellD j
   have i0 : (0 : Int) ≤ (j : Int) := by omega
   have i1 : (j : Int) < (n : Int) := by omega
   have PE := estep_any wr (cellD bs j) (crcL x0 (bs.take j)) RB TB hb8 HR.out HT.out
   have PE := Lib.hid PE
   generalize cellD bs j = u at *
   clear hjl cx0 hb8
   go_wp2_with fail
   with_reducible refine PE.out.mono ?_
   rintro e w5 ⟨⟨v5, rfl⟩, hw5⟩
   have hcr : crcB (crcL x0 (bs.take j)) (bw u) = crcL x0 (bs.take (j + 1)) := HNX.out.symm
   rw [hcr] at hw5
   have HR5 : Hid (Blk w5 RB 73 #[.int .u32 (nw (crcL x0 (bs.take (j + 1))))]) := Lib.hid (by rw [hw5]; simpa using (HR.out.drewN 1).set_ 0 (.int .u32 (nw (crcL x0 (bs.take (j + 1))))))
   have HT5 : Hid (Blk w5 TB 226 tabA) := Lib.hid (by rw [hw5]; exact (HT.out.drewN 1).far (by have := HNE.out.1; simp; omega) _)
   have HB5 : Hid (Below w.heap.size w w5) := Lib.hid (by rw [hw5]; exact (below_drewN HBL.out 1).setCell HNE.out.2 _)
   clear hw5 hcr PE
   go_wp2
   go_roundw
   case rel => exact ⟨j + 1, by omega, by go_num, HR5.out, HT5.out, HB5.out⟩
   case measure => simp [intOf]; omega
  ·obtain rfl : j = n := by omega
   have ht : bs.take j = bs := List.take_of_length_le (by have := HN.out; omega)
   have HT2 := Lib.hid ht
   have c0 := HR.out.cell 0
   simp at c0
   rw [ht] at c0
   have HS : Hid (sumI s bs = nw (~~~ (crcL x0 bs))) := Lib.hid (by rw [← HX0.out]; rfl)
   have hnt := not_form (crcL x0 bs)
   generalize crcL x0 bs = x at *
   clear ht
   go_wp2
   go_ret
   exact ⟨congrArg (fun z => Ending.returned (.int .u32 z)) HS.out.symm, HBL.out⟩
theorem sum_any (v : Value) (bs : List Int) (w : World) (hv : BytesAt w v bs) (hb : Byts bs) (hlen : bs.length ≤ 100000) :
    Calls Tryz.prog 32 #[v] w fun e w' => e = .returned (.int .u32 (sumI 0 bs)) ∧ Below w.heap.size w w' := by
  have P := Lib.hid (extend_any 0 v bs w hv hb (by decide) (by decide) hlen)
  obtain ⟨ao, cap, rfl, hcap, hmx, hc⟩ := hv
  clear hc hlen
  generalize bs.length = n at *
  go_enter Tryz.func32, Tryz.ntmps32
  go_wp2_with fail
  with_reducible refine P.out.mono ?_
  rintro e w2 ⟨rfl, hb⟩
  have HB := Lib.hid hb
  clear hb
  go_wp2
  go_ret
  exact ⟨rfl, HB.out⟩
end Go.Proofs.YtfeficdndjiijaaGreatDoor

